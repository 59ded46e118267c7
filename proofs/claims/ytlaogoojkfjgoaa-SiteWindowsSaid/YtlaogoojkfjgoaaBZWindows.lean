/-
  The law 'SiteWindows' returns true for every input, and leaves its input as it was. Conditions: none.
-/
import Derived.Test.YtlaogoojkfjgoaaBPMinutes
namespace Go.Proofs.Ytlaogoojkfjgoaa
open Go
theorem siteWindows_said : Rows.SiteWindowsSaid := overSiteWindows fun n d m e hn _ hm _ => lawWindows n d m e (Nat.le_trans hn (by decide)) (Nat.le_trans hm (by decide))
end Go.Proofs.Ytlaogoojkfjgoaa
