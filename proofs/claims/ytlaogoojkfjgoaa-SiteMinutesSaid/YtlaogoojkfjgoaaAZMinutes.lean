/-
  The law 'SiteMinutes' returns true for every input, and leaves its input as it was. Conditions: none.
-/
import Derived.Test.YtlaogoojkfjgoaaAPMinutes
namespace Go.Proofs.Ytlaogoojkfjgoaa
open Go
theorem siteMinutes_said : Rows.SiteMinutesSaid := overSiteMinutes fun n d m e x hn _ hm _ _ => lawMinutes n d m e x (Nat.le_trans hn (by decide)) (Nat.le_trans hm (by decide))
end Go.Proofs.Ytlaogoojkfjgoaa
