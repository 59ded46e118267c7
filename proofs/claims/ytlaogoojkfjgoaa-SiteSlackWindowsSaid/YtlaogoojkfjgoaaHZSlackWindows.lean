/-
  The law 'SiteSlackWindows' returns true for every input, and leaves its input as it was. Conditions: none.
-/
import Derived.Test.YtlaogoojkfjgoaaHFSlackWindows
import Derived.Test.YtlaogoojkfjgoaaHPLoop
import Derived.Test.YtlaogoojkfjgoaaHPAng
import Derived.Test.YtlaogoojkfjgoaaHPCirc
import Derived.Test.YtlaogoojkfjgoaaHPRay
import Derived.Test.YtlaogoojkfjgoaaHPCos
import Derived.Test.YtlaogoojkfjgoaaHPTide
import Derived.Test.YtlaogoojkfjgoaaHE17
import Derived.Test.YtlaogoojkfjgoaaHPLevels
import Derived.Test.YtlaogoojkfjgoaaHPWin
import Derived.Test.YtlaogoojkfjgoaaHPSlackW
namespace Go.Proofs.Ytlaogoojkfjgoaa
open Go
theorem siteSlackWindows_said : Rows.SiteSlackWindowsSaid := overSiteSlackWindows fun a n d l x y s _ hn _ _ _ _ => lawSlackWindows a n d l x y s (Nat.le_trans hn (by decide))
end Go.Proofs.Ytlaogoojkfjgoaa
