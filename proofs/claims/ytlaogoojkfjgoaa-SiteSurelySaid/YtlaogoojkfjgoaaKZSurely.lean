/-
  The law 'SiteSurely' returns true for every input, and leaves its input as it was. Conditions: none.
-/
import Derived.Test.YtlaogoojkfjgoaaKFSurely
import Derived.Test.YtlaogoojkfjgoaaKPLoop
import Derived.Test.YtlaogoojkfjgoaaKPAng
import Derived.Test.YtlaogoojkfjgoaaKPCirc
import Derived.Test.YtlaogoojkfjgoaaKPRay
import Derived.Test.YtlaogoojkfjgoaaKPCos
import Derived.Test.YtlaogoojkfjgoaaKPTide
import Derived.Test.YtlaogoojkfjgoaaKE17
import Derived.Test.YtlaogoojkfjgoaaKPLevels
import Derived.Test.YtlaogoojkfjgoaaKPWin
import Derived.Test.YtlaogoojkfjgoaaKPSlackW
import Derived.Test.YtlaogoojkfjgoaaKPSurely
namespace Go.Proofs.Ytlaogoojkfjgoaa
open Go
theorem siteSurely_said : Rows.SiteSurelySaid := overSiteSurely fun a n d l x y s m _ hn _ _ _ _ _ => lawSurely a n d l x y s m (Nat.le_trans hn (by decide))
end Go.Proofs.Ytlaogoojkfjgoaa
