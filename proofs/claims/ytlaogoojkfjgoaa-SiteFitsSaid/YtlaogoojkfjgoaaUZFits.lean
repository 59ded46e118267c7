/-
  The law 'SiteFits' returns true for every input, and leaves its input as it was. Conditions: none.
-/
import Derived.Test.YtlaogoojkfjgoaaUFFits
import Derived.Test.YtlaogoojkfjgoaaUPLoop
import Derived.Test.YtlaogoojkfjgoaaUPAng
import Derived.Test.YtlaogoojkfjgoaaUPCheckW
import Derived.Test.YtlaogoojkfjgoaaUPFlat
import Derived.Test.YtlaogoojkfjgoaaUE17
import Derived.Test.YtlaogoojkfjgoaaUPFits
namespace Go.Proofs.Ytlaogoojkfjgoaa
open Go
theorem siteFits_said : Rows.SiteFitsSaid := overSiteFits fun n d b a hn _ _ _ => lawFits n d b a (Nat.le_trans hn (by decide))
end Go.Proofs.Ytlaogoojkfjgoaa
