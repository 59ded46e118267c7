/-
  The law 'SiteLevels' returns true for every input, and leaves its input as it was. Conditions: none.
-/
import Derived.Test.YtlaogoojkfjgoaaBFLevels
import Derived.Test.YtlaogoojkfjgoaaBPLoop
import Derived.Test.YtlaogoojkfjgoaaBPAng
import Derived.Test.YtlaogoojkfjgoaaBPCirc
import Derived.Test.YtlaogoojkfjgoaaBPRay
import Derived.Test.YtlaogoojkfjgoaaBPCos
import Derived.Test.YtlaogoojkfjgoaaBPTide
import Derived.Test.YtlaogoojkfjgoaaBE17
import Derived.Test.YtlaogoojkfjgoaaBPLevels
namespace Go.Proofs.Ytlaogoojkfjgoaa
open Go
theorem siteLevels_said : Rows.SiteLevelsSaid := overSiteLevels fun a n d t _ hn _ _ => lawLevels a n d t (Nat.le_trans hn (by decide))
end Go.Proofs.Ytlaogoojkfjgoaa
