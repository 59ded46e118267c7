/-
  The law 'SitePeriods' returns true for every input, and leaves its input as it was. Conditions: none.
-/
import Derived.Test.YtlaogoojkfjgoaaEFPeriods
import Derived.Test.YtlaogoojkfjgoaaEPLoop
import Derived.Test.YtlaogoojkfjgoaaEPAng
import Derived.Test.YtlaogoojkfjgoaaEPCirc
import Derived.Test.YtlaogoojkfjgoaaEPRay
import Derived.Test.YtlaogoojkfjgoaaEPCos
import Derived.Test.YtlaogoojkfjgoaaEPTide
import Derived.Test.YtlaogoojkfjgoaaEE17
import Derived.Test.YtlaogoojkfjgoaaEPLevels
namespace Go.Proofs.Ytlaogoojkfjgoaa
open Go
theorem sitePeriods_said : Rows.SitePeriodsSaid := overSitePeriods fun a h p f t _ _ wp _ _ => lawPeriods a h p f t (wf64 wp).1 (wf64 wp).2
end Go.Proofs.Ytlaogoojkfjgoaa
