/-
  The law 'SiteCosines' returns true for every input, and leaves its input as it was. Conditions: none.
-/
import Derived.Test.YtlaogoojkfjgoaaCFCosines
import Derived.Test.YtlaogoojkfjgoaaCPLoop
import Derived.Test.YtlaogoojkfjgoaaCPAng
import Derived.Test.YtlaogoojkfjgoaaCPCirc
import Derived.Test.YtlaogoojkfjgoaaCPRay
import Derived.Test.YtlaogoojkfjgoaaCPCos
import Derived.Test.YtlaogoojkfjgoaaCE17
import Derived.Test.YtlaogoojkfjgoaaCPCosines
namespace Go.Proofs.Ytlaogoojkfjgoaa
open Go
theorem siteCosines_said : Rows.SiteCosinesSaid := overSiteCosines fun a _ => lawCosines a
end Go.Proofs.Ytlaogoojkfjgoaa
