/-
  The law ProfileDistances: for every input it returns true and leaves its input as it was: the tied card. Conditions: none.
-/
import Derived.Test.YtchhhoamnagbfaaDoorCPDistances
namespace Go.Proofs.YtchhhoamnagbfaaDoor
open Go
theorem profileDistances_said : Rows.ProfileDistancesCardSaid := cardProfileDistances (overProfileDistances fun n d m e M _ _ _ _ _ => distances_ok n d m e M)
end Go.Proofs.YtchhhoamnagbfaaDoor
