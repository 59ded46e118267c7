/-
  The law ProfilePlans: for every input it returns true and leaves its input as it was: the tied card. Conditions: none.
-/
import Derived.Test.YtchhhoamnagbfaaDoorBPPlans
namespace Go.Proofs.YtchhhoamnagbfaaDoor
open Go
theorem profilePlans_said : Rows.ProfilePlansCardSaid := cardProfilePlans (overProfilePlans fun a b n g l e _ _ _ _ _ _ => plans_ok a b n g l e)
end Go.Proofs.YtchhhoamnagbfaaDoor
