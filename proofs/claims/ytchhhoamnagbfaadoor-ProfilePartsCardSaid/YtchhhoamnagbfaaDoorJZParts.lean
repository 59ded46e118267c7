/-
  The law ProfileParts: for every input it returns true and leaves its input as it was: the tied card. Conditions: none.
-/
import Derived.Test.YtchhhoamnagbfaaDoorJPParts
namespace Go.Proofs.YtchhhoamnagbfaaDoor
open Go
theorem profileParts_said : Rows.ProfilePartsCardSaid := cardProfileParts (overProfileParts fun a b ng g L e s _ _ _ _ _ _ _ => parts_ok a b ng g L e s)
end Go.Proofs.YtchhhoamnagbfaaDoor
