/-
  The law ProfileDiffers: for every input it returns true and leaves its input as it was: the tied card. Conditions: none.
-/
import Derived.Test.YtchhhoamnagbfaaGreatDoorBPDiffers
namespace Go.Proofs.YtchhhoamnagbfaaGreatDoor
open Go
theorem profileDiffers_said : Rows.ProfileDiffersCardSaid := cardProfileDiffers (overProfileDiffers fun a b ng g L e a' b' ng' g' L' e' _ _ _ _ _ _ _ _ _ _ _ _ => differs_law a b ng g L e a' b' ng' g' L' e')
end Go.Proofs.YtchhhoamnagbfaaGreatDoor
