/-
  The law ProfileSeconds: for every input it returns true and leaves its input as it was: the tied card. Conditions: none.
-/
import Derived.Test.YtchhhoamnagbfaaGreatDoorAPSeconds
namespace Go.Proofs.YtchhhoamnagbfaaGreatDoor
open Go
theorem profileSeconds_said : Rows.ProfileSecondsCardSaid := cardProfileSeconds (overProfileSeconds fun a b ng g L e s _ _ _ _ _ _ _ => seconds_law a b ng g L e s)
end Go.Proofs.YtchhhoamnagbfaaGreatDoor
