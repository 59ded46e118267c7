/-
  The law ProfileFewer: for every input it returns true and leaves its input as it was: the tied card. Conditions: none.
-/
import Derived.Test.YtchhhoamnagbfaaDoorGPFewer
namespace Go.Proofs.YtchhhoamnagbfaaDoor
open Go
theorem profileFewer_said : Rows.ProfileFewerCardSaid := cardProfileFewer (overProfileFewer fun n d M N c D _ _ _ _ _ _ => fewer_ok n d M N c D)
end Go.Proofs.YtchhhoamnagbfaaDoor
