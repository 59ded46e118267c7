/-
  The law ProfileDepths: for every input it returns true and leaves its input as it was: the tied card. Conditions: none.
-/
import Derived.Test.YtchhhoamnagbfaaDoorAPDepths
namespace Go.Proofs.YtchhhoamnagbfaaDoor
open Go
theorem profileDepths_said : Rows.ProfileDepthsCardSaid := cardProfileDepths (overProfileDepths fun n d x _ _ _ => depths_ok n d x)
end Go.Proofs.YtchhhoamnagbfaaDoor
