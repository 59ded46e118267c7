/-
  The law 'TopThinned' returns true for every input, and leaves its input as it was. Conditions: none.
-/
import Derived.Test.YtchhhoamnagbfaaTPThinned
namespace Go.Proofs.Ytchhhoamnagbfaa
open Go
theorem topThinned_said : Rows.TopThinnedSaid := overTopThinned fun n d M x _ _ _ _ => thinned_ok n d M x
end Go.Proofs.Ytchhhoamnagbfaa
