/-
  The law 'MixShares' returns true for every input, and leaves its input as it was. Conditions: none.
-/
import Derived.Test.YtmjcegbnbnbceaaBFShares
import Derived.Test.YtmjcegbnbnbceaaBPShares
namespace Go.Proofs.Ytmjcegbnbnbceaa
theorem mixShares_said : Rows.MixSharesSaid := overShares fun a0 a1 a2 n _ _ _ _ => lawShares a0 a1 a2 n
#print axioms mixShares_said
end Go.Proofs.Ytmjcegbnbnbceaa
