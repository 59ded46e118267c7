/-
  The law 'MixMatches' returns true for every input, and leaves its input as it was. Conditions: none.
-/
import Derived.Test.YtmjcegbnbnbceaaAFMatches
import Derived.Test.YtmjcegbnbnbceaaAPMatches
namespace Go.Proofs.Ytmjcegbnbnbceaa
theorem mixMatches_said : Rows.MixMatchesSaid := overMatches fun a0 a1 a2 b0 b1 c _ _ _ _ _ _ => lawMatches a0 a1 a2 b0 b1 c
#print axioms mixMatches_said
end Go.Proofs.Ytmjcegbnbnbceaa
