/-
  The law 'MixPartials' returns true for every input, and leaves its input as it was. Conditions: none.
-/
import Derived.Test.YtmjcegbnbnbceaaCFPartials
import Derived.Test.YtmjcegbnbnbceaaCPPartials
namespace Go.Proofs.Ytmjcegbnbnbceaa
theorem mixPartials_said : Rows.MixPartialsSaid := overMixPartials fun a0 a1 a2 b0 b1 b2 b3 b4 _ _ _ _ _ _ _ _ => lawPartials a0 a1 a2 b0 b1 b2 b3 b4
#print axioms mixPartials_said
end Go.Proofs.Ytmjcegbnbnbceaa
