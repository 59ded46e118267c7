/-
  The law 'MixFactors' returns true for every input, and leaves its input as it was. Conditions: none.
-/
import Derived.Test.YtmjcegbnbnbceaaHFFactors
import Derived.Test.YtmjcegbnbnbceaaHPFactors
namespace Go.Proofs.Ytmjcegbnbnbceaa
open Go
theorem mixFactors_said : Rows.MixFactorsSaid := overMixFactors fun n d p0 p1 v hn _ w0 w1 _ => lawFactors n d p0 p1 v (Nat.le_trans hn (by decide)) (wf64 w0) (wf64 w1)
#print axioms mixFactors_said
end Go.Proofs.Ytmjcegbnbnbceaa
