/-
 The plain law of 'MixShares': the law's model is true, and its need. Conditions: none.
-/
import Derived.Test.YtmndejpcpfkajaaBPFactors
namespace Go.Proofs.Ytmndejpcpfkajaa
open Go Go.Sy
set_option linter.unusedVariables false
set_option maxRecDepth 100000
noncomputable def qd (x n S : Int) : Int := IntKind.i64.wrap ((IntKind.i64.wrap (x * n)).tdiv S)
noncomputable def rd (x n S : Int) : Int := (IntKind.i64.wrap (x * n)).tmod S
noncomputable def ro (a b c n S : Int) : Option (Int × Int × Int × Int × Int × Int) := o45_2 a b c 0 0 0 a b c (IntKind.i64.wrap (IntKind.i64.wrap (IntKind.i64.wrap (n - qd a n S) - qd b n S) - qd c n S)) (qd a n S) (qd b n S) (qd c n S) (rd a n S) (rd b n S) (rd c n S)
end Go.Proofs.Ytmndejpcpfkajaa
