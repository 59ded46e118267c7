/-
  The plain law of 'MixShares': the law's model is true, and its need. Conditions: none.
-/
import Derived.Test.YtmjcegbnbnbceaaMFChecks
import Derived.Test.YtmjcegbnbnbceaaME1
import Derived.Test.YtmjcegbnbnbceaaMPMatches
import Derived.Test.YtmjcegbnbnbceaaMPPartials
import Derived.Test.YtmjcegbnbnbceaaMPCheckN
import Derived.Test.YtmjcegbnbnbceaaMPLoop
import Derived.Test.YtmjcegbnbnbceaaMPFactors
import Derived.Test.YtmjcegbnbnbceaaM1
import Derived.Test.YtmjcegbnbnbceaaM2
import Derived.Test.YtmjcegbnbnbceaaM3
import Derived.Test.YtmjcegbnbnbceaaM4
namespace Go.Proofs.Ytmjcegbnbnbceaa
open Go Go.Sy
set_option linter.unusedVariables false
set_option maxRecDepth 100000
/-- A share rounded down, what is left of it, and the units that are left over. -/
noncomputable def qd (x n S : Int) : Int := IntKind.i64.wrap ((IntKind.i64.wrap (x * n)).tdiv S)
noncomputable def rd (x n S : Int) : Int := (IntKind.i64.wrap (x * n)).tmod S
noncomputable def ro (a b c n S : Int) : Option (Int × Int × Int × Int × Int × Int) := o20_2 a b c 0 0 0 a b c (IntKind.i64.wrap (IntKind.i64.wrap (IntKind.i64.wrap (n - qd a n S) - qd b n S) - qd c n S)) (qd a n S) (qd b n S) (qd c n S) (rd a n S) (rd b n S) (rd c n S)
end Go.Proofs.Ytmjcegbnbnbceaa
