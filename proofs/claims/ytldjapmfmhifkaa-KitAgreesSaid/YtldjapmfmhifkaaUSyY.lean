/-
 A symbolic executor for the model's code, part Y: contracts with a result that is told ahead. Conditions: none.
-/
import Derived.Test.YtldjapmfmhifkaaUSyX
namespace Go.Sy
set_option linter.unusedVariables false
set_option linter.unusedSimpArgs false
open Go.RowKit
section runs
variable {P:Program}
end runs
end Go.Sy
