/-
  The law ProfileExtends: for every input it returns true and leaves its input as it was: the tied card. Conditions: none.
-/
import Derived.Test.YtchhhoamnagbfaaDoorHPExtends
namespace Go.Proofs.YtchhhoamnagbfaaDoor
open Go
theorem profileExtends_said : Rows.ProfileExtendsCardSaid := cardProfileExtends (overProfileExtends fun a b ng g L e L' e' _ _ _ _ _ _ _ _ => extends_ok a b ng g L e L' e')
end Go.Proofs.YtchhhoamnagbfaaDoor
