/-
  The law ProfileNormals: for every input it returns true and leaves its input as it was: the tied card. Conditions: none.
-/
import Derived.Test.YtchhhoamnagbfaaDoorIPNormals
namespace Go.Proofs.YtchhhoamnagbfaaDoor
open Go
theorem profileNormals_said : Rows.ProfileNormalsCardSaid := cardProfileNormals (overProfileNormals fun a b ng g L e _ _ _ _ _ _ => normals_ok a b ng g L e)
end Go.Proofs.YtchhhoamnagbfaaDoor
