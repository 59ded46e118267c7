/-
  The document's examples hold. Conditions: none.
-/
import Derived.KernelRfl
import Derived.Test.YtchhhoamnagbfaaDoorIPDist
namespace Go.Proofs.YtchhhoamnagbfaaDoor
open Go Go.Sy
theorem n10_t : n10 = true := by kernel_rfl
theorem m10_t : m10 = true := by kernel_rfl
end Go.Proofs.YtchhhoamnagbfaaDoor
