/-
  The chapter's examples hold: awake's model is true. Conditions: none.
-/
import Derived.Test.YtmjcegbnbnbceaaH1
import Derived.Test.YtmjcegbnbnbceaaH2
import Derived.Test.YtmjcegbnbnbceaaH3
import Derived.KernelRfl
namespace Go.Proofs.Ytmjcegbnbnbceaa
open Go Go.Sy
theorem n15_true : n15 = true := by kernel_rfl
theorem m15_true : m15 = true := by kernel_rfl
#print axioms n15_true
end Go.Proofs.Ytmjcegbnbnbceaa
