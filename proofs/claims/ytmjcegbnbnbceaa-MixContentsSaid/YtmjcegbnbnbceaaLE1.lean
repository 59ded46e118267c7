/-
  The chapter's examples hold: awake's model is true. Conditions: none.
-/
import Derived.Test.YtmjcegbnbnbceaaL1
import Derived.Test.YtmjcegbnbnbceaaL2
import Derived.Test.YtmjcegbnbnbceaaL3
import Derived.Test.YtmjcegbnbnbceaaL4
import Derived.KernelRfl
import Derived.Test.YtmjcegbnbnbceaaLFContents
namespace Go.Proofs.Ytmjcegbnbnbceaa
open Go Go.Sy
theorem n15_true : n15 = true := by kernel_rfl
theorem m15_true : m15 = true := by kernel_rfl
end Go.Proofs.Ytmjcegbnbnbceaa
