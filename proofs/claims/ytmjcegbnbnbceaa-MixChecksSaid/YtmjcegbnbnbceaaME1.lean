/-
  The chapter's examples hold: awake's model is true. Conditions: none.
-/
import Derived.Test.YtmjcegbnbnbceaaM1
import Derived.Test.YtmjcegbnbnbceaaM2
import Derived.Test.YtmjcegbnbnbceaaM3
import Derived.Test.YtmjcegbnbnbceaaM4
import Derived.KernelRfl
import Derived.Test.YtmjcegbnbnbceaaMFChecks
namespace Go.Proofs.Ytmjcegbnbnbceaa
open Go Go.Sy
theorem n15_true : n15 = true := by kernel_rfl
theorem m15_true : m15 = true := by kernel_rfl
end Go.Proofs.Ytmjcegbnbnbceaa
