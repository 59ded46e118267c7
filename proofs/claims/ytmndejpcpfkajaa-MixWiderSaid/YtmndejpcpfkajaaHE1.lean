/-
  The chapter's examples hold: awake's model is true. Conditions: none.
-/
import Derived.KernelRfl
import Derived.Test.YtmndejpcpfkajaaHFWider
namespace Go.Proofs.Ytmndejpcpfkajaa
open Go Go.Sy
theorem n44_true : n44 = true := by kernel_rfl
theorem m44_true : m44 = true := by kernel_rfl
end Go.Proofs.Ytmndejpcpfkajaa
