/-
 What every contract of this seat leans on. Conditions: none.
-/
import Derived.Test.YtmndejpcpfkajaaBSyV
import Derived.Test.YtmndejpcpfkajaaBSyIt
import Derived.Test.YtmndejpcpfkajaaProg
import Derived.KernelRfl
namespace Go.Proofs.Ytmndejpcpfkajaa
theorem mix_ok : Try.prog.follows .mixedOrders = true := by kernel_rfl
end Go.Proofs.Ytmndejpcpfkajaa
