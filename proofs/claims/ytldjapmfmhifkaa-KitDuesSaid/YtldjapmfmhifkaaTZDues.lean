/-
 The law 'KitDues' returns true for every input, and leaves its input as it was. Conditions: none.
-/
import Derived.Test.YtldjapmfmhifkaaTPDues
namespace Go.Proofs.Ytldjapmfmhifkaa
open Go
theorem kitDues_said:Rows.KitDuesSaid:=overKitDues fun nI dI nR dR n d a b D _ _ _ _ _ _ _ _ _=>dues_ok ⟨nI,dI,nR,dR⟩ n d a b D
end Go.Proofs.Ytldjapmfmhifkaa
