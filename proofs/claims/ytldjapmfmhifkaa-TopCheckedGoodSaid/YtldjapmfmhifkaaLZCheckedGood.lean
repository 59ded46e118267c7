/-
 The law 'TopCheckedGood' returns true for every input, and leaves its input as it was. Conditions: none.
-/
import Derived.Test.YtldjapmfmhifkaaLPChecked
namespace Go.Proofs.Ytldjapmfmhifkaa
open Go
theorem topCheckedGood_said:Rows.TopCheckedGoodSaid:=overTopCheckedGood fun nI dI nR dR n d s D _ _ _ _ _ _ _ _=>checked_ok ⟨nI,dI,nR,dR⟩ n d s D
end Go.Proofs.Ytldjapmfmhifkaa
