/-
 The law 'TopQuarantineJust' returns true for every input, and leaves its input as it was. Conditions: none.
-/
import Derived.Test.YtldjapmfmhifkaaRPJust
namespace Go.Proofs.Ytldjapmfmhifkaa
open Go
theorem topQuarantineJust_said:Rows.TopQuarantineJustSaid:=overTopQuarantineJust fun nI dI nR dR n d _ _ _ _ _ _=>just_ok ⟨nI,dI,nR,dR⟩ n d
end Go.Proofs.Ytldjapmfmhifkaa
