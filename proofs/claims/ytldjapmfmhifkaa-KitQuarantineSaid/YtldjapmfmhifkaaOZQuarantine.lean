/-
 The law 'KitQuarantine' returns true for every input, and leaves its input as it was. Conditions: none.
-/
import Derived.Test.YtldjapmfmhifkaaOPQuar
namespace Go.Proofs.Ytldjapmfmhifkaa
open Go
theorem kitQuarantine_said:Rows.KitQuarantineSaid:=overKitQuarantine fun nI dI nR dR n d _ _ _ _ _ _=>quar_ok ⟨nI,dI,nR,dR⟩ n d
end Go.Proofs.Ytldjapmfmhifkaa
