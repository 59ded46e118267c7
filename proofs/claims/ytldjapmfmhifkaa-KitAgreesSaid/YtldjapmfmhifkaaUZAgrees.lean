/-
 The law 'KitAgrees' returns true for every input, and leaves its input as it was. Conditions: none.
-/
import Derived.Test.YtldjapmfmhifkaaUPAgrees
namespace Go.Proofs.Ytldjapmfmhifkaa
open Go
theorem kitAgrees_said:Rows.KitAgreesSaid:=overKitAgrees fun nI dI nR dR n d s D _ _ _ _ _ _ _ _=>agrees_ok ⟨nI,dI,nR,dR⟩ n d s D
end Go.Proofs.Ytldjapmfmhifkaa
