/-
 The law 'KitFills' returns true for every input, and leaves its input as it was. Conditions: none.
-/
import Derived.Test.YtldjapmfmhifkaaJPFills
namespace Go.Proofs.Ytldjapmfmhifkaa
open Go
theorem kitFills_said:Rows.KitFillsSaid:=overKitFills fun nI dI nR dR n d e0 e1 e2 e3 e4 e5 _ _ _ _ _ _ _ _ _ _ _=>fills_ok ⟨nI,dI,nR,dR⟩ n d e0 e1 e2 e3 e4 e5
end Go.Proofs.Ytldjapmfmhifkaa
