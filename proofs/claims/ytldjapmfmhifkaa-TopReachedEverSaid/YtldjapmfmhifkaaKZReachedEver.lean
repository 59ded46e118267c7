/-
 The law 'TopReachedEver' returns true for every input, and leaves its input as it was. Conditions: none.
-/
import Derived.Test.YtldjapmfmhifkaaKPEver
namespace Go.Proofs.Ytldjapmfmhifkaa
open Go
theorem topReachedEver_said:Rows.TopReachedEverSaid:=overTopReachedEver fun nI dI nR dR n d s num _ _ _ _ _ _ _ _=>ever_law ⟨nI,dI,nR,dR⟩ n d s num
end Go.Proofs.Ytldjapmfmhifkaa
