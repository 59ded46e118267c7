/-
 The law 'KitBatches' returns true for every input, and leaves its input as it was. Conditions: none.
-/
import Derived.Test.YtldjapmfmhifkaaCPBatches
namespace Go.Proofs.Ytldjapmfmhifkaa
open Go
theorem kitBatches_said:Rows.KitBatchesSaid:=overKitBatches fun nI dI nR dR n d s _ _ _ _ _ _ _=>batches_ok ⟨nI,dI,nR,dR⟩ n d s
end Go.Proofs.Ytldjapmfmhifkaa
