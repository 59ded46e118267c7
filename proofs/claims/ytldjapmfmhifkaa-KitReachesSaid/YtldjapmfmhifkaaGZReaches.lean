/-
 The law 'KitReaches' returns true for every input, and leaves its input as it was. Conditions: none.
-/
import Derived.Test.YtldjapmfmhifkaaGPReaches
namespace Go.Proofs.Ytldjapmfmhifkaa
open Go
theorem kitReaches_said:Rows.KitReachesSaid:=overKitReaches fun nI dI nR dR n d s num _ _ _ _ _ _ _ _=>reaches_ok ⟨nI,dI,nR,dR⟩ n d s num
end Go.Proofs.Ytldjapmfmhifkaa
