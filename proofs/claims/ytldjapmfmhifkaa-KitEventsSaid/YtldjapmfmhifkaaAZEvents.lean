/-
 The law 'KitEvents' returns true for every input, and leaves its input as it was. Conditions: none.
-/
import Derived.Test.YtldjapmfmhifkaaAPEvents
namespace Go.Proofs.Ytldjapmfmhifkaa
open Go
theorem kitEvents_said:Rows.KitEventsSaid:=overKitEvents fun nI dI nR dR n d _ _ _ _ _ _=>events_ok ⟨nI,dI,nR,dR⟩ n d
end Go.Proofs.Ytldjapmfmhifkaa
