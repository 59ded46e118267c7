/-
 The law 'KitUsables' returns true for every input, and leaves its input as it was. Conditions: none.
-/
import Derived.Test.YtldjapmfmhifkaaBPUsables
namespace Go.Proofs.Ytldjapmfmhifkaa
open Go
theorem kitUsables_said:Rows.KitUsablesSaid:=overKitUsables fun nI dI nR dR n d s day _ _ _ _ _ _ _ _=>usables_ok ⟨nI,dI,nR,dR⟩ n d s day
end Go.Proofs.Ytldjapmfmhifkaa
