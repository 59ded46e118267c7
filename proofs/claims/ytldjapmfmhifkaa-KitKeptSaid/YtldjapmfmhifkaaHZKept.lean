/-
 The law 'KitKept' returns true for every input, and leaves its input as it was. Conditions: none.
-/
import Derived.Test.YtldjapmfmhifkaaHPKept
namespace Go.Proofs.Ytldjapmfmhifkaa
open Go
theorem kitKept_said:Rows.KitKeptSaid:=overKitKept fun nI dI nR dR n d _ _ _ _ _ _=>kept_ok ⟨nI,dI,nR,dR⟩ n d
end Go.Proofs.Ytldjapmfmhifkaa
