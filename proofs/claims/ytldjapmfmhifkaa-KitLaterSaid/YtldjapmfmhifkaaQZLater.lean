/-
 The law 'KitLater' returns true for every input, and leaves its input as it was. Conditions: none.
-/
import Derived.Test.YtldjapmfmhifkaaQPLater
namespace Go.Proofs.Ytldjapmfmhifkaa
open Go
theorem kitLater_said:Rows.KitLaterSaid:=overKitLater fun nI dI nR dR n d s D _ _ _ _ _ _ _ _=>later_ok ⟨nI,dI,nR,dR⟩ n d s D
end Go.Proofs.Ytldjapmfmhifkaa
