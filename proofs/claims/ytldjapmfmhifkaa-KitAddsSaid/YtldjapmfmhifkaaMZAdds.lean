/-
 The law 'KitAdds' returns true for every input, and leaves its input as it was. Conditions: none.
-/
import Derived.Test.YtldjapmfmhifkaaMPAdds
namespace Go.Proofs.Ytldjapmfmhifkaa
open Go
theorem kitAdds_said:Rows.KitAddsSaid:=overKitAdds fun nI dI nR dR n d e0 e1 e2 e3 e4 e5 _ _ _ _ _ _ _ _ _ _ _=>adds_ok ⟨nI,dI,nR,dR⟩ n d e0 e1 e2 e3 e4 e5
end Go.Proofs.Ytldjapmfmhifkaa
