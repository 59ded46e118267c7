/-
 A symbolic executor for the model's code: an equation of the executor within the proof that uses it. Conditions: none.
-/
import Derived.Test.YtpfipoimpmlmoaaGreatDoorJSyV
namespace Go.Sy
set_option linter.unusedVariables false
theorem callOf {P:Program} {L:Tab} {Λ:Lam} {fu:Nat} {c:Code} {s:SState} {rs:List ResultVar} {na:Nat} {l grs:List Nat} {rh:RH} {R:SV→List Blk→List Blk→Prop} (T:(SV→List Blk→List Blk→Prop)→Prop)
  (h:∀ R:SV→List Blk→List Blk→Prop,exec P L Λ fu c s (retK P rs (outK na l grs rh R))=T R) (hq:T R):exec P L Λ fu c s (retK P rs (outK na l grs rh R)):=by rw [h R];exact hq
theorem roundOf {P:Program} {L:Tab} {Λ:Lam} {fu:Nat} {c:Code} {s:SState} {na nt nx:Nat} {Lh Le:List Nat} {gl:List GL} {R:XR} (T:XR→Prop)
  (h:∀ R:XR,exec P L Λ fu c s (canonK na nt Lh Le nx gl R)=T R) (hq:T R):exec P L Λ fu c s (canonK na nt Lh Le nx gl R):=by rw [h R];exact hq
abbrev GF:=List SV→List Blk→Option OpRes
theorem need1 {b:Bool} (h:∀ x∈[b],x=true):b=true:=h _ (List.mem_singleton.2 rfl)
end Go.Sy
