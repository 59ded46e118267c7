/-
 A symbolic executor for the model's code, part K: a region whose operations may come up in any order that their edges allow. Conditions: none.
-/
import Derived.Test.YtpfipoimpmlmoaaGreatDoorJSyJ
namespace Go.Sy
set_option linter.unusedVariables false
set_option linter.unusedSimpArgs false
open Go.RowKit
section runs
variable {P:Program}
def maskOf (T:List Nat) (l:List Edge):Nat:=l.foldl (fun m e=>if Region.binds .any e then m ||| 2 ^ e.on ||| T.getD e.on 0 else m) 0
def masks:List Oper→List Nat→List Nat
 | [],acc=>acc
 | o :: l,acc=>masks l (acc ++ [maskOf acc o.after.toList])
def bit (T:List Nat) (i j:Nat):Bool:=(T.getD i 0).testBit j
def tableOk (T:List Nat):Nat→List Oper→Bool
 | _,[]=>true
 | i,o :: l=>Nat.beq (T.getD i 0) (maskOf T o.after.toList)&&o.after.toList.all (fun e=>!Region.binds .any e||Nat.blt e.on i)&&tableOk T (i+1) l
theorem tableOk_at {T:List Nat}:∀ {l:List Oper} {i0:Nat},tableOk T i0 l=true→∀ {j:Nat} {o:Oper},l[j]? = some o→T.getD (i0+j) 0=maskOf T o.after.toList∧∀ e∈o.after.toList,Region.binds .any e=true→e.on<i0+j
 | [],_,_,j,o,hj=>by simp at hj
 | p :: l,i0,h,j,o,hj=>by
  simp only [tableOk,Bool.and_eq_true,List.all_eq_true,Bool.or_eq_true,Bool.not_eq_true'] at h
  cases j with
  | zero =>
   simp at hj;subst hj
   refine ⟨by have:=h.1.1;rw [Nat.beq_eq] at this;exact this,fun e he hb=>?_⟩
   rcases h.1.2 e he with h1 | h1
   ·rw [hb] at h1;cases h1
   ·simpa [Nat.blt_eq] using h1
  | succ j =>
   have:=tableOk_at h.2 (j:=j) (o:=o) (by simpa using hj)
   rw [show i0+(j+1)=i0+1+j by omega]
   exact this
theorem maskOf_bit {T:List Nat}:∀ (l:List Edge) (m:Nat) (j:Nat),(l.foldl (fun m e=>if Region.binds .any e then m ||| 2 ^ e.on ||| T.getD e.on 0 else m) m).testBit j=true →
  m.testBit j=true∨∃ e∈l,Region.binds .any e=true∧(e.on=j∨(T.getD e.on 0).testBit j=true)
 | [],m,j,h=>.inl h
 | e :: l,m,j,h=>by
  rw [List.foldl_cons] at h
  rcases maskOf_bit l _ j h with h1 | ⟨e',he',hb,hc⟩
  ·by_cases hb:Region.binds .any e=true
   ·rw [if_pos hb] at h1
    simp only [Nat.testBit_or,Bool.or_eq_true,Nat.testBit_two_pow,decide_eq_true_eq] at h1
    rcases h1 with (h1 | h1) | h1
    ·exact .inl h1
    ·exact .inr ⟨e,by simp,hb,.inl h1⟩
    ·exact .inr ⟨e,by simp,hb,.inr h1⟩
   ·rw [if_neg hb] at h1;exact .inl h1
  ·exact .inr ⟨e',by simp [he'],hb,hc⟩
theorem bit_before {T:List Nat} {ops:List Oper} (hT:tableOk T 0 ops=true) {D:Nat→Bool} (hcl:∀ j o,D j=true→ops[j]? = some o→∀ e∈o.after.toList,Region.binds .any e=true→D e.on=true) :
  ∀ (i:Nat) (o:Oper),ops[i]? = some o→(∀ e∈o.after.toList,Region.binds .any e=true→D e.on=true)→∀ j,bit T i j=true→D j=true∧j<i:=by
 intro i
 induction i using Nat.strongRecOn with
 | _ i ih =>
  intro o ho hpre j hb
  obtain ⟨h1,h2⟩:=tableOk_at hT ho
  simp only [Nat.zero_add] at h1 h2
  unfold bit at hb
  rw [h1] at hb
  rcases maskOf_bit o.after.toList 0 j hb with h | ⟨e,he,hbd,h⟩
  ·simp at h
  ·have hlt:=h2 e he hbd
   rcases h with rfl | h
   ·exact ⟨hpre e he hbd,hlt⟩
   ·have hl:i<ops.length:=(List.getElem?_eq_some_iff.1 ho).1
    have hoe:ops[e.on]? = some (ops[e.on]'(by omega)):=List.getElem?_eq_getElem _
    obtain ⟨g1,g2⟩:=ih e.on hlt _ hoe (hcl e.on _ (hpre e he hbd) hoe) j h
    exact ⟨g1,by omega⟩
def dstIs:Option Nat→Nat→Bool
 | some d,t=>Nat.beq d t
 | none,_=>false
theorem dstIs_iff {d:Option Nat} {t:Nat}:dstIs d t=true↔d=some t:=by
 cases d <;> simp [dstIs]
def wrAt:List Oper→Nat→Nat→Option Nat
 | [],_,_=>none
 | o :: l,i,t=>if dstIs o.dst t then some i else wrAt l (i+1) t
theorem wrAt_some:∀ {l:List Oper} {i t j:Nat},wrAt l i t=some j→∃ q o,j=i+q∧l[q]? = some o∧o.dst=some t
 | [],_,_,_,h=>by simp [wrAt] at h
 | o :: l,i,t,j,h=>by
  simp only [wrAt] at h
  split at h
  ·rename_i hd;cases h;exact ⟨0,o,by omega,rfl,dstIs_iff.1 hd⟩
  ·obtain ⟨q,o',h1,h2,h3⟩:=wrAt_some h
   exact ⟨q+1,o',by omega,by simpa using h2,h3⟩
theorem wrAt_none:∀ {l:List Oper} {i t:Nat},wrAt l i t=none→∀ o∈l,o.dst≠some t
 | [],_,_,_,o,ho=>by simp at ho
 | p :: l,i,t,h,o,ho=>by
  simp only [wrAt] at h
  split at h
  ·cases h
  ·rename_i hd
   rcases List.mem_cons.1 ho with rfl | ho
   ·exact fun e=>hd (dstIs_iff.2 e)
   ·exact wrAt_none h o ho
def dstsOnce:List Oper→Bool
 | []=>true
 | o :: l=>(match o.dst with | some d=>(wrAt l 0 d).isNone | none=>true)&&dstsOnce l
theorem dstsOnce_eq:∀ {l:List Oper},dstsOnce l=true→∀ {i j:Nat} {p q:Oper} {t:Nat},l[i]? = some p→l[j]? = some q→p.dst=some t→q.dst=some t→i=j
 | [],_,i,_,_,_,_,hi,_,_,_=>by simp at hi
 | o :: l,h,i,j,p,q,t,hi,hj,hp,hq=>by
  simp only [dstsOnce,Bool.and_eq_true] at h
  have hno:∀ x∈l,o.dst=some t→x.dst≠some t:=fun x hx ho=>by
   have h1:=h.1
   rw [ho] at h1
   simp only [Option.isNone_iff_eq_none] at h1
   exact wrAt_none h1 x hx
  cases i with
  | zero =>
   simp at hi;subst hi
   cases j with
   | zero=>rfl
   | succ j=>exact absurd hq (hno q (List.mem_of_getElem? (by simpa using hj)) hp)
  | succ i =>
   cases j with
   | zero=>simp at hj;subst hj;exact absurd hp (hno p (List.mem_of_getElem? (by simpa using hi)) hq)
   | succ j=>exact congrArg (·+1) (dstsOnce_eq h.2 (by simpa using hi) (by simpa using hj) hp hq)
abbrev Runs:=List (Nat × SRes)
def ownerAt:Runs→Nat→Nat→Option (Nat × Blk)
 | [],_,_=>none
 | (off,r) :: l,i,q=>if Nat.ble off q&&Nat.blt q (off+r.news.length) then some (i,r.news.getD (q - off) .unk) else ownerAt l (i+1) q
def lookUpd:List (Nat × Blk)→Nat→Option Blk
 | [],_=>none
 | u :: l,q=>if Nat.beq u.1 q then some u.2 else lookUpd l q
theorem lookUpd_some:∀ {l:List (Nat × Blk)} {q:Nat} {b:Blk},lookUpd l q=some b→(q,b)∈l
 | [],_,_,h=>by simp [lookUpd] at h
 | u :: l,q,b,h=>by
  simp only [lookUpd] at h
  split at h
  ·rename_i e;cases h;rw [Nat.beq_eq] at e;subst e;simp
  ·exact List.mem_cons_of_mem _ (lookUpd_some h)
theorem lookUpd_none:∀ {l:List (Nat × Blk)} {q:Nat},lookUpd l q=none→∀ u∈l,u.1≠q
 | [],_,_,u,hu=>by simp at hu
 | v :: l,q,h,u,hu=>by
  simp only [lookUpd] at h
  split at h
  ·cases h
  ·rename_i e
   rcases List.mem_cons.1 hu with rfl | hu
   ·exact fun e'=>e (by rw [Nat.beq_eq];exact e')
   ·exact lookUpd_none h u hu
theorem ownerAt_some:∀ {l:Runs} {i q j:Nat} {b:Blk},ownerAt l i q=some (j,b)→∃ k off r,j=i+k∧l[k]? = some (off,r)∧off≤q∧q<off+r.news.length∧r.news[q - off]? = some b
 | [],_,_,_,_,h=>by simp [ownerAt] at h
 | (off,r) :: l,i,q,j,b,h=>by
  simp only [ownerAt] at h
  split at h
  ·rename_i hc
   cases h
   simp only [Bool.and_eq_true,Nat.ble_eq,Nat.blt_eq] at hc
   have hl:q - off<r.news.length:=by omega
   refine ⟨0,off,r,by omega,rfl,hc.1,hc.2,?_⟩
   rw [List.getD_eq_getElem?_getD,List.getElem?_eq_getElem hl]
   rfl
  ·obtain ⟨k,off',r',h1,h2,h3,h4,h5⟩:=ownerAt_some h
   exact ⟨k+1,off',r',by omega,by simpa using h2,h3,h4,h5⟩
end runs
end Go.Sy
