/-
 A symbolic executor for the model's code, part L: a region in any order, proved. Conditions: none.
-/
import Derived.Test.YtdcdjjogieojhaaGreatDoorJSyJ
namespace Go.Sy
set_option linter.unusedVariables false
set_option linter.unusedSimpArgs false
open Go.RowKit
set_option linter.unusedSectionVars false
variable [Globs]
section runs
variable {P:Program}
def maskOf (T:List Nat) (l:List Edge):Nat:=l.foldl (fun m e=>if Region.binds .any e then m ||| 2 ^ e.on ||| T.getD e.on 0 else m) 0
def masks:List Oper→List Nat→List Nat
 | [],acc=>acc
 | o :: l,acc=>masks l (acc ++ [maskOf acc o.after.toList])
def bit (T:List Nat) (i j:Nat):Bool:=(T.getD i 0).testBit j
def tableOk (T:List Nat):Nat→List Oper→Bool
 | _,[]=>true
 | i,o :: l=>Nat.beq (T.getD i 0) (maskOf T o.after.toList)&&o.after.toList.all (fun e=>!Region.binds .any e||Nat.blt e.on i)&&tableOk T (i+1) l
theorem tableOk_at {T:List Nat}:∀ {l:List Oper} {i0:Nat},tableOk T i0 l=true→∀ {j:Nat} {o:Oper},l[j]? = some o→T.getD (i0+j) 0=maskOf T o.after.toList∧∀ e∈o.after.toList,Region.binds .any e=true→e.on<i0+j
 | [],_,_,j,o,hj=>by simp at hj
 | p :: l,i0,h,j,o,hj=>by
  simp only [tableOk,Bool.and_eq_true,List.all_eq_true,Bool.or_eq_true,Bool.not_eq_true'] at h
  cases j with
  | zero =>
   simp at hj;subst hj
   refine ⟨by have:=h.1.1;rw [Nat.beq_eq] at this;exact this,fun e he hb=>?_⟩
   rcases h.1.2 e he with h1 | h1
   ·rw [hb] at h1;cases h1
   ·simpa [Nat.blt_eq] using h1
  | succ j =>
   have:=tableOk_at h.2 (j:=j) (o:=o) (by simpa using hj)
   rw [show i0+(j+1)=i0+1+j by omega]
   exact this
theorem maskOf_bit {T:List Nat}:∀ (l:List Edge) (m:Nat) (j:Nat),(l.foldl (fun m e=>if Region.binds .any e then m ||| 2 ^ e.on ||| T.getD e.on 0 else m) m).testBit j=true →
  m.testBit j=true∨∃ e∈l,Region.binds .any e=true∧(e.on=j∨(T.getD e.on 0).testBit j=true)
 | [],m,j,h=>.inl h
 | e :: l,m,j,h=>by
  rw [List.foldl_cons] at h
  rcases maskOf_bit l _ j h with h1 | ⟨e',he',hb,hc⟩
  ·by_cases hb:Region.binds .any e=true
   ·rw [if_pos hb] at h1
    simp only [Nat.testBit_or,Bool.or_eq_true,Nat.testBit_two_pow,decide_eq_true_eq] at h1
    rcases h1 with (h1 | h1) | h1
    ·exact .inl h1
    ·exact .inr ⟨e,by simp,hb,.inl h1⟩
    ·exact .inr ⟨e,by simp,hb,.inr h1⟩
   ·rw [if_neg hb] at h1;exact .inl h1
  ·exact .inr ⟨e',by simp [he'],hb,hc⟩
theorem bit_before {T:List Nat} {ops:List Oper} (hT:tableOk T 0 ops=true) {D:Nat→Bool} (hcl:∀ j o,D j=true→ops[j]? = some o→∀ e∈o.after.toList,Region.binds .any e=true→D e.on=true) :
  ∀ (i:Nat) (o:Oper),ops[i]? = some o→(∀ e∈o.after.toList,Region.binds .any e=true→D e.on=true)→∀ j,bit T i j=true→D j=true∧j<i:=by
 intro i
 induction i using Nat.strongRecOn with
 | _ i ih =>
  intro o ho hpre j hb
  obtain ⟨h1,h2⟩:=tableOk_at hT ho
  simp only [Nat.zero_add] at h1 h2
  unfold bit at hb
  rw [h1] at hb
  rcases maskOf_bit o.after.toList 0 j hb with h | ⟨e,he,hbd,h⟩
  ·simp at h
  ·have hlt:=h2 e he hbd
   rcases h with rfl | h
   ·exact ⟨hpre e he hbd,hlt⟩
   ·have hl:i<ops.length:=(List.getElem?_eq_some_iff.1 ho).1
    have hoe:ops[e.on]? = some (ops[e.on]'(by omega)):=List.getElem?_eq_getElem _
    obtain ⟨g1,g2⟩:=ih e.on hlt _ hoe (hcl e.on _ (hpre e he hbd) hoe) j h
    exact ⟨g1,by omega⟩
def dstIs:Option Nat→Nat→Bool
 | some d,t=>Nat.beq d t
 | none,_=>false
theorem dstIs_iff {d:Option Nat} {t:Nat}:dstIs d t=true↔d=some t:=by
 cases d <;> simp [dstIs]
def wrAt:List Oper→Nat→Nat→Option Nat
 | [],_,_=>none
 | o :: l,i,t=>if dstIs o.dst t then some i else wrAt l (i+1) t
theorem wrAt_some:∀ {l:List Oper} {i t j:Nat},wrAt l i t=some j→∃ q o,j=i+q∧l[q]? = some o∧o.dst=some t
 | [],_,_,_,h=>by simp [wrAt] at h
 | o :: l,i,t,j,h=>by
  simp only [wrAt] at h
  split at h
  ·rename_i hd;cases h;exact ⟨0,o,by omega,rfl,dstIs_iff.1 hd⟩
  ·obtain ⟨q,o',h1,h2,h3⟩:=wrAt_some h
   exact ⟨q+1,o',by omega,by simpa using h2,h3⟩
theorem wrAt_none:∀ {l:List Oper} {i t:Nat},wrAt l i t=none→∀ o∈l,o.dst≠some t
 | [],_,_,_,o,ho=>by simp at ho
 | p :: l,i,t,h,o,ho=>by
  simp only [wrAt] at h
  split at h
  ·cases h
  ·rename_i hd
   rcases List.mem_cons.1 ho with rfl | ho
   ·exact fun e=>hd (dstIs_iff.2 e)
   ·exact wrAt_none h o ho
def dstsOnce:List Oper→Bool
 | []=>true
 | o :: l=>(match o.dst with | some d=>(wrAt l 0 d).isNone | none=>true)&&dstsOnce l
theorem dstsOnce_eq:∀ {l:List Oper},dstsOnce l=true→∀ {i j:Nat} {p q:Oper} {t:Nat},l[i]? = some p→l[j]? = some q→p.dst=some t→q.dst=some t→i=j
 | [],_,i,_,_,_,_,hi,_,_,_=>by simp at hi
 | o :: l,h,i,j,p,q,t,hi,hj,hp,hq=>by
  simp only [dstsOnce,Bool.and_eq_true] at h
  have hno:∀ x∈l,o.dst=some t→x.dst≠some t:=fun x hx ho=>by
   have h1:=h.1
   rw [ho] at h1
   simp only [Option.isNone_iff_eq_none] at h1
   exact wrAt_none h1 x hx
  cases i with
  | zero =>
   simp at hi;subst hi
   cases j with
   | zero=>rfl
   | succ j=>exact absurd hq (hno q (List.mem_of_getElem? (by simpa using hj)) hp)
  | succ i =>
   cases j with
   | zero=>simp at hj;subst hj;exact absurd hp (hno p (List.mem_of_getElem? (by simpa using hi)) hq)
   | succ j=>exact congrArg (·+1) (dstsOnce_eq h.2 (by simpa using hi) (by simpa using hj) hp hq)
abbrev Runs:=List (Nat × SRes)
def ownerAt:Runs→Nat→Nat→Option (Nat × Blk)
 | [],_,_=>none
 | (off,r) :: l,i,q=>if Nat.ble off q&&Nat.blt q (off+r.news.length) then some (i,r.news.getD (q - off) .unk) else ownerAt l (i+1) q
def lookUpd:List (Nat × Blk)→Nat→Option Blk
 | [],_=>none
 | u :: l,q=>if Nat.beq u.1 q then some u.2 else lookUpd l q
theorem lookUpd_some:∀ {l:List (Nat × Blk)} {q:Nat} {b:Blk},lookUpd l q=some b→(q,b)∈l
 | [],_,_,h=>by simp [lookUpd] at h
 | u :: l,q,b,h=>by
  simp only [lookUpd] at h
  split at h
  ·rename_i e;cases h;rw [Nat.beq_eq] at e;subst e;simp
  ·exact List.mem_cons_of_mem _ (lookUpd_some h)
theorem lookUpd_none:∀ {l:List (Nat × Blk)} {q:Nat},lookUpd l q=none→∀ u∈l,u.1≠q
 | [],_,_,u,hu=>by simp at hu
 | v :: l,q,h,u,hu=>by
  simp only [lookUpd] at h
  split at h
  ·cases h
  ·rename_i e
   rcases List.mem_cons.1 hu with rfl | hu
   ·exact fun e'=>e (by rw [Nat.beq_eq];exact e')
   ·exact lookUpd_none h u hu
theorem ownerAt_some:∀ {l:Runs} {i q j:Nat} {b:Blk},ownerAt l i q=some (j,b)→∃ k off r,j=i+k∧l[k]? = some (off,r)∧off≤q∧q<off+r.news.length∧r.news[q - off]? = some b
 | [],_,_,_,_,h=>by simp [ownerAt] at h
 | (off,r) :: l,i,q,j,b,h=>by
  simp only [ownerAt] at h
  split at h
  ·rename_i hc
   cases h
   simp only [Bool.and_eq_true,Nat.ble_eq,Nat.blt_eq] at hc
   have hl:q - off<r.news.length:=by omega
   refine ⟨0,off,r,by omega,rfl,hc.1,hc.2,?_⟩
   rw [List.getD_eq_getElem?_getD,List.getElem?_eq_getElem hl]
   rfl
  ·obtain ⟨k,off',r',h1,h2,h3,h4,h5⟩:=ownerAt_some h
   exact ⟨k+1,off',r',by omega,by simpa using h2,h3,h4,h5⟩
end runs
end Go.Sy
namespace Go.Sy
set_option linter.unusedVariables false
set_option linter.unusedSimpArgs false
open Go.RowKit
set_option linter.unusedSectionVars false
variable [Globs]
section runs
variable {P:Program}
def Blk.weak:Blk→Blk
 | .cells e l=>.cells e (l.map fun _=>.any)
 | _=>.unk
def baseTm (ops:List Oper) (s:SState) (t:Nat):SV :=
 match s.tm t with
 | .gd t' pol v=>if (wrAt ops 0 t').isSome then .any else .gd t' pol v
 | v=>v
def slotOf (rs:Runs) (j:Nat):SV:=match rs[j]? with | some r=>r.2.v | none=>.any
def visTm (ops:List Oper) (T:List Nat) (s:SState) (rs:Runs) (i t:Nat):SV :=
 match wrAt ops 0 t with
 | none=>baseTm ops s t
 | some j=>if bit T i j then slotOf rs j else if bit T j i then baseTm ops s t else .any
def updIn (D:Nat→Bool):Runs→Nat→Nat→Option Blk
 | [],_,_=>none
 | (_,r) :: l,i,q=>match updIn D l (i+1) q with
  | some b=>some b
  | none=>match lookUpd r.upds q with
   | some b=>(match D i with | true=>some b | false=>none)
   | none=>none
abbrev Olds:=List (Nat × Nat)
def lookUs:Olds→Nat→List Nat
 | [],_=>[]
 | u :: l,q=>match Nat.beq u.1 q with
  | true=>u.2 :: lookUs l q
  | false=>lookUs l q
def seesB (T:List Nat) (U:Olds) (i q:Nat):Bool:=(lookUs U q).all fun k=>Nat.beq k i||(bit T i k||bit T k i)
def vis1 (T:List Nat) (U:Olds) (rs:Runs) (i q:Nat) (b0:Blk):Blk :=
 match seesB T U i q with
 | true=>(updIn (bit T i) rs 0 q).getD b0
 | false=>b0.weak
def visMem (T:List Nat) (s:SState) (U:Olds) (rs:Runs) (i q:Nat):Blk :=
 if q<s.nx then vis1 T U rs i q (s.mem q) else match ownerAt rs 0 q with
  | none=>.unk
  | some (j,b0)=>if bit T i j then vis1 T U rs i q b0 else .unk
def visSt (ops:List Oper) (T:List Nat) (s:SState) (U:Olds) (rs:Runs) (i:Nat):SState:={ na:=s.na,nt:=s.nt,tm:=visTm ops T s rs i,nx:=s.nx,mem:=visMem T s U rs i,as:=s.as }
def exTm (ops:List Oper) (s:SState) (rs:Runs) (D:Nat→Bool) (t:Nat):SV :=
 match wrAt ops 0 t with
 | none=>baseTm ops s t
 | some j=>if D j then slotOf rs j else baseTm ops s t
def exMem (s:SState) (rs:Runs) (D:Nat→Bool) (q:Nat):Blk :=
 if q<s.nx then (updIn D rs 0 q).getD (s.mem q) else match ownerAt rs 0 q with
  | none=>.unk
  | some (j,b0)=>if D j then (updIn D rs 0 q).getD b0 else .unk
theorem updIn_some {D:Nat→Bool}:∀ {l:Runs} {i q:Nat} {b:Blk},updIn D l i q=some b→∃ k off r,l[k]? = some (off,r)∧D (i+k)=true∧lookUpd r.upds q=some b
 | [],_,_,_,h=>by simp [updIn] at h
 | (off,r) :: l,i,q,b,h=>by
  simp only [updIn] at h
  split at h
  ·rename_i b' hb
   cases h
   obtain ⟨k,off',r',h1,h2,h3⟩:=updIn_some hb
   exact ⟨k+1,off',r',by simpa using h1,by rwa [show i+(k+1)=i+1+k by omega],h3⟩
  ·split at h <;> try (cases h;done)
   rename_i b' hb
   split at h <;> cases h
   rename_i hD
   exact ⟨0,off,r,rfl,hD,hb⟩
theorem updIn_congr {D D':Nat→Bool} {q:Nat}:∀ {l:Runs} {i:Nat},(∀ k off r b,l[k]? = some (off,r)→lookUpd r.upds q=some b→D (i+k)=D' (i+k))→updIn D l i q=updIn D' l i q
 | [],_,_=>rfl
 | (off,r) :: l,i,h=>by
  simp only [updIn]
  rw [updIn_congr (D:=D) (D':=D') (l:=l) (i:=i+1) fun k off r b hk hb=>by have:=h (k+1) off r b (by simpa using hk) hb;rwa [show i+(k+1)=i+1+k by omega] at this]
  cases hb:lookUpd r.upds q with
  | none=>rfl
  | some b=>have:=h 0 off r b rfl hb;rw [Nat.add_zero] at this;simp only [this]
theorem updIn_take {D:Nat→Bool} {q:Nat}:∀ {l:Runs} {n i:Nat},(∀ k,i+n≤k→D k=false)→updIn D (l.take n) i q=updIn D l i q
 | [],n,_,_=>by simp
 | (off,r) :: l,0,i,h=>by
  cases hu:updIn D ((off,r) :: l) i q with
  | none=>rfl
  | some b =>
   obtain ⟨k,_,_,_,h2,_⟩:=updIn_some hu
   rw [h (i+k) (by omega)] at h2;cases h2
 | (off,r) :: l,n+1,i,h=>by
  simp only [List.take_succ_cons,updIn]
  rw [updIn_take (l:=l) (n:=n) (i:=i+1) fun k hk=>h k (by omega)]
theorem updIn_last {D:Nat→Bool} {q:Nat} {b:Blk}:∀ {l:Runs} {i k off:Nat} {r:SRes},l[k]? = some (off,r)→lookUpd r.upds q=some b→D (i+k)=true→(∀ k' off' r' b',k<k'→l[k']? = some (off',r')→lookUpd r'.upds q=some b'→D (i+k')=false)→updIn D l i q=some b
 | [],_,_,_,_,h,_,_,_=>by simp at h
 | (off0,r0) :: l,i,k,off,r,hk,hb,hD,hno=>by
  simp only [updIn]
  cases k with
  | zero =>
   simp at hk
   obtain ⟨rfl,rfl⟩:=hk
   have:updIn D l (i+1) q=none:=by
    cases hu:updIn D l (i+1) q with
    | none=>rfl
    | some b' =>
     obtain ⟨k',off',r',h1,h2,h3⟩:=updIn_some hu
     have:=hno (k'+1) off' r' b' (by omega) (by simpa using h1) h3
     rw [show i+(k'+1)=i+1+k' by omega,h2] at this;cases this
   rw [this,hb]
   rw [Nat.add_zero] at hD
   simp only [hD]
  | succ k =>
   rw [updIn_last (l:=l) (i:=i+1) (k:=k) (by simpa using hk) hb (by rwa [show i+1+k=i+(k+1) by omega]) fun k' off' r' b' hlt h1 h2=>by
    have:=hno (k'+1) off' r' b' (by omega) (by simpa using h1) h2;rwa [show i+(k'+1)=i+1+k' by omega] at this]
def wkOf (b b0:Blk):Prop:=b=.unk∨b=b0∨b=b0.weak
theorem wkOf_unk {b b0:Blk} (h:wkOf b b0) (hb:b.isUnk=false):b0.isUnk=false:=by
 rcases h with rfl | rfl | rfl
 ·cases hb
 ·exact hb
 ·cases b0 <;> simp_all [Blk.weak,Blk.isUnk]
theorem weak_den {ρ:Env} {w:World} {m:Nm} {b:Blk} (h:b.den ρ w m):b.weak.den ρ w m:=by
 cases b <;> try trivial
 obtain ⟨h0,c,hc,hd⟩:=h
 refine ⟨h0,c,hc,denL_of_get (by rw [denL_length hd];simp) fun i v x hv _=>?_⟩
 rw [List.getElem?_map] at hv
 cases hl:(‹List SV›)[i]? <;> rw [hl] at hv <;> simp at hv
 subst hv;trivial
theorem weak_mine {b:Blk} (h:b.weak.mine=true):b.mine=true:=by cases b <;> first | exact h | rfl
theorem weak_known {b:Blk} (h:b.weak.isUnk=false):b.isUnk=false∧¬ b.ghost:=by cases b <;> first | exact ⟨h,id⟩ | cases h
theorem MemDen.weaken {B:Nat} {M:List Nat} {ρ:Env} {mem mem':Nat→Blk} {w:World} (h:MemDen B M ρ mem w) (hw:∀ q,wkOf (mem' q) (mem q)):MemDen B M ρ mem' w:=by
 have known:∀ q,(mem' q).isUnk=false→(mem q).isUnk=false∧((mem q).ghost→(mem' q).ghost)∧(∀ m,(mem q).den ρ w m→(mem' q).den ρ w m):=by
  intro q hq
  rcases hw q with e | e | e
  ·rw [e] at hq;cases hq
  ·rw [e];rw [e] at hq;exact ⟨hq,id,fun _ h=>h⟩
  ·rw [e];rw [e] at hq;exact ⟨(weak_known hq).1,fun h=>((weak_known hq).2 h).elim,fun _ h=>weak_den h⟩
 refine ⟨fun i hi=>?_,fun i j m m' hne hi hj=>?_,h.seal_,fun i m hi=>h.free i m (known i hi).1,h.pv⟩
 ·obtain ⟨h1,h2,h3⟩:=known i hi
  exact ⟨fun m hm=>let ⟨g2,g3,g4⟩:=h.get h1 hm;⟨g2,h3 m g3,g4⟩,fun hn=>h2 ((h.at_ i h1).2 hn)⟩
 ·exact h.apart i j m m' hne (known i hi).1 (known j hj).1
def drawRun (P:Program) (Γ:Gam) (opsA:Array Oper) (ops:List Oper) (T:List Nat) (s:SState) (U:Olds):List Oper→Runs→Nat→Option (Runs × Nat)
 | [],rs,off=>some (rs,off)
 | o :: l,rs,off=>match xStep P Γ opsA (visSt ops T s U rs rs.length) off o with
  | some r=>drawRun P Γ opsA ops T s U l (rs ++ [(off,r)]) (off+r.news.length)
  | none=>none
structure RunsOk (P:Program) (Γ:Gam) (opsA:Array Oper) (ops:List Oper) (T:List Nat) (s:SState) (U:Olds) (rs:Runs) (n:Nat) (off:Nat):Prop where
 len:rs.length=n
 at_:∀ (i:Nat) (p:Nat × SRes),rs[i]? = some p→∃ o,ops[i]? = some o∧xStep P Γ opsA (visSt ops T s U (rs.take i) i) p.1 o=some p.2
 offs:∀ (i:Nat) (p:Nat × SRes),rs[i]? = some p→s.nx≤p.1∧p.1+p.2.news.length≤off∧∀ (j:Nat) (q:Nat × SRes),j<i→rs[j]? = some q→q.1+q.2.news.length≤p.1
 off:s.nx≤off
theorem drawRun_ok {Γ:Gam} {opsA:Array Oper} {ops:List Oper} {T:List Nat} {s:SState} {U:Olds}:∀ (l:List Oper) (rs:Runs) (off:Nat) (out:Runs) (offE:Nat),(∀ j,l[j]? = ops[rs.length+j]?)→RunsOk P Γ opsA ops T s U rs rs.length off→drawRun P Γ opsA ops T s U l rs off=some (out,offE) →
  RunsOk P Γ opsA ops T s U out (rs.length+l.length) offE
 | [],rs,off,out,offE,_,hr,h=>by simp only [drawRun,Option.some.injEq,Prod.mk.injEq] at h;obtain ⟨rfl,rfl⟩:=h;exact hr
 | o :: l,rs,off,out,offE,hl,hr,h=>by
  simp only [drawRun] at h
  split at h <;> try (cases h;done)
  rename_i r hx
  have ho:ops[rs.length]? = some o:=by simpa using (hl 0).symm
  have hr':RunsOk P Γ opsA ops T s U (rs ++ [(off,r)]) (rs ++ [(off,r)]).length (off+r.news.length):=by
   refine ⟨rfl,fun i p hp=>?_,fun i p hp=>?_,by have:=hr.off;omega⟩
   ·rw [List.getElem?_append] at hp
    split at hp
    ·rename_i hi
     obtain ⟨o',h1,h2⟩:=hr.at_ i p hp
     exact ⟨o',h1,by rw [List.take_append_of_le_length (by omega)];exact h2⟩
    ·rename_i hi
     have hi':i=rs.length:=by
      have:=(List.getElem?_eq_some_iff.1 hp).1
      simp at this;omega
     subst hi'
     simp at hp;subst hp
     exact ⟨o,ho,by simpa using hx⟩
   ·rw [List.getElem?_append] at hp
    split at hp
    ·rename_i hi
     obtain ⟨g1,g2,g3⟩:=hr.offs i p hp
     refine ⟨g1,by omega,fun j q hj hq=>?_⟩
     rw [List.getElem?_append_left (by omega)] at hq
     exact g3 j q hj hq
    ·rename_i hi
     have hi':i=rs.length:=by
      have:=(List.getElem?_eq_some_iff.1 hp).1
      simp at this;omega
     subst hi'
     simp at hp;subst hp
     refine ⟨hr.off,Nat.le_refl _,fun j q hj hq=>?_⟩
     rw [List.getElem?_append_left hj] at hq
     exact (hr.offs j q hq).2.1
  have:=drawRun_ok l _ _ out offE (fun j=>by have:=hl (j+1);simpa [Nat.add_assoc,Nat.add_comm 1 j] using this) hr' h
  simpa [Nat.add_assoc,Nat.add_comm 1] using this
def Blk.likeB:Blk→Blk→Bool
 | .cells e l,.cells e' l'=>Nat.beq e e'&&Nat.beq l.length l'.length
 | .row _ _ _ _,.row _ _ _ _=>true
 | .row _ _ _ _,.unk=>true
 | _,_=>false
def guardsOk (T:List Nat):Nat→List Oper→Bool
 | _,[]=>true
 | i,o :: l=>(match o.guard with | some (g,_)=>bit T i g | none=>true)&&guardsOk T (i+1) l
def updsOk (T:List Nat) (s:SState) (U:Olds) (rs:Runs):Nat→Runs→Bool
 | _,[]=>true
 | i,(_,r) :: l=>(r.upds.all fun u=>(match Nat.blt u.1 s.nx with
   | true=>(s.mem u.1).likeB u.2
   | false=>(match ownerAt rs 0 u.1 with | some (j,b0)=>bit T i j&&b0.likeB u.2 | none=>false))&&((lookUs U u.1).any (Nat.beq i)&&(lookUs U u.1).all fun k=>Nat.beq k i||(match Nat.blt k i with | true=>bit T i k | false=>bit T k i)))&&updsOk T s U rs (i+1) l
theorem guardsOk_at {T:List Nat}:∀ {l:List Oper} {i0:Nat},guardsOk T i0 l=true→∀ {j:Nat} {o:Oper} {g:Nat} {pol:Bool},l[j]? = some o→o.guard=some (g,pol)→bit T (i0+j) g=true
 | [],_,_,j,o,_,_,hj,_=>by simp at hj
 | p :: l,i0,h,j,o,g,pol,hj,hg=>by
  simp only [guardsOk,Bool.and_eq_true] at h
  cases j with
  | zero=>simp at hj;subst hj;have:=h.1;rw [hg] at this;simpa using this
  | succ j=>have:=guardsOk_at h.2 (j:=j) (by simpa using hj) hg;rwa [show i0+(j+1)=i0+1+j by omega]
theorem updsOk_at {T:List Nat} {s:SState} {U:Olds} {rs:Runs}:∀ {l:Runs} {i0:Nat},updsOk T s U rs i0 l=true→∀ {j off:Nat} {r:SRes},l[j]? = some (off,r)→∀ u∈r.upds,
  ((u.1<s.nx∧(s.mem u.1).likeB u.2=true)∨(¬ u.1<s.nx∧∃ q b0,ownerAt rs 0 u.1=some (q,b0)∧bit T (i0+j) q=true∧b0.likeB u.2=true))∧(i0+j)∈lookUs U u.1∧∀ k∈lookUs U u.1,k≠i0+j→(k<i0+j→bit T (i0+j) k=true)∧(i0+j<k→bit T k (i0+j)=true)
 | [],_,_,j,_,_,hj=>by simp at hj
 | (off',r') :: l,i0,h,j,off,r,hj=>by
  simp only [updsOk,Bool.and_eq_true,List.all_eq_true] at h
  cases j with
  | zero =>
   simp at hj
   obtain ⟨rfl,rfl⟩:=hj
   intro u hu
   obtain ⟨h1,h2,h3⟩:=h.1 u hu
   refine ⟨?_,?_,fun k hk hne=>?_⟩
   ·split at h1
    ·rename_i hlt
     exact .inl ⟨by simpa [Nat.blt_eq] using hlt,h1⟩
    ·rename_i hlt
     refine .inr ⟨fun hl=>?_,?_⟩
     ·have:Nat.blt u.1 s.nx=true:=by simpa [Nat.blt_eq] using hl
      rw [this] at hlt;cases hlt
     ·split at h1
      ·rename_i q b0 hq;rw [Bool.and_eq_true] at h1;exact ⟨q,b0,hq,h1.1,h1.2⟩
      ·cases h1
   ·rw [List.any_eq_true] at h2
    obtain ⟨k,hk,he⟩:=h2
    rw [Nat.beq_eq] at he
    rw [Nat.add_zero,he];exact hk
   ·have h4:=h3 k hk
    rw [Bool.or_eq_true,Nat.beq_eq] at h4
    rcases h4 with h4 | h4
    ·exact absurd h4 hne
    ·split at h4
     ·rename_i hlt
      have hlt':k<i0:=by simpa [Nat.blt_eq] using hlt
      exact ⟨fun _=>h4,fun hh=>by omega⟩
     ·rename_i hlt
      refine ⟨fun hh=>?_,fun _=>h4⟩
      have:Nat.blt k i0=true:=by simpa [Nat.blt_eq] using hh
      rw [this] at hlt;cases hlt
  | succ j=>rw [show i0+(j+1)=i0+1+j by omega];exact updsOk_at h.2 (by simpa using hj)
end runs
end Go.Sy
