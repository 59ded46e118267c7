/-
 A symbolic executor for the model's code, part J: regions, in the text's order and in any order. Conditions: none.
-/
import Derived.Test.YtpfipoimpmlmoaaGreatDoorJSyI
namespace Go.Sy
set_option linter.unusedVariables false
set_option linter.unusedSimpArgs false
open Go.RowKit
section runs
variable {P:Program} {rd:Option Nat} {n:Nat}
theorem wpList_step {ops:Array Oper} {o:Oper} {rest:List Oper} {a:Act} {w:World} {Q:Exit→Act→World→Prop}
  (h:if Region.wanted o (yielded ops a.tmps)=true then o.wpIn (FW rd) n P a w (wpListIn (FW rd) n P ops Q rest) Q else wpListIn (FW rd) n P ops Q rest (a.put o.dst undef) w):wpListIn (FW rd) n P ops Q (o :: rest) a w:=by
 unfold wpListIn
 split
 ·rename_i hw;rw [if_pos hw] at h;exact h
 ·rename_i hw;rw [if_neg hw] at h;exact ⟨fun _ _=>trivial,h⟩
def SState.step (s:SState) (off:Nat) (r:SRes):SState :=
 {s.put r.dst r.v with mem:=OpRes.mem { v:=.any,news:=r.news,upds:=r.upds } s.mem off,nx:=s.nx+r.news.length }
theorem xStep_fits {Γ:Gam} {ops:Array Oper} {s:SState} {off:Nat} {o:Oper} {r:SRes} (h:xStep P Γ ops s off o=some r):OpRes.fits { v:=.any,news:=r.news,upds:=r.upds } s.mem off∧r.dst=o.dst:=by
 unfold xStep at h
 split at h
 ·split at h <;> try (cases h;done)
  split at h <;> cases h
  rename_i hf
  exact ⟨fitsB_ok (r:=⟨.any,_,_,[]⟩) hf,rfl⟩
 ·split at h <;> try (cases h;done)
  split at h
  ·split at h
   ·split at h <;> try (cases h;done)
    split at h <;> cases h
    rename_i hf
    exact ⟨fitsB_ok (r:=⟨.any,_,_,[]⟩) hf,rfl⟩
   ·split at h <;> cases h
    exact ⟨⟨fun u hu=>by simp at hu,fun u hu=>by simp at hu⟩,rfl⟩
  split at h <;> try (cases h;done)
  split at h <;> cases h
  exact ⟨⟨fun u hu=>by simp at hu,fun u hu=>by simp at hu⟩,rfl⟩
theorem step_na (s:SState) (off:Nat) (r:SRes):(s.step off r).na=s.na:=by simp only [SState.step,SState.put];split <;> rfl
theorem StDen.step {B:Nat} {M:List Nat} {w0:Base} {ρ ρ':Env} {s:SState} {a:Act} {w w':World} {r:SRes} {x:Value} (h:StDen B M w0 ρ s a w) (hf:OpRes.fits { v:=.any,news:=r.news,upds:=r.upds } s.mem s.nx)
  (hp:SPost ρ ρ' s.nx r a w w' x):StDen B M w0 ρ' (s.step s.nx r) (a.put r.dst x) w':=by
 have hT:=h.tmDen.put hp.post.ext (v:=r.v) (dst:=r.dst) (x:=x) hp.slot
 exact ⟨by rw [put_defs];exact h.defs.step hp.post hf,hT.size,hT.tmp,fun i hi=>by
   have hi':s.nx+r.news.length≤i:=hi
   rw [hp.post.old i (.inr hi')]
   exact h.fresh i (by omega),hp.post.memDen h.mem hf h.base,hp.post.kept h.mem hf h.kept h.base,by have:=hp.post.size;have:=h.base;omega,h.ext.trans hp.post.ext,h.argn,fun i hi=>by
   rw [hp.post.old i (.inl (by have:=h.nale;omega))];exact h.argl i hi,(step_na s s.nx r).trans h.nab,by show w0.n≤s.nx+r.news.length;have:=h.nale;omega,h.odb.step hp.post.odn h.base,h.mz⟩
structure SealP where
 t:Nat
 j:Nat
 v:SV
 ns:List Bool
def sealRow (row:Blk) (c:Nat) (bj:Blk) (z n t j:Nat):Option SealP:=match row,bj with
 | .row _ sh' _ _,.row _ sh m d=>(match sh'[c]? with
  | some (.sl shx)=>(match kdsEq shx sh&&Nat.beq z sh.length with
   | true=>some ⟨t,j,.ro sh n d,[decide (n≤m)]⟩
   | false=>none)
  | _=>none)
 | _,_=>none
def sealAs (s:SState) (t:Nat):Option SealP:=match s.tm t with
 | .gr j z n=>(match s.mem j with
  | .row _ sh m d=>(match Nat.beq z sh.length with
   | true=>some ⟨t,j,.ro sh n d,[decide (n≤m)]⟩
   | false=>none)
  | _=>none)
 | .own j z n=>(match s.mem j with
  | .row _ sh m d=>(match Nat.beq z sh.length with
   | true=>some ⟨t,j,.ro sh n d,[decide (n≤m)]⟩
   | false=>none)
  | _=>none)
 | _=>none
def sealAt (f:Bool) (s:SState) (o:Oper):Option SealP:=match o.op with
 | .assign (.tmp t)=>(match f&&(Nat.beq s.na 0&&Nat.blt t s.nt) with
  | true=>sealAs s t
  | false=>none)
 | .store _ x (.tmp t)=>(match Nat.beq s.na 0&&Nat.blt t s.nt with
  | true=>(match ev s [] x,s.tm t with
   | .elt i _ _ c,.gr j z n=>(match Nat.beq i j with | true=>none | false=>sealRow (s.mem i) c (s.mem j) z n t j)
   | .elt i _ _ c,.own j z n=>(match Nat.beq i j with | true=>none | false=>sealRow (s.mem i) c (s.mem j) z n t j)
   | _,_=>none)
  | false=>none)
 | _=>none
def sealSt (s:SState) (p:SealP):SState:={ s with tm:=fun i=>if i=p.t then p.v else s.tm i,mem:=fun i=>if i=p.j then .unk else s.mem i }
open Classical in
theorem StDen.sealRow {B:Nat} {M:List Nat} {w0:Base} {ρ:Env} {s:SState} {a:Act} {w:World} (h:StDen B M w0 ρ s a w) (hM:M=[]) {j e m n t:Nat} {sh:List Kd} {d:Dat} (hj:s.mem j=.row e sh m d) (hnm:n≤m)
  (ht:∀ x,a.tmps[t]? = some x→(n=0∧∃ A,x=.slice A 0 0)∨∃ mm,ρ j=some mm∧mm.off=0∧n≤mm.cap∧x=.slice (some ⟨mm.blk,0,none⟩) n mm.cap) (ns:List Bool):∃ ρ',StDen B M w0 ρ' (sealSt s ⟨t,j,.ro sh n d,ns⟩) a w:=by
 let S:Nat→Prop:=fun b=>∃ mm,ρ j=some mm∧mm.blk=b
 let od':Od:=⟨fun b o=>if S b then w.cell? ⟨b,o,none⟩ else ρ.od b o,ρ.od.m,ρ.od.p⟩
 have hE:OdExt ρ.od od':=.ofC fun b o y hy=>by
  show (if S b then w.cell? ⟨b,o,none⟩ else ρ.od b o)=some y
  split
  ·exact h.mem.seal_ b o y hy
  ·exact hy
 have hX:Ext ρ ⟨ρ.nm,od',ρ.gl.ext hE⟩:=⟨fun _ _ h=>h,hE⟩
 have hjk:(s.mem j).isUnk=false:=by rw [hj];rfl
 have mk:∀ i,((sealSt s ⟨t,j,.ro sh n d,ns⟩).mem i).isUnk=false→i≠j∧(sealSt s ⟨t,j,.ro sh n d,ns⟩).mem i=s.mem i:=fun i hi=>by
  by_cases e:i=j
  ·subst e;simp [sealSt,Blk.isUnk] at hi
  ·exact ⟨e,by simp [sealSt,e]⟩
 have nS:∀ i m',i≠j→(s.mem i).isUnk=false→ρ i=some m'→¬ S m'.blk:=fun i m' hne hi hm ⟨mm,hmm,e⟩=>h.mem.apart j i mm m' (Ne.symm hne) hjk hi hmm hm e
 refine ⟨⟨ρ.nm,od',ρ.gl.ext hE⟩,h.defs.map fun b o hb=>⟨hb.at_,fun i m' hi hm=>?_,fun k=>?_,hb.nom⟩,h.size,fun i x hx=>?_,h.fresh,⟨fun i hi=>?_,fun i i' m1 m2 hne hi hi' h1 h2=>?_,⟨fun b o y hy=>?_,h.mem.seal_.m,fun b i hp=>let ⟨⟨v,hv⟩,g⟩:=h.mem.seal_.p b i hp;⟨⟨v,hE b 0 v hv⟩,g⟩⟩,fun i m' hi hm o=>?_,h.mem.pv⟩,h.kept,h.base,h.ext.trans hX,h.argn,h.argl,h.nab,h.nale,⟨fun b o y hy=>?_,h.odb.m,h.odb.p⟩,h.mz⟩
 ·obtain ⟨_,e⟩:=mk i hi
  rw [e] at hi
  exact hb.off i m' hi hm
 ·show (if S b then w.cell? ⟨b,k,none⟩ else ρ.od b k)=none
  rw [if_neg]
  ·exact hb.nod k
  ·rintro ⟨mm,hmm,e⟩;exact hb.off j mm hjk hmm e
 ·have hs:=h.tmp i x hx
  show slotDen _ a (if i=t then .ro sh n d else s.tm i) x
  split
  ·rename_i e
   subst e
   show (SV.ro sh n d).den _ x
   rcases ht x hx with ⟨rfl,A,rfl⟩ | ⟨mm,hmm,h0,hc,rfl⟩
   ·exact ⟨A,0,rfl,⟨Nat.le_refl _,fun _=>rfl⟩,fun h=>absurd h (Nat.lt_irrefl _)⟩
   ·refine ⟨_,_,rfl,⟨hc,fun h=>by cases h⟩,fun _=>⟨mm.blk,0,rfl,fun q hq=>?_⟩⟩
    obtain ⟨_,hb,_⟩:=h.mem.get hjk hmm
    rw [hj] at hb
    obtain ⟨_,_,_,hel⟩:=hb
    refine (kdE_iff (ρ:=⟨ρ.nm,od',ρ.gl.ext hE⟩)).2 fun c v hv=>?_
    obtain ⟨y,hy,hd⟩:=(hel q (by omega)).2 c v hv
    refine ⟨y,?_,SV.den_mono hX _ _ hd⟩
    show (if S mm.blk then w.cell? ⟨mm.blk,0+q * sh.length+c,none⟩ else ρ.od mm.blk (0+q * sh.length+c))=some y
    rw [if_pos ⟨mm,hmm,rfl⟩,← hy,h0,Nat.zero_add,Nat.zero_add]
  ·cases hs':s.tm i <;> rw [hs'] at hs <;> first | exact SV.den_mono hX _ _ hs | exact slotDen_mono hX hs
 ·obtain ⟨hne,e⟩:=mk i hi
  rw [e] at hi ⊢
  refine ⟨fun m' hm=>?_,(h.mem.at_ i hi).2⟩
  obtain ⟨g1,g2,g3⟩:=h.mem.get hi hm
  exact ⟨g1,Blk.den_mono g2 hX,g3⟩
 ·obtain ⟨_,e⟩:=mk i hi
  obtain ⟨_,e'⟩:=mk i' hi'
  rw [e] at hi
  rw [e'] at hi'
  exact h.mem.apart i i' m1 m2 hne hi hi' h1 h2
 ·have hy':(if S b then w.cell? ⟨b,o,none⟩ else ρ.od b o)=some y:=hy
  split at hy'
  ·exact hy'
  ·exact h.mem.seal_ b o y hy'
 ·obtain ⟨hne,e⟩:=mk i hi
  rw [e] at hi
  show (if S m'.blk then w.cell? ⟨m'.blk,o,none⟩ else ρ.od m'.blk o)=none
  rw [if_neg (nS i m' hne hi hm)]
  exact h.mem.free i m' hi hm o
 ·have hy':(if S b then w.cell? ⟨b,o,none⟩ else ρ.od b o)=some y:=hy
  split at hy'
  ·rename_i hS
   obtain ⟨mm,hmm,rfl⟩:=hS
   rcases (h.mem.get hjk hmm).2.2 with h1 | h1
   ·exact .inr h1
   ·rw [hM] at h1;cases h1
  ·exact h.odb b o y hy'
theorem StDen.sealAs {B:Nat} {M:List Nat} {w0:Base} {ρ:Env} {s:SState} {a:Act} {w:World} (h:StDen B M w0 ρ s a w) (h0:s.na=0) {t:Nat} {p:SealP} (hp:Go.Sy.sealAs s t=some p) (hn:∀ b∈p.ns,b=true):∃ ρ',StDen B M w0 ρ' (sealSt s p) a w:=by
 have hM:M=[]:=h.mz (by rw [← h.nab];exact h0)
 unfold Go.Sy.sealAs at hp
 split at hp <;> try (cases hp;done)
 ·rename_i j z n ht
  split at hp <;> try (cases hp;done)
  rename_i hj
  split at hp <;> cases hp
  refine h.sealRow hM hj (by simpa using hn) (fun x hx=>?_) _
  have hs:=h.tmp t x hx
  rw [ht] at hs
  exact hs
 ·rename_i j z n ht
  split at hp <;> try (cases hp;done)
  rename_i hj
  split at hp <;> cases hp
  refine h.sealRow hM hj (by simpa using hn) (fun x hx=>?_) _
  have hs:=h.tmp t x hx
  rw [ht] at hs
  exact .inr hs
theorem StDen.sealAt {B:Nat} {M:List Nat} {w0:Base} {ρ:Env} {s:SState} {a:Act} {w:World} (h:StDen B M w0 ρ s a w) {f:Bool} {o:Oper} {p:SealP} (hp:sealAt f s o=some p) (hn:∀ b∈p.ns,b=true):∃ ρ',StDen B M w0 ρ' (sealSt s p) a w:=by
 unfold Go.Sy.sealAt at hp
 split at hp
 ·rename_i t hop
  split at hp <;> try (cases hp;done)
  rename_i hc
  simp only [Bool.and_eq_true,Nat.beq_eq] at hc
  exact h.sealAs hc.2.1 hp hn
 rotate_left
 ·cases hp
 rename_i _ _ t hop
 split at hp <;> try (cases hp;done)
 rename_i hc
 simp only [Bool.and_eq_true,Nat.beq_eq] at hc
 have hM:M=[]:=h.mz (by rw [← h.nab];exact hc.1)
 have row:∀ {i c j z n:Nat},Go.Sy.sealRow (s.mem i) c (s.mem j) z n t j=some p→(∀ x,a.tmps[t]? = some x→(n=0∧∃ A,x=.slice A 0 0)∨∃ mm,ρ j=some mm∧mm.off=0∧n≤mm.cap∧x=.slice (some ⟨mm.blk,0,none⟩) n mm.cap)→∃ ρ',StDen B M w0 ρ' (sealSt s p) a w:=by
  intro i c j z n hr ht
  unfold Go.Sy.sealRow at hr
  split at hr <;> try (cases hr;done)
  rename_i hj
  split at hr <;> try (cases hr;done)
  split at hr <;> cases hr
  exact h.sealRow hM hj (by simpa using hn) ht _
 split at hp <;> try (cases hp;done)
 ·rename_i i _ _ c j z n _ ht
  split at hp <;> try (cases hp;done)
  refine row hp fun x hx=>?_
  have hs:=h.tmp t x hx
  rw [ht] at hs
  exact hs
 ·rename_i i _ _ c j z n _ ht
  split at hp <;> try (cases hp;done)
  refine row hp fun x hx=>?_
  have hs:=h.tmp t x hx
  rw [ht] at hs
  exact .inr hs
def xSeq0 (P:Program) (Γ:Gam) (ops:Array Oper):List Oper→SState→(SState→Prop)→Prop
 | [],s,k=>k s
 | o :: l,s,k=>match sealAt (Γ.c 4).isSome s o with
  | some p=>needs p.ns (match xStep P Γ ops (sealSt s p) s.nx o with
   | some r=>needs r.need (xSeq0 P Γ ops l ((sealSt s p).step s.nx r) k)
   | none=>False)
  | none=>match xStep P Γ ops s s.nx o with
   | some r=>needs r.need (xSeq0 P Γ ops l (s.step s.nx r) k)
   | none=>False
theorem xSeq0_wp {Γ:Gam} (hΓ:GamOk P Γ) {B:Nat} {M:List Nat} {w0:Base} {ops:Array Oper} {Q:Exit→Act→World→Prop} {k:SState→Prop} (hk:∀ s ρ a w,StDen B M w0 ρ s a w→k s→Q .normal a w) :
  ∀ (l:List Oper) (s:SState) (ρ:Env) (a:Act) (w:World),StDen B M w0 ρ s a w→xSeq0 P Γ ops l s k→wpListIn (FW rd) n P ops Q l a w
 | [],s,ρ,a,w,h,hx=>hk s ρ a w h hx
 | o :: l,s,ρ,a,w,h,hx=>by
  have go:∀ (s:SState) (ρ:Env),StDen B M w0 ρ s a w→(match xStep P Γ ops s s.nx o with
    | some r=>needs r.need (xSeq0 P Γ ops l (s.step s.nx r) k)
    | none=>False)→wpListIn (FW rd) n P ops Q (o :: l) a w:=by
   intro s ρ h hx
   split at hx <;> try exact hx.elim
   rename_i r hr
   rw [needs_iff] at hx
   obtain ⟨hn,hx⟩:=hx
   obtain ⟨hf,hd⟩:=xStep_fits hr
   apply wpList_step
   refine xStep_wp hΓ hr hn h.tmDen h.mem h.base (fun j _=>h.fresh _ (by omega)) fun x w' ρ' hp=>?_
   rw [← hd]
   exact xSeq0_wp hΓ hk l _ ρ' _ w' (h.step hf hp) hx
  simp only [xSeq0] at hx
  split at hx
  ·rename_i p hp
   rw [needs_iff] at hx
   obtain ⟨ρ',h'⟩:=h.sealAt hp hx.1
   exact go (sealSt s p) ρ' h' hx.2
  ·exact go s ρ h hx
def SState.grant (s:SState) (t:Nat) (v:Bool):SState:={ s with as:=some (t,v) }
def SState.ungrant (s:SState):SState:={ s with as:=none }
theorem StDen.grant {B:Nat} {M:List Nat} {w0:Base} {ρ:Env} {s:SState} {a:Act} {w:World} (h:StDen B M w0 ρ s a w) (t:Nat) (v:Bool):StDen B M w0 ρ (s.grant t v) a w :=
 ⟨h.defs,h.size,h.tmp,h.fresh,h.mem,h.kept,h.base,h.ext,h.argn,h.argl,h.nab,h.nale,h.odb,h.mz⟩
theorem StDen.ungrant {B:Nat} {M:List Nat} {w0:Base} {ρ:Env} {s:SState} {a:Act} {w:World} (h:StDen B M w0 ρ s a w):StDen B M w0 ρ s.ungrant a w :=
 ⟨h.defs,h.size,h.tmp,h.fresh,h.mem,h.kept,h.base,h.ext,h.argn,h.argl,h.nab,h.nale,h.odb,h.mz⟩
def gSlot (ops:Array Oper) (o:Oper):Option Nat:=match o.guard with
 | some (j,_)=>(ops[j]?).bind (·.dst)
 | none=>none
def xSeq (P:Program) (Γ:Gam) (ops:Array Oper):List Oper→SState→(SState→Prop)→Prop
 | [],s,k=>k s
 | o :: l,s,k=>match sealAt (Γ.c 4).isSome s o with
  | some p=>needs p.ns (match xStep P Γ ops (sealSt s p) s.nx o with
   | some r=>needs r.need (xSeq P Γ ops l ((sealSt s p).step s.nx r) k)
   | none=>False)
  | none=>match xStep P Γ ops s s.nx o with
   | some r=>needs r.need (xSeq P Γ ops l (s.step s.nx r) k)
   | none=>match gSlot ops o with
    | some t=>(match s.tm t with
     | .bool b=>cnd b (xSeq0 P Γ ops (o :: l) (s.grant t true) fun s'=>k s'.ungrant) (xSeq0 P Γ ops (o :: l) (s.grant t false) fun s'=>k s'.ungrant)
     | _=>False)
    | none=>False
theorem xSeq_wp {Γ:Gam} (hΓ:GamOk P Γ) {B:Nat} {M:List Nat} {w0:Base} {ops:Array Oper} {Q:Exit→Act→World→Prop} {k:SState→Prop} (hk:∀ s ρ a w,StDen B M w0 ρ s a w→k s→Q .normal a w) :
  ∀ (l:List Oper) (s:SState) (ρ:Env) (a:Act) (w:World),StDen B M w0 ρ s a w→xSeq P Γ ops l s k→wpListIn (FW rd) n P ops Q l a w
 | [],s,ρ,a,w,h,hx=>hk s ρ a w h hx
 | o :: l,s,ρ,a,w,h,hx=>by
  have go:∀ (s:SState) (ρ:Env) {r:SRes},StDen B M w0 ρ s a w→xStep P Γ ops s s.nx o=some r→needs r.need (xSeq P Γ ops l (s.step s.nx r) k)→wpListIn (FW rd) n P ops Q (o :: l) a w:=by
   intro s ρ r h hr hx
   rw [needs_iff] at hx
   obtain ⟨hn,hx⟩:=hx
   obtain ⟨hf,hd⟩:=xStep_fits hr
   apply wpList_step
   refine xStep_wp hΓ hr hn h.tmDen h.mem h.base (fun j _=>h.fresh _ (by omega)) fun x w' ρ' hp=>?_
   rw [← hd]
   exact xSeq_wp hΓ hk l _ ρ' _ w' (h.step hf hp) hx
  simp only [xSeq] at hx
  split at hx
  ·rename_i p hp
   rw [needs_iff] at hx
   obtain ⟨ρ',h'⟩:=h.sealAt hp hx.1
   have hx2:=hx.2
   split at hx2 <;> try exact hx2.elim
   rename_i r hr
   exact go (sealSt s p) ρ' h' hr hx2
  ·split at hx
   ·rename_i r hr
    exact go s ρ h hr hx
   ·split at hx <;> try exact hx.elim
    rename_i t _
    split at hx <;> try exact hx.elim
    rename_i b _
    rw [cnd_iff] at hx
    have hk':∀ s ρ a w,StDen B M w0 ρ s a w→k s.ungrant→Q .normal a w:=fun s ρ a w h hx=>hk _ ρ a w h.ungrant hx
    cases b with
    | true=>exact xSeq0_wp hΓ hk' (o :: l) _ ρ a w (h.grant t true) (hx.1 rfl)
    | false=>exact xSeq0_wp hΓ hk' (o :: l) _ ρ a w (h.grant t false) (hx.2 rfl)
theorem StDen.drew {B:Nat} {M:List Nat} {w0:Base} {ρ:Env} {s:SState} {a:Act} {w:World} (h:StDen B M w0 ρ s a w):StDen B M w0 ρ s a { w with drawn:=w.drawn+1 } :=
 ⟨h.defs.same rfl,h.size,h.tmp,h.fresh,⟨fun i hi=>⟨fun m hm=>let ⟨h2,h3,h4⟩:=h.mem.get hi hm;⟨h2,Blk.den_same h3 rfl,h4⟩,(h.mem.at_ i hi).2⟩,h.mem.apart,⟨h.mem.seal_.c,h.mem.seal_.m,h.mem.seal_.p⟩,h.mem.free,h.mem.pv.same fun _ _=>rfl⟩,⟨h.kept.os,h.kept.tape,h.kept.output,h.kept.size,h.kept.block⟩,h.base,h.ext,h.argn,h.argl,h.nab,h.nale,h.odb,h.mz⟩
end runs
end Go.Sy
