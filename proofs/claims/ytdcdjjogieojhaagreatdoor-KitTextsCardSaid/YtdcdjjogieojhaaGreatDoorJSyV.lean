/-
 A symbolic executor for the model's code, part V: loops; contracts of functions. Conditions: none.
-/
import Derived.Test.YtdcdjjogieojhaaGreatDoorJSyU
namespace Go.Sy
set_option linter.unusedVariables false
set_option linter.unusedSimpArgs false
open Go.RowKit
set_option linter.unusedSectionVars false
variable [Globs]
section runs
variable {P:Program}
abbrev XR:=XE→List SV→List Blk→Prop
def canonK (na nt:Nat) (Lh Le:List Nat) (nx:Nat) (gl:List GL) (R:XR):Kont:=fun e s=>match e with
 | .normal=>cz na nt Lh nx gl s (R .normal)
 | .exit j=>cz na nt Le nx gl s (R (.exit j))
 | .ret=>cz na nt Le nx gl s (R .ret)
theorem cz_get {na nt:Nat} {L:List Nat} {nx:Nat} {gl:List GL} {s:SState} {K:List SV→List Blk→Prop} (h:cz na nt L nx gl s K):∃ r,czv na nt L nx gl s=some r∧K r.1 r.2:=by
 unfold cz at h
 split at h
 ·rename_i r hr;exact ⟨r,hr,h⟩
 ·exact h.elim
theorem loop_ok {ι:Type} {L:Tab} {Λ:Lam} {fuel:Nat} {c:Code} {na nt nx:Nat} {Lh Le:List Nat} {gl:List GL} (hf:LOk P (exec P L Λ fuel c) c) (G:Nat→ι→XR→Prop) (va:ι→List SV) (ba:ι→List Blk) (h0:∀ x K,¬ G 0 x K)
  (hs:∀ f x K,G (f+1) x K→exec P L Λ fuel c (mkSt na nt Lh (va x) nx (ba x)) (canonK na nt Lh Le nx gl fun e vs bs=>match e with | .normal=>∃ y,vs=va y∧bs=ba y∧G f y K | .exit j=>K (.exit j) vs bs | .ret=>K .ret vs bs)) :
  LOk P (fun s k=>cz na nt Lh nx gl s fun vs bs=>∃ f x,vs=va x∧bs=ba x∧G f x fun e vs bs=>k e (mkSt na nt Le vs nx bs)) (.loop c):=by
 intro rd nn B M w0 s k ρ a w Q hr0 hd hg hk
 obtain ⟨r,hr,f,x,e1,e2,hG⟩:=cz_get hg
 obtain ⟨ρ1,hd1⟩:=cz_ok hd hr
 rw [e1,e2] at hd1
 clear e1 e2 hd hg hr
 have key:∀ (f:Nat) (x:ι) (ρ:Env) (a:Act) (w:World),StDen B M w0 ρ (mkSt na nt Lh (va x) nx (ba x)) a w→(G f x fun e vs bs=>k e (mkSt na nt Le vs nx bs))→Code.roundsIn (FW rd) nn P c Q f a w:=by
  intro f
  induction f with
  | zero=>intro x ρ a w _ hG;exact (h0 x _ hG).elim
  | succ f ih =>
   intro x ρ a w hd hG
   rw [roundsIn_succ]
   refine hf rd nn B M w0 _ _ ρ a w _ hr0.lp hd (hs f x _ hG) fun e s' ρ' a' w' hs' hk'=>?_
   cases e with
   | normal =>
    have hk2:=hk'
    simp only [canonK] at hk2
    obtain ⟨r,hr,y,e1,e2,hG'⟩:=cz_get hk2
    obtain ⟨ρ2,h1⟩:=cz_ok hs' hr
    rw [e1,e2] at h1
    exact ih y ρ2 a' w' h1 hG'
   | exit j =>
    have hk2:=hk'
    simp only [canonK] at hk2
    obtain ⟨r,hr,h2⟩:=cz_get hk2
    obtain ⟨ρ2,h1⟩:=cz_ok hs' hr
    exact hk (.exit j) _ ρ2 a' w' h1 h2
   | ret =>
    have hk2:=hk'
    simp only [canonK] at hk2
    obtain ⟨r,hr,h2⟩:=cz_get hk2
    obtain ⟨ρ2,h1⟩:=cz_ok hs' hr
    exact hk .ret _ ρ2 a' w' h1 h2
 exact wpIn_loop_rounds f (key f x ρ1 a w hd1 hG)
def inBlk (id:Nat) (K:Kont):Kont:=fun e s=>match e with
 | .normal=>K .normal s
 | .exit j=>match Nat.beq j id with
  | true=>K .normal s
  | false=>K (.exit j) s
 | .ret=>K .ret s
theorem blk_ok {g:LSum} {c:Code} {id:Nat} (h:LOk P g c):LOk P (fun s k=>g s (inBlk id k)) (.block id c):=by
 intro rd nn B M w0 s k ρ a w Q hr0 hd hg hk
 refine wpIn_block (h rd nn B M w0 s _ ρ a w _ hr0.bk hd hg fun e s' ρ' a' w' hs' hk'=>?_)
 cases e with
 | normal=>exact hk .normal _ _ _ _ hs' hk'
 | exit j =>
  show Exit.inBlock id Q (.exit j) a' w'
  simp only [Exit.inBlock]
  simp only [inBlk] at hk'
  split at hk'
  ·rename_i hj;rw [Nat.beq_eq] at hj;rw [if_pos hj];exact hk .normal _ _ _ _ hs' hk'
  ·rename_i hj;rw [if_neg (Nat.ne_of_beq_eq_false hj)];exact hk (.exit j) _ _ _ _ hs' hk'
 | ret=>exact hk .ret _ _ _ _ hs' hk'
theorem lok_mono {g g':LSum} {c:Code} (h:LOk P g c) (hm:∀ s k,g' s k→g s k):LOk P g' c :=
 fun rd nn B M w0 s k ρ a w Q hr hd hg hk=>h rd nn B M w0 s k ρ a w Q hr hd (hm s k hg) hk
def lamOf:List (Nat × LSum)→Lam
 | [],_=>none
 | p :: l,f=>match Nat.beq p.1 f with
  | true=>some p.2
  | false=>lamOf l f
def GG {α κ:Type} (df:α) (E:α→κ→Prop) (K:κ) (o:Option α):Prop:=o.isSome=true∧E (o.getD df) K
theorem gg_t {α κ:Type} {df:α} {E:α→κ→Prop} {K:κ} {b:Bool} {x y:Option α} (h:b=true) (k:GG df E K (cond b x y)):GG df E K x:=by subst h;exact k
theorem gg_f {α κ:Type} {df:α} {E:α→κ→Prop} {K:κ} {b:Bool} {x y:Option α} (h:b=false) (k:GG df E K (cond b x y)):GG df E K y:=by subst h;exact k
theorem gg_n {α κ:Type} {df:α} {E:α→κ→Prop} {K:κ} {b:Bool} {x:Option α} (k:GG df E K (cond b x none)):b=true:=by
 cases b with
 | true=>rfl
 | false=>have:=k.1;cases this
theorem gg_none {α κ:Type} {df:α} {E:α→κ→Prop} {K:κ}:¬ GG df E K none:=fun h=>by have:=h.1;cases this
def blkL:Code→List (Nat × Code)
 | .seq a b=>blkL a ++ blkL b
 | .cond _ a b=>blkL a ++ blkL b
 | .block i a=>(i,a) :: blkL a
 | .loop a=>blkL a
 | .rangeFunc _ _ _ a=>blkL a
 | _=>[]
theorem blkL_of:∀ {c:Code} {id:Nat} {b:Code},hasBlk c id b↔(id,b)∈blkL c:=by
 intro c
 induction c with
 | seq a b iha ihb=>intro id d;simp only [hasBlk,blkL,List.mem_append,iha,ihb]
 | cond x a b iha ihb=>intro id d;simp only [hasBlk,blkL,List.mem_append,iha,ihb]
 | block i a ih =>
  intro id d
  simp only [hasBlk,blkL,List.mem_cons,ih,Prod.mk.injEq]
  constructor
  ·rintro (⟨rfl,rfl⟩ | h)
   ·exact .inl ⟨rfl,rfl⟩
   ·exact .inr h
  ·rintro (⟨rfl,rfl⟩ | h)
   ·exact .inl ⟨rfl,rfl⟩
   ·exact .inr h
 | loop a ih=>intro id d;simp only [hasBlk,blkL,ih]
 | rangeFunc f ps x a _ ih=>intro id d;simp only [hasBlk,blkL,ih]
 | _=>intro id d;simp [hasBlk,blkL]
theorem blkL_trans:∀ {c:Code} {id:Nat} {b:Code},(id,b)∈blkL c→∀ {p:Nat × Code},p∈blkL b→p∈blkL c:=by
 intro c
 induction c with
 | seq a b iha ihb =>
  intro id d h p hp
  simp only [blkL,List.mem_append] at h ⊢
  exact h.elim (fun h=>.inl (iha h hp)) fun h=>.inr (ihb h hp)
 | cond x a b iha ihb =>
  intro id d h p hp
  simp only [blkL,List.mem_append] at h ⊢
  exact h.elim (fun h=>.inl (iha h hp)) fun h=>.inr (ihb h hp)
 | block i a ih =>
  intro id d h p hp
  simp only [blkL,List.mem_cons,Prod.mk.injEq] at h ⊢
  rcases h with ⟨rfl,rfl⟩ | h
  ·exact .inr hp
  ·exact .inr (ih h hp)
 | loop a ih=>intro id d h p hp;simp only [blkL] at h ⊢;exact ih h hp
 | rangeFunc f ps x a _ ih=>intro id d h p hp;simp only [blkL] at h ⊢;exact ih h hp
 | _=>intro id d h;simp [blkL] at h
def lookB:List (Nat × Code)→Nat→Code
 | [],_=>.skip
 | p :: l,id=>match Nat.beq p.1 id with
  | true=>p.2
  | false=>lookB l id
def bodyAt (c:Code) (id:Nat):Code:=lookB (blkL c) id
def unloop:Code→Code
 | .loop c=>c
 | .rangeFunc _ _ _ c=>c
 | _=>.skip
theorem lookB_mem:∀ {l:List (Nat × Code)} {id:Nat},lookB l id=.skip∨(id,lookB l id)∈l
 | [],_=>.inl rfl
 | p :: l,id=>by
  simp only [lookB]
  split
  ·rename_i h;rw [Nat.beq_eq] at h;subst h;exact .inr (by simp)
  ·rcases lookB_mem (l:=l) (id:=id) with h | h
   ·exact .inl h
   ·exact .inr (List.mem_cons_of_mem _ h)
theorem lookB_eq:∀ {l:List (Nat × Code)} {id:Nat} {b:Code},nodupB (l.map (·.1))=true→(id,b)∈l→lookB l id=b
 | p :: l,id,b,hn,h=>by
  simp only [List.map_cons,nodupB,Bool.and_eq_true] at hn
  simp only [lookB]
  rcases List.mem_cons.1 h with rfl | h
  ·simp [Nat.beq_refl]
  ·have hne:p.1≠id:=by
    intro e
    subst e
    have:=hn.1
    simp at this
    exact this p.1 b h rfl
   have:Nat.beq p.1 id=false:=by
    cases h:Nat.beq p.1 id with
    | false=>rfl
    | true=>rw [Nat.beq_eq] at h;exact absurd h hne
   rw [this]
   exact lookB_eq hn.2 h
def LamOk (P:Program) (c:Code) (Λ:Lam):Prop:=∀ id b g,hasBlk c id b→Λ id=some g→LOk P g (.block id b)
theorem lam_sub {c:Code} {Λ:Lam} (h:LamOk P c Λ) (j:Nat):LamOk P (unloop (bodyAt c j)) Λ:=by
 intro id b g hb hg
 refine h id b g ?_ hg
 rw [blkL_of] at hb ⊢
 unfold bodyAt at hb
 rcases lookB_mem (l:=blkL c) (id:=j) with e | e
 ·rw [e] at hb;simp [unloop,blkL] at hb
 ·refine blkL_trans e ?_
  generalize lookB (blkL c) j=d at hb
  cases d <;> simp [unloop,blkL] at hb ⊢
  all_goals exact hb
theorem lam_of {c:Code} (hn:nodupB ((blkL c).map (·.1))=true) {l:List (Nat × LSum)} (hl:∀ p∈l,LOk P p.2 (.block p.1 (bodyAt c p.1))):LamOk P c (lamOf l):=by
 intro id b g hb hg
 rw [blkL_of] at hb
 have e:=lookB_eq hn hb
 clear hb
 induction l with
 | nil=>cases hg
 | cons p l ih =>
  simp only [lamOf] at hg
  split at hg
  ·rename_i h
   rw [Nat.beq_eq] at h
   cases hg
   have:=hl p (by simp)
   unfold bodyAt at this
   rw [h,e] at this
   exact this
  ·exact ih (fun q hq=>hl q (List.mem_cons_of_mem _ hq)) hg
theorem lams_nil {c:Code}:∀ p∈([]:List (Nat × LSum)),LOk P p.2 (.block p.1 (bodyAt c p.1)):=fun _ h=>by cases h
theorem lams_cons {c:Code} {id:Nat} {g:LSum} {l:List (Nat × LSum)} (h:LOk P g (.block id (bodyAt c id))) (hl:∀ p∈l,LOk P p.2 (.block p.1 (bodyAt c p.1))):∀ p∈(id,g) :: l,LOk P p.2 (.block p.1 (bodyAt c p.1)):=by
 intro p hp
 rcases List.mem_cons.1 hp with rfl | hp
 ·exact h
 ·exact hl p hp
theorem loop_blk {ι:Type} {L:Tab} (hL:TabOk P L) (hmix:P.follows .mixedOrders=true) {Λ:Lam} {fuel:Nat} {c:Code} {id:Nat} (hΛ:LamOk P c Λ) (hc:bodyAt c id=.loop (unloop (bodyAt c id))) {na nt nx:Nat} {Lh Le:List Nat} {gl:List GL} (G:Nat→ι→XR→Prop) (va:ι→List SV) (ba:ι→List Blk) (h0:∀ x K,¬ G 0 x K)
  (hs:∀ f x K,G (f+1) x K→exec P L Λ fuel (unloop (bodyAt c id)) (mkSt na nt Lh (va x) nx (ba x)) (canonK na nt Lh Le nx gl fun e vs bs=>match e with | .normal=>∃ y,vs=va y∧bs=ba y∧G f y K | .exit j=>K (.exit j) vs bs | .ret=>K .ret vs bs))
  {g:LSum} (hg:∀ s k,g s k→∃ r,czv na nt Lh nx gl s=some r∧∃ f x,r.1=va x∧r.2=ba x∧G f x fun e vs bs=>inBlk id k e (mkSt na nt Le vs nx bs)) :
  LOk P g (.block id (bodyAt c id)):=by
 rw [hc]
 refine lok_mono (blk_ok (loop_ok (gl:=gl) (exec_wp hL hmix _ (lam_sub hΛ id)) G va ba h0 hs)) fun s k h=>?_
 obtain ⟨r,hr,f,x,h1,h2,h3⟩:=hg s k h
 unfold cz
 rw [hr]
 exact ⟨f,x,h1,h2,h3⟩
def resOf (na:Nat) (q:SV × List Blk × List Blk) (ns:List Bool):OpRes:={ v:=q.1,news:=q.2.2,upds:=(List.range na).zip q.2.1,need:=ns }
theorem ctr_of {L:Tab} (hL:TabOk P L) (hmix:P.follows .mixedOrders=true) {Λ:Lam} (fuel:Nat) {f:FuncId} {fn:Func} {c:Code} (hf:P.funcs[f]? = some fn) (hb:fn.body=some c) (hname:(fn.name == "runtime.NumGoroutine")=false) (hΛ:∀ id b g,hasBlk c id b→Λ id=some g→LOk P g (.block id b))
  {hs:List H} {m:List SV→List Blk→Option OpRes} {grs:List Nat} {rh:RH}
  (h:∀ vs bs q,m vs bs=some q→q.need_ok→∃ Q,q=resOf bs.length Q q.need∧exec P L Λ fuel c (initS fn.ntmps vs bs.length (memOf bs)) (retK P fn.results.toList (outK bs.length (List.range bs.length) grs rh fun v U N=>(v,U,N)=Q))):CtrOk P (genC hs m) f:=by
 refine ctr_gen ⟨fn,hf,by rw [hb];rfl,hname⟩ fun vs bs q hq hn ρ1 M xs w hd hm hfr hMb=>?_
 obtain ⟨Q,hQ,hx⟩:=h vs bs q hq hn
 refine (calls_out hL hmix fuel hf hb hΛ hd hm hfr hMb (fun q hq=>List.mem_range.1 hq) hx).mono ?_
 rintro e w' ⟨v,U,N,x,ρ',rfl,rfl,hp⟩
 refine ⟨x,ρ',rfl,?_⟩
 rw [hQ]
 exact ⟨hp.val,hp.ext,hp.old,hp.os,hp.tape,hp.output,hp.size,hp.keep,hp.odn,hp.upd,hp.new,hp.newapart⟩
theorem noLam {c:Code}:∀ id b g,hasBlk c id b→(fun _=>none:Lam) id=some g→LOk P g (.block id b):=fun _ _ _ _ h=>by cases h
theorem cnd_of {b:Bool} {t e:Prop} (ht:b=true→t) (he:b=false→e):cnd b t e:=cnd_iff.2 ⟨ht,he⟩
theorem cnd_need {b:Bool} {t:Prop} (hb:b=true) (ht:t):cnd b t False:=cnd_iff.2 ⟨fun _=>ht,fun h=>by rw [hb] at h;cases h⟩
theorem cnd_not {b:Bool} {t:Prop} (hb:b=false) (ht:t):cnd b False t:=cnd_iff.2 ⟨fun h=>(by rw [hb] at h;cases h),fun _=>ht⟩
theorem or_of {b:Bool} {t e:Prop} (ht:b=true→t) (he:b=false→e):t∨e:=by
 cases b with
 | true=>exact .inl (ht rfl)
 | false=>exact .inr (he rfl)
theorem cnd_gg {α κ:Type} {df:α} {E:α→κ→Prop} {K:κ} {b:Bool} {x:Option α} {T:Prop} (k:GG df E K (cond b x none)) (f:GG df E K x→T):cnd b T False:=cnd_need (gg_n k) (f (gg_t (gg_n k) k))
theorem cnd_gg2 {α κ:Type} {df:α} {E:α→κ→Prop} {K:κ} {b:Bool} {x y:Option α} {T T':Prop} (k:GG df E K (cond b x y)) (f:GG df E K x→T) (g:GG df E K y→T'):cnd b T T':=cnd_of (fun h=>f (gg_t h k)) fun h=>g (gg_f h k)
theorem or_gg {α κ:Type} {df:α} {E:α→κ→Prop} {K:κ} {b:Bool} {x y:Option α} {T T':Prop} (k:GG df E K (cond b x y)) (f:GG df E K x→T) (g:GG df E K y→T'):T∨T':=or_of (fun h=>f (gg_t h k)) fun h=>g (gg_f h k)
theorem propOf {p q:Prop} (h:p=q) (hq:q):p:=by rw [h];exact hq
theorem and_l {a b:Bool} (h:(a&&b)=true):a=true:=by cases a <;> simp_all
theorem and_r {a b:Bool} (h:(a&&b)=true):b=true:=by cases a <;> simp_all
theorem not_l {a b:Bool} (h:(!a&&b)=true):a=false:=by cases a <;> simp_all
theorem cond_t {b x y c:Bool} (h:b=true) (k:cond b x y=c):x=c:=by subst h;exact k
theorem cond_f {b x y c:Bool} (h:b=false) (k:cond b x y=c):y=c:=by subst h;exact k
theorem condT {α:Type} {b:Bool} {x y z:α} (h:b=true) (k:x=z):cond b x y=z:=by subst h;exact k
theorem condF {α:Type} {b:Bool} {x y z:α} (h:b=false) (k:y=z):cond b x y=z:=by subst h;exact k
theorem leaf_of {α β:Type} {q:α→β} {m l:α} {x:β} (h:m=l) (hx:x=q l):x=q m:=by rw [h];exact hx
instance:Inhabited Dat:=⟨noDat⟩
end runs
end Go.Sy
