/-
 A symbolic executor for the model's code, part N: code, calls. Conditions: none.
-/
import Derived.Test.YtpfipoimpmlmoaaGreatDoorJSyM
namespace Go.Sy
set_option linter.unusedVariables false
set_option linter.unusedSimpArgs false
open Go.RowKit
section runs
variable {P:Program}
inductive XE where
 | normal
 | exit (id:Nat)
 | ret
def XE.toExit:XE→Exit
 | .normal=>.normal
 | .exit id=>.exit id
 | .ret=>.ret
abbrev Tab:=List (Nat × Ctr)
def TabOk (P:Program) (L:Tab):Prop:=∀ p∈L,CtrOk P p.2 p.1
theorem tabOk_nil:TabOk P []:=fun _ h=>by simp at h
theorem tabOk_cons {n:Nat} {g:Ctr} {L:Tab} (hg:CtrOk P g n) (hl:TabOk P L):TabOk P ((n,g) :: L):=fun p hp=>by
 rcases List.mem_cons.1 hp with rfl | hp
 ·exact hg
 ·exact hl p hp
def ctrAt:Tab→Nat→Option Ctr
 | [],_=>none
 | p :: l,f=>match Nat.beq p.1 f with
  | true=>some p.2
  | false=>ctrAt l f
def gamOf (pix:Bool) (L:Tab):Gam:=⟨ctrAt L,pix⟩
theorem gamOf_ok {pix:Bool} {L:Tab} (h:TabOk P L):GamOk P (gamOf pix L):=by
 induction L with
 | nil=>intro f g hg;cases hg
 | cons p l ih =>
  intro f g hg
  simp only [gamOf,ctrAt] at hg
  split at hg
  ·rename_i e;rw [Nat.beq_eq] at e;subst e;cases hg;exact h p (by simp)
  ·exact ih (fun q hq=>h q (List.mem_cons_of_mem _ hq)) f g hg
def entries:Tab→Nat→List Ctr
 | [],_=>[]
 | p :: l,f=>match Nat.beq p.1 f with
  | true=>p.2 :: entries l f
  | false=>entries l f
theorem entries_mem {L:Tab} {f:Nat} {g:Ctr} (h:g∈entries L f):(f,g)∈L:=by
 induction L with
 | nil=>simp [entries] at h
 | cons p l ih =>
  simp only [entries] at h
  split at h
  ·rename_i e;rw [Nat.beq_eq] at e;subst e
   rcases List.mem_cons.1 h with rfl | h
   ·simp
   ·exact List.mem_cons_of_mem _ (ih h)
  ·exact List.mem_cons_of_mem _ (ih h)
def opFns:List Oper→List Nat
 | []=>[]
 | o :: l=>match o.op with
  | .call c=>(match c.callee with
   | .value (.func f)=>f :: opFns l
   | _=>opFns l)
  | _=>opFns l
def altOf (pix:Bool) (L:Tab):List Nat→List Gam
 | []=>[gamOf pix L]
 | f :: l=>match entries L f with
  | a :: b :: gs=>(a :: b :: gs).map fun g=>gamOf pix ((f,g) :: L)
  | _=>altOf pix L l
theorem altOf_ok {pix:Bool} {L:Tab} (h:TabOk P L):∀ (fs:List Nat),∀ Γ∈altOf pix L fs,GamOk P Γ
 | [],Γ,hΓ=>by simp [altOf] at hΓ;subst hΓ;exact gamOf_ok h
 | f :: l,Γ,hΓ=>by
  simp only [altOf] at hΓ
  split at hΓ
  ·rename_i a b gs he
   obtain ⟨g,hg,rfl⟩:=List.mem_map.1 hΓ
   exact gamOf_ok (tabOk_cons (h _ (entries_mem (by rw [he];exact hg))) h)
  ·exact altOf_ok h l Γ hΓ
def orL:List Prop→Prop
 | []=>False
 | [p]=>p
 | p :: q :: l=>p∨orL (q :: l)
theorem orL_mem:∀ {l:List Prop},orL l→∃ p∈l,p
 | [p],h=>⟨p,by simp,h⟩
 | p :: q :: l,h=>by
  rcases h with h | h
  ·exact ⟨p,by simp,h⟩
  ·obtain ⟨r,hr,h⟩:=orL_mem h
   exact ⟨r,List.mem_cons_of_mem _ hr,h⟩
abbrev Kont:=XE→SState→Prop
abbrev LSum:=SState→Kont→Prop
abbrev Lam:=Nat→Option LSum
def unroll (f:SState→Kont→Prop):Nat→SState→Kont→Prop
 | 0,_,_=>False
 | n+1,s,k=>f s fun e s'=>match e with
  | .normal=>unroll f n s' k
  | .exit id=>k (.exit id) s'
  | .ret=>k .ret s'
def exec (P:Program) (L:Tab) (Λ:Lam) (fuel:Nat):Code→SState→Kont→Prop
 | .skip,s,k=>k .normal s
 | .region _ ops draw,s,k=>orL ((altOf (Nat.beq (fuel % 2) 1) L (opFns ops.toList)).map fun Γ=>match draw with
  | true=>(match Nat.beq (fuel / 2 % 2) 1 with
   | true=>xDrawL P Γ ops s (k .normal)
   | false=>xDrawE P Γ ops s (k .normal))
  | false=>xSeq P Γ ops ops.toList s (k .normal))
 | .seq x y,s,k=>exec P L Λ fuel x s fun e s'=>match e with
  | .normal=>exec P L Λ fuel y s' k
  | .exit id=>k (.exit id) s'
  | .ret=>k .ret s'
 | .cond c x y,s,k=>match ev s [] c with
  | .bool b=>cnd b (exec P L Λ fuel x s k) (exec P L Λ fuel y s k)
  | _=>False
 | .block id c,s,k=>match Λ id with
  | some g=>g s k
  | none=>exec P L Λ fuel c s fun e s'=>match e with
   | .normal=>k .normal s'
   | .exit j=>match Nat.beq j id with
    | true=>k .normal s'
    | false=>k (.exit j) s'
   | .ret=>k .ret s'
 | .loop c,s,k=>unroll (exec P L Λ fuel c) fuel s k
 | .exit id,s,k=>k (.exit id) s
 | .ret,s,k=>k .ret s
 | _,_,_=>False
def noRf:Code→Bool
 | .seq a b=>noRf a&&noRf b
 | .cond _ a b=>noRf a&&noRf b
 | .block _ a=>noRf a
 | .loop a=>noRf a
 | .rangeFunc _ _ _ _=>false
 | _=>true
def RdOk (rd:Option Nat) (df:Option (List Deferred)) (c:Code):Prop:=(rd=none∧df=none)∨noRf c=true
theorem RdOk.l {rd:Option Nat} {df:Option (List Deferred)} {a b:Code} (h:RdOk rd df (.seq a b)):RdOk rd df a:=h.imp id fun h=>(Bool.and_eq_true _ _ ▸ h:noRf a=true∧noRf b=true).1
theorem RdOk.r {rd:Option Nat} {df:Option (List Deferred)} {a b:Code} (h:RdOk rd df (.seq a b)):RdOk rd df b:=h.imp id fun h=>(Bool.and_eq_true _ _ ▸ h:noRf a=true∧noRf b=true).2
theorem RdOk.cl {rd:Option Nat} {df:Option (List Deferred)} {o:Operand} {a b:Code} (h:RdOk rd df (.cond o a b)):RdOk rd df a:=h.imp id fun h=>(Bool.and_eq_true _ _ ▸ h:noRf a=true∧noRf b=true).1
theorem RdOk.cr {rd:Option Nat} {df:Option (List Deferred)} {o:Operand} {a b:Code} (h:RdOk rd df (.cond o a b)):RdOk rd df b:=h.imp id fun h=>(Bool.and_eq_true _ _ ▸ h:noRf a=true∧noRf b=true).2
theorem RdOk.lp {rd:Option Nat} {df:Option (List Deferred)} {a:Code} (h:RdOk rd df (.loop a)):RdOk rd df a:=h
theorem RdOk.bk {rd:Option Nat} {df:Option (List Deferred)} {i:Nat} {a:Code} (h:RdOk rd df (.block i a)):RdOk rd df a:=h
def LOk (P:Program) (g:LSum) (c:Code):Prop:=∀ (rd:Option Nat) (n:Nat) (B:Nat) (M:List Nat) (w0:Base) (s:SState) (k:Kont) (ρ:Env) (a:Act) (w:World) (Q:Exit→Act→World→Prop),RdOk rd w0.df c→StDen B M w0 ρ s a w→g s k →
 (∀ e s' ρ' a' w',StDen B M w0 ρ' s' a' w'→k e s'→Q e.toExit a' w')→c.wpIn (FW rd) n P Q a w
def hasBlk:Code→Nat→Code→Prop
 | .seq a b,id,c=>hasBlk a id c∨hasBlk b id c
 | .cond _ a b,id,c=>hasBlk a id c∨hasBlk b id c
 | .block i a,id,c=>(i=id∧a=c)∨hasBlk a id c
 | .loop a,id,c=>hasBlk a id c
 | .rangeFunc _ _ _ a,id,c=>hasBlk a id c
 | _,_,_=>False
theorem unroll_rounds {f:SState→Kont→Prop} {c:Code} (hf:LOk P f c) {rd:Option Nat} {nn:Nat} {B:Nat} {M:List Nat} {w0:Base} (hr:RdOk rd w0.df c) {k:Kont} {Q:Exit→Act→World→Prop} (hk:∀ e s' ρ' a' w',StDen B M w0 ρ' s' a' w'→k e s'→Q e.toExit a' w'):∀ (n:Nat) (s:SState) (ρ:Env) (a:Act) (w:World),
  StDen B M w0 ρ s a w→unroll f n s k→Code.roundsIn (FW rd) nn P c Q n a w
 | 0,_,_,_,_,_,h=>h.elim
 | n+1,s,ρ,a,w,hs,hx=>by
  rw [roundsIn_succ]
  refine hf rd nn B M w0 s _ ρ a w _ hr hs hx fun e s' ρ' a' w' hs' hk'=>?_
  cases e with
  | normal=>exact unroll_rounds hf hr hk n s' ρ' a' w' hs' hk'
  | exit id=>exact hk (.exit id) _ _ _ _ hs' hk'
  | ret=>exact hk .ret _ _ _ _ hs' hk'
theorem unroll_wp {f:SState→Kont→Prop} {c:Code} (hf:LOk P f c) (n:Nat):LOk P (unroll f n) (.loop c) :=
 fun _ _ _ _ _ s _ ρ a w _ hr hs hx hk=>wpIn_loop_rounds n (unroll_rounds hf hr.lp hk n s ρ a w hs hx)
theorem exec_wp {L:Tab} (hL:TabOk P L) (hmix:P.follows .mixedOrders=true) {Λ:Lam} {fuel:Nat}:∀ (c:Code),(∀ id b g,hasBlk c id b→Λ id=some g→LOk P g (.block id b))→LOk P (exec P L Λ fuel c) c:=by
 intro c
 induction c with
 | skip=>intro _ rd nn B M w0 s k ρ a w Q hr hs hx hk;exact wpIn_skip (hk .normal _ _ _ _ hs hx)
 | region id ops draw =>
  intro _ rd nn B M w0 s k ρ a w Q hr hs hx hk
  obtain ⟨p,hp,hx⟩:=orL_mem hx
  obtain ⟨Γ,hΓ',rfl⟩:=List.mem_map.1 hp
  have hΓ:=altOf_ok hL _ Γ hΓ'
  cases draw
  ·exact wpIn_region_list (xSeq_wp hΓ (fun s' ρ' a' w' h h'=>hk .normal s' ρ' a' w' h h') ops.toList s ρ a w hs hx)
  ·simp only at hx
   split at hx
   ·exact xDrawL_wp hΓ hmix (fun s' ρ' a' w' h h'=>hk .normal s' ρ' a' w' h h') hs hx
   ·exact xDrawE_wp hΓ hmix (fun s' ρ' a' w' h h'=>hk .normal s' ρ' a' w' h h') hs hx
 | seq x y ihx ihy =>
  intro hΛ rd nn B M w0 s k ρ a w Q hr hs hx hk
  refine wpIn_seq (ihx (fun id b g h=>hΛ id b g (.inl h)) rd nn B M w0 s _ ρ a w _ hr.l hs hx fun e s' ρ' a' w' hs' hk'=>?_)
  cases e with
  | normal=>exact ihy (fun id b g h=>hΛ id b g (.inr h)) rd nn B M w0 s' k ρ' a' w' Q hr.r hs' hk' hk
  | exit id=>exact hk _ _ _ _ _ hs' hk'
  | ret=>exact hk _ _ _ _ _ hs' hk'
 | cond c x y ihx ihy =>
  intro hΛ rd nn B M w0 s k ρ a w Q hr hs hx hk
  simp only [exec] at hx
  split at hx <;> try exact hx.elim
  rename_i b hb
  have hc:=ev_den hs.tmDen (AsmOk.nil a) c
  rw [hb] at hc
  rw [cnd_iff] at hx
  exact wpIn_cond_split hc (fun hbt=>ihx (fun id b g h=>hΛ id b g (.inl h)) rd nn B M w0 s k ρ a w Q hr.cl hs (hx.1 hbt) hk) (fun hbf=>ihy (fun id b g h=>hΛ id b g (.inr h)) rd nn B M w0 s k ρ a w Q hr.cr hs (hx.2 hbf) hk)
 | block id c ih =>
  intro hΛ rd nn B M w0 s k ρ a w Q hr hs hx hk
  simp only [exec] at hx
  split at hx
  ·rename_i g hg
   exact hΛ id c g (.inl ⟨rfl,rfl⟩) hg rd nn B M w0 s k ρ a w Q hr hs hx hk
  ·refine wpIn_block (ih (fun id b g h=>hΛ id b g (.inr h)) rd nn B M w0 s _ ρ a w _ hr.bk hs hx fun e s' ρ' a' w' hs' hk'=>?_)
   cases e with
   | normal=>exact hk .normal _ _ _ _ hs' hk'
   | exit j =>
    show Exit.inBlock id Q (.exit j) a' w'
    simp only [Exit.inBlock]
    simp only at hk'
    split at hk'
    ·rename_i hj;rw [Nat.beq_eq] at hj;rw [if_pos hj];exact hk .normal _ _ _ _ hs' hk'
    ·rename_i hj;rw [if_neg (Nat.ne_of_beq_eq_false hj)];exact hk (.exit j) _ _ _ _ hs' hk'
   | ret=>exact hk .ret _ _ _ _ hs' hk'
 | loop c ih=>intro hΛ;exact unroll_wp (ih (fun id b g h=>hΛ id b g h)) fuel
 | exit id=>intro _ rd nn B M w0 s k ρ a w Q hr hs hx hk;exact wpIn_exit (hk (.exit id) _ _ _ _ hs hx)
 | ret=>intro _ rd nn B M w0 s k ρ a w Q hr hs hx hk;exact wpIn_ret (hk .ret _ _ _ _ hs hx)
 | rangeFunc f ps x y _ _=>intro _ rd nn B M w0 s k ρ a w Q hr hs hx hk;exact hx.elim
 | scope c _=>intro _ rd nn B M w0 s k ρ a w Q hr hs hx hk;exact hx.elim
 | label l=>intro _ rd nn B M w0 s k ρ a w Q hr hs hx hk;exact hx.elim
 | goto l=>intro _ rd nn B M w0 s k ρ a w Q hr hs hx hk;exact hx.elim
 | refuse y=>intro _ rd nn B M w0 s k ρ a w Q hr hs hx hk;exact hx.elim
def resL (P:Program) (s:SState):List ResultVar→Option (List SV × List Bool)
 | []=>some ([],[])
 | .tmp t :: l=>match resL P s l with
  | some (vs,ns)=>some (ev s [] (.tmp t) :: vs,ns)
  | none=>none
 | .cell a t :: l=>match ev s [] (.tmp a) with
  | .ptr i o=>match xLoad P s.mem t (.ptr i o),resL P s l with
   | some r,some (vs,ns)=>some (r.v :: vs,r.need ++ ns)
   | _,_=>none
  | _=>none
def resV:List SV→SV
 | [v]=>v
 | vs=>.tup vs
def resVal (tmps:Array Value):ResultVar→Sem Value
 | .tmp t=>pure (tmps.getD t undef)
 | .cell a t=>do loadVar t (← asAddr (tmps.getD a undef))
theorem results_eq (fn:Func) (tmps:Array Value):results fn tmps=(do
 let vs ← fn.results.mapM (resVal tmps)
 pure (if h:vs.size=1 then vs[0] else .tuple vs)):=by
 unfold results
 congr 1
theorem resL_run {B:Nat} {M:List Nat} {w0:Base} {ρ:Env} {s:SState} {a:Act} {w:World} (h:StDen B M w0 ρ s a w):∀ (l:List ResultVar) (vs:List SV) (ns:List Bool),resL P s l=some (vs,ns)→(∀ b∈ns,b=true) →
  ∃ xs:List Value,(l.mapM (resVal a.tmps)).run P w=.ok xs w∧SV.denL ρ vs xs
 | [],vs,ns,hr,_=>by simp only [resL,Option.some.injEq,Prod.mk.injEq] at hr;obtain ⟨rfl,rfl⟩:=hr;exact ⟨[],by simp,trivial⟩
 | .tmp t :: l,vs,ns,hr,hn=>by
  simp only [resL] at hr
  split at hr <;> cases hr
  rename_i vs' hl
  obtain ⟨xs,h1,h2⟩:=resL_run h l vs' ns hl hn
  refine ⟨a.tmps.getD t undef :: xs,?_,ev_den h.tmDen (AsmOk.nil a) (.tmp t),h2⟩
  simp only [List.mapM_cons,resVal,Sem.run_bind,Sem.run_pure,Result.andThen_ok,h1]
 | .cell c t :: l,vs,ns,hr,hn=>by
  simp only [resL] at hr
  split at hr <;> try (cases hr;done)
  rename_i i o hc
  split at hr <;> try (cases hr;done)
  rename_i r vs' ns' hx hl
  cases hr
  obtain ⟨xs,h1,h2⟩:=resL_run h l vs' ns' hl fun b hb=>hn b (List.mem_append.2 (.inr hb))
  have hp:=ev_den h.tmDen (AsmOk.nil a) (.tmp c)
  rw [hc] at hp
  obtain ⟨y,hy,hpost⟩:=run_xLoad h.mem hx (fun b hb=>hn b (List.mem_append.2 (.inl hb))) hp s.nx
  obtain ⟨m,hm,he⟩:=hp
  refine ⟨y :: xs,?_,hpost.val,h2⟩
  have he':a.tmps.getD c undef=.pointer (some ⟨m.blk,m.off+o,none⟩):=he
  rw [he] at hy
  simp only [Instr.loadAt,Instr.sureAddr,Sem.run_bind,Sem.run_pure,Result.andThen_ok] at hy
  simp only [List.mapM_cons,resVal,Sem.run_bind,he',asAddr,Sem.run_pure,Result.andThen_ok,hy,h1]
theorem results_run {B:Nat} {M:List Nat} {w0:Base} {ρ:Env} {s:SState} {a:Act} {w:World} (h:StDen B M w0 ρ s a w) (fn:Func) (vs:List SV) (ns:List Bool) (hr:resL P s fn.results.toList=some (vs,ns)) (hn:∀ b∈ns,b=true) :
  ∃ x,(results fn a.tmps).run P w=.ok x w∧(resV vs).den ρ x:=by
 obtain ⟨xs,h1,h2⟩:=resL_run h fn.results.toList vs ns hr hn
 have hm:(fn.results.mapM (resVal a.tmps)).run P w=.ok xs.toArray w:=by
  rw [← Array.toArray_toList (xs:=fn.results),List.mapM_toArray,Sem.run_map]
  rw [h1]
  rfl
 refine ⟨if h:xs.toArray.size=1 then xs.toArray[0] else .tuple xs.toArray,?_,?_⟩
 ·rw [results_eq,Sem.run_bind,hm]
  rfl
 ·match vs,xs,h2 with
  | [],[],_=>exact ⟨[],by simp,trivial⟩
  | [v],[x],⟨hv,_⟩=>exact hv
  | v :: v' :: vs,x :: x' :: xs,h2=>exact ⟨x :: x' :: xs,by simp,h2⟩
end runs
attribute [irreducible] exec
end Go.Sy
