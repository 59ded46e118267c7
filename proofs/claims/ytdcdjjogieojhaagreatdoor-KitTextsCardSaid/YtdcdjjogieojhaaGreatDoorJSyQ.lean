/-
 A symbolic executor for the model's code, part Q: a call's end under names of its own, proved. Conditions: none.
-/
import Derived.Test.YtdcdjjogieojhaaGreatDoorJSyM
namespace Go.Sy
set_option linter.unusedVariables false
set_option linter.unusedSimpArgs false
open Go.RowKit
set_option linter.unusedSectionVars false
variable [Globs]
section runs
variable {P:Program}
inductive XE where
 | normal
 | exit (id:Nat)
 | ret
def XE.toExit:XE→Exit
 | .normal=>.normal
 | .exit id=>.exit id
 | .ret=>.ret
abbrev Tab:=List (Nat × Ctr)
def TabOk (P:Program) (L:Tab):Prop:=∀ p∈L,CtrOk P p.2 p.1
theorem tabOk_nil:TabOk P []:=fun _ h=>by simp at h
theorem tabOk_cons {n:Nat} {g:Ctr} {L:Tab} (hg:CtrOk P g n) (hl:TabOk P L):TabOk P ((n,g) :: L):=fun p hp=>by
 rcases List.mem_cons.1 hp with rfl | hp
 ·exact hg
 ·exact hl p hp
def ctrAt:Tab→Nat→Option Ctr
 | [],_=>none
 | p :: l,f=>match Nat.beq p.1 f with
  | true=>some p.2
  | false=>ctrAt l f
def gamOf (pix:Bool) (L:Tab):Gam:=⟨ctrAt L,pix⟩
theorem gamOf_ok {pix:Bool} {L:Tab} (h:TabOk P L):GamOk P (gamOf pix L):=by
 induction L with
 | nil=>intro f g hg;cases hg
 | cons p l ih =>
  intro f g hg
  simp only [gamOf,ctrAt] at hg
  split at hg
  ·rename_i e;rw [Nat.beq_eq] at e;subst e;cases hg;exact h p (by simp)
  ·exact ih (fun q hq=>h q (List.mem_cons_of_mem _ hq)) f g hg
def entries:Tab→Nat→List Ctr
 | [],_=>[]
 | p :: l,f=>match Nat.beq p.1 f with
  | true=>p.2 :: entries l f
  | false=>entries l f
theorem entries_mem {L:Tab} {f:Nat} {g:Ctr} (h:g∈entries L f):(f,g)∈L:=by
 induction L with
 | nil=>simp [entries] at h
 | cons p l ih =>
  simp only [entries] at h
  split at h
  ·rename_i e;rw [Nat.beq_eq] at e;subst e
   rcases List.mem_cons.1 h with rfl | h
   ·simp
   ·exact List.mem_cons_of_mem _ (ih h)
  ·exact List.mem_cons_of_mem _ (ih h)
def opFns:List Oper→List Nat
 | []=>[]
 | o :: l=>match o.op with
  | .call c=>(match c.callee with
   | .value (.func f)=>f :: opFns l
   | _=>opFns l)
  | _=>opFns l
def altOf (pix:Bool) (L:Tab):List Nat→List Gam
 | []=>[gamOf pix L]
 | f :: l=>match entries L f with
  | a :: b :: gs=>(a :: b :: gs).map fun g=>gamOf pix ((f,g) :: L)
  | _=>altOf pix L l
theorem altOf_ok {pix:Bool} {L:Tab} (h:TabOk P L):∀ (fs:List Nat),∀ Γ∈altOf pix L fs,GamOk P Γ
 | [],Γ,hΓ=>by simp [altOf] at hΓ;subst hΓ;exact gamOf_ok h
 | f :: l,Γ,hΓ=>by
  simp only [altOf] at hΓ
  split at hΓ
  ·rename_i a b gs he
   obtain ⟨g,hg,rfl⟩:=List.mem_map.1 hΓ
   exact gamOf_ok (tabOk_cons (h _ (entries_mem (by rw [he];exact hg))) h)
  ·exact altOf_ok h l Γ hΓ
def orL:List Prop→Prop
 | []=>False
 | [p]=>p
 | p :: q :: l=>p∨orL (q :: l)
theorem orL_mem:∀ {l:List Prop},orL l→∃ p∈l,p
 | [p],h=>⟨p,by simp,h⟩
 | p :: q :: l,h=>by
  rcases h with h | h
  ·exact ⟨p,by simp,h⟩
  ·obtain ⟨r,hr,h⟩:=orL_mem h
   exact ⟨r,List.mem_cons_of_mem _ hr,h⟩
abbrev Kont:=XE→SState→Prop
abbrev LSum:=SState→Kont→Prop
abbrev Lam:=Nat→Option LSum
def unroll (f:SState→Kont→Prop):Nat→SState→Kont→Prop
 | 0,_,_=>False
 | n+1,s,k=>f s fun e s'=>match e with
  | .normal=>unroll f n s' k
  | .exit id=>k (.exit id) s'
  | .ret=>k .ret s'
def exec (P:Program) (L:Tab) (Λ:Lam) (fuel:Nat):Code→SState→Kont→Prop
 | .skip,s,k=>k .normal s
 | .region _ ops draw,s,k=>orL ((altOf (Nat.beq (fuel % 2) 1) L (opFns ops.toList)).map fun Γ=>match draw with
  | true=>(match Nat.beq (fuel / 2 % 2) 1 with
   | true=>xDrawL P Γ ops s (k .normal)
   | false=>xDrawE P Γ ops s (k .normal))
  | false=>xSeq P Γ ops ops.toList s (k .normal))
 | .seq x y,s,k=>exec P L Λ fuel x s fun e s'=>match e with
  | .normal=>exec P L Λ fuel y s' k
  | .exit id=>k (.exit id) s'
  | .ret=>k .ret s'
 | .cond c x y,s,k=>match ev s [] c with
  | .bool b=>cnd b (exec P L Λ fuel x s k) (exec P L Λ fuel y s k)
  | _=>False
 | .block id c,s,k=>match Λ id with
  | some g=>g s k
  | none=>exec P L Λ fuel c s fun e s'=>match e with
   | .normal=>k .normal s'
   | .exit j=>match Nat.beq j id with
    | true=>k .normal s'
    | false=>k (.exit j) s'
   | .ret=>k .ret s'
 | .loop c,s,k=>unroll (exec P L Λ fuel c) fuel s k
 | .exit id,s,k=>k (.exit id) s
 | .ret,s,k=>k .ret s
 | _,_,_=>False
def noRf:Code→Bool
 | .seq a b=>noRf a&&noRf b
 | .cond _ a b=>noRf a&&noRf b
 | .block _ a=>noRf a
 | .loop a=>noRf a
 | .rangeFunc _ _ _ _=>false
 | _=>true
def RdOk (rd:Option Nat) (df:Option (List Deferred)) (c:Code):Prop:=(rd=none∧df=none)∨noRf c=true
theorem RdOk.l {rd:Option Nat} {df:Option (List Deferred)} {a b:Code} (h:RdOk rd df (.seq a b)):RdOk rd df a:=h.imp id fun h=>(Bool.and_eq_true _ _ ▸ h:noRf a=true∧noRf b=true).1
theorem RdOk.r {rd:Option Nat} {df:Option (List Deferred)} {a b:Code} (h:RdOk rd df (.seq a b)):RdOk rd df b:=h.imp id fun h=>(Bool.and_eq_true _ _ ▸ h:noRf a=true∧noRf b=true).2
theorem RdOk.cl {rd:Option Nat} {df:Option (List Deferred)} {o:Operand} {a b:Code} (h:RdOk rd df (.cond o a b)):RdOk rd df a:=h.imp id fun h=>(Bool.and_eq_true _ _ ▸ h:noRf a=true∧noRf b=true).1
theorem RdOk.cr {rd:Option Nat} {df:Option (List Deferred)} {o:Operand} {a b:Code} (h:RdOk rd df (.cond o a b)):RdOk rd df b:=h.imp id fun h=>(Bool.and_eq_true _ _ ▸ h:noRf a=true∧noRf b=true).2
theorem RdOk.lp {rd:Option Nat} {df:Option (List Deferred)} {a:Code} (h:RdOk rd df (.loop a)):RdOk rd df a:=h
theorem RdOk.bk {rd:Option Nat} {df:Option (List Deferred)} {i:Nat} {a:Code} (h:RdOk rd df (.block i a)):RdOk rd df a:=h
def LOk (P:Program) (g:LSum) (c:Code):Prop:=∀ (rd:Option Nat) (n:Nat) (B:Nat) (M:List Nat) (w0:Base) (s:SState) (k:Kont) (ρ:Env) (a:Act) (w:World) (Q:Exit→Act→World→Prop),RdOk rd w0.df c→StDen B M w0 ρ s a w→g s k →
 (∀ e s' ρ' a' w',StDen B M w0 ρ' s' a' w'→k e s'→Q e.toExit a' w')→c.wpIn (FW rd) n P Q a w
def hasBlk:Code→Nat→Code→Prop
 | .seq a b,id,c=>hasBlk a id c∨hasBlk b id c
 | .cond _ a b,id,c=>hasBlk a id c∨hasBlk b id c
 | .block i a,id,c=>(i=id∧a=c)∨hasBlk a id c
 | .loop a,id,c=>hasBlk a id c
 | .rangeFunc _ _ _ a,id,c=>hasBlk a id c
 | _,_,_=>False
theorem unroll_rounds {f:SState→Kont→Prop} {c:Code} (hf:LOk P f c) {rd:Option Nat} {nn:Nat} {B:Nat} {M:List Nat} {w0:Base} (hr:RdOk rd w0.df c) {k:Kont} {Q:Exit→Act→World→Prop} (hk:∀ e s' ρ' a' w',StDen B M w0 ρ' s' a' w'→k e s'→Q e.toExit a' w'):∀ (n:Nat) (s:SState) (ρ:Env) (a:Act) (w:World),
  StDen B M w0 ρ s a w→unroll f n s k→Code.roundsIn (FW rd) nn P c Q n a w
 | 0,_,_,_,_,_,h=>h.elim
 | n+1,s,ρ,a,w,hs,hx=>by
  rw [roundsIn_succ]
  refine hf rd nn B M w0 s _ ρ a w _ hr hs hx fun e s' ρ' a' w' hs' hk'=>?_
  cases e with
  | normal=>exact unroll_rounds hf hr hk n s' ρ' a' w' hs' hk'
  | exit id=>exact hk (.exit id) _ _ _ _ hs' hk'
  | ret=>exact hk .ret _ _ _ _ hs' hk'
theorem unroll_wp {f:SState→Kont→Prop} {c:Code} (hf:LOk P f c) (n:Nat):LOk P (unroll f n) (.loop c) :=
 fun _ _ _ _ _ s _ ρ a w _ hr hs hx hk=>wpIn_loop_rounds n (unroll_rounds hf hr.lp hk n s ρ a w hs hx)
theorem exec_wp {L:Tab} (hL:TabOk P L) (hmix:P.follows .mixedOrders=true) {Λ:Lam} {fuel:Nat}:∀ (c:Code),(∀ id b g,hasBlk c id b→Λ id=some g→LOk P g (.block id b))→LOk P (exec P L Λ fuel c) c:=by
 intro c
 induction c with
 | skip=>intro _ rd nn B M w0 s k ρ a w Q hr hs hx hk;exact wpIn_skip (hk .normal _ _ _ _ hs hx)
 | region id ops draw =>
  intro _ rd nn B M w0 s k ρ a w Q hr hs hx hk
  obtain ⟨p,hp,hx⟩:=orL_mem hx
  obtain ⟨Γ,hΓ',rfl⟩:=List.mem_map.1 hp
  have hΓ:=altOf_ok hL _ Γ hΓ'
  cases draw
  ·exact wpIn_region_list (xSeq_wp hΓ (fun s' ρ' a' w' h h'=>hk .normal s' ρ' a' w' h h') ops.toList s ρ a w hs hx)
  ·simp only at hx
   split at hx
   ·exact xDrawL_wp hΓ hmix (fun s' ρ' a' w' h h'=>hk .normal s' ρ' a' w' h h') hs hx
   ·exact xDrawE_wp hΓ hmix (fun s' ρ' a' w' h h'=>hk .normal s' ρ' a' w' h h') hs hx
 | seq x y ihx ihy =>
  intro hΛ rd nn B M w0 s k ρ a w Q hr hs hx hk
  refine wpIn_seq (ihx (fun id b g h=>hΛ id b g (.inl h)) rd nn B M w0 s _ ρ a w _ hr.l hs hx fun e s' ρ' a' w' hs' hk'=>?_)
  cases e with
  | normal=>exact ihy (fun id b g h=>hΛ id b g (.inr h)) rd nn B M w0 s' k ρ' a' w' Q hr.r hs' hk' hk
  | exit id=>exact hk _ _ _ _ _ hs' hk'
  | ret=>exact hk _ _ _ _ _ hs' hk'
 | cond c x y ihx ihy =>
  intro hΛ rd nn B M w0 s k ρ a w Q hr hs hx hk
  simp only [exec] at hx
  split at hx <;> try exact hx.elim
  rename_i b hb
  have hc:=ev_den hs.tmDen (AsmOk.nil a) c
  rw [hb] at hc
  rw [cnd_iff] at hx
  exact wpIn_cond_split hc (fun hbt=>ihx (fun id b g h=>hΛ id b g (.inl h)) rd nn B M w0 s k ρ a w Q hr.cl hs (hx.1 hbt) hk) (fun hbf=>ihy (fun id b g h=>hΛ id b g (.inr h)) rd nn B M w0 s k ρ a w Q hr.cr hs (hx.2 hbf) hk)
 | block id c ih =>
  intro hΛ rd nn B M w0 s k ρ a w Q hr hs hx hk
  simp only [exec] at hx
  split at hx
  ·rename_i g hg
   exact hΛ id c g (.inl ⟨rfl,rfl⟩) hg rd nn B M w0 s k ρ a w Q hr hs hx hk
  ·refine wpIn_block (ih (fun id b g h=>hΛ id b g (.inr h)) rd nn B M w0 s _ ρ a w _ hr.bk hs hx fun e s' ρ' a' w' hs' hk'=>?_)
   cases e with
   | normal=>exact hk .normal _ _ _ _ hs' hk'
   | exit j =>
    show Exit.inBlock id Q (.exit j) a' w'
    simp only [Exit.inBlock]
    simp only at hk'
    split at hk'
    ·rename_i hj;rw [Nat.beq_eq] at hj;rw [if_pos hj];exact hk .normal _ _ _ _ hs' hk'
    ·rename_i hj;rw [if_neg (Nat.ne_of_beq_eq_false hj)];exact hk (.exit j) _ _ _ _ hs' hk'
   | ret=>exact hk .ret _ _ _ _ hs' hk'
 | loop c ih=>intro hΛ;exact unroll_wp (ih (fun id b g h=>hΛ id b g h)) fuel
 | exit id=>intro _ rd nn B M w0 s k ρ a w Q hr hs hx hk;exact wpIn_exit (hk (.exit id) _ _ _ _ hs hx)
 | ret=>intro _ rd nn B M w0 s k ρ a w Q hr hs hx hk;exact wpIn_ret (hk .ret _ _ _ _ hs hx)
 | rangeFunc f ps x y _ _=>intro _ rd nn B M w0 s k ρ a w Q hr hs hx hk;exact hx.elim
 | scope c _=>intro _ rd nn B M w0 s k ρ a w Q hr hs hx hk;exact hx.elim
 | label l=>intro _ rd nn B M w0 s k ρ a w Q hr hs hx hk;exact hx.elim
 | goto l=>intro _ rd nn B M w0 s k ρ a w Q hr hs hx hk;exact hx.elim
 | refuse y=>intro _ rd nn B M w0 s k ρ a w Q hr hs hx hk;exact hx.elim
def resL (P:Program) (s:SState):List ResultVar→Option (List SV × List Bool)
 | []=>some ([],[])
 | .tmp t :: l=>match resL P s l with
  | some (vs,ns)=>some (ev s [] (.tmp t) :: vs,ns)
  | none=>none
 | .cell a t :: l=>match ev s [] (.tmp a) with
  | .ptr i o=>match xLoad P s.mem t (.ptr i o),resL P s l with
   | some r,some (vs,ns)=>some (r.v :: vs,r.need ++ ns)
   | _,_=>none
  | _=>none
def resV:List SV→SV
 | [v]=>v
 | vs=>.tup vs
def resVal (tmps:Array Value):ResultVar→Sem Value
 | .tmp t=>pure (tmps.getD t undef)
 | .cell a t=>do loadVar t (← asAddr (tmps.getD a undef))
theorem results_eq (fn:Func) (tmps:Array Value):results fn tmps=(do
 let vs ← fn.results.mapM (resVal tmps)
 pure (if h:vs.size=1 then vs[0] else .tuple vs)):=by
 unfold results
 congr 1
theorem resL_run {B:Nat} {M:List Nat} {w0:Base} {ρ:Env} {s:SState} {a:Act} {w:World} (h:StDen B M w0 ρ s a w):∀ (l:List ResultVar) (vs:List SV) (ns:List Bool),resL P s l=some (vs,ns)→(∀ b∈ns,b=true) →
  ∃ xs:List Value,(l.mapM (resVal a.tmps)).run P w=.ok xs w∧SV.denL ρ vs xs
 | [],vs,ns,hr,_=>by simp only [resL,Option.some.injEq,Prod.mk.injEq] at hr;obtain ⟨rfl,rfl⟩:=hr;exact ⟨[],by simp,trivial⟩
 | .tmp t :: l,vs,ns,hr,hn=>by
  simp only [resL] at hr
  split at hr <;> cases hr
  rename_i vs' hl
  obtain ⟨xs,h1,h2⟩:=resL_run h l vs' ns hl hn
  refine ⟨a.tmps.getD t undef :: xs,?_,ev_den h.tmDen (AsmOk.nil a) (.tmp t),h2⟩
  simp only [List.mapM_cons,resVal,Sem.run_bind,Sem.run_pure,Result.andThen_ok,h1]
 | .cell c t :: l,vs,ns,hr,hn=>by
  simp only [resL] at hr
  split at hr <;> try (cases hr;done)
  rename_i i o hc
  split at hr <;> try (cases hr;done)
  rename_i r vs' ns' hx hl
  cases hr
  obtain ⟨xs,h1,h2⟩:=resL_run h l vs' ns' hl fun b hb=>hn b (List.mem_append.2 (.inr hb))
  have hp:=ev_den h.tmDen (AsmOk.nil a) (.tmp c)
  rw [hc] at hp
  obtain ⟨y,hy,hpost⟩:=run_xLoad h.mem hx (fun b hb=>hn b (List.mem_append.2 (.inl hb))) hp s.nx
  obtain ⟨m,hm,he⟩:=hp
  refine ⟨y :: xs,?_,hpost.val,h2⟩
  have he':a.tmps.getD c undef=.pointer (some ⟨m.blk,m.off+o,none⟩):=he
  rw [he] at hy
  simp only [Instr.loadAt,Instr.sureAddr,Sem.run_bind,Sem.run_pure,Result.andThen_ok] at hy
  simp only [List.mapM_cons,resVal,Sem.run_bind,he',asAddr,Sem.run_pure,Result.andThen_ok,hy,h1]
theorem results_run {B:Nat} {M:List Nat} {w0:Base} {ρ:Env} {s:SState} {a:Act} {w:World} (h:StDen B M w0 ρ s a w) (fn:Func) (vs:List SV) (ns:List Bool) (hr:resL P s fn.results.toList=some (vs,ns)) (hn:∀ b∈ns,b=true) :
  ∃ x,(results fn a.tmps).run P w=.ok x w∧(resV vs).den ρ x:=by
 obtain ⟨xs,h1,h2⟩:=resL_run h fn.results.toList vs ns hr hn
 have hm:(fn.results.mapM (resVal a.tmps)).run P w=.ok xs.toArray w:=by
  rw [← Array.toArray_toList (xs:=fn.results),List.mapM_toArray,Sem.run_map]
  rw [h1]
  rfl
 refine ⟨if h:xs.toArray.size=1 then xs.toArray[0] else .tuple xs.toArray,?_,?_⟩
 ·rw [results_eq,Sem.run_bind,hm]
  rfl
 ·match vs,xs,h2 with
  | [],[],_=>exact ⟨[],by simp,trivial⟩
  | [v],[x],⟨hv,_⟩=>exact hv
  | v :: v' :: vs,x :: x' :: xs,h2=>exact ⟨x :: x' :: xs,by simp,h2⟩
end runs
attribute [irreducible] exec
end Go.Sy
namespace Go.Sy
set_option linter.unusedVariables false
set_option linter.unusedSimpArgs false
open Go.RowKit
set_option linter.unusedSectionVars false
variable [Globs]
section runs
variable {P:Program}
def initS (nt:Nat) (args:List SV) (nx:Nat) (mem:Nat→Blk):SState :=
 {na:=nx,nt:=args.length+(nt - args.length),tm:=fun i=>match args[i]? with | some v=>v.top | none=>.any,nx:=nx,mem:=mem }
def retK (P:Program) (rs:List ResultVar) (R:SV→(Nat→Blk)→Prop):Kont:=fun e s=>match e with
 | .exit _=>False
 | .normal=>match resL P s rs with
  | some (vs,ns)=>needs ns (R (resV vs) s.mem)
  | none=>False
 | .ret=>match resL P s rs with
  | some (vs,ns)=>needs ns (R (resV vs) s.mem)
  | none=>False
theorem StDen.unmark {B:Nat} {M:List Nat} {b0:World} {ρ0 ρ:Env} {n0:Nat} {s:SState} {a:Act} {w:World} (h:StDen B M ⟨b0,ρ0,n0,fun _=>none,none⟩ ρ s a w) {d:Deferred} {ds:List Deferred} (hd:a.defers=d :: ds) :
  ∃ D,d={ target:=.collected D,args:=#[] }∧(Instr.takeDeferred D).run P w=.ok [] (w.putObj D (.deferred none))∧StDen B M ⟨b0,ρ0,n0,fun _=>none,none⟩ ρ s { a with defers:=ds } (w.putObj D (.deferred none)):=by
 obtain ⟨D,e,hB,hD⟩:=h.defs.at_ d (by rw [hd];simp)
 have hk:∀ b,b≠D→(w.putObj D (.deferred none)).heap[b]? = w.heap[b]?:=fun b hb=>World.putObj_heap_other hb
 have hne:∀ b o v,w.cell? ⟨b,o,none⟩=some v→b≠D:=by
  intro b o v hc e2
  subst e2
  simp [World.cell?,hD.at_] at hc
 have hnd:=h.defs.nd
 rw [hd] at hnd
 have hnd:=List.nodup_cons.1 hnd
 refine ⟨D,e,run_takeDeferred hD.at_,⟨⟨fun _ _ h=>(by cases h),fun d' hd'=>?_,hnd.2,fun _ h=>(by cases h)⟩,h.size,h.tmp,h.fresh,⟨fun i hi=>⟨fun m hm=>?_,(h.mem.at_ i hi).2⟩,h.mem.apart,⟨fun b o v hv=>?_,fun b v hv=>(hk b fun e2=>by have:=h.mem.seal_.m b v hv;rw [e2,hD.at_] at this;cases this).trans (h.mem.seal_.m b v hv),fun b i hp=>let ⟨⟨v,hv⟩,c,t,hc⟩:=h.mem.seal_.p b i hp;⟨⟨v,hv⟩,c,t,(hk b (hne b 0 v (h.mem.seal_ b 0 v hv))).trans hc⟩⟩,h.mem.free,PvOk.keep h.mem.pv ρ.gl (fun b o v hv=>hk b (hne b o v (h.mem.seal_ b o v hv))) fun b v hv=>hk b fun e2=>by have:=h.mem.seal_.m b v hv;rw [e2,hD.at_] at this;cases this⟩,?_,by rw [World.putObj_size];exact h.base,h.ext,h.argn,h.argl,h.nab,h.nale,h.odb,h.mz⟩⟩
 ·obtain ⟨D',e',hB',hD'⟩:=h.defs.at_ d' (by rw [hd];exact List.mem_cons_of_mem _ hd')
  exact ⟨D',e',hB',hD'.same (hk _ fun e2=>hnd.1 (by rw [e,← e2,← e'];exact hd'))⟩
 ·obtain ⟨g1,g2,g3⟩:=h.mem.get hi hm
  exact ⟨by rw [World.putObj_size];exact g1,Blk.den_same g2 (hk _ (hD.off i m hi hm)),g3⟩
 ·rw [World.cell?_of_block (w:=w) (hk b (hne b o v (h.mem.seal_ b o v hv)))]
  exact h.mem.seal_ b o v hv
 ·have k:=h.kept
  exact ⟨k.os,k.tape,k.output,by rw [World.putObj_size];exact k.size,fun b hb hM=>(hk b (by omega)).trans (k.block b hb hM)⟩
theorem calls_exec {L:Tab} (hL:TabOk P L) (hmix:P.follows .mixedOrders=true) {Λ:Lam} {fuel:Nat} {f:FuncId} {fn:Func} {c:Code} (hf:P.funcs[f]? = some fn) (hb:fn.body=some c) (hΛ:∀ id b g,hasBlk c id b→Λ id=some g→LOk P g (.block id b))
  {M:List Nat} {ρ0:Env} {nx0:Nat} {mem0:Nat→Blk} {args:List SV} {xs:List Value} {w:World} (hargs:SV.denL ρ0 args xs) (hM:MemDen w.heap.size M ρ0 mem0 w) (hfr:∀ i,nx0≤i→ρ0 i=none) (hz:nx0=0→M=[]) {R:SV→(Nat→Blk)→Prop}
  (h:exec P L Λ fuel c (initS fn.ntmps args nx0 mem0) (retK P fn.results.toList R)) :
  Calls P f ⟨xs⟩ w fun e w'=>∃ v x ρ mem,e=.returned x∧v.den ρ x∧Ext ρ0 ρ∧(∀ i,i<nx0→ρ i=ρ0 i)∧OdB ρ0.od ρ.od w.heap.size∧MemDen w.heap.size M ρ mem w'∧Kept w.heap.size M w w'∧R v mem:=by
 have hlen:=denL_length hargs
 refine (callsIn_wide (n:=0)).1 (callsIn_of_wp_marks (F:=Fence.wide) hf hb trivial (exec_wp hL hmix c hΛ none 0 w.heap.size M ⟨w,ρ0,nx0,fun _=>none,none⟩ _ _ ρ0 _ w _ (.inl ⟨rfl,rfl⟩) ?_ h ?_))
 ·refine ⟨Side.none _ _ _ _,?_,fun i x hx=>?_,hfr,hM,Kept.refl _ _ _,Nat.le_refl _,Ext.refl _,hfr,fun _ _=>rfl,rfl,Nat.le_refl _,⟨fun _ _ _ h=>.inl h,fun _ _ h=>.inl h,rfl⟩,hz⟩
  ·simp [initS,hlen]
  ·simp only [initS]
   cases ha:args[i]? with
   | none=>trivial
   | some v =>
    obtain ⟨y,hy,hd⟩:=denL_get hargs ha
    have hi:i<xs.length:=(List.getElem?_eq_some_iff.1 hy).1
    simp only [Array.getElem?_append] at hx
    rw [if_pos (by simpa using hi)] at hx
    have hxy:x=y:=by
     have:xs[i]? = some x:=by simpa using hx
     rw [this] at hy;cases hy;rfl
    rw [hxy]
    exact slotDen_top hd
 ·intro e s' ρ' a' w' hs hk
  have key:∀ (ds:List Deferred) (a':Act) (w':World) vs ns,a'.defers=ds→StDen w.heap.size M ⟨w,ρ0,nx0,fun _=>none,none⟩ ρ' s' a' w'→resL P s' fn.results.toList=some (vs,ns)→needs ns (R (resV vs) s'.mem) →
    LeavesInM Fence.wide 0 P fn a'.tmps (fun e w'=>∃ v x ρ mem,e=.returned x∧v.den ρ x∧Ext ρ0 ρ∧(∀ i,i<nx0→ρ i=ρ0 i)∧OdB ρ0.od ρ.od w.heap.size∧MemDen w.heap.size M ρ mem w'∧Kept w.heap.size M w w'∧R v mem) ds .returning w':=by
   intro ds
   induction ds with
   | nil =>
    intro a' w' vs ns _ hs hr hn
    rw [needs_iff] at hn
    obtain ⟨x,hx,hd⟩:=results_run hs fn vs ns hr hn.1
    exact ⟨x,hx,_,x,ρ',_,rfl,hd,hs.ext,hs.argl,hs.odb,hs.mem,hs.kept,hn.2⟩
   | cons d ds ih =>
    intro a' w' vs ns hd hs hr hn
    obtain ⟨D,e,ht,hs'⟩:=hs.unmark (P:=P) hd
    exact ⟨by simp,.inl ⟨D,_,by rw [e],ht,ih { a' with defers:=ds } _ vs ns rfl hs' hr hn⟩⟩
  cases e with
  | exit id=>exact hk.elim
  | normal =>
   simp only [retK] at hk
   split at hk
   ·exact key _ _ _ _ _ rfl hs (by assumption) hk
   ·exact hk.elim
  | ret =>
   simp only [retK] at hk
   split at hk
   ·exact key _ _ _ _ _ rfl hs (by assumption) hk
   ·exact hk.elim
end runs
end Go.Sy
namespace Go.Sy
set_option linter.unusedVariables false
set_option linter.unusedSimpArgs false
open Go.RowKit
set_option linter.unusedSectionVars false
variable [Globs]
section runs
variable {P:Program}
def Kd.plain:Kd→Bool
 | .sl _ | .pt _ | .pz _ | .mi _ | .mb | .m1=>false
 | _=>true
mutual
def SV.nro:SV→Bool
 | .ro _ _ _ | .rp _ _ _ _ | .ra _ _ _ | .rn _ _ _ | .rq _ _ _ _ _ | .rz _ _ _ _ | .mp _ _ | .gv _=>false
 | .agg l | .tup l | .fn _ l | .fb _ l | .ifc _ l=>SV.nroL l
 | _=>true
def SV.nroL:List SV→Bool
 | []=>true
 | v :: l=>v.nro&&SV.nroL l
end
def Blk.nro:Blk→Bool
 | .cells _ l=>SV.nroL l
 | .row _ sh _ _=>sh.all Kd.plain
 | .unk=>true
mutual
def SV.ren (σ:Nat→Option Nat):SV→Option SV
 | .ptr i o=>match σ i with | some j=>some (.ptr j o) | none=>none
 | .elt i s k c=>match σ i with | some j=>some (.elt j s k c) | none=>none
 | .slc i s k n=>match σ i with | some j=>some (.slc j s k n) | none=>none
 | .own i s n=>match σ i with | some j=>some (.own j s n) | none=>none
 | .gr i s n=>match σ i with | some j=>some (.gr j s n) | none=>none
 | .agg l=>match SV.renL σ l with | some l=>some (.agg l) | none=>none
 | .tup l=>match SV.renL σ l with | some l=>some (.tup l) | none=>none
 | .fn f l=>match SV.renL σ l with | some l=>some (.fn f l) | none=>none
 | .fb f l=>match SV.renL σ l with | some l=>some (.fb f l) | none=>none
 | .ifc f l=>match SV.renL σ l with | some l=>some (.ifc f l) | none=>none
 | .ni b=>some (.ni b)
 | .gv g=>some (.gv g)
 | .gd _ _ _=>none
 | .any=>some .any
 | .int k n=>some (.int k n)
 | .bool b=>some (.bool b)
 | .str s=>some (.str s)
 | .nsl=>some .nsl
 | .emp=>some .emp
 | .ro sh n d=>some (.ro sh n d)
 | .rp sh d k j=>some (.rp sh d k j)
 | .ra sh n d=>some (.ra sh n d)
 | .rn sh n d=>some (.rn sh n d)
 | .pix i o s m k c=>match σ i with | some j=>some (.pix j o s m k c) | none=>none
 | .val v=>some (.val v)
 | .rq t sh d k j=>some (.rq t sh d k j)
 | .rz t i sh d=>some (.rz t i sh d)
 | .mp kd e=>some (.mp kd e)
def SV.renL (σ:Nat→Option Nat):List SV→Option (List SV)
 | []=>some []
 | v :: l=>match v.ren σ with
  | some v=>(match SV.renL σ l with | some l=>some (v :: l) | none=>none)
  | none=>none
end
def Blk.ren (σ:Nat→Option Nat):Blk→Option Blk
 | .cells e l=>match SV.renL σ l with | some l=>some (.cells e l) | none=>none
 | .row e sh n d=>some (.row e sh n d)
 | .unk=>some .unk
def renBs (σ:Nat→Option Nat):List Blk→Option (List Blk)
 | []=>some []
 | b :: l=>match b.ren σ with
  | some b=>(match renBs σ l with | some l=>some (b :: l) | none=>none)
  | none=>none
mutual
theorem ren_den {σ:Nat→Option Nat} {ρ ρ2:Env} (hσ:∀ i j,σ i=some j→∀ m,ρ i=some m→ρ2 j=some m):∀ {v v':SV} {x:Value},v.ren σ=some v'→(v.nro=false→OdExt ρ.od ρ2.od)→v.den ρ x→v'.den ρ2 x
 | .ptr i o,v',x,h,_,⟨m,hm,e⟩=>by simp only [SV.ren] at h;split at h <;> cases h;exact ⟨m,hσ _ _ (by assumption) m hm,e⟩
 | .elt i s k c,v',x,h,_,⟨m,hm,e⟩=>by simp only [SV.ren] at h;split at h <;> cases h;exact ⟨m,hσ _ _ (by assumption) m hm,e⟩
 | .slc i s k n,v',x,h,_,⟨A,c,e,hc,hA⟩=>by
  simp only [SV.ren] at h;split at h <;> cases h
  exact ⟨A,c,e,hc,fun h0=>let ⟨m,hm,ha⟩:=hA h0;⟨m,hσ _ _ (by assumption) m hm,ha⟩⟩
 | .own i s n,v',x,h,_,⟨m,hm,e⟩=>by simp only [SV.ren] at h;split at h <;> cases h;exact ⟨m,hσ _ _ (by assumption) m hm,e⟩
 | .gr i s n,v',x,h,_,hd=>by
  simp only [SV.ren] at h;split at h <;> cases h
  exact hd.imp id fun ⟨m,hm,e⟩=>⟨m,hσ _ _ (by assumption) m hm,e⟩
 | .agg l,v',x,h,ho,⟨xs,e,hl⟩=>by simp only [SV.ren] at h;split at h <;> cases h;exact ⟨xs,e,renL_den hσ (by assumption) ho hl⟩
 | .tup l,v',x,h,ho,⟨xs,e,hl⟩=>by simp only [SV.ren] at h;split at h <;> cases h;exact ⟨xs,e,renL_den hσ (by assumption) ho hl⟩
 | .fn f l,v',x,h,ho,⟨xs,e,hl⟩=>by simp only [SV.ren] at h;split at h <;> cases h;exact ⟨xs,e,renL_den hσ (by assumption) ho hl⟩
 | .fb f l,v',x,h,ho,⟨xs,e,hl⟩=>by simp only [SV.ren] at h;split at h <;> cases h;exact ⟨xs,e,renL_den hσ (by assumption) ho hl⟩
 | .ifc f l,v',x,h,ho,⟨xs,e,hl⟩=>by simp only [SV.ren] at h;split at h <;> cases h;exact ⟨xs,e,renL_den hσ (by assumption) ho hl⟩
 | .ni _,v',x,h,_,hd=>by simp only [SV.ren] at h;cases h;exact hd
 | .gv _,v',x,h,ho,⟨b,es,c,e,g,o⟩=>by simp only [SV.ren] at h;cases h;exact ⟨b,es,c,e,(ho rfl).m _ _ g,o⟩
 | .gd _ _ _,_,_,h,_,_=>by simp [SV.ren] at h
 | .any,v',x,h,_,hd=>by simp only [SV.ren] at h;cases h;exact hd
 | .int k n,v',x,h,_,hd=>by simp only [SV.ren] at h;cases h;exact hd
 | .bool b,v',x,h,_,hd=>by simp only [SV.ren] at h;cases h;exact hd
 | .str s,v',x,h,_,hd=>by simp only [SV.ren] at h;cases h;exact hd
 | .nsl,v',x,h,_,hd=>by simp only [SV.ren] at h;cases h;exact hd
 | .emp,v',x,h,_,hd=>by simp only [SV.ren] at h;cases h;exact hd
 | .val _,v',x,h,_,hd=>by simp only [SV.ren] at h;cases h;exact hd
 | .ro sh n d,v',x,h,ho,⟨A,c,e,hc,hA⟩=>by
  simp only [SV.ren] at h;cases h
  exact ⟨A,c,e,hc,fun h0=>let ⟨b,o,ha,hq⟩:=hA h0;⟨b,o,ha,fun q hl=>Kd.denL_mono (ho rfl) (hq q hl)⟩⟩
 | .rp sh d k j,v',x,h,ho,⟨b,o,e,hA⟩=>by
  simp only [SV.ren] at h;cases h
  exact ⟨b,o,e,Kd.denL_mono (ho rfl) hA⟩
 | .rn sh n d,v',x,h,ho,⟨a,c,e,hc,hA⟩=>by
  simp only [SV.ren] at h;cases h
  exact ⟨a,c,e,hc,fun h0=>let ⟨b,o,ha,hq⟩:=hA h0;⟨b,o,ha,fun q hl=>Kd.denL_mono (ho rfl) (hq q hl)⟩⟩
 | .ra sh n d,v',x,h,ho,⟨b,o,e,hA⟩=>by
  simp only [SV.ren] at h;cases h
  exact ⟨b,o,e,fun q hq=>Kd.denL_mono (ho rfl) (hA q hq)⟩
 | .pix i o s m k c,v',x,h,_,⟨mm,hm,e⟩=>by simp only [SV.ren] at h;split at h <;> cases h;exact ⟨mm,hσ _ _ (by assumption) mm hm,e⟩
 | .rq t sh d k j,v',x,h,ho,hd=>by
  simp only [SV.ren] at h;cases h
  exact hd.imp (fun ⟨e,b,o,hx,hA⟩=>⟨e,b,o,hx,Kd.denL_mono (ho rfl) hA⟩) id
 | .rz t i sh d,v',x,h,ho,hd=>by
  simp only [SV.ren] at h;cases h
  exact hd.imp (fun ⟨e,b,hx,hp,hA⟩=>⟨e,b,hx,(ho rfl).p _ _ hp,Kd.denL_mono (ho rfl) hA⟩) id
 | .mp kd e,v',x,h,ho,hd=>by
  simp only [SV.ren] at h;cases h
  exact Kd.den_mono (ho rfl) hd
theorem renL_den {σ:Nat→Option Nat} {ρ ρ2:Env} (hσ:∀ i j,σ i=some j→∀ m,ρ i=some m→ρ2 j=some m):∀ {l l':List SV} {xs:List Value},SV.renL σ l=some l'→(SV.nroL l=false→OdExt ρ.od ρ2.od)→SV.denL ρ l xs→SV.denL ρ2 l' xs
 | [],l',[],h,_,_=>by simp only [SV.renL] at h;cases h;trivial
 | v :: l,l',x :: xs,h,ho,⟨hd,hl⟩=>by
  simp only [SV.renL] at h
  split at h <;> try (cases h;done)
  split at h <;> cases h
  exact ⟨ren_den hσ (by assumption) (fun hn=>ho (by simp [SV.nroL,hn])) hd,renL_den hσ (by assumption) (fun hn=>ho (by simp [SV.nroL,hn])) hl⟩
 | [],_,_ :: _,_,_,hl=>hl.elim
 | _ :: _,_,[],_,_,hl=>hl.elim
end
theorem kd_od {od od':Od} {kd:Kd} (hp:kd.plain=true) {d:Dat} {k c:Nat} {x:Value} (h:kd.den od d k c x):kd.den od' d k c x:=by cases kd <;> first | exact h | cases hp
theorem renB_den {σ:Nat→Option Nat} {ρ ρ2:Env} (hσ:∀ i j,σ i=some j→∀ m,ρ i=some m→ρ2 j=some m) {b b':Blk} (h:b.ren σ=some b') (ho:b.nro=false→OdExt ρ.od ρ2.od) {w:World} {m:Nm} (hd:b.den ρ w m):b'.den ρ2 w m:=by
 cases b with
 | unk=>cases h;trivial
 | cells e l =>
  simp only [Blk.ren] at h
  split at h <;> cases h
  obtain ⟨h0,c,hc,hl⟩:=hd
  exact ⟨h0,c,hc,renL_den hσ (by assumption) ho hl⟩
 | row e sh n d =>
  cases h
  obtain ⟨h0,h1,h2,h3⟩:=hd
  refine ⟨h0,h1,h2,fun k hk=>⟨(h3 k hk).1,fun j v hv=>?_⟩⟩
  obtain ⟨x,hx,hdx⟩:=(h3 k hk).2 j v hv
  refine ⟨x,hx,?_⟩
  rw [el_get] at hv
  cases hs:sh[j]? with
  | none=>rw [hs] at hv;cases hv
  | some kd =>
   rw [hs] at hv;cases hv
   rw [kdSV_den] at hdx ⊢
   cases hn:Blk.nro (.row e sh n d) with
   | false=>exact Kd.den_mono (ho hn) hdx
   | true=>exact kd_od ((List.all_eq_true.1 hn) kd (List.mem_of_getElem? hs)) hdx
theorem renB_unk {σ:Nat→Option Nat} {b b':Blk} (h:b.ren σ=some b'):b'.isUnk=b.isUnk∧(b.ghost→b'.ghost):=by
 cases b with
 | unk=>cases h;exact ⟨rfl,id⟩
 | cells e l=>simp only [Blk.ren] at h;split at h <;> cases h;exact ⟨rfl,id⟩
 | row e sh n d=>cases h;exact ⟨rfl,id⟩
theorem renBs_get {σ:Nat→Option Nat}:∀ {l l':List Blk},renBs σ l=some l'→l'.length=l.length∧∀ (i:Nat) (b':Blk),l'[i]? = some b'→∃ b:Blk,l[i]? = some b∧b.ren σ=some b'
 | [],l',h=>by simp only [renBs] at h;cases h;exact ⟨rfl,fun i b' hi=>by simp at hi⟩
 | b :: l,l',h=>by
  simp only [renBs] at h
  split at h <;> try (cases h;done)
  rename_i b1 hb1
  split at h <;> cases h
  rename_i l1 hl1
  obtain ⟨h1,h2⟩:=renBs_get hl1
  refine ⟨by simp [h1],fun i b' hi=>?_⟩
  cases i with
  | zero=>simp at hi;subst hi;exact ⟨b,rfl,hb1⟩
  | succ i=>exact h2 i b' (by simpa using hi)
theorem od_ext {ρ:Env} {od:Od} (he:OdExt ρ.od od):Ext ρ ⟨ρ.nm,od,ρ.gl.ext he⟩:=⟨fun _ _ h=>h,he⟩
theorem reads_ro {ρ:Env} {od:Od} (he:OdExt ρ.od od) {sh:List Kd} {n:Nat} {d:Dat} {x:Value} (h:Reads ρ (fun b o y=>od b o=some y) sh n d x):(SV.ro sh n d).den ⟨ρ.nm,od,ρ.gl.ext he⟩ x:=by
 obtain ⟨A,cap,rfl,hc,hA⟩:=h
 refine ⟨A,cap,rfl,hc,fun h0=>?_⟩
 obtain ⟨b,o,rfl,hq⟩:=hA h0
 refine ⟨b,o,rfl,fun q hl=>?_⟩
 rw [kdE_iff]
 intro j v hv
 obtain ⟨y,hy,hd⟩:=hq q hl j v hv
 exact ⟨y,by rw [Nat.add_assoc];exact hy,SV.den_mono (od_ext he) _ _ hd⟩
theorem rdR_known {sh:List Kd} {size k n:Nat} {b:Blk} {r:Nat × Dat × List Bool} (h:rdR sh size k n b=some r):b.isUnk=false:=by
 cases b <;> first | rfl | (simp [rdR] at h)
theorem rdS_known {sh:List Kd} {mem:Nat→Blk} {v:SV} {r:Nat × Dat × List Bool} (h:rdS sh mem v=some r):∀ i∈nmS v,(mem i).isUnk=false:=by
 intro i hi
 cases v <;> simp only [nmS,List.not_mem_nil,List.mem_singleton] at hi
 all_goals (subst hi;exact rdR_known h)
inductive RH where
 | k
 | ro (sh:List Kd)
 | ra (sh:List Kd) (n:Nat)
 | t (l:List RH)
 | rp (sh:List Kd)
 | f (l:List RH)
 | rq (sh:List Kd)
 | rz (sh:List Kd)
def sealA (mem:Nat→Blk) (sh:List Kd) (n:Nat):SV→Option (SV × List Nat × List Bool)
 | .ptr i o=>match mem i with
  | .cells _ l=>match Nat.ble (o+n * sh.length) l.length&&(List.range n).all (fun q=>kdsB sh (((l.drop o).drop (q * sh.length)).take sh.length)) with
   | true=>some (.ra sh n (datS (l.drop o) sh.length),[i],[])
   | false=>none
  | _=>none
 | .ra sh' n' d=>match kdsEq sh' sh&&Nat.beq n n' with
  | true=>some (.ra sh n d,[],[])
  | false=>none
 | _=>none
theorem sealA_den {B:Nat} {M:List Nat} {ρ:Env} {mem:Nat→Blk} {w:World} (hm:MemDen B M ρ mem w) {od:Od} (he:OdExt ρ.od od) {sh:List Kd} {n:Nat} {v v':SV} {sl:List Nat} {ns:List Bool} {x:Value} (h:sealA mem sh n v=some (v',sl,ns))
  (hs:∀ i∈sl,∀ m,ρ i=some m→∀ o y,w.cell? ⟨m.blk,o,none⟩=some y→od m.blk o=some y) (hd:v.den ρ x):v'.den ⟨ρ.nm,od,ρ.gl.ext he⟩ x:=by
 unfold sealA at h
 split at h <;> try (cases h;done)
 ·rename_i i o
  split at h <;> try (cases h;done)
  rename_i e l hi
  split at h <;> cases h
  rename_i hb
  simp only [Bool.and_eq_true,List.all_eq_true,List.mem_range] at hb
  obtain ⟨m,hmi,rfl⟩:=hd
  obtain ⟨_,hbk,_⟩:=hm.get (by rw [hi];rfl) hmi
  rw [hi] at hbk
  obtain ⟨h0,c,hc,hl⟩:=hbk
  refine ⟨m.blk,m.off+o,rfl,fun q hq=>?_⟩
  rw [kdE_iff]
  intro c' u hu
  have hk:=hb.2 q hq
  have hu':=hu
  rw [el_datS hk,List.getElem?_take] at hu
  split at hu <;> try (cases hu;done)
  rw [List.getElem?_drop,List.getElem?_drop] at hu
  obtain ⟨y,hy,hd⟩:=denL_get hl hu
  refine ⟨y,hs i (by simp) m hmi _ y ?_,?_⟩
  ·rw [h0,Nat.zero_add,cell_of_row w m.blk _ c e (0,0) hc,← Array.getElem?_toList,← hy]
   congr 1
   omega
  ·rw [el_get] at hu'
   cases hs':sh[c']? with
   | none=>rw [hs'] at hu';cases hu'
   | some kd=>rw [hs'] at hu';cases hu';rw [kdSV_den] at hd ⊢;exact Kd.den_mono he hd
 ·rename_i sh' n' d
  split at h <;> cases h
  rename_i heq
  simp only [Bool.and_eq_true] at heq
  have e1:=kdsEq_ok heq.1
  subst e1
  have e2:n=n':=by simpa using heq.2
  subst e2
  obtain ⟨b,o,e,hL⟩:=hd
  exact ⟨b,o,e,fun q hq=>Kd.denL_mono he (hL q hq)⟩
theorem sealA_known {mem:Nat→Blk} {sh:List Kd} {n:Nat} {v v':SV} {sl:List Nat} {ns:List Bool} (h:sealA mem sh n v=some (v',sl,ns)):∀ i∈sl,(mem i).isUnk=false:=by
 unfold sealA at h
 split at h <;> try (cases h;done)
 ·split at h <;> try (cases h;done)
  rename_i hi
  split at h <;> cases h
  intro i' hi'
  simp at hi';subst hi';rw [hi];rfl
 ·split at h <;> cases h
  intro i hi;simp at hi
def sealP (mem:Nat→Blk) (sh:List Kd):SV→Option (SV × List Nat × List Bool)
 | .ptr i o=>match mem i with
  | .cells _ l=>match kdsB sh l with
   | true=>some (.rp sh (datC l) 0 o,[i],[])
   | false=>none
  | _=>none
 | .rp sh' d k j=>match kdsEq sh' sh with
  | true=>some (.rp sh d k j,[],[])
  | false=>none
 | _=>none
theorem sealP_den {B:Nat} {M:List Nat} {ρ:Env} {mem:Nat→Blk} {w:World} (hm:MemDen B M ρ mem w) {od:Od} (he:OdExt ρ.od od) {sh:List Kd} {v v':SV} {sl:List Nat} {ns:List Bool} {x:Value} (h:sealP mem sh v=some (v',sl,ns))
  (hs:∀ i∈sl,∀ m,ρ i=some m→∀ o y,w.cell? ⟨m.blk,o,none⟩=some y→od m.blk o=some y) (hd:v.den ρ x):v'.den ⟨ρ.nm,od,ρ.gl.ext he⟩ x:=by
 unfold sealP at h
 split at h <;> try (cases h;done)
 ·rename_i i o
  split at h <;> try (cases h;done)
  rename_i e l hi
  split at h <;> cases h
  rename_i hb
  obtain ⟨m,hmi,rfl⟩:=hd
  obtain ⟨_,hbk,_⟩:=hm.get (by rw [hi];rfl) hmi
  rw [hi] at hbk
  obtain ⟨h0,c,hc,hl⟩:=hbk
  refine ⟨m.blk,0,by rw [h0],?_⟩
  rw [kdE_iff]
  intro j u hu
  have hu':=hu
  rw [el_datC hb] at hu
  obtain ⟨y,hy,hd⟩:=denL_get hl hu
  refine ⟨y,hs i (by simp) m hmi _ y ?_,?_⟩
  ·rw [Nat.zero_add,cell_of_row w m.blk _ c e (0,0) hc,← Array.getElem?_toList,← hy]
  ·rw [el_get] at hu'
   cases hs':sh[j]? with
   | none=>rw [hs'] at hu';cases hu'
   | some kd=>rw [hs'] at hu';cases hu';rw [kdSV_den] at hd ⊢;exact Kd.den_mono he hd
 ·rename_i sh' d k j
  split at h <;> cases h
  rename_i heq
  have e1:=kdsEq_ok heq
  subst e1
  obtain ⟨b,o,e,hL⟩:=hd
  exact ⟨b,o,e,Kd.denL_mono he hL⟩
theorem sealP_known {mem:Nat→Blk} {sh:List Kd} {v v':SV} {sl:List Nat} {ns:List Bool} (h:sealP mem sh v=some (v',sl,ns)):∀ i∈sl,(mem i).isUnk=false:=by
 unfold sealP at h
 split at h <;> try (cases h;done)
 ·split at h <;> try (cases h;done)
  rename_i hi
  split at h <;> cases h
  intro i' hi'
  simp at hi';subst hi';rw [hi];rfl
 ·split at h <;> cases h
  intro i hi;simp at hi
def sealQ (sh:List Kd):SV→Option (SV × List Nat × List Bool)
 | .rp sh' d k j=>(match kdsEq sh' sh with
  | true=>some (.rq true sh d k j,[],[])
  | false=>none)
 | .rq t sh' d k j=>(match kdsEq sh' sh with
  | true=>some (.rq t sh d k j,[],[])
  | false=>none)
 | .val v=>(match v with
  | .pointer none=>some (.rq false sh noDat 0 0,[],[])
  | _=>none)
 | _=>none
theorem sealQ_den {ρ:Env} {od:Od} (he:OdExt ρ.od od) {sh:List Kd} {v v':SV} {sl:List Nat} {ns:List Bool} {x:Value} (h:sealQ sh v=some (v',sl,ns)) (hd:v.den ρ x):v'.den ⟨ρ.nm,od,ρ.gl.ext he⟩ x:=by
 unfold sealQ at h
 split at h <;> try (cases h;done)
 ·split at h <;> cases h
  rename_i heq
  have e1:=kdsEq_ok heq
  subst e1
  obtain ⟨b,o,e,hL⟩:=hd
  exact .inl ⟨rfl,b,o,e,Kd.denL_mono he hL⟩
 ·split at h <;> cases h
  rename_i heq
  have e1:=kdsEq_ok heq
  subst e1
  exact hd.imp (fun ⟨t,b,o,e,hL⟩=>⟨t,b,o,e,Kd.denL_mono he hL⟩) id
 ·split at h <;> cases h
  exact .inr ⟨rfl,hd⟩
theorem sealQ_known {mem:Nat→Blk} {sh:List Kd} {v v':SV} {sl:List Nat} {ns:List Bool} (h:sealQ sh v=some (v',sl,ns)):∀ i∈sl,(mem i).isUnk=false:=by
 unfold sealQ at h
 split at h <;> try (cases h;done)
 all_goals (split at h <;> cases h;intro i hi;simp at hi)
def sealZ (sh:List Kd):SV→Option (SV × List Nat × List Bool)
 | .rz t i sh' d=>(match kdsEq sh' sh with
  | true=>some (.rz t i sh d,[],[])
  | false=>none)
 | .val v=>(match v with
  | .pointer none=>some (.rz false 0 sh noDat,[],[])
  | _=>none)
 | _=>none
theorem sealZ_den {ρ:Env} {od:Od} (he:OdExt ρ.od od) {sh:List Kd} {v v':SV} {sl:List Nat} {ns:List Bool} {x:Value} (h:sealZ sh v=some (v',sl,ns)) (hd:v.den ρ x):v'.den ⟨ρ.nm,od,ρ.gl.ext he⟩ x:=by
 unfold sealZ at h
 split at h <;> try (cases h;done)
 ·split at h <;> cases h
  rename_i heq
  have e1:=kdsEq_ok heq
  subst e1
  exact hd.imp (fun ⟨t,b,e,hp,hL⟩=>⟨t,b,e,he.p _ _ hp,Kd.denL_mono he hL⟩) id
 ·split at h <;> cases h
  exact .inr ⟨rfl,hd⟩
theorem sealZ_known {mem:Nat→Blk} {sh:List Kd} {v v':SV} {sl:List Nat} {ns:List Bool} (h:sealZ sh v=some (v',sl,ns)):∀ i∈sl,(mem i).isUnk=false:=by
 unfold sealZ at h
 split at h <;> try (cases h;done)
 all_goals (split at h <;> cases h;intro i hi;simp at hi)
def fnOf:SV→Option (Nat × List SV)
 | .fn f vs=>some (f,vs)
 | _=>none
theorem fnOf_some {v:SV} {p:Nat × List SV} (h:fnOf v=some p):v=.fn p.1 p.2:=by
 unfold fnOf at h
 split at h <;> cases h
 rfl
mutual
def sealV (mem:Nat→Blk):RH→SV→Option (SV × List Nat × List Bool)
 | .k,v=>some (v,[],[])
 | .ro sh,v=>match rdS sh mem v with
  | some (n,d,ns)=>some (.ro sh n d,nmS v,ns)
  | none=>none
 | .ra sh n,v=>sealA mem sh n v
 | .t l,.tup vs=>match sealVs mem l vs with
  | some (vs,sl,ns)=>some (.tup vs,sl,ns)
  | none=>none
 | .t l,.agg vs=>match sealVs mem l vs with
  | some (vs,sl,ns)=>some (.agg vs,sl,ns)
  | none=>none
 | .rp sh,v=>sealP mem sh v
 | .rq sh,v=>sealQ sh v
 | .rz sh,v=>sealZ sh v
 | .f l,v=>match fnOf v with
  | some p=>(match sealVs mem l p.2 with
   | some (vs,sl,ns)=>some (.fn p.1 vs,sl,ns)
   | none=>none)
  | none=>none
 | .t _,_=>none
def sealVs (mem:Nat→Blk):List RH→List SV→Option (List SV × List Nat × List Bool)
 | _,[]=>some ([],[],[])
 | [],vs=>some (vs,[],[])
 | h :: l,v :: vs=>match sealV mem h v with
  | some (v,sl,ns)=>(match sealVs mem l vs with
   | some (vs,sl',ns')=>some (v :: vs,sl ++ sl',ns ++ ns')
   | none=>none)
  | none=>none
end
mutual
theorem seal_den {B:Nat} {M:List Nat} {ρ:Env} {mem:Nat→Blk} {w:World} (hm:MemDen B M ρ mem w) {od:Od} (he:OdExt ρ.od od):∀ {h:RH} {v v':SV} {sl:List Nat} {ns:List Bool} {x:Value},sealV mem h v=some (v',sl,ns)→(∀ b∈ns,b=true) →
  (∀ i∈sl,∀ m,ρ i=some m→∀ o y,w.cell? ⟨m.blk,o,none⟩=some y→od m.blk o=some y)→v.den ρ x→v'.den ⟨ρ.nm,od,ρ.gl.ext he⟩ x
 | .k,v,v',sl,ns,x,h,_,_,hd=>by simp only [sealV] at h;cases h;exact SV.den_mono (od_ext he) _ _ hd
 | .ro sh,v,v',sl,ns,x,h,hn,hs,hd=>by
  simp only [sealV] at h
  split at h <;> cases h
  exact reads_ro he (rdS_reads hm (fun b o y hy=>he b o y hy) (fun i m hi hmi o y hy=>hs i hi m hmi o y hy) (by assumption) hn hd)
 | .ra sh n,v,v',sl,ns,x,h,hn,hs,hd=>by simp only [sealV] at h;exact sealA_den hm he h hs hd
 | .rp sh,v,v',sl,ns,x,h,hn,hs,hd=>by simp only [sealV] at h;exact sealP_den hm he h hs hd
 | .rq sh,v,v',sl,ns,x,h,hn,hs,hd=>by simp only [sealV] at h;exact sealQ_den he h hd
 | .rz sh,v,v',sl,ns,x,h,hn,hs,hd=>by simp only [sealV] at h;exact sealZ_den he h hd
 | .f l,v,v',sl,ns,x,h,hn,hs,hd=>by
  simp only [sealV] at h
  split at h <;> try (cases h;done)
  rename_i p hp
  split at h <;> cases h
  rw [fnOf_some hp] at hd
  obtain ⟨xs,e,hd⟩:=hd
  exact ⟨xs,e,seals_den hm he (by assumption) hn hs hd⟩
 | .t l,.tup vs,v',sl,ns,x,h,hn,hs,⟨xs,e,hd⟩=>by
  simp only [sealV] at h
  split at h <;> cases h
  exact ⟨xs,e,seals_den hm he (by assumption) hn hs hd⟩
 | .t l,.agg vs,v',sl,ns,x,h,hn,hs,⟨xs,e,hd⟩=>by
  simp only [sealV] at h
  split at h <;> cases h
  exact ⟨xs,e,seals_den hm he (by assumption) hn hs hd⟩
 | .t l,.any,_,_,_,_,h,_,_,_ | .t l,.int _ _,_,_,_,_,h,_,_,_ | .t l,.bool _,_,_,_,_,h,_,_,_ | .t l,.str _,_,_,_,_,h,_,_,_ | .t l,.ptr _ _,_,_,_,_,h,_,_,_ | .t l,.elt _ _ _ _,_,_,_,_,h,_,_,_=>by simp [sealV] at h
 | .t l,.slc _ _ _ _,_,_,_,_,h,_,_,_ | .t l,.own _ _ _,_,_,_,_,h,_,_,_ | .t l,.gr _ _ _,_,_,_,_,h,_,_,_ | .t l,.nsl,_,_,_,_,h,_,_,_ | .t l,.ro _ _ _,_,_,_,_,h,_,_,_ | .t l,.rp _ _ _ _,_,_,_,_,h,_,_,_=>by simp [sealV] at h
 | .t l,.rn _ _ _,_,_,_,_,h,_,_,_ | .t l,.ra _ _ _,_,_,_,_,h,_,_,_ | .t l,.pix _ _ _ _ _ _,_,_,_,_,h,_,_,_ | .t l,.fn _ _,_,_,_,_,h,_,_,_ | .t l,.fb _ _,_,_,_,_,h,_,_,_ | .t l,.gd _ _ _,_,_,_,_,h,_,_,_ | .t l,.val _,_,_,_,_,h,_,_,_ | .t l,.rq _ _ _ _ _,_,_,_,_,h,_,_,_ | .t l,.rz _ _ _ _,_,_,_,_,h,_,_,_ | .t l,.mp _ _,_,_,_,_,h,_,_,_ | .t l,.ni _,_,_,_,_,h,_,_,_ | .t l,.gv _,_,_,_,_,h,_,_,_ | .t l,.ifc _ _,_,_,_,_,h,_,_,_=>by simp [sealV] at h
theorem seals_den {B:Nat} {M:List Nat} {ρ:Env} {mem:Nat→Blk} {w:World} (hm:MemDen B M ρ mem w) {od:Od} (he:OdExt ρ.od od):∀ {h:List RH} {v v':List SV} {sl:List Nat} {ns:List Bool} {x:List Value},sealVs mem h v=some (v',sl,ns)→(∀ b∈ns,b=true) →
  (∀ i∈sl,∀ m,ρ i=some m→∀ o y,w.cell? ⟨m.blk,o,none⟩=some y→od m.blk o=some y)→SV.denL ρ v x→SV.denL ⟨ρ.nm,od,ρ.gl.ext he⟩ v' x
 | _,[],v',sl,ns,[],h,_,_,hd=>by simp only [sealVs] at h;cases h;trivial
 | [],v :: vs,v',sl,ns,x :: xs,h,_,_,hd=>by simp only [sealVs] at h;cases h;exact SV.denL_mono (od_ext he) _ _ hd
 | h0 :: l,v :: vs,v',sl,ns,x :: xs,h,hn,hs,⟨hd,hl⟩=>by
  simp only [sealVs] at h
  split at h <;> try (cases h;done)
  split at h <;> cases h
  exact ⟨seal_den hm he (by assumption) (fun b hb=>hn b (List.mem_append.2 (.inl hb))) (fun i hi=>hs i (List.mem_append.2 (.inl hi))) hd,seals_den hm he (by assumption) (fun b hb=>hn b (List.mem_append.2 (.inr hb))) (fun i hi=>hs i (List.mem_append.2 (.inr hi))) hl⟩
 | _,[],_,_,_,_ :: _,_,_,_,hd=>hd.elim
 | _,_ :: _,_,_,_,[],_,_,_,hd=>hd.elim
end
mutual
theorem seal_known {mem:Nat→Blk}:∀ {h:RH} {v v':SV} {sl:List Nat} {ns:List Bool},sealV mem h v=some (v',sl,ns)→∀ i∈sl,(mem i).isUnk=false
 | .k,v,v',sl,ns,h,i,hi=>by simp only [sealV] at h;cases h;simp at hi
 | .ro sh,v,v',sl,ns,h,i,hi=>by
  simp only [sealV] at h
  split at h <;> cases h
  exact rdS_known (by assumption) i hi
 | .ra sh n,v,v',sl,ns,h,i,hi=>by simp only [sealV] at h;exact sealA_known h i hi
 | .rp sh,v,v',sl,ns,h,i,hi=>by simp only [sealV] at h;exact sealP_known h i hi
 | .rq sh,v,v',sl,ns,h,i,hi=>by simp only [sealV] at h;exact sealQ_known h i hi
 | .rz sh,v,v',sl,ns,h,i,hi=>by simp only [sealV] at h;exact sealZ_known h i hi
 | .f l,v,v',sl,ns,h,i,hi=>by
  simp only [sealV] at h
  split at h <;> try (cases h;done)
  split at h <;> cases h
  exact seals_known (by assumption) i hi
 | .t l,v,v',sl,ns,h,i,hi=>by
  unfold sealV at h
  split at h <;> try (cases h;done)
  all_goals (rename_i e;cases e)
  all_goals (split at h <;> cases h;exact seals_known (by assumption) i hi)
theorem seals_known {mem:Nat→Blk}:∀ {h:List RH} {v v':List SV} {sl:List Nat} {ns:List Bool},sealVs mem h v=some (v',sl,ns)→∀ i∈sl,(mem i).isUnk=false
 | _,[],v',sl,ns,h,i,hi=>by simp only [sealVs] at h;cases h;simp at hi
 | [],v :: vs,v',sl,ns,h,i,hi=>by simp only [sealVs] at h;cases h;simp at hi
 | h0 :: l,v :: vs,v',sl,ns,h,i,hi=>by
  simp only [sealVs] at h
  split at h <;> try (cases h;done)
  split at h <;> cases h
  rcases List.mem_append.1 hi with hi | hi
  ·exact seal_known (by assumption) i hi
  ·exact seals_known (by assumption) i hi
end
end runs
end Go.Sy
namespace Go.Sy
set_option linter.unusedVariables false
set_option linter.unusedSimpArgs false
open Go.RowKit
set_option linter.unusedSectionVars false
variable [Globs]
section runs
variable {P:Program}
mutual
def SV.nms:SV→List Nat
 | .ptr i _ | .elt i _ _ _ | .slc i _ _ _ | .own i _ _ | .gr i _ _ | .pix i _ _ _ _ _=>[i]
 | .agg l | .tup l | .fn _ l | .fb _ l | .ifc _ l=>SV.nmsL l
 | _=>[]
def SV.nmsL:List SV→List Nat
 | []=>[]
 | v :: l=>v.nms ++ SV.nmsL l
end
def Blk.nms:Blk→List Nat
 | .cells _ l=>SV.nmsL l
 | _=>[]
def coll (mem:Nat→Blk) (stop:Nat→Bool):Nat→List Nat→List Nat→List Nat
 | 0,_,π=>π
 | _+1,[],π=>π
 | f+1,i :: todo,π=>match stop i||π.any (Nat.beq i) with
  | true=>coll mem stop f todo π
  | false=>coll mem stop f ((mem i).nms ++ todo) (π ++ [i])
def idx:List Nat→Nat→Nat→Option Nat
 | [],_,_=>none
 | j :: l,k,i=>match Nat.beq j i with
  | true=>some k
  | false=>idx l (k+1) i
theorem idx_some:∀ {l:List Nat} {k i j:Nat},idx l k i=some j→∃ t,j=k+t∧l[t]? = some i
 | [],_,_,_,h=>by simp [idx] at h
 | a :: l,k,i,j,h=>by
  simp only [idx] at h
  split at h
  ·rename_i e;rw [Nat.beq_eq] at e;subst e;cases h;exact ⟨0,rfl,rfl⟩
  ·obtain ⟨t,h1,h2⟩:=idx_some h;exact ⟨t+1,by omega,by simpa using h2⟩
def inL (l:List Nat) (i:Nat):Bool:=l.any (Nat.beq i)
theorem inL_iff {l:List Nat} {i:Nat}:inL l i=true↔i∈l:=by
 unfold inL
 rw [List.any_eq_true]
 constructor
 ·rintro ⟨j,hj,e⟩;rw [Nat.beq_eq] at e;rw [e];exact hj
 ·exact fun h=>⟨i,h,by rw [Nat.beq_eq]⟩
def stopOut (na:Nat) (grs:List Nat) (i:Nat):Bool:=Nat.blt i na&&!(inL grs i)
def sigOut (na:Nat) (grs π:List Nat) (i:Nat):Option Nat:=match stopOut na grs i with
 | true=>some i
 | false=>idx π na i
def outAll (na:Nat) (muts grs:List Nat) (rh:RH) (v:SV) (mem:Nat→Blk):Option (SV × List Blk × List Blk × List Bool) :=
 match sealV mem rh v with
 | some (v1,sl,ns) =>
  let π:=coll mem (stopOut na grs) 64 (v1.nms ++ muts.flatMap fun q=>match inL grs q with | true=>[] | false=>(mem q).nms) []
  let σ:=sigOut na grs π
  match (sl.isEmpty||muts.isEmpty)&&((sl.all fun i=>!(inL π i))&&(nodupB π&&((grs.all fun q=>inL muts q)&&π.all fun i=>!(stopOut na grs i)))),v1.ren σ,renBs σ (muts.map fun q=>match inL grs q with | true=>.unk | false=>mem q),renBs σ (π.map mem) with
  | true,some v',some U,some N=>some (v',U,N,ns)
  | _,_,_,_=>none
 | none=>none
def outK (na:Nat) (muts grs:List Nat) (rh:RH) (R:SV→List Blk→List Blk→Prop):SV→(Nat→Blk)→Prop:=fun v mem =>
 match outAll na muts grs rh v mem with
 | some (v,U,N,ns)=>needs ns (R v U N)
 | none=>False
theorem nodupB_at {l:List Nat} (h:nodupB l=true):∀ {i j:Nat} {x:Nat},l[i]? = some x→l[j]? = some x→i=j:=by
 induction l with
 | nil=>intro i j x hi;simp at hi
 | cons a l ih =>
  simp only [nodupB,Bool.and_eq_true,Bool.not_eq_true',List.any_eq_false] at h
  have hno:∀ x∈l,x≠a:=fun x hx e=>h.1 x hx (by rw [Nat.beq_eq];exact e)
  intro i j x hi hj
  cases i with
  | zero =>
   cases j with
   | zero=>rfl
   | succ j=>simp at hi;subst hi;exact absurd rfl (hno _ (List.mem_of_getElem? (by simpa using hj)))
  | succ i =>
   cases j with
   | zero=>simp at hj;subst hj;exact absurd rfl (hno _ (List.mem_of_getElem? (by simpa using hi)))
   | succ j=>exact congrArg (·+1) (ih h.2 (by simpa using hi) (by simpa using hj))
open Classical in
theorem out_post {M:List Nat} {ρ0 ρ:Env} {na:Nat} {muts grs:List Nat} {rh:RH} {v:SV} {x:Value} {mem0 mem:Nat→Blk} {w w':World} (hM0:MemDen w.heap.size M ρ0 mem0 w) (hfr:∀ i,na≤i→ρ0 i=none) (hMb:∀ b∈M,∃ q∈muts,∃ m,ρ0 q=some m∧m.blk=b) (hmn:∀ q∈muts,q<na)
  (hv:v.den ρ x) (he:Ext ρ0 ρ) (hlow:∀ i,i<na→ρ i=ρ0 i) (hodb:OdB ρ0.od ρ.od w.heap.size) (hm:MemDen w.heap.size M ρ mem w') (hk:Kept w.heap.size M w w')
  {v':SV} {U N:List Blk} {ns:List Bool} (h:outAll na muts grs rh v mem=some (v',U,N,ns)) (hn:∀ b∈ns,b=true) (need:List Bool) :
  ∃ ρ',OpPost ρ0 ρ' na { v:=v',news:=N,upds:=muts.zip U,need:=need } w w' x:=by
 unfold outAll at h
 split at h <;> try (cases h;done)
 rename_i v1 sl ns1 hseal
 simp only at h
 generalize hπ:coll mem (stopOut na grs) 64 (v1.nms ++ muts.flatMap fun q=>match inL grs q with | true=>[] | false=>(mem q).nms) []=π at h
 split at h <;> cases h
 rename_i hchk hv' hU hN
 simp only [Bool.and_eq_true,Bool.or_eq_true,List.isEmpty_iff,List.all_eq_true] at hchk
 obtain ⟨hsm,hsπ,hnd,hgm,hπs⟩:=hchk
 obtain ⟨hUl,hUg⟩:=renBs_get hU
 obtain ⟨hNl,hNg⟩:=renBs_get hN
 rw [List.length_map] at hUl hNl
 let S:Nat→Prop:=fun b=>∃ i,i∈sl∧∃ m,ρ i=some m∧m.blk=b
 let od2:Od:=⟨fun b o=>if S b then w'.cell? ⟨b,o,none⟩ else ρ.od b o,ρ.od.m,ρ.od.p⟩
 have hod:OdExt ρ.od od2:=.ofC fun b o y hy=>by
  show (if S b then w'.cell? ⟨b,o,none⟩ else ρ.od b o)=some y
  split
  ·exact hm.seal_ b o y hy
  ·exact hy
 let ρ':Env:=⟨fun i=>if i<na then ρ0 i else match π[i - na]? with | some j=>ρ j | none=>none,od2,ρ.gl.ext hod⟩
 have hSnew:∀ b,S b→w.heap.size≤b:=by
  rintro b ⟨i,hi,m,hmi,rfl⟩
  have hknown:=seal_known hseal i hi
  rcases (hm.get hknown hmi).2.2 with h | h
  ·exact h
  ·rcases hsm with h0 | h0
   ·rw [h0] at hi;simp at hi
   ·obtain ⟨q,hq,_⟩:=hMb _ h;rw [h0] at hq;simp at hq
 have hπn:∀ t j,π[t]? = some j→ρ' (na+t)=ρ j:=by
  intro t j ht
  show (if na+t<na then ρ0 (na+t) else match π[na+t - na]? with | some j=>ρ j | none=>none)=ρ j
  rw [if_neg (by omega),Nat.add_sub_cancel_left,ht]
 have hlow':∀ i,i<na→ρ' i=ρ0 i:=fun i hi=>by
  show (if i<na then ρ0 i else match π[i - na]? with | some j=>ρ j | none=>none)=ρ0 i
  rw [if_pos hi]
 have hσ:∀ i j,sigOut na grs π i=some j→∀ m,ρ i=some m→ρ' j=some m:=by
  intro i j hs m hmi
  unfold sigOut at hs
  split at hs
  ·rename_i hst
   cases hs
   have hi:i<na:=by simp only [stopOut,Bool.and_eq_true] at hst;simpa using hst.1
   rw [hlow' i hi,← hlow i hi];exact hmi
  ·obtain ⟨t,rfl,ht⟩:=idx_some hs
   rw [hπn t i ht];exact hmi
 have hσ2:∀ i j,sigOut na grs π i=some j→∀ m,(⟨ρ.nm,od2,ρ.gl.ext hod⟩:Env) i=some m→ρ' j=some m:=hσ
 have ext:Ext ρ0 ρ':=⟨fun i m hi=>by
  have hlt:i<na:=by
   rcases Nat.lt_or_ge i na with h | h
   ·exact h
   ·rw [hfr i h] at hi;cases hi
  rw [hlow' i hlt];exact hi,⟨fun b o y hy=>hod b o y (he.od b o y hy),fun b v hv=>he.od.m b v hv,fun b i hi=>he.od.p b i hi⟩⟩
 -- where a name's block lies
 have sealedApart:∀ i m,(mem i).isUnk=false→ρ i=some m→i ∉ sl→¬ S m.blk:=by
  rintro i m hi hmi hns ⟨i2,hi2,m2,hm2,e⟩
  exact hm.apart i2 i m2 m (fun e2=>hns (by rw [← e2];exact hi2)) (seal_known hseal i2 hi2) hi hm2 hmi e
 have odNone:∀ i m,(mem i).isUnk=false→ρ i=some m→i ∉ sl→∀ o,od2 m.blk o=none:=fun i m hi hmi hns o=>by
  show (if S m.blk then w'.cell? ⟨m.blk,o,none⟩ else ρ.od m.blk o)=none
  rw [if_neg (sealedApart i m hi hmi hns)]
  exact hm.free i m hi hmi o
 have πsl:∀ t j,π[t]? = some j→j ∉ sl:=fun t j ht hj=>by
  have h1:=hsπ j hj
  rw [Bool.not_eq_true'] at h1
  rw [inL_iff.2 (List.mem_of_getElem? ht)] at h1
  cases h1
 have updAt_:∀ q∈muts,∃ (t:Nat) (b:Blk),muts[t]? = some q∧U[t]? = some b∧(q,b)∈muts.zip U∧Blk.ren (sigOut na grs π) (match inL grs q with | true=>.unk | false=>mem q)=some b:=by
  intro q hq
  obtain ⟨t,ht⟩:=List.mem_iff_getElem?.1 hq
  have hlt:t<U.length:=by rw [hUl];exact (List.getElem?_eq_some_iff.1 ht).1
  refine ⟨t,U[t],ht,List.getElem?_eq_getElem hlt,?_,?_⟩
  ·rw [List.mem_iff_getElem?]
   exact ⟨t,by rw [List.getElem?_zip_eq_some];exact ⟨ht,List.getElem?_eq_getElem hlt⟩⟩
  ·obtain ⟨b,hb1,hb2⟩:=hUg t _ (List.getElem?_eq_getElem hlt)
   rw [List.getElem?_map,ht] at hb1
   cases hb1
   exact hb2
 have ofUpd:∀ u∈muts.zip U,u.1∈muts∧Blk.ren (sigOut na grs π) (match inL grs u.1 with | true=>.unk | false=>mem u.1)=some u.2:=by
  intro u hu
  obtain ⟨t,ht⟩:=List.mem_iff_getElem?.1 hu
  rw [List.getElem?_zip_eq_some] at ht
  obtain ⟨b,hb1,hb2⟩:=hUg t _ ht.2
  rw [List.getElem?_map,ht.1] at hb1
  cases hb1
  exact ⟨List.mem_of_getElem? ht.1,hb2⟩
 have hv1:=seal_den hm hod hseal hn (fun i hi m hmi o y hy=>by
  show (if S m.blk then w'.cell? ⟨m.blk,o,none⟩ else ρ.od m.blk o)=some y
  rw [if_pos ⟨i,hi,m,hmi,rfl⟩];exact hy) hv
 refine ⟨ρ',ren_den hσ2 hv' (fun _=>⟨fun _ _ _ h=>h,fun _ _ h=>h,fun _ _ h=>h⟩) hv1,ext,fun i hi=>?_,hk.os,hk.tape,hk.output,hk.size,fun b hb hu=>hk.block b hb fun hbM=>?_,⟨fun b o y hy=>?_,fun b v hv=>(hodb.m b v hv).imp id fun h1=>⟨hm.seal_.m b v hv,h1⟩,hodb.p⟩,fun u hu hku=>?_,fun t b ht hku=>?_,fun t t' b b' m m' hne ht ht' hkb hkb' hmt hmt'=>?_⟩
 ·rcases hi with hi | hi
  ·exact hlow' i hi
  ·have hge:na≤i:=by omega
   rw [hfr i hge]
   show (if i<na then ρ0 i else match π[i - na]? with | some j=>ρ j | none=>none)=none
   rw [if_neg (by omega),List.getElem?_eq_none_iff.2 (by simp only at hi;omega)]
 ·obtain ⟨q,hq,m,hqm,e⟩:=hMb b hbM
  obtain ⟨t,bb,_,_,hz,_⟩:=updAt_ q hq
  exact hu (q,bb) hz m hqm e
 ·by_cases hS:S b
  ·have hy':w'.cell? ⟨b,o,none⟩=some y:=by
    have:(if S b then w'.cell? ⟨b,o,none⟩ else ρ.od b o)=some y:=hy
    rwa [if_pos hS] at this
   exact .inr ⟨hy',hSnew b hS⟩
  ·have hy':ρ.od b o=some y:=by
    have:(if S b then w'.cell? ⟨b,o,none⟩ else ρ.od b o)=some y:=hy
    rwa [if_neg hS] at this
   rcases hodb b o y hy' with h1 | h1
   ·exact .inl h1
   ·exact .inr ⟨hm.seal_ b o y hy',h1⟩
 ·obtain ⟨hqm,hren⟩:=ofUpd u hu
  have hlt:=hmn _ hqm
  cases hg:inL grs u.1 with
  | true =>
   rw [hg] at hren
   simp only [Blk.ren,Option.some.injEq] at hren
   rw [← hren] at hku;cases hku
  | false =>
   rw [hg] at hren
   simp only at hren
   obtain ⟨hu1,hu2⟩:=renB_unk hren
   rw [hu1] at hku
   obtain ⟨g1,g2⟩:=hm.at_ u.1 hku
   refine ⟨fun m hmm=>?_,fun hnn=>hu2 (g2 (by rw [hlow _ hlt];exact hnn))⟩
   obtain ⟨_,g3,_⟩:=g1 m (by rw [hlow _ hlt];exact hmm)
   exact renB_den hσ hren (fun _=>hod) g3
 ·obtain ⟨b0,hb0,hren⟩:=hNg t b ht
  rw [List.getElem?_map] at hb0
  cases hj:π[t]? with
  | none=>rw [hj] at hb0;cases hb0
  | some j =>
   rw [hj] at hb0;cases hb0
   obtain ⟨hu1,hu2⟩:=renB_unk hren
   rw [hu1] at hku
   obtain ⟨g1,g2⟩:=hm.at_ j hku
   rw [hπn t j hj]
   refine ⟨fun m hmm=>?_,fun hnn=>hu2 (g2 hnn)⟩
   obtain ⟨g3,g4,g5⟩:=g1 m hmm
   refine ⟨g3,renB_den hσ hren (fun _=>hod) g4,odNone j m hku hmm (πsl t j hj),?_⟩
   rcases g5 with g5 | g5
   ·exact .inl g5
   ·obtain ⟨q,hq,mq,hqm,e⟩:=hMb _ g5
    have hqlt:=hmn q hq
    obtain ⟨t2,bb,_,_,hz,hren2⟩:=updAt_ q hq
    refine .inr ⟨(q,bb),hz,?_,mq,hqm,e⟩
    cases hg:inL grs q with
    | true=>rw [hg] at hren2;simp only [Blk.ren,Option.some.injEq] at hren2;rw [← hren2];rfl
    | false =>
     rw [hg] at hren2
     simp only at hren2
     rw [(renB_unk hren2).1]
     cases hku2:(mem q).isUnk with
     | true=>rfl
     | false =>
      exfalso
      have hqj:q≠j:=by
       intro e2
       subst e2
       have:=hπs q (List.mem_of_getElem? hj)
       rw [Bool.not_eq_true'] at this
       simp only [stopOut,hg,Bool.not_false,Bool.and_true] at this
       rw [blt_t hqlt] at this
       cases this
      exact hm.apart q j mq m hqj hku2 hku (by rw [hlow q hqlt];exact hqm) hmm e
 ·obtain ⟨b0,hb0,hren⟩:=hNg t b ht
  obtain ⟨b1,hb1,hren1⟩:=hNg t' b' ht'
  rw [List.getElem?_map] at hb0 hb1
  cases hj:π[t]? with
  | none=>rw [hj] at hb0;cases hb0
  | some j =>
   cases hj':π[t']? with
   | none=>rw [hj'] at hb1;cases hb1
   | some j' =>
    rw [hj] at hb0;cases hb0
    rw [hj'] at hb1;cases hb1
    rw [hπn t j hj] at hmt
    rw [hπn t' j' hj'] at hmt'
    rw [(renB_unk hren).1] at hkb
    rw [(renB_unk hren1).1] at hkb'
    exact hm.apart j j' m m' (fun e=>hne (nodupB_at hnd hj (by rw [e];exact hj'))) hkb hkb' hmt hmt'
theorem calls_out {L:Tab} (hL:TabOk P L) (hmix:P.follows .mixedOrders=true) {Λ:Lam} (fuel:Nat) {f:FuncId} {fn:Func} {c:Code} (hf:P.funcs[f]? = some fn) (hb:fn.body=some c) (hΛ:∀ id b g,hasBlk c id b→Λ id=some g→LOk P g (.block id b))
  {M:List Nat} {ρ0:Env} {na:Nat} {mem0:Nat→Blk} {args:List SV} {xs:List Value} {w:World} {muts grs:List Nat} {rh:RH} (hargs:SV.denL ρ0 args xs) (hM:MemDen w.heap.size M ρ0 mem0 w) (hfr:∀ i,na≤i→ρ0 i=none) (hMb:∀ b∈M,∃ q∈muts,∃ m,ρ0 q=some m∧m.blk=b) (hmn:∀ q∈muts,q<na) {R:SV→List Blk→List Blk→Prop}
  (h:exec P L Λ fuel c (initS fn.ntmps args na mem0) (retK P fn.results.toList (outK na muts grs rh R))) :
  Calls P f ⟨xs⟩ w fun e w'=>∃ v U N x ρ',e=.returned x∧R v U N∧OpPost ρ0 ρ' na { v:=v,news:=N,upds:=muts.zip U } w w' x:=by
 refine (calls_exec hL hmix hf hb hΛ hargs hM hfr (fun h0=>by
  cases M with
  | nil=>rfl
  | cons b l =>
   obtain ⟨q,hq,_⟩:=hMb b (by simp)
   have:=hmn q hq
   omega) h).mono ?_
 rintro e w' ⟨v,x,ρ,mem,rfl,hd,he,hlow,hodb,hm,hk,hR⟩
 unfold outK at hR
 split at hR
 ·rename_i v' U N ns hout
  rw [needs_iff] at hR
  obtain ⟨ρ',hp⟩:=out_post hM hfr hMb hmn hd he hlow hodb hm hk hout hR.1 []
  exact ⟨v',U,N,x,ρ',rfl,hR.2,hp⟩
 ·exact hR.elim
end runs
end Go.Sy
