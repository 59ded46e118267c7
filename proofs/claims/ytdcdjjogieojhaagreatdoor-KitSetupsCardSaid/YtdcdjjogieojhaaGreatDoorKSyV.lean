/-
 A symbolic executor for the model's code, part V: loops; contracts of functions. Conditions: none.
-/
import Derived.Test.YtdcdjjogieojhaaGreatDoorKSyM
set_option linter.unusedVariables false
set_option linter.unusedSimpArgs false
set_option linter.unusedSectionVars false
open Bool renaming and_eq_true->aq
open List renaming getElem?_eq_some_iff->ax,getElem?_eq_getElem->az,mem_cons_of_mem->aj
namespace Go.Sy
open Go.RowKit
variable [AO]
section runs
variable {P:Program}
inductive XE where
 | normal
 | exit (id:Nat)
 | ret
def XE.toExit:XE->Exit
 | .normal=>.normal
 | .exit id=>.exit id
 | .ret=>.ret
abbrev Tab:=List (Nat × Ctr)
def Cr(P:Program)(L:Tab):Prop:=∀ p∈L,Ag P p.2 p.1
theorem AM:Cr P []:=fun _ h=>by simp at h
theorem B8{n:Nat}{g:Ctr}{L:Tab}(hg:Ag P g n)(hl:Cr P L):Cr P ((n,g) :: L):=fun p hp=>by
 rcases List.mem_cons.1 hp with rfl | hp
 .exact hg
 .exact hl p hp
def Q8:Tab->Nat->Option Ctr
 | [],_=>none
 | p :: l,f=>match Nat.beq p.1 f with
  | true=>some p.2
  | false=>Q8 l f
def IT(pix:Bool)(L:Tab):Gam:=⟨Q8 L,pix⟩
theorem Fe{pix:Bool}{L:Tab}(h:Cr P L):DU P (IT pix L):=by
 induction L with
 | nil=>intro f g hg;cases hg
 | cons p l ih =>
  intro f g hg
  simp only [IT,Q8] at hg
  split at hg
  .rename_i e;rw [Nat.beq_eq] at e;subst e;cases hg;exact h p (by simp)
  .exact ih (fun q hq=>h q (aj _ hq)) f g hg
def FI:Tab->Nat->List Ctr
 | [],_=>[]
 | p :: l,f=>match Nat.beq p.1 f with
  | true=>p.2 :: FI l f
  | false=>FI l f
theorem LD{L:Tab}{f:Nat}{g:Ctr}(h:g∈FI L f):(f,g)∈L:=by
 induction L with
 | nil=>simp [FI] at h
 | cons p l ih =>
  simp only [FI] at h
  split at h
  .rename_i e;rw [Nat.beq_eq] at e;subst e
   rcases List.mem_cons.1 h with rfl | h
   .simp
   .exact aj _ (ih h)
  .exact aj _ (ih h)
def M5:List Oper->List Nat
 | []=>[]
 | o :: l=>match o.op with
  | .call c=>(match c.callee with
   | .value (.func f)=>f :: M5 l
   | _=>M5 l)
  | _=>M5 l
def JZ(pix:Bool)(L:Tab):List Nat->List Gam
 | []=>[IT pix L]
 | f :: l=>match FI L f with
  | a :: b :: gs=>(a :: b :: gs).map fun g=>IT pix ((f,g) :: L)
  | _=>JZ pix L l
theorem Ik{pix:Bool}{L:Tab}(h:Cr P L):∀ (fs:List Nat),∀ Γ∈JZ pix L fs,DU P Γ
 | [],Γ,hΓ=>by simp [JZ] at hΓ;subst hΓ;exact Fe h
 | f :: l,Γ,hΓ=>by
  simp only [JZ] at hΓ
  split at hΓ
  .rename_i a b gs he
   obtain ⟨g,hg,rfl⟩:=List.mem_map.1 hΓ
   exact Fe (B8 (h _ (LD (by rw [he];exact hg))) h)
  .exact Ik h l Γ hΓ
def orL:List Prop->Prop
 | []=>False
 | [p]=>p
 | p :: q :: l=>p\/orL (q :: l)
theorem KP:∀ {l:List Prop},orL l->∃ p∈l,p
 | [p],h=>⟨p,by simp,h⟩
 | p :: q :: l,h=>by
  rcases h with h | h
  .exact ⟨p,by simp,h⟩
  .obtain ⟨r,hr,h⟩:=KP h
   exact ⟨r,aj _ hr,h⟩
abbrev EZ:=XE->A4->Prop
abbrev AX:=A4->EZ->Prop
abbrev Lam:=Nat->Option AX
def La(f:A4->EZ->Prop):Nat->A4->EZ->Prop
 | 0,_,_=>False
 | n+1,s,k=>f s fun e s'=>match e with
  | .normal=>La f n s' k
  | .exit id=>k (.exit id) s'
  | .ret=>k .ret s'
def AT(P:Program)(L:Tab)(Λ:Lam)(fuel:Nat):Code->A4->EZ->Prop
 | .skip,s,k=>k .normal s
 | .region _ ops draw,s,k=>orL ((JZ (Nat.beq (fuel % 2) 1) L (M5 ops.toList)).map fun Γ=>match draw with
  | true=>(match Nat.beq (fuel / 2 % 2) 1 with
   | true=>NR P Γ ops s (k .normal)
   | false=>NQ P Γ ops s (k .normal))
  | false=>Lj P Γ ops ops.toList s (k .normal))
 | .seq x y,s,k=>AT P L Λ fuel x s fun e s'=>match e with
  | .normal=>AT P L Λ fuel y s' k
  | .exit id=>k (.exit id) s'
  | .ret=>k .ret s'
 | .cond c x y,s,k=>match ev s [] c with
  | .bool b=>cnd b (AT P L Λ fuel x s k) (AT P L Λ fuel y s k)
  | _=>False
 | .block id c,s,k=>match Λ id with
  | some g=>g s k
  | none=>AT P L Λ fuel c s fun e s'=>match e with
   | .normal=>k .normal s'
   | .exit j=>match Nat.beq j id with
    | true=>k .normal s'
    | false=>k (.exit j) s'
   | .ret=>k .ret s'
 | .loop c,s,k=>La (AT P L Λ fuel c) fuel s k
 | .exit id,s,k=>k (.exit id) s
 | .ret,s,k=>k .ret s
 | _,_,_=>False
def Dr:Code->Bool
 | .seq a b=>Dr a&&Dr b
 | .cond _ a b=>Dr a&&Dr b
 | .block _ a=>Dr a
 | .loop a=>Dr a
 | .rangeFunc _ _ _ _=>false
 | _=>true
def De(rd:Option Nat)(df:Option (List Deferred))(c:Code):Prop:=(rd=none/\df=none)\/Dr c=true
theorem De.l{rd:Option Nat}{df:Option (List Deferred)}{a b:Code}(h:De rd df (.seq a b)):De rd df a:=h.imp id fun h=>(aq _ _ ▸ h:Dr a=true/\Dr b=true).1
theorem De.r{rd:Option Nat}{df:Option (List Deferred)}{a b:Code}(h:De rd df (.seq a b)):De rd df b:=h.imp id fun h=>(aq _ _ ▸ h:Dr a=true/\Dr b=true).2
theorem De.cl{rd:Option Nat}{df:Option (List Deferred)}{o:Operand}{a b:Code}(h:De rd df (.cond o a b)):De rd df a:=h.imp id fun h=>(aq _ _ ▸ h:Dr a=true/\Dr b=true).1
theorem De.cr{rd:Option Nat}{df:Option (List Deferred)}{o:Operand}{a b:Code}(h:De rd df (.cond o a b)):De rd df b:=h.imp id fun h=>(aq _ _ ▸ h:Dr a=true/\Dr b=true).2
theorem De.lp{rd:Option Nat}{df:Option (List Deferred)}{a:Code}(h:De rd df (.loop a)):De rd df a:=h
theorem De.bk{rd:Option Nat}{df:Option (List Deferred)}{i:Nat}{a:Code}(h:De rd df (.block i a)):De rd df a:=h
def LOk(P:Program)(g:AX)(c:Code):Prop:=∀ (rd:Option Nat) (n:Nat) (B:Nat) (M:List Nat) (w0:BH) (s:A4) (k:EZ) (O:Env) (a:Act) (w:World) (Q:Exit->Act->World->Prop),De rd w0.df c->Ab B M w0 O s a w->g s k ->
 (∀ e s' O' a' w',Ab B M w0 O' s' a' w'->k e s'->Q e.toExit a' w')->c.wpIn (FW rd) n P Q a w
def Bf:Code->Nat->Code->Prop
 | .seq a b,id,c=>Bf a id c\/Bf b id c
 | .cond _ a b,id,c=>Bf a id c\/Bf b id c
 | .block i a,id,c=>(i=id/\a=c)\/Bf a id c
 | .loop a,id,c=>Bf a id c
 | .rangeFunc _ _ _ a,id,c=>Bf a id c
 | _,_,_=>False
theorem G7{f:A4->EZ->Prop}{c:Code}(hf:LOk P f c){rd:Option Nat}{nn:Nat}{B:Nat}{M:List Nat}{w0:BH}(hr:De rd w0.df c){k:EZ}{Q:Exit->Act->World->Prop}(hk:∀ e s' O' a' w',Ab B M w0 O' s' a' w'->k e s'->Q e.toExit a' w'):∀ (n:Nat) (s:A4) (O:Env) (a:Act) (w:World),
  Ab B M w0 O s a w->La f n s k->Code.roundsIn (FW rd) nn P c Q n a w
 | 0,_,_,_,_,_,h=>h.elim
 | n+1,s,O,a,w,hs,hx=>by
  rw [roundsIn_succ]
  refine hf rd nn B M w0 s _ O a w _ hr hs hx fun e s' O' a' w' hs' hk'=>?_
  cases e with
  | normal=>exact G7 hf hr hk n s' O' a' w' hs' hk'
  | exit id=>exact hk (.exit id) _ _ _ _ hs' hk'
  | ret=>exact hk .ret _ _ _ _ hs' hk'
theorem PH{f:A4->EZ->Prop}{c:Code}(hf:LOk P f c)(n:Nat):LOk P (La f n) (.loop c) :=
 fun _ _ _ _ _ s _ O a w _ hr hs hx hk=>wpIn_loop_rounds n (G7 hf hr.lp hk n s O a w hs hx)
theorem Cl{L:Tab}(hL:Cr P L)(hmix:P.follows .mixedOrders=true){Λ:Lam}{fuel:Nat}:∀ (c:Code),(∀ id b g,Bf c id b->Λ id=some g->LOk P g (.block id b))->LOk P (AT P L Λ fuel c) c:=by
 intro c
 induction c with
 | skip=>intro _ rd nn B M w0 s k O a w Q hr hs hx hk;exact wpIn_skip (hk .normal _ _ _ _ hs hx)
 | region id ops draw =>
  intro _ rd nn B M w0 s k O a w Q hr hs hx hk
  obtain ⟨p,hp,hx⟩:=KP hx
  obtain ⟨Γ,hΓ',rfl⟩:=List.mem_map.1 hp
  have hΓ:=Ik hL _ Γ hΓ'
  cases draw
  .exact wpIn_region_list (Ha hΓ (fun s' O' a' w' h h'=>hk .normal s' O' a' w' h h') ops.toList s O a w hs hx)
  .simp only at hx
   split at hx
   .exact PK hΓ hmix (fun s' O' a' w' h h'=>hk .normal s' O' a' w' h h') hs hx
   .exact Kp hΓ hmix (fun s' O' a' w' h h'=>hk .normal s' O' a' w' h h') hs hx
 | seq x y ihx ihy =>
  intro hΛ rd nn B M w0 s k O a w Q hr hs hx hk
  refine wpIn_seq (ihx (fun id b g h=>hΛ id b g (.inl h)) rd nn B M w0 s _ O a w _ hr.l hs hx fun e s' O' a' w' hs' hk'=>?_)
  cases e with
  | normal=>exact ihy (fun id b g h=>hΛ id b g (.inr h)) rd nn B M w0 s' k O' a' w' Q hr.r hs' hk' hk
  | exit id=>exact hk _ _ _ _ _ hs' hk'
  | ret=>exact hk _ _ _ _ _ hs' hk'
 | cond c x y ihx ihy =>
  intro hΛ rd nn B M w0 s k O a w Q hr hs hx hk
  simp only [AT] at hx
  split at hx <;> try exact hx.elim
  rename_i b hb
  have hc:=AF hs.tmDen (Az.nil a) c
  rw [hb] at hc
  rw [DV] at hx
  exact wpIn_cond_split hc (fun hbt=>ihx (fun id b g h=>hΛ id b g (.inl h)) rd nn B M w0 s k O a w Q hr.cl hs (hx.1 hbt) hk) (fun hbf=>ihy (fun id b g h=>hΛ id b g (.inr h)) rd nn B M w0 s k O a w Q hr.cr hs (hx.2 hbf) hk)
 | block id c ih =>
  intro hΛ rd nn B M w0 s k O a w Q hr hs hx hk
  simp only [AT] at hx
  split at hx
  .rename_i g hg
   exact hΛ id c g (.inl ⟨rfl,rfl⟩) hg rd nn B M w0 s k O a w Q hr hs hx hk
  .refine wpIn_block (ih (fun id b g h=>hΛ id b g (.inr h)) rd nn B M w0 s _ O a w _ hr.bk hs hx fun e s' O' a' w' hs' hk'=>?_)
   cases e with
   | normal=>exact hk .normal _ _ _ _ hs' hk'
   | exit j =>
    show Exit.inBlock id Q (.exit j) a' w'
    simp only [Exit.inBlock]
    simp only at hk'
    split at hk'
    .rename_i hj;rw [Nat.beq_eq] at hj;rw [if_pos hj];exact hk .normal _ _ _ _ hs' hk'
    .rename_i hj;rw [if_neg (Nat.ne_of_beq_eq_false hj)];exact hk (.exit j) _ _ _ _ hs' hk'
   | ret=>exact hk .ret _ _ _ _ hs' hk'
 | loop c ih=>intro hΛ;exact PH (ih (fun id b g h=>hΛ id b g h)) fuel
 | exit id=>intro _ rd nn B M w0 s k O a w Q hr hs hx hk;exact wpIn_exit (hk (.exit id) _ _ _ _ hs hx)
 | ret=>intro _ rd nn B M w0 s k O a w Q hr hs hx hk;exact wpIn_ret (hk .ret _ _ _ _ hs hx)
 | rangeFunc f ps x y _ _=>intro _ rd nn B M w0 s k O a w Q hr hs hx hk;exact hx.elim
 | scope c _=>intro _ rd nn B M w0 s k O a w Q hr hs hx hk;exact hx.elim
 | label l=>intro _ rd nn B M w0 s k O a w Q hr hs hx hk;exact hx.elim
 | goto l=>intro _ rd nn B M w0 s k O a w Q hr hs hx hk;exact hx.elim
 | refuse y=>intro _ rd nn B M w0 s k O a w Q hr hs hx hk;exact hx.elim
def Jh(P:Program)(s:A4):List ResultVar->Option (List SV × List Bool)
 | []=>some ([],[])
 | .tmp t :: l=>match Jh P s l with
  | some (vs,ns)=>some (ev s [] (.tmp t) :: vs,ns)
  | none=>none
 | .cell a t :: l=>match ev s [] (.tmp a) with
  | .ptr i o=>match HW P s.mem t (.ptr i o),Jh P s l with
   | some r,some (vs,ns)=>some (r.v :: vs,r.need ++ ns)
   | _,_=>none
  | _=>none
def QW:List SV->SV
 | [v]=>v
 | vs=>.tup vs
def Fv(tmps:Array Value):ResultVar->Sem Value
 | .tmp t=>pure (tmps.getD t undef)
 | .cell a t=>do loadVar t (<- asAddr (tmps.getD a undef))
theorem Jj(fn:Func)(tmps:Array Value):results fn tmps=(do
 let vs <- fn.results.mapM (Fv tmps)
 pure (if h:vs.size=1 then vs[0] else .tuple vs)):=by
 unfold results
 congr 1
theorem Ji{B:Nat}{M:List Nat}{w0:BH}{O:Env}{s:A4}{a:Act}{w:World}(h:Ab B M w0 O s a w):∀ (l:List ResultVar) (vs:List SV) (ns:List Bool),Jh P s l=some (vs,ns)->(∀ b∈ns,b=true) ->
  ∃ xs:List Value,(l.mapM (Fv a.tmps)).run P w=.ok xs w/\SV.denL O vs xs
 | [],vs,ns,hr,_=>by simp only [Jh,Option.some.injEq,Prod.mk.injEq] at hr;obtain ⟨rfl,rfl⟩:=hr;exact ⟨[],by simp,trivial⟩
 | .tmp t :: l,vs,ns,hr,hn=>by
  simp only [Jh] at hr
  split at hr <;> cases hr
  rename_i vs' hl
  obtain ⟨xs,h1,h2⟩:=Ji h l vs' ns hl hn
  refine ⟨a.tmps.getD t undef :: xs,?_,AF h.tmDen (Az.nil a) (.tmp t),h2⟩
  simp only [List.mapM_cons,Fv,Sem.run_bind,Sem.run_pure,Result.andThen_ok,h1]
 | .cell c t :: l,vs,ns,hr,hn=>by
  simp only [Jh] at hr
  split at hr <;> try (cases hr;done)
  rename_i i o hc
  split at hr <;> try (cases hr;done)
  rename_i r vs' ns' hx hl
  cases hr
  obtain ⟨xs,h1,h2⟩:=Ji h l vs' ns' hl fun b hb=>hn b (List.mem_append.2 (.inr hb))
  have hp:=AF h.tmDen (Az.nil a) (.tmp c)
  rw [hc] at hp
  obtain ⟨y,hy,hpost⟩:=Dx h.mem hx (fun b hb=>hn b (List.mem_append.2 (.inl hb))) hp s.nx
  obtain ⟨m,hm,he⟩:=hp
  refine ⟨y :: xs,?_,hpost.val,h2⟩
  have he':a.tmps.getD c undef=.pointer (some ⟨m.blk,m.off+o,none⟩):=he
  rw [he] at hy
  simp only [Instr.loadAt,Instr.sureAddr,Sem.run_bind,Sem.run_pure,Result.andThen_ok] at hy
  simp only [List.mapM_cons,Fv,Sem.run_bind,he',asAddr,Sem.run_pure,Result.andThen_ok,hy,h1]
theorem E3{B:Nat}{M:List Nat}{w0:BH}{O:Env}{s:A4}{a:Act}{w:World}(h:Ab B M w0 O s a w)(fn:Func)(vs:List SV)(ns:List Bool)(hr:Jh P s fn.results.toList=some (vs,ns))(hn:∀ b∈ns,b=true) :
  ∃ x,(results fn a.tmps).run P w=.ok x w/\(QW vs).den O x:=by
 obtain ⟨xs,h1,h2⟩:=Ji h fn.results.toList vs ns hr hn
 have hm:(fn.results.mapM (Fv a.tmps)).run P w=.ok xs.toArray w:=by
  rw [<- Array.toArray_toList (xs:=fn.results),List.mapM_toArray,Sem.run_map]
  rw [h1]
  rfl
 refine ⟨if h:xs.toArray.size=1 then xs.toArray[0] else .tuple xs.toArray,?_,?_⟩
 .rw [Jj,Sem.run_bind,hm]
  rfl
 .match vs,xs,h2 with
  | [],[],_=>exact ⟨[],by simp,trivial⟩
  | [v],[x],⟨hv,_⟩=>exact hv
  | v :: v' :: vs,x :: x' :: xs,h2=>exact ⟨x :: x' :: xs,by simp,h2⟩
end runs
attribute [irreducible] AT
end Go.Sy
namespace Go.Sy
open Go.RowKit
variable [AO]
section runs
variable {P:Program}
def Cb(nt:Nat)(args:List SV)(nx:Nat)(mem:Nat->Blk):A4 :=
 {na:=nx,nt:=args.length+(nt - args.length),tm:=fun i=>match args[i]? with | some v=>v.top | none=>.any,nx:=nx,mem:=mem }
def EQ(P:Program)(rs:List ResultVar)(R:SV->(Nat->Blk)->Prop):EZ:=fun e s=>match e with
 | .exit _=>False
 | .normal=>match Jh P s rs with
  | some (vs,ns)=>Ay ns (R (QW vs) s.mem)
  | none=>False
 | .ret=>match Jh P s rs with
  | some (vs,ns)=>Ay ns (R (QW vs) s.mem)
  | none=>False
theorem Ab.unmark{B:Nat}{M:List Nat}{b0:World}{O0 O:Env}{n0:Nat}{s:A4}{a:Act}{w:World}(h:Ab B M ⟨b0,O0,n0,fun _=>none,none⟩ O s a w){d:Deferred}{ds:List Deferred}(hd:a.defers=d :: ds) :
  ∃ D,d={ target:=.collected D,args:=#[] }/\(Instr.takeDeferred D).run P w=.ok [] (w.putObj D (.deferred none))/\Ab B M ⟨b0,O0,n0,fun _=>none,none⟩ O s { a with defers:=ds } (w.putObj D (.deferred none)):=by
 obtain ⟨D,e,hB,hD⟩:=h.defs.at_ d (by rw [hd];simp)
 have hk:∀ b,b≠D->(w.putObj D (.deferred none)).heap[b]? = w.heap[b]?:=fun b hb=>World.putObj_heap_other hb
 have hne:∀ b o v,w.cell? ⟨b,o,none⟩=some v->b≠D:=by
  intro b o v hc e2
  subst e2
  simp [World.cell?,hD.at_] at hc
 have hnd:=h.defs.nd
 rw [hd] at hnd
 have hnd:=List.nodup_cons.1 hnd
 refine ⟨D,e,run_takeDeferred hD.at_,⟨⟨fun _ _ h=>(by cases h),fun d' hd'=>?_,hnd.2,fun _ h=>(by cases h)⟩,h.size,h.tmp,h.fresh,⟨fun i hi=>⟨fun m hm=>?_,(h.mem.at_ i hi).2⟩,h.mem.apart,⟨fun b o v hv=>?_,fun b v hv=>(hk b fun e2=>by have:=h.mem.seal_.m b v hv;rw [e2,hD.at_] at this;cases this).trans (h.mem.seal_.m b v hv),fun b i hp=>let ⟨⟨v,hv⟩,c,t,hc⟩:=h.mem.seal_.p b i hp;⟨⟨v,hv⟩,c,t,(hk b (hne b 0 v (h.mem.seal_ b 0 v hv))).trans hc⟩⟩,h.mem.free,Gs.keep h.mem.pv O.gl (fun b o v hv=>hk b (hne b o v (h.mem.seal_ b o v hv))) fun b v hv=>hk b fun e2=>by have:=h.mem.seal_.m b v hv;rw [e2,hD.at_] at this;cases this⟩,?_,by rw [World.putObj_size];exact h.base,h.ext,h.argn,h.argl,h.nab,h.nale,h.odb,h.mz⟩⟩
 .obtain ⟨D',e',hB',hD'⟩:=h.defs.at_ d' (by rw [hd];exact aj _ hd')
  exact ⟨D',e',hB',hD'.same (hk _ fun e2=>hnd.1 (by rw [e,<- e2,<- e'];exact hd'))⟩
 .obtain ⟨g1,g2,g3⟩:=h.mem.get hi hm
  exact ⟨by rw [World.putObj_size];exact g1,Blk.den_same g2 (hk _ (hD.off i m hi hm)),g3⟩
 .rw [World.cell?_of_block (w:=w) (hk b (hne b o v (h.mem.seal_ b o v hv)))]
  exact h.mem.seal_ b o v hv
 .have k:=h.kept
  exact ⟨k.os,k.tape,k.output,by rw [World.putObj_size];exact k.size,fun b hb hM=>(hk b (by omega)).trans (k.block b hb hM)⟩
theorem N3{L:Tab}(hL:Cr P L)(hmix:P.follows .mixedOrders=true){Λ:Lam}{fuel:Nat}{f:FuncId}{fn:Func}{c:Code}(hf:P.funcs[f]? = some fn)(hb:fn.body=some c)(hΛ:∀ id b g,Bf c id b->Λ id=some g->LOk P g (.block id b)){M:List Nat}{O0:Env}{nx0:Nat}{mem0:Nat->Blk}{args:List SV}{xs:List Value}{w:World}(hargs:SV.denL O0 args xs)(hM:Ak w.heap.size M O0 mem0 w)(hfr:∀ i,nx0<=i->O0 i=none)(hz:nx0=0->M=[]){R:SV->(Nat->Blk)->Prop}(h:AT P L Λ fuel c (Cb fn.ntmps args nx0 mem0) (EQ P fn.results.toList R)) :
  Calls P f ⟨xs⟩ w fun e w'=>∃ v x O mem,e=.returned x/\v.den O x/\Ext O0 O/\(∀ i,i<nx0->O i=O0 i)/\OdB O0.od O.od w.heap.size/\Ak w.heap.size M O mem w'/\AR w.heap.size M w w'/\R v mem:=by
 have hlen:=Ax hargs
 refine (callsIn_wide (n:=0)).1 (callsIn_of_wp_marks (F:=Fence.wide) hf hb trivial (Cl hL hmix c hΛ none 0 w.heap.size M ⟨w,O0,nx0,fun _=>none,none⟩ _ _ O0 _ w _ (.inl ⟨rfl,rfl⟩) ?_ h ?_))
 .refine ⟨EB.none _ _ _ _,?_,fun i x hx=>?_,hfr,hM,AR.refl _ _ _,Nat.le_refl _,Ext.refl _,hfr,fun _ _=>rfl,rfl,Nat.le_refl _,⟨fun _ _ _ h=>.inl h,fun _ _ h=>.inl h,rfl⟩,hz⟩
  .simp [Cb,hlen]
  .simp only [Cb]
   cases ha:args[i]? with
   | none=>trivial
   | some v =>
    obtain ⟨y,hy,hd⟩:=AP hargs ha
    have hi:i<xs.length:=(ax.1 hy).1
    simp only [Array.getElem?_append] at hx
    rw [if_pos (by simpa using hi)] at hx
    have hxy:x=y:=by
     have:xs[i]? = some x:=by simpa using hx
     rw [this] at hy;cases hy;rfl
    rw [hxy]
    exact C9 hd
 .intro e s' O' a' w' hs hk
  have key:∀ (ds:List Deferred) (a':Act) (w':World) vs ns,a'.defers=ds->Ab w.heap.size M ⟨w,O0,nx0,fun _=>none,none⟩ O' s' a' w'->Jh P s' fn.results.toList=some (vs,ns)->Ay ns (R (QW vs) s'.mem) ->
    LeavesInM Fence.wide 0 P fn a'.tmps (fun e w'=>∃ v x O mem,e=.returned x/\v.den O x/\Ext O0 O/\(∀ i,i<nx0->O i=O0 i)/\OdB O0.od O.od w.heap.size/\Ak w.heap.size M O mem w'/\AR w.heap.size M w w'/\R v mem) ds .returning w':=by
   intro ds
   induction ds with
   | nil =>
    intro a' w' vs ns _ hs hr hn
    rw [Ac] at hn
    obtain ⟨x,hx,hd⟩:=E3 hs fn vs ns hr hn.1
    exact ⟨x,hx,_,x,O',_,rfl,hd,hs.ext,hs.argl,hs.odb,hs.mem,hs.kept,hn.2⟩
   | cons d ds ih =>
    intro a' w' vs ns hd hs hr hn
    obtain ⟨D,e,ht,hs'⟩:=hs.unmark (P:=P) hd
    exact ⟨by simp,.inl ⟨D,_,by rw [e],ht,ih { a' with defers:=ds } _ vs ns rfl hs' hr hn⟩⟩
  cases e with
  | exit id=>exact hk.elim
  | normal =>
   simp only [EQ] at hk
   split at hk
   .exact key _ _ _ _ _ rfl hs (by assumption) hk
   .exact hk.elim
  | ret =>
   simp only [EQ] at hk
   split at hk
   .exact key _ _ _ _ _ rfl hs (by assumption) hk
   .exact hk.elim
end runs
end Go.Sy
namespace Go.Sy
open Go.RowKit
variable [AO]
section runs
variable {P:Program}
def Kd.plain:Kd->Bool
 | .sl _ | .pt _ | .pz _ | .mi _ | .mb | .m1=>false
 | _=>true
mutual
def SV.nro:SV->Bool
 | .ro _ _ _ | .rp _ _ _ _ | .ra _ _ _ | .rn _ _ _ | .rq _ _ _ _ _ | .rz _ _ _ _ | .mp _ _ | .gv _=>false
 | .agg l | .tup l | .fn _ l | .fb _ l | .ifc _ l=>SV.nroL l
 | _=>true
def SV.nroL:List SV->Bool
 | []=>true
 | v :: l=>v.nro&&SV.nroL l
end
def Blk.nro:Blk->Bool
 | .cells _ l=>SV.nroL l
 | .row _ sh _ _=>sh.all Kd.plain
 | .unk=>true
mutual
def SV.ren(σ:Nat->Option Nat):SV->Option SV
 | .ptr i o=>match σ i with | some j=>some (.ptr j o) | none=>none
 | .elt i s k c=>match σ i with | some j=>some (.elt j s k c) | none=>none
 | .slc i s k n=>match σ i with | some j=>some (.slc j s k n) | none=>none
 | .own i s n=>match σ i with | some j=>some (.own j s n) | none=>none
 | .gr i s n=>match σ i with | some j=>some (.gr j s n) | none=>none
 | .agg l=>match SV.renL σ l with | some l=>some (.agg l) | none=>none
 | .tup l=>match SV.renL σ l with | some l=>some (.tup l) | none=>none
 | .fn f l=>match SV.renL σ l with | some l=>some (.fn f l) | none=>none
 | .fb f l=>match SV.renL σ l with | some l=>some (.fb f l) | none=>none
 | .ifc f l=>match SV.renL σ l with | some l=>some (.ifc f l) | none=>none
 | .ni b=>some (.ni b)
 | .gv g=>some (.gv g)
 | .gd _ _ _=>none
 | .any=>some .any
 | .int k n=>some (.int k n)
 | .bool b=>some (.bool b)
 | .str s=>some (.str s)
 | .nsl=>some .nsl
 | .emp=>some .emp
 | .ro sh n d=>some (.ro sh n d)
 | .rp sh d k j=>some (.rp sh d k j)
 | .ra sh n d=>some (.ra sh n d)
 | .rn sh n d=>some (.rn sh n d)
 | .pix i o s m k c=>match σ i with | some j=>some (.pix j o s m k c) | none=>none
 | .val v=>some (.val v)
 | .rq t sh d k j=>some (.rq t sh d k j)
 | .rz t i sh d=>some (.rz t i sh d)
 | .mp kd e=>some (.mp kd e)
def SV.renL(σ:Nat->Option Nat):List SV->Option (List SV)
 | []=>some []
 | v :: l=>match v.ren σ with
  | some v=>(match SV.renL σ l with | some l=>some (v :: l) | none=>none)
  | none=>none
end
def Blk.ren(σ:Nat->Option Nat):Blk->Option Blk
 | .cells e l=>match SV.renL σ l with | some l=>some (.cells e l) | none=>none
 | .row e sh n d=>some (.row e sh n d)
 | .unk=>some .unk
def HR(σ:Nat->Option Nat):List Blk->Option (List Blk)
 | []=>some []
 | b :: l=>match b.ren σ with
  | some b=>(match HR σ l with | some l=>some (b :: l) | none=>none)
  | none=>none
mutual
theorem FO{σ:Nat->Option Nat}{O O2:Env}(hσ:∀ i j,σ i=some j->∀ m,O i=some m->O2 j=some m):∀ {v v':SV} {x:Value},v.ren σ=some v'->(v.nro=false->AB O.od O2.od)->v.den O x->v'.den O2 x
 | .ptr i o,v',x,h,_,⟨m,hm,e⟩=>by simp only [SV.ren] at h;split at h <;> cases h;exact ⟨m,hσ _ _ (by assumption) m hm,e⟩
 | .elt i s k c,v',x,h,_,⟨m,hm,e⟩=>by simp only [SV.ren] at h;split at h <;> cases h;exact ⟨m,hσ _ _ (by assumption) m hm,e⟩
 | .slc i s k n,v',x,h,_,⟨A,c,e,hc,hA⟩=>by
  simp only [SV.ren] at h;split at h <;> cases h
  exact ⟨A,c,e,hc,fun h0=>let ⟨m,hm,ha⟩:=hA h0;⟨m,hσ _ _ (by assumption) m hm,ha⟩⟩
 | .own i s n,v',x,h,_,⟨m,hm,e⟩=>by simp only [SV.ren] at h;split at h <;> cases h;exact ⟨m,hσ _ _ (by assumption) m hm,e⟩
 | .gr i s n,v',x,h,_,hd=>by
  simp only [SV.ren] at h;split at h <;> cases h
  exact hd.imp id fun ⟨m,hm,e⟩=>⟨m,hσ _ _ (by assumption) m hm,e⟩
 | .agg l,v',x,h,ho,⟨xs,e,hl⟩=>by simp only [SV.ren] at h;split at h <;> cases h;exact ⟨xs,e,CJ hσ (by assumption) ho hl⟩
 | .tup l,v',x,h,ho,⟨xs,e,hl⟩=>by simp only [SV.ren] at h;split at h <;> cases h;exact ⟨xs,e,CJ hσ (by assumption) ho hl⟩
 | .fn f l,v',x,h,ho,⟨xs,e,hl⟩=>by simp only [SV.ren] at h;split at h <;> cases h;exact ⟨xs,e,CJ hσ (by assumption) ho hl⟩
 | .fb f l,v',x,h,ho,⟨xs,e,hl⟩=>by simp only [SV.ren] at h;split at h <;> cases h;exact ⟨xs,e,CJ hσ (by assumption) ho hl⟩
 | .ifc f l,v',x,h,ho,⟨xs,e,hl⟩=>by simp only [SV.ren] at h;split at h <;> cases h;exact ⟨xs,e,CJ hσ (by assumption) ho hl⟩
 | .ni _,v',x,h,_,hd=>by simp only [SV.ren] at h;cases h;exact hd
 | .gv _,v',x,h,ho,⟨b,es,c,e,g,o⟩=>by simp only [SV.ren] at h;cases h;exact ⟨b,es,c,e,(ho rfl).m _ _ g,o⟩
 | .gd _ _ _,_,_,h,_,_=>by simp [SV.ren] at h
 | .any,v',x,h,_,hd=>by simp only [SV.ren] at h;cases h;exact hd
 | .int k n,v',x,h,_,hd=>by simp only [SV.ren] at h;cases h;exact hd
 | .bool b,v',x,h,_,hd=>by simp only [SV.ren] at h;cases h;exact hd
 | .str s,v',x,h,_,hd=>by simp only [SV.ren] at h;cases h;exact hd
 | .nsl,v',x,h,_,hd=>by simp only [SV.ren] at h;cases h;exact hd
 | .emp,v',x,h,_,hd=>by simp only [SV.ren] at h;cases h;exact hd
 | .val _,v',x,h,_,hd=>by simp only [SV.ren] at h;cases h;exact hd
 | .ro sh n d,v',x,h,ho,⟨A,c,e,hc,hA⟩=>by
  simp only [SV.ren] at h;cases h
  exact ⟨A,c,e,hc,fun h0=>let ⟨b,o,ha,hq⟩:=hA h0;⟨b,o,ha,fun q hl=>Kd.denL_mono (ho rfl) (hq q hl)⟩⟩
 | .rp sh d k j,v',x,h,ho,⟨b,o,e,hA⟩=>by
  simp only [SV.ren] at h;cases h
  exact ⟨b,o,e,Kd.denL_mono (ho rfl) hA⟩
 | .rn sh n d,v',x,h,ho,⟨a,c,e,hc,hA⟩=>by
  simp only [SV.ren] at h;cases h
  exact ⟨a,c,e,hc,fun h0=>let ⟨b,o,ha,hq⟩:=hA h0;⟨b,o,ha,fun q hl=>Kd.denL_mono (ho rfl) (hq q hl)⟩⟩
 | .ra sh n d,v',x,h,ho,⟨b,o,e,hA⟩=>by
  simp only [SV.ren] at h;cases h
  exact ⟨b,o,e,fun q hq=>Kd.denL_mono (ho rfl) (hA q hq)⟩
 | .pix i o s m k c,v',x,h,_,⟨mm,hm,e⟩=>by simp only [SV.ren] at h;split at h <;> cases h;exact ⟨mm,hσ _ _ (by assumption) mm hm,e⟩
 | .rq t sh d k j,v',x,h,ho,hd=>by
  simp only [SV.ren] at h;cases h
  exact hd.imp (fun ⟨e,b,o,hx,hA⟩=>⟨e,b,o,hx,Kd.denL_mono (ho rfl) hA⟩) id
 | .rz t i sh d,v',x,h,ho,hd=>by
  simp only [SV.ren] at h;cases h
  exact hd.imp (fun ⟨e,b,hx,hp,hA⟩=>⟨e,b,hx,(ho rfl).p _ _ hp,Kd.denL_mono (ho rfl) hA⟩) id
 | .mp kd e,v',x,h,ho,hd=>by
  simp only [SV.ren] at h;cases h
  exact Kd.den_mono (ho rfl) hd
theorem CJ{σ:Nat->Option Nat}{O O2:Env}(hσ:∀ i j,σ i=some j->∀ m,O i=some m->O2 j=some m):∀ {l l':List SV} {xs:List Value},SV.renL σ l=some l'->(SV.nroL l=false->AB O.od O2.od)->SV.denL O l xs->SV.denL O2 l' xs
 | [],l',[],h,_,_=>by simp only [SV.renL] at h;cases h;trivial
 | v :: l,l',x :: xs,h,ho,⟨hd,hl⟩=>by
  simp only [SV.renL] at h
  split at h <;> try (cases h;done)
  split at h <;> cases h
  exact ⟨FO hσ (by assumption) (fun hn=>ho (by simp [SV.nroL,hn])) hd,CJ hσ (by assumption) (fun hn=>ho (by simp [SV.nroL,hn])) hl⟩
 | [],_,_ :: _,_,_,hl=>hl.elim
 | _ :: _,_,[],_,_,hl=>hl.elim
end
theorem TW{od od':Od}{kd:Kd}(hp:kd.plain=true){d:Dat}{k c:Nat}{x:Value}(h:kd.den od d k c x):kd.den od' d k c x:=by cases kd <;> first | exact h | cases hp
theorem DN{σ:Nat->Option Nat}{O O2:Env}(hσ:∀ i j,σ i=some j->∀ m,O i=some m->O2 j=some m){b b':Blk}(h:b.ren σ=some b')(ho:b.nro=false->AB O.od O2.od){w:World}{m:Nm}(hd:b.den O w m):b'.den O2 w m:=by
 cases b with
 | unk=>cases h;trivial
 | cells e l =>
  simp only [Blk.ren] at h
  split at h <;> cases h
  obtain ⟨h0,c,hc,hl⟩:=hd
  exact ⟨h0,c,hc,CJ hσ (by assumption) ho hl⟩
 | row e sh n d =>
  cases h
  obtain ⟨h0,h1,h2,h3⟩:=hd
  refine ⟨h0,h1,h2,fun k hk=>⟨(h3 k hk).1,fun j v hv=>?_⟩⟩
  obtain ⟨x,hx,hdx⟩:=(h3 k hk).2 j v hv
  refine ⟨x,hx,?_⟩
  rw [C8] at hv
  cases hs:sh[j]? with
  | none=>rw [hs] at hv;cases hv
  | some kd =>
   rw [hs] at hv;cases hv
   rw [DG] at hdx ⊢
   cases hn:Blk.nro (.row e sh n d) with
   | false=>exact Kd.den_mono (ho hn) hdx
   | true=>exact TW ((List.all_eq_true.1 hn) kd (List.mem_of_getElem? hs)) hdx
theorem BU{σ:Nat->Option Nat}{b b':Blk}(h:b.ren σ=some b'):b'.isUnk=b.isUnk/\(b.ghost->b'.ghost):=by
 cases b with
 | unk=>cases h;exact ⟨rfl,id⟩
 | cells e l=>simp only [Blk.ren] at h;split at h <;> cases h;exact ⟨rfl,id⟩
 | row e sh n d=>cases h;exact ⟨rfl,id⟩
theorem Ep{σ:Nat->Option Nat}:∀ {l l':List Blk},HR σ l=some l'->l'.length=l.length/\∀ (i:Nat) (b':Blk),l'[i]? = some b'->∃ b:Blk,l[i]? = some b/\b.ren σ=some b'
 | [],l',h=>by simp only [HR] at h;cases h;exact ⟨rfl,fun i b' hi=>by simp at hi⟩
 | b :: l,l',h=>by
  simp only [HR] at h
  split at h <;> try (cases h;done)
  rename_i b1 hb1
  split at h <;> cases h
  rename_i l1 hl1
  obtain ⟨h1,h2⟩:=Ep hl1
  refine ⟨by simp [h1],fun i b' hi=>?_⟩
  cases i with
  | zero=>simp at hi;subst hi;exact ⟨b,rfl,hb1⟩
  | succ i=>exact h2 i b' (by simpa using hi)
theorem Np{O:Env}{od:Od}(he:AB O.od od):Ext O ⟨O.nm,od,O.gl.ext he⟩:=⟨fun _ _ h=>h,he⟩
theorem Jg{O:Env}{od:Od}(he:AB O.od od){sh:List Kd}{n:Nat}{d:Dat}{x:Value}(h:SC O (fun b o y=>od b o=some y) sh n d x):(SV.ro sh n d).den ⟨O.nm,od,O.gl.ext he⟩ x:=by
 obtain ⟨A,cap,rfl,hc,hA⟩:=h
 refine ⟨A,cap,rfl,hc,fun h0=>?_⟩
 obtain ⟨b,o,rfl,hq⟩:=hA h0
 refine ⟨b,o,rfl,fun q hl=>?_⟩
 rw [BN]
 intro j v hv
 obtain ⟨y,hy,hd⟩:=hq q hl j v hv
 exact ⟨y,by rw [Nat.add_assoc];exact hy,SV.den_mono (Np he) _ _ hd⟩
theorem Ps{sh:List Kd}{size k n:Nat}{b:Blk}{r:Nat × Dat × List Bool}(h:rdR sh size k n b=some r):b.isUnk=false:=by
 cases b <;> first | rfl | (simp [rdR] at h)
theorem En{sh:List Kd}{mem:Nat->Blk}{v:SV}{r:Nat × Dat × List Bool}(h:rdS sh mem v=some r):∀ i∈nmS v,(mem i).isUnk=false:=by
 intro i hi
 cases v <;> simp only [nmS,List.not_mem_nil,List.mem_singleton] at hi
 all_goals (subst hi;exact Ps h)
inductive RH where
 | k
 | ro (sh:List Kd)
 | ra (sh:List Kd) (n:Nat)
 | t (l:List RH)
 | rp (sh:List Kd)
 | f (l:List RH)
 | rq (sh:List Kd)
 | rz (sh:List Kd)
def Mr(mem:Nat->Blk)(sh:List Kd)(n:Nat):SV->Option (SV × List Nat × List Bool)
 | .ptr i o=>match mem i with
  | .cells _ l=>match Nat.ble (o+n * sh.length) l.length&&(List.range n).all (fun q=>DH sh (((l.drop o).drop (q * sh.length)).take sh.length)) with
   | true=>some (.ra sh n (Aw (l.drop o) sh.length),[i],[])
   | false=>none
  | _=>none
 | .ra sh' n' d=>match Bp sh' sh&&Nat.beq n n' with
  | true=>some (.ra sh n d,[],[])
  | false=>none
 | _=>none
theorem Py{B:Nat}{M:List Nat}{O:Env}{mem:Nat->Blk}{w:World}(hm:Ak B M O mem w){od:Od}(he:AB O.od od){sh:List Kd}{n:Nat}{v v':SV}{sl:List Nat}{ns:List Bool}{x:Value}(h:Mr mem sh n v=some (v',sl,ns))(hs:∀ i∈sl,∀ m,O i=some m->∀ o y,w.cell? ⟨m.blk,o,none⟩=some y->od m.blk o=some y)(hd:v.den O x):v'.den ⟨O.nm,od,O.gl.ext he⟩ x:=by
 unfold Mr at h
 split at h <;> try (cases h;done)
 .rename_i i o
  split at h <;> try (cases h;done)
  rename_i e l hi
  split at h <;> cases h
  rename_i hb
  simp only [aq,List.all_eq_true,List.mem_range] at hb
  obtain ⟨m,hmi,rfl⟩:=hd
  obtain ⟨_,hbk,_⟩:=hm.get (by rw [hi];rfl) hmi
  rw [hi] at hbk
  obtain ⟨h0,c,hc,hl⟩:=hbk
  refine ⟨m.blk,m.off+o,rfl,fun q hq=>?_⟩
  rw [BN]
  intro c' u hu
  have hk:=hb.2 q hq
  have hu':=hu
  rw [GJ hk,List.getElem?_take] at hu
  split at hu <;> try (cases hu;done)
  rw [List.getElem?_drop,List.getElem?_drop] at hu
  obtain ⟨y,hy,hd⟩:=AP hl hu
  refine ⟨y,hs i (by simp) m hmi _ y ?_,?_⟩
  .rw [h0,Nat.zero_add,cell_of_row w m.blk _ c e (0,0) hc,<- Array.getElem?_toList,<- hy]
   congr 1
   omega
  .rw [C8] at hu'
   cases hs':sh[c']? with
   | none=>rw [hs'] at hu';cases hu'
   | some kd=>rw [hs'] at hu';cases hu';rw [DG] at hd ⊢;exact Kd.den_mono he hd
 .rename_i sh' n' d
  split at h <;> cases h
  rename_i heq
  simp only [aq] at heq
  have e1:=AW heq.1
  subst e1
  have e2:n=n':=by simpa using heq.2
  subst e2
  obtain ⟨b,o,e,hL⟩:=hd
  exact ⟨b,o,e,fun q hq=>Kd.denL_mono he (hL q hq)⟩
theorem Ms{mem:Nat->Blk}{sh:List Kd}{n:Nat}{v v':SV}{sl:List Nat}{ns:List Bool}(h:Mr mem sh n v=some (v',sl,ns)):∀ i∈sl,(mem i).isUnk=false:=by
 unfold Mr at h
 split at h <;> try (cases h;done)
 .split at h <;> try (cases h;done)
  rename_i hi
  split at h <;> cases h
  intro i' hi'
  simp at hi';subst hi';rw [hi];rfl
 .split at h <;> cases h
  intro i hi;simp at hi
def Mu(mem:Nat->Blk)(sh:List Kd):SV->Option (SV × List Nat × List Bool)
 | .ptr i o=>match mem i with
  | .cells _ l=>match DH sh l with
   | true=>some (.rp sh (C3 l) 0 o,[i],[])
   | false=>none
  | _=>none
 | .rp sh' d k j=>match Bp sh' sh with
  | true=>some (.rp sh d k j,[],[])
  | false=>none
 | _=>none
theorem Pz{B:Nat}{M:List Nat}{O:Env}{mem:Nat->Blk}{w:World}(hm:Ak B M O mem w){od:Od}(he:AB O.od od){sh:List Kd}{v v':SV}{sl:List Nat}{ns:List Bool}{x:Value}(h:Mu mem sh v=some (v',sl,ns))(hs:∀ i∈sl,∀ m,O i=some m->∀ o y,w.cell? ⟨m.blk,o,none⟩=some y->od m.blk o=some y)(hd:v.den O x):v'.den ⟨O.nm,od,O.gl.ext he⟩ x:=by
 unfold Mu at h
 split at h <;> try (cases h;done)
 .rename_i i o
  split at h <;> try (cases h;done)
  rename_i e l hi
  split at h <;> cases h
  rename_i hb
  obtain ⟨m,hmi,rfl⟩:=hd
  obtain ⟨_,hbk,_⟩:=hm.get (by rw [hi];rfl) hmi
  rw [hi] at hbk
  obtain ⟨h0,c,hc,hl⟩:=hbk
  refine ⟨m.blk,0,by rw [h0],?_⟩
  rw [BN]
  intro j u hu
  have hu':=hu
  rw [I6 hb] at hu
  obtain ⟨y,hy,hd⟩:=AP hl hu
  refine ⟨y,hs i (by simp) m hmi _ y ?_,?_⟩
  .rw [Nat.zero_add,cell_of_row w m.blk _ c e (0,0) hc,<- Array.getElem?_toList,<- hy]
  .rw [C8] at hu'
   cases hs':sh[j]? with
   | none=>rw [hs'] at hu';cases hu'
   | some kd=>rw [hs'] at hu';cases hu';rw [DG] at hd ⊢;exact Kd.den_mono he hd
 .rename_i sh' d k j
  split at h <;> cases h
  rename_i heq
  have e1:=AW heq
  subst e1
  obtain ⟨b,o,e,hL⟩:=hd
  exact ⟨b,o,e,Kd.denL_mono he hL⟩
theorem Mv{mem:Nat->Blk}{sh:List Kd}{v v':SV}{sl:List Nat}{ns:List Bool}(h:Mu mem sh v=some (v',sl,ns)):∀ i∈sl,(mem i).isUnk=false:=by
 unfold Mu at h
 split at h <;> try (cases h;done)
 .split at h <;> try (cases h;done)
  rename_i hi
  split at h <;> cases h
  intro i' hi'
  simp at hi';subst hi';rw [hi];rfl
 .split at h <;> cases h
  intro i hi;simp at hi
def Mw(sh:List Kd):SV->Option (SV × List Nat × List Bool)
 | .rp sh' d k j=>(match Bp sh' sh with
  | true=>some (.rq true sh d k j,[],[])
  | false=>none)
 | .rq t sh' d k j=>(match Bp sh' sh with
  | true=>some (.rq t sh d k j,[],[])
  | false=>none)
 | .val v=>(match v with
  | .pointer none=>some (.rq false sh A3 0 0,[],[])
  | _=>none)
 | _=>none
theorem PA{O:Env}{od:Od}(he:AB O.od od){sh:List Kd}{v v':SV}{sl:List Nat}{ns:List Bool}{x:Value}(h:Mw sh v=some (v',sl,ns))(hd:v.den O x):v'.den ⟨O.nm,od,O.gl.ext he⟩ x:=by
 unfold Mw at h
 split at h <;> try (cases h;done)
 .split at h <;> cases h
  rename_i heq
  have e1:=AW heq
  subst e1
  obtain ⟨b,o,e,hL⟩:=hd
  exact .inl ⟨rfl,b,o,e,Kd.denL_mono he hL⟩
 .split at h <;> cases h
  rename_i heq
  have e1:=AW heq
  subst e1
  exact hd.imp (fun ⟨t,b,o,e,hL⟩=>⟨t,b,o,e,Kd.denL_mono he hL⟩) id
 .split at h <;> cases h
  exact .inr ⟨rfl,hd⟩
theorem Mx{mem:Nat->Blk}{sh:List Kd}{v v':SV}{sl:List Nat}{ns:List Bool}(h:Mw sh v=some (v',sl,ns)):∀ i∈sl,(mem i).isUnk=false:=by
 unfold Mw at h
 split at h <;> try (cases h;done)
 all_goals (split at h <;> cases h;intro i hi;simp at hi)
def My(sh:List Kd):SV->Option (SV × List Nat × List Bool)
 | .rz t i sh' d=>(match Bp sh' sh with
  | true=>some (.rz t i sh d,[],[])
  | false=>none)
 | .val v=>(match v with
  | .pointer none=>some (.rz false 0 sh A3,[],[])
  | _=>none)
 | _=>none
theorem PB{O:Env}{od:Od}(he:AB O.od od){sh:List Kd}{v v':SV}{sl:List Nat}{ns:List Bool}{x:Value}(h:My sh v=some (v',sl,ns))(hd:v.den O x):v'.den ⟨O.nm,od,O.gl.ext he⟩ x:=by
 unfold My at h
 split at h <;> try (cases h;done)
 .split at h <;> cases h
  rename_i heq
  have e1:=AW heq
  subst e1
  exact hd.imp (fun ⟨t,b,e,hp,hL⟩=>⟨t,b,e,he.p _ _ hp,Kd.denL_mono he hL⟩) id
 .split at h <;> cases h
  exact .inr ⟨rfl,hd⟩
theorem Mz{mem:Nat->Blk}{sh:List Kd}{v v':SV}{sl:List Nat}{ns:List Bool}(h:My sh v=some (v',sl,ns)):∀ i∈sl,(mem i).isUnk=false:=by
 unfold My at h
 split at h <;> try (cases h;done)
 all_goals (split at h <;> cases h;intro i hi;simp at hi)
def T6:SV->Option (Nat × List SV)
 | .fn f vs=>some (f,vs)
 | _=>none
theorem P1{v:SV}{p:Nat × List SV}(h:T6 v=some p):v=.fn p.1 p.2:=by
 unfold T6 at h
 split at h <;> cases h
 rfl
mutual
def C1(mem:Nat->Blk):RH->SV->Option (SV × List Nat × List Bool)
 | .k,v=>some (v,[],[])
 | .ro sh,v=>match rdS sh mem v with
  | some (n,d,ns)=>some (.ro sh n d,nmS v,ns)
  | none=>none
 | .ra sh n,v=>Mr mem sh n v
 | .t l,.tup vs=>match Dj mem l vs with
  | some (vs,sl,ns)=>some (.tup vs,sl,ns)
  | none=>none
 | .t l,.agg vs=>match Dj mem l vs with
  | some (vs,sl,ns)=>some (.agg vs,sl,ns)
  | none=>none
 | .rp sh,v=>Mu mem sh v
 | .rq sh,v=>Mw sh v
 | .rz sh,v=>My sh v
 | .f l,v=>match T6 v with
  | some p=>(match Dj mem l p.2 with
   | some (vs,sl,ns)=>some (.fn p.1 vs,sl,ns)
   | none=>none)
  | none=>none
 | .t _,_=>none
def Dj(mem:Nat->Blk):List RH->List SV->Option (List SV × List Nat × List Bool)
 | _,[]=>some ([],[],[])
 | [],vs=>some (vs,[],[])
 | h :: l,v :: vs=>match C1 mem h v with
  | some (v,sl,ns)=>(match Dj mem l vs with
   | some (vs,sl',ns')=>some (v :: vs,sl ++ sl',ns ++ ns')
   | none=>none)
  | none=>none
end
mutual
theorem MA{B:Nat}{M:List Nat}{O:Env}{mem:Nat->Blk}{w:World}(hm:Ak B M O mem w){od:Od}(he:AB O.od od):∀ {h:RH} {v v':SV} {sl:List Nat} {ns:List Bool} {x:Value},C1 mem h v=some (v',sl,ns)->(∀ b∈ns,b=true) ->
  (∀ i∈sl,∀ m,O i=some m->∀ o y,w.cell? ⟨m.blk,o,none⟩=some y->od m.blk o=some y)->v.den O x->v'.den ⟨O.nm,od,O.gl.ext he⟩ x
 | .k,v,v',sl,ns,x,h,_,_,hd=>by simp only [C1] at h;cases h;exact SV.den_mono (Np he) _ _ hd
 | .ro sh,v,v',sl,ns,x,h,hn,hs,hd=>by
  simp only [C1] at h
  split at h <;> cases h
  exact Jg he (Eo hm (fun b o y hy=>he b o y hy) (fun i m hi hmi o y hy=>hs i hi m hmi o y hy) (by assumption) hn hd)
 | .ra sh n,v,v',sl,ns,x,h,hn,hs,hd=>by simp only [C1] at h;exact Py hm he h hs hd
 | .rp sh,v,v',sl,ns,x,h,hn,hs,hd=>by simp only [C1] at h;exact Pz hm he h hs hd
 | .rq sh,v,v',sl,ns,x,h,hn,hs,hd=>by simp only [C1] at h;exact PA he h hd
 | .rz sh,v,v',sl,ns,x,h,hn,hs,hd=>by simp only [C1] at h;exact PB he h hd
 | .f l,v,v',sl,ns,x,h,hn,hs,hd=>by
  simp only [C1] at h
  split at h <;> try (cases h;done)
  rename_i p hp
  split at h <;> cases h
  rw [P1 hp] at hd
  obtain ⟨xs,e,hd⟩:=hd
  exact ⟨xs,e,FP hm he (by assumption) hn hs hd⟩
 | .t l,.tup vs,v',sl,ns,x,h,hn,hs,⟨xs,e,hd⟩=>by
  simp only [C1] at h
  split at h <;> cases h
  exact ⟨xs,e,FP hm he (by assumption) hn hs hd⟩
 | .t l,.agg vs,v',sl,ns,x,h,hn,hs,⟨xs,e,hd⟩=>by
  simp only [C1] at h
  split at h <;> cases h
  exact ⟨xs,e,FP hm he (by assumption) hn hs hd⟩
 | .t l,.any,_,_,_,_,h,_,_,_ | .t l,.int _ _,_,_,_,_,h,_,_,_ | .t l,.bool _,_,_,_,_,h,_,_,_ | .t l,.str _,_,_,_,_,h,_,_,_ | .t l,.ptr _ _,_,_,_,_,h,_,_,_ | .t l,.elt _ _ _ _,_,_,_,_,h,_,_,_=>by simp [C1] at h
 | .t l,.slc _ _ _ _,_,_,_,_,h,_,_,_ | .t l,.own _ _ _,_,_,_,_,h,_,_,_ | .t l,.gr _ _ _,_,_,_,_,h,_,_,_ | .t l,.nsl,_,_,_,_,h,_,_,_ | .t l,.ro _ _ _,_,_,_,_,h,_,_,_ | .t l,.rp _ _ _ _,_,_,_,_,h,_,_,_=>by simp [C1] at h
 | .t l,.rn _ _ _,_,_,_,_,h,_,_,_ | .t l,.ra _ _ _,_,_,_,_,h,_,_,_ | .t l,.pix _ _ _ _ _ _,_,_,_,_,h,_,_,_ | .t l,.fn _ _,_,_,_,_,h,_,_,_ | .t l,.fb _ _,_,_,_,_,h,_,_,_ | .t l,.gd _ _ _,_,_,_,_,h,_,_,_ | .t l,.val _,_,_,_,_,h,_,_,_ | .t l,.rq _ _ _ _ _,_,_,_,_,h,_,_,_ | .t l,.rz _ _ _ _,_,_,_,_,h,_,_,_ | .t l,.mp _ _,_,_,_,_,h,_,_,_ | .t l,.ni _,_,_,_,_,h,_,_,_ | .t l,.gv _,_,_,_,_,h,_,_,_ | .t l,.ifc _ _,_,_,_,_,h,_,_,_=>by simp [C1] at h
theorem FP{B:Nat}{M:List Nat}{O:Env}{mem:Nat->Blk}{w:World}(hm:Ak B M O mem w){od:Od}(he:AB O.od od):∀ {h:List RH} {v v':List SV} {sl:List Nat} {ns:List Bool} {x:List Value},Dj mem h v=some (v',sl,ns)->(∀ b∈ns,b=true) ->
  (∀ i∈sl,∀ m,O i=some m->∀ o y,w.cell? ⟨m.blk,o,none⟩=some y->od m.blk o=some y)->SV.denL O v x->SV.denL ⟨O.nm,od,O.gl.ext he⟩ v' x
 | _,[],v',sl,ns,[],h,_,_,hd=>by simp only [Dj] at h;cases h;trivial
 | [],v :: vs,v',sl,ns,x :: xs,h,_,_,hd=>by simp only [Dj] at h;cases h;exact SV.denL_mono (Np he) _ _ hd
 | h0 :: l,v :: vs,v',sl,ns,x :: xs,h,hn,hs,⟨hd,hl⟩=>by
  simp only [Dj] at h
  split at h <;> try (cases h;done)
  split at h <;> cases h
  exact ⟨MA hm he (by assumption) (fun b hb=>hn b (List.mem_append.2 (.inl hb))) (fun i hi=>hs i (List.mem_append.2 (.inl hi))) hd,FP hm he (by assumption) (fun b hb=>hn b (List.mem_append.2 (.inr hb))) (fun i hi=>hs i (List.mem_append.2 (.inr hi))) hl⟩
 | _,[],_,_,_,_ :: _,_,_,_,hd=>hd.elim
 | _,_ :: _,_,_,_,[],_,_,_,hd=>hd.elim
end
mutual
theorem Gg{mem:Nat->Blk}:∀ {h:RH} {v v':SV} {sl:List Nat} {ns:List Bool},C1 mem h v=some (v',sl,ns)->∀ i∈sl,(mem i).isUnk=false
 | .k,v,v',sl,ns,h,i,hi=>by simp only [C1] at h;cases h;simp at hi
 | .ro sh,v,v',sl,ns,h,i,hi=>by
  simp only [C1] at h
  split at h <;> cases h
  exact En (by assumption) i hi
 | .ra sh n,v,v',sl,ns,h,i,hi=>by simp only [C1] at h;exact Ms h i hi
 | .rp sh,v,v',sl,ns,h,i,hi=>by simp only [C1] at h;exact Mv h i hi
 | .rq sh,v,v',sl,ns,h,i,hi=>by simp only [C1] at h;exact Mx h i hi
 | .rz sh,v,v',sl,ns,h,i,hi=>by simp only [C1] at h;exact Mz h i hi
 | .f l,v,v',sl,ns,h,i,hi=>by
  simp only [C1] at h
  split at h <;> try (cases h;done)
  split at h <;> cases h
  exact Fx (by assumption) i hi
 | .t l,v,v',sl,ns,h,i,hi=>by
  unfold C1 at h
  split at h <;> try (cases h;done)
  all_goals (rename_i e;cases e)
  all_goals (split at h <;> cases h;exact Fx (by assumption) i hi)
theorem Fx{mem:Nat->Blk}:∀ {h:List RH} {v v':List SV} {sl:List Nat} {ns:List Bool},Dj mem h v=some (v',sl,ns)->∀ i∈sl,(mem i).isUnk=false
 | _,[],v',sl,ns,h,i,hi=>by simp only [Dj] at h;cases h;simp at hi
 | [],v :: vs,v',sl,ns,h,i,hi=>by simp only [Dj] at h;cases h;simp at hi
 | h0 :: l,v :: vs,v',sl,ns,h,i,hi=>by
  simp only [Dj] at h
  split at h <;> try (cases h;done)
  split at h <;> cases h
  rcases List.mem_append.1 hi with hi | hi
  .exact Gg (by assumption) i hi
  .exact Fx (by assumption) i hi
end
end runs
end Go.Sy
namespace Go.Sy
open Go.RowKit
variable [AO]
section runs
variable {P:Program}
mutual
def SV.nms:SV->List Nat
 | .ptr i _ | .elt i _ _ _ | .slc i _ _ _ | .own i _ _ | .gr i _ _ | .pix i _ _ _ _ _=>[i]
 | .agg l | .tup l | .fn _ l | .fb _ l | .ifc _ l=>SV.nmsL l
 | _=>[]
def SV.nmsL:List SV->List Nat
 | []=>[]
 | v :: l=>v.nms ++ SV.nmsL l
end
def Blk.nms:Blk->List Nat
 | .cells _ l=>SV.nmsL l
 | _=>[]
def RI(mem:Nat->Blk)(stop:Nat->Bool):Nat->List Nat->List Nat->List Nat
 | 0,_,π=>π
 | _+1,[],π=>π
 | f+1,i :: todo,π=>match stop i||π.any (Nat.beq i) with
  | true=>RI mem stop f todo π
  | false=>RI mem stop f ((mem i).nms ++ todo) (π ++ [i])
def idx:List Nat->Nat->Nat->Option Nat
 | [],_,_=>none
 | j :: l,k,i=>match Nat.beq j i with
  | true=>some k
  | false=>idx l (k+1) i
theorem IU:∀ {l:List Nat} {k i j:Nat},idx l k i=some j->∃ t,j=k+t/\l[t]? = some i
 | [],_,_,_,h=>by simp [idx] at h
 | a :: l,k,i,j,h=>by
  simp only [idx] at h
  split at h
  .rename_i e;rw [Nat.beq_eq] at e;subst e;cases h;exact ⟨0,rfl,rfl⟩
  .obtain ⟨t,h1,h2⟩:=IU h;exact ⟨t+1,by omega,by simpa using h2⟩
def inL(l:List Nat)(i:Nat):Bool:=l.any (Nat.beq i)
theorem I8{l:List Nat}{i:Nat}:inL l i=true↔i∈l:=by
 unfold inL
 rw [List.any_eq_true]
 constructor
 .rintro ⟨j,hj,e⟩;rw [Nat.beq_eq] at e;rw [e];exact hj
 .exact fun h=>⟨i,h,by rw [Nat.beq_eq]⟩
def FQ(na:Nat)(grs:List Nat)(i:Nat):Bool:=Nat.blt i na&&!(inL grs i)
def Hv(na:Nat)(grs π:List Nat)(i:Nat):Option Nat:=match FQ na grs i with
 | true=>some i
 | false=>idx π na i
def Nq(na:Nat)(muts grs:List Nat)(rh:RH)(v:SV)(mem:Nat->Blk):Option (SV × List Blk × List Blk × List Bool) :=
 match C1 mem rh v with
 | some (v1,sl,ns) =>
  let π:=RI mem (FQ na grs) 64 (v1.nms ++ muts.flatMap fun q=>match inL grs q with | true=>[] | false=>(mem q).nms) []
  let σ:=Hv na grs π
  match (sl.isEmpty||muts.isEmpty)&&((sl.all fun i=>!(inL π i))&&(Bs π&&((grs.all fun q=>inL muts q)&&π.all fun i=>!(FQ na grs i)))),v1.ren σ,HR σ (muts.map fun q=>match inL grs q with | true=>.unk | false=>mem q),HR σ (π.map mem) with
  | true,some v',some U,some N=>some (v',U,N,ns)
  | _,_,_,_=>none
 | none=>none
def DT(na:Nat)(muts grs:List Nat)(rh:RH)(R:SV->List Blk->List Blk->Prop):SV->(Nat->Blk)->Prop:=fun v mem =>
 match Nq na muts grs rh v mem with
 | some (v,U,N,ns)=>Ay ns (R v U N)
 | none=>False
theorem Kb{l:List Nat}(h:Bs l=true):∀ {i j:Nat} {x:Nat},l[i]? = some x->l[j]? = some x->i=j:=by
 induction l with
 | nil=>intro i j x hi;simp at hi
 | cons a l ih =>
  simp only [Bs,aq,Bool.not_eq_true',List.any_eq_false] at h
  have hno:∀ x∈l,x≠a:=fun x hx e=>h.1 x hx (by rw [Nat.beq_eq];exact e)
  intro i j x hi hj
  cases i with
  | zero =>
   cases j with
   | zero=>rfl
   | succ j=>simp at hi;subst hi;exact absurd rfl (hno _ (List.mem_of_getElem? (by simpa using hj)))
  | succ i =>
   cases j with
   | zero=>simp at hj;subst hj;exact absurd rfl (hno _ (List.mem_of_getElem? (by simpa using hi)))
   | succ j=>exact congrArg (·+1) (ih h.2 (by simpa using hi) (by simpa using hj))
open Classical in
theorem M7{M:List Nat}{O0 O:Env}{na:Nat}{muts grs:List Nat}{rh:RH}{v:SV}{x:Value}{mem0 mem:Nat->Blk}{w w':World}(hM0:Ak w.heap.size M O0 mem0 w)(hfr:∀ i,na<=i->O0 i=none)(hMb:∀ b∈M,∃ q∈muts,∃ m,O0 q=some m/\m.blk=b)(hmn:∀ q∈muts,q<na)(hv:v.den O x)(he:Ext O0 O)(hlow:∀ i,i<na->O i=O0 i)(hodb:OdB O0.od O.od w.heap.size)(hm:Ak w.heap.size M O mem w')(hk:AR w.heap.size M w w'){v':SV}{U N:List Blk}{ns:List Bool}(h:Nq na muts grs rh v mem=some (v',U,N,ns))(hn:∀ b∈ns,b=true)(need:List Bool) :
  ∃ O',A5 O0 O' na { v:=v',news:=N,upds:=muts.zip U,need:=need } w w' x:=by
 unfold Nq at h
 split at h <;> try (cases h;done)
 rename_i v1 sl ns1 hseal
 simp only at h
 generalize hπ:RI mem (FQ na grs) 64 (v1.nms ++ muts.flatMap fun q=>match inL grs q with | true=>[] | false=>(mem q).nms) []=π at h
 split at h <;> cases h
 rename_i hchk hv' hU hN
 simp only [aq,Bool.or_eq_true,List.isEmpty_iff,List.all_eq_true] at hchk
 obtain ⟨hsm,hsπ,hnd,hgm,hπs⟩:=hchk
 obtain ⟨hUl,hUg⟩:=Ep hU
 obtain ⟨hNl,hNg⟩:=Ep hN
 rw [List.length_map] at hUl hNl
 let S:Nat->Prop:=fun b=>∃ i,i∈sl/\∃ m,O i=some m/\m.blk=b
 let od2:Od:=⟨fun b o=>if S b then w'.cell? ⟨b,o,none⟩ else O.od b o,O.od.m,O.od.p⟩
 have hod:AB O.od od2:=.ofC fun b o y hy=>by
  show (if S b then w'.cell? ⟨b,o,none⟩ else O.od b o)=some y
  split
  .exact hm.seal_ b o y hy
  .exact hy
 let O':Env:=⟨fun i=>if i<na then O0 i else match π[i - na]? with | some j=>O j | none=>none,od2,O.gl.ext hod⟩
 have hSnew:∀ b,S b->w.heap.size<=b:=by
  rintro b ⟨i,hi,m,hmi,rfl⟩
  have hknown:=Gg hseal i hi
  rcases (hm.get hknown hmi).2.2 with h | h
  .exact h
  .rcases hsm with h0 | h0
   .rw [h0] at hi;simp at hi
   .obtain ⟨q,hq,_⟩:=hMb _ h;rw [h0] at hq;simp at hq
 have hπn:∀ t j,π[t]? = some j->O' (na+t)=O j:=by
  intro t j ht
  show (if na+t<na then O0 (na+t) else match π[na+t - na]? with | some j=>O j | none=>none)=O j
  rw [if_neg (by omega),Nat.add_sub_cancel_left,ht]
 have hlow':∀ i,i<na->O' i=O0 i:=fun i hi=>by
  show (if i<na then O0 i else match π[i - na]? with | some j=>O j | none=>none)=O0 i
  rw [if_pos hi]
 have hσ:∀ i j,Hv na grs π i=some j->∀ m,O i=some m->O' j=some m:=by
  intro i j hs m hmi
  unfold Hv at hs
  split at hs
  .rename_i hst
   cases hs
   have hi:i<na:=by simp only [FQ,aq] at hst;simpa using hst.1
   rw [hlow' i hi,<- hlow i hi];exact hmi
  .obtain ⟨t,rfl,ht⟩:=IU hs
   rw [hπn t i ht];exact hmi
 have hσ2:∀ i j,Hv na grs π i=some j->∀ m,(⟨O.nm,od2,O.gl.ext hod⟩:Env) i=some m->O' j=some m:=hσ
 have ext:Ext O0 O':=⟨fun i m hi=>by
  have hlt:i<na:=by
   rcases Nat.lt_or_ge i na with h | h
   .exact h
   .rw [hfr i h] at hi;cases hi
  rw [hlow' i hlt];exact hi,⟨fun b o y hy=>hod b o y (he.od b o y hy),fun b v hv=>he.od.m b v hv,fun b i hi=>he.od.p b i hi⟩⟩
 -- where a name's block lies
 have sealedApart:∀ i m,(mem i).isUnk=false->O i=some m->i ∉ sl->¬ S m.blk:=by
  rintro i m hi hmi hns ⟨i2,hi2,m2,hm2,e⟩
  exact hm.apart i2 i m2 m (fun e2=>hns (by rw [<- e2];exact hi2)) (Gg hseal i2 hi2) hi hm2 hmi e
 have odNone:∀ i m,(mem i).isUnk=false->O i=some m->i ∉ sl->∀ o,od2 m.blk o=none:=fun i m hi hmi hns o=>by
  show (if S m.blk then w'.cell? ⟨m.blk,o,none⟩ else O.od m.blk o)=none
  rw [if_neg (sealedApart i m hi hmi hns)]
  exact hm.free i m hi hmi o
 have πsl:∀ t j,π[t]? = some j->j ∉ sl:=fun t j ht hj=>by
  have h1:=hsπ j hj
  rw [Bool.not_eq_true'] at h1
  rw [I8.2 (List.mem_of_getElem? ht)] at h1
  cases h1
 have updAt_:∀ q∈muts,∃ (t:Nat) (b:Blk),muts[t]? = some q/\U[t]? = some b/\(q,b)∈muts.zip U/\Blk.ren (Hv na grs π) (match inL grs q with | true=>.unk | false=>mem q)=some b:=by
  intro q hq
  obtain ⟨t,ht⟩:=List.mem_iff_getElem?.1 hq
  have hlt:t<U.length:=by rw [hUl];exact (ax.1 ht).1
  refine ⟨t,U[t],ht,az hlt,?_,?_⟩
  .rw [List.mem_iff_getElem?]
   exact ⟨t,by rw [List.getElem?_zip_eq_some];exact ⟨ht,az hlt⟩⟩
  .obtain ⟨b,hb1,hb2⟩:=hUg t _ (az hlt)
   rw [List.getElem?_map,ht] at hb1
   cases hb1
   exact hb2
 have ofUpd:∀ u∈muts.zip U,u.1∈muts/\Blk.ren (Hv na grs π) (match inL grs u.1 with | true=>.unk | false=>mem u.1)=some u.2:=by
  intro u hu
  obtain ⟨t,ht⟩:=List.mem_iff_getElem?.1 hu
  rw [List.getElem?_zip_eq_some] at ht
  obtain ⟨b,hb1,hb2⟩:=hUg t _ ht.2
  rw [List.getElem?_map,ht.1] at hb1
  cases hb1
  exact ⟨List.mem_of_getElem? ht.1,hb2⟩
 have hv1:=MA hm hod hseal hn (fun i hi m hmi o y hy=>by
  show (if S m.blk then w'.cell? ⟨m.blk,o,none⟩ else O.od m.blk o)=some y
  rw [if_pos ⟨i,hi,m,hmi,rfl⟩];exact hy) hv
 refine ⟨O',FO hσ2 hv' (fun _=>⟨fun _ _ _ h=>h,fun _ _ h=>h,fun _ _ h=>h⟩) hv1,ext,fun i hi=>?_,hk.os,hk.tape,hk.output,hk.size,fun b hb hu=>hk.block b hb fun hbM=>?_,⟨fun b o y hy=>?_,fun b v hv=>(hodb.m b v hv).imp id fun h1=>⟨hm.seal_.m b v hv,h1⟩,hodb.p⟩,fun u hu hku=>?_,fun t b ht hku=>?_,fun t t' b b' m m' hne ht ht' hkb hkb' hmt hmt'=>?_⟩
 .rcases hi with hi | hi
  .exact hlow' i hi
  .have hge:na<=i:=by omega
   rw [hfr i hge]
   show (if i<na then O0 i else match π[i - na]? with | some j=>O j | none=>none)=none
   rw [if_neg (by omega),List.getElem?_eq_none_iff.2 (by simp only at hi;omega)]
 .obtain ⟨q,hq,m,hqm,e⟩:=hMb b hbM
  obtain ⟨t,bb,_,_,hz,_⟩:=updAt_ q hq
  exact hu (q,bb) hz m hqm e
 .by_cases hS:S b
  .have hy':w'.cell? ⟨b,o,none⟩=some y:=by
    have:(if S b then w'.cell? ⟨b,o,none⟩ else O.od b o)=some y:=hy
    rwa [if_pos hS] at this
   exact .inr ⟨hy',hSnew b hS⟩
  .have hy':O.od b o=some y:=by
    have:(if S b then w'.cell? ⟨b,o,none⟩ else O.od b o)=some y:=hy
    rwa [if_neg hS] at this
   rcases hodb b o y hy' with h1 | h1
   .exact .inl h1
   .exact .inr ⟨hm.seal_ b o y hy',h1⟩
 .obtain ⟨hqm,hren⟩:=ofUpd u hu
  have hlt:=hmn _ hqm
  cases hg:inL grs u.1 with
  | true =>
   rw [hg] at hren
   simp only [Blk.ren,Option.some.injEq] at hren
   rw [<- hren] at hku;cases hku
  | false =>
   rw [hg] at hren
   simp only at hren
   obtain ⟨hu1,hu2⟩:=BU hren
   rw [hu1] at hku
   obtain ⟨g1,g2⟩:=hm.at_ u.1 hku
   refine ⟨fun m hmm=>?_,fun hnn=>hu2 (g2 (by rw [hlow _ hlt];exact hnn))⟩
   obtain ⟨_,g3,_⟩:=g1 m (by rw [hlow _ hlt];exact hmm)
   exact DN hσ hren (fun _=>hod) g3
 .obtain ⟨b0,hb0,hren⟩:=hNg t b ht
  rw [List.getElem?_map] at hb0
  cases hj:π[t]? with
  | none=>rw [hj] at hb0;cases hb0
  | some j =>
   rw [hj] at hb0;cases hb0
   obtain ⟨hu1,hu2⟩:=BU hren
   rw [hu1] at hku
   obtain ⟨g1,g2⟩:=hm.at_ j hku
   rw [hπn t j hj]
   refine ⟨fun m hmm=>?_,fun hnn=>hu2 (g2 hnn)⟩
   obtain ⟨g3,g4,g5⟩:=g1 m hmm
   refine ⟨g3,DN hσ hren (fun _=>hod) g4,odNone j m hku hmm (πsl t j hj),?_⟩
   rcases g5 with g5 | g5
   .exact .inl g5
   .obtain ⟨q,hq,mq,hqm,e⟩:=hMb _ g5
    have hqlt:=hmn q hq
    obtain ⟨t2,bb,_,_,hz,hren2⟩:=updAt_ q hq
    refine .inr ⟨(q,bb),hz,?_,mq,hqm,e⟩
    cases hg:inL grs q with
    | true=>rw [hg] at hren2;simp only [Blk.ren,Option.some.injEq] at hren2;rw [<- hren2];rfl
    | false =>
     rw [hg] at hren2
     simp only at hren2
     rw [(BU hren2).1]
     cases hku2:(mem q).isUnk with
     | true=>rfl
     | false =>
      exfalso
      have hqj:q≠j:=by
       intro e2
       subst e2
       have:=hπs q (List.mem_of_getElem? hj)
       rw [Bool.not_eq_true'] at this
       simp only [FQ,hg,Bool.not_false,Bool.and_true] at this
       rw [Is hqlt] at this
       cases this
      exact hm.apart q j mq m hqj hku2 hku (by rw [hlow q hqlt];exact hqm) hmm e
 .obtain ⟨b0,hb0,hren⟩:=hNg t b ht
  obtain ⟨b1,hb1,hren1⟩:=hNg t' b' ht'
  rw [List.getElem?_map] at hb0 hb1
  cases hj:π[t]? with
  | none=>rw [hj] at hb0;cases hb0
  | some j =>
   cases hj':π[t']? with
   | none=>rw [hj'] at hb1;cases hb1
   | some j' =>
    rw [hj] at hb0;cases hb0
    rw [hj'] at hb1;cases hb1
    rw [hπn t j hj] at hmt
    rw [hπn t' j' hj'] at hmt'
    rw [(BU hren).1] at hkb
    rw [(BU hren1).1] at hkb'
    exact hm.apart j j' m m' (fun e=>hne (Kb hnd hj (by rw [e];exact hj'))) hkb hkb' hmt hmt'
theorem OX{L:Tab}(hL:Cr P L)(hmix:P.follows .mixedOrders=true){Λ:Lam}(fuel:Nat){f:FuncId}{fn:Func}{c:Code}(hf:P.funcs[f]? = some fn)(hb:fn.body=some c)(hΛ:∀ id b g,Bf c id b->Λ id=some g->LOk P g (.block id b)){M:List Nat}{O0:Env}{na:Nat}{mem0:Nat->Blk}{args:List SV}{xs:List Value}{w:World}{muts grs:List Nat}{rh:RH}(hargs:SV.denL O0 args xs)(hM:Ak w.heap.size M O0 mem0 w)(hfr:∀ i,na<=i->O0 i=none)(hMb:∀ b∈M,∃ q∈muts,∃ m,O0 q=some m/\m.blk=b)(hmn:∀ q∈muts,q<na){R:SV->List Blk->List Blk->Prop}(h:AT P L Λ fuel c (Cb fn.ntmps args na mem0) (EQ P fn.results.toList (DT na muts grs rh R))) :
  Calls P f ⟨xs⟩ w fun e w'=>∃ v U N x O',e=.returned x/\R v U N/\A5 O0 O' na { v:=v,news:=N,upds:=muts.zip U } w w' x:=by
 refine (N3 hL hmix hf hb hΛ hargs hM hfr (fun h0=>by
  cases M with
  | nil=>rfl
  | cons b l =>
   obtain ⟨q,hq,_⟩:=hMb b (by simp)
   have:=hmn q hq
   omega) h).mono ?_
 rintro e w' ⟨v,x,O,mem,rfl,hd,he,hlow,hodb,hm,hk,hR⟩
 unfold DT at hR
 split at hR
 .rename_i v' U N ns hout
  rw [Ac] at hR
  obtain ⟨O',hp⟩:=M7 hM hfr hMb hmn hd he hlow hodb hm hk hout hR.1 []
  exact ⟨v',U,N,x,O',rfl,hR.2,hp⟩
 .exact hR.elim
end runs
end Go.Sy
namespace Go.Sy
open Go.RowKit
variable [AO]
section runs
variable {P:Program}
inductive H where
 | k
 | ro (sh:List Kd)
 | rp (sh:List Kd)
 | ra (sh:List Kd) (n:Nat)
 | gr (e:Nat) (sh:List Kd)
 | a (l:List H)
 | f (l:List H)
 | c (l:List H)
 | s (l:List H)
 | sp (l:List (List H))
structure LR (α:Type) where
 v:α
 srcs:List (Option Nat)
 bs:List Blk
 vw:List Nat
 ns:List Bool
def Tf(mem:Nat->Blk)(v:SV)(j:Nat):Option (LR SV) :=
 match v with
 | .own i s n=>match mem i with
  | .row e sh m d=>some ⟨.own j s n,[some i],[.row e sh m d],[],[]⟩
  | _=>none
 | v=>match v.ren fun _=>none with
  | some v'=>some ⟨v',[],[],[],[]⟩
  | none=>none
def Ex(mem:Nat->Blk):List Kd->List SV->Option (List SV × List Nat × List Bool)
 | [],vs=>match vs with
  | []=>some ([],[],[])
  | _=>none
 | kd :: ks,vs=>match vs with
  | []=>none
  | v :: vs=>match Ex mem ks vs with
   | some (l,nm,ns)=>(match kd with
    | .sl sh=>(match rdS sh mem v with
     | some (n,d,ns')=>some (.ro sh n d :: l,nmS v ++ nm,ns' ++ ns)
     | none=>none)
    | .pt sh=>(match v with
     | .rq t sh' d k c=>(match Bp sh' sh&&Nat.beq k 0&&Nat.beq c 0 with
      | true=>some (.rp sh d 0 0 :: l,nm,t :: ns)
      | false=>none)
     | v=>(match (Kd.pt sh).ok v with
      | true=>some (v :: l,nm,ns)
      | false=>none))
    | _=>(match kd.ok v with
     | true=>some (v :: l,nm,ns)
     | false=>none))
   | none=>none
def Ti(mem:Nat->Blk)(sh:List Kd)(v:SV):Option (LR SV) :=
 match v with
 | .ptr i o=>match mem i with
  | .cells _ l=>match Ex mem sh l with
   | some (l',nm,ns)=>(match DH sh l' with
    | true=>some ⟨.rp sh (C3 l') 0 o,[],[],i :: nm,ns⟩
    | false=>none)
   | none=>none
  | _=>none
 | .elt i size k c=>match mem i with
  | .row _ sh' m d=>match Bp sh' sh&&Nat.beq size sh.length with
   | true=>some ⟨.rp sh d k c,[],[],[i],[decide (k<m)]⟩
   | false=>none
  | _=>none
 | .rp sh' d k c=>match Fh sh' sh with
  | true=>some ⟨.rp sh d k c,[],[],[],[]⟩
  | false=>none
 | .rq t sh' d k c=>match Bp sh' sh with
  | true=>some ⟨.rp sh d k c,[],[],[],[t]⟩
  | false=>none
 | .rz t i sh' d=>match Fh sh' sh with
  | true=>some ⟨.rp sh d 0 0,[],[],[],[t]⟩
  | false=>none
 | _=>none
def Td(mem:Nat->Blk)(sh:List Kd)(n:Nat)(v:SV):Option (LR SV) :=
 match v with
 | .ptr i o=>match mem i with
  | .cells _ l=>match Nat.ble (o+n * sh.length) l.length&&(List.range n).all (fun q=>DH sh (((l.drop o).drop (q * sh.length)).take sh.length)) with
   | true=>some ⟨.ra sh n (Aw (l.drop o) sh.length),[],[],[i],[]⟩
   | false=>none
  | _=>none
 | .ra sh' n' d=>match Bp sh' sh&&Nat.beq n n' with
  | true=>some ⟨.ra sh n d,[],[],[],[]⟩
  | false=>none
 | _=>none
def Te(mem:Nat->Blk)(e:Nat)(sh:List Kd)(v:SV)(j:Nat):Option (LR SV) :=
 match v with
 | .nsl=>some ⟨.gr j sh.length 0,[none],[.row e sh 0 A3],[],[]⟩
 | .gr i s n=>match mem i with
  | .row e' sh' m d=>match Nat.beq e e'&&Bp sh' sh&&Nat.beq s sh.length with
   | true=>some ⟨.gr j s n,[some i],[.row e sh m d],[],[]⟩
   | false=>none
  | _=>none
 | .own i s n=>match mem i with
  | .row e' sh' m d=>match Nat.beq e e'&&Bp sh' sh&&Nat.beq s sh.length with
   | true=>some ⟨.gr j s n,[some i],[.row e sh m d],[],[]⟩
   | false=>none
  | _=>none
 | _=>none
def OE:List SV->List Nat->Option (List Nat)
 | [],acc=>some acc
 | v :: l,acc=>match v with
  | .ptr j _=>OE l (match acc.any (Nat.beq j) with | true=>acc | false=>acc ++ [j])
  | .ifc _ [.ptr j _]=>OE l (match acc.any (Nat.beq j) with | true=>acc | false=>acc ++ [j])
  | _=>OE l acc
def Kw:List (Nat × Nat)->Nat->Option Nat
 | [],_=>none
 | p :: l,q=>match Nat.beq p.1 q with
  | true=>some p.2
  | false=>Kw l q
theorem Iq:∀ {l:List (Nat × Nat)} {q t:Nat},Kw l q=some t->(q,t)∈l
 | p :: l,q,t,h=>by
  simp only [Kw] at h
  split at h
  .rename_i e;rw [Nat.beq_eq] at e;cases h;subst e;exact List.mem_cons_self
  .exact aj _ (Iq h)
mutual
def I0(mem:Nat->Blk):H->SV->Nat->Option (LR SV)
 | .k,v,j=>Tf mem v j
 | .ro sh,v,_=>match rdS sh mem v with
  | some (n,d,ns)=>some ⟨.ro sh n d,[],[],nmS v,ns⟩
  | none=>none
 | .rp sh,v,_=>Ti mem sh v
 | .ra sh n,v,_=>Td mem sh n v
 | .gr e sh,v,j=>Te mem e sh v j
 | .a l,v,j=>match v with
  | .agg vs=>match Fm mem l vs j with
   | some r=>some ⟨.agg r.v,r.srcs,r.bs,r.vw,r.ns⟩
   | none=>none
  | _=>none
 | .f l,v,j=>match v with
  | .fn id vs=>match Fm mem l vs j with
   | some r=>some ⟨.fn id r.v,r.srcs,r.bs,r.vw,r.ns⟩
   | none=>none
  | .fb id vs=>match Fm mem l vs j with
   | some r=>some ⟨.fb id r.v,r.srcs,r.bs,r.vw,r.ns⟩
   | none=>none
  | _=>none
 | .c l,v,j=>match v with
  | .ptr i o=>match mem i with
   | .cells e cs=>match Fm mem l cs (j+1) with
    | some r=>some ⟨.ptr j o,some i :: r.srcs,.cells e r.v :: r.bs,r.vw,r.ns⟩
    | none=>none
   | _=>none
  | _=>none
 | .s l,v,j=>match v with
  | .ptr i o=>match mem i with
   | .cells e cs=>match cs with
    | .ptr i' 0 :: cs'=>match Nat.beq i' i with
     | true=>match Fm mem l cs' (j+1) with
      | some r=>some ⟨.ptr j o,some i :: r.srcs,.cells e (.ptr j 0 :: r.v) :: r.bs,r.vw,r.ns⟩
      | none=>none
     | false=>none
    | _=>none
   | _=>none
  | _=>none
 | .sp l,v,j=>match v with
  | .slc i s k n=>match k,mem i with
   | 0,.cells e cs=>match OE cs [] with
    | some js=>match LY mem l js (j+1) with
     | some r=>match SV.renL (Kw r.v) cs with
      | some cs'=>some ⟨.slc j s 0 n,some i :: r.srcs,.cells e cs' :: r.bs,r.vw,r.ns⟩
      | none=>none
     | none=>none
    | none=>none
   | _,_=>none
  | _=>none
def Fm(mem:Nat->Blk):List H->List SV->Nat->Option (LR (List SV))
 | [],vs,_=>match vs with
  | []=>some ⟨[],[],[],[],[]⟩
  | _=>none
 | h :: hs,vs,j=>match vs with
  | []=>none
  | v :: vs=>match I0 mem h v j with
   | some r=>match Fm mem hs vs (j+r.srcs.length) with
    | some q=>some ⟨r.v :: q.v,r.srcs ++ q.srcs,r.bs ++ q.bs,r.vw ++ q.vw,r.ns ++ q.ns⟩
    | none=>none
   | none=>none
def LY(mem:Nat->Blk):List (List H)->List Nat->Nat->Option (LR (List (Nat × Nat)))
 | [],js,_=>match js with
  | []=>some ⟨[],[],[],[],[]⟩
  | _=>none
 | h :: hs,js,j=>match js with
  | []=>none
  | q :: js=>match mem q with
   | .cells e cs=>match Fm mem h cs (j+1) with
    | some r=>match LY mem hs js (j+(1+r.srcs.length)) with
     | some p=>some ⟨(q,j) :: p.v,(some q :: r.srcs) ++ p.srcs,(.cells e r.v :: r.bs) ++ p.bs,r.vw ++ p.vw,r.ns ++ p.ns⟩
     | none=>none
    | none=>none
   | _=>none
end
structure Do (O O1:Env) (w:World) (mem:Nat->Blk) (j:Nat) (srcs:List (Option Nat)) (vw:List Nat):Prop where
 nm:∀ t i,srcs[t]? = some (some i)->∀ m,O i=some m->O1 (j+t)=some m
 od:AB O.od O1.od
 vw:∀ i∈vw,(mem i).isUnk=false->∀ m,O i=some m->∀ o y,w.cell? ⟨m.blk,o,none⟩=some y->O1.od m.blk o=some y
def NX(O O1:Env)(w:World)(mem:Nat->Blk)(b:Blk):Option Nat->Prop
 | none=>b.ghost/\b.isUnk=false
 | some i=>(mem i).isUnk=false/\b.isUnk=false/\((mem i).ghost->b.ghost)/\∀ m,O i=some m->b.den O1 w m
structure C5 (O O1:Env) (w:World) (mem:Nat->Blk) (srcs:List (Option Nat)) (bs:List Blk) (vw:List Nat):Prop where
 len:bs.length=srcs.length
 blk:∀ (t:Nat) (b:Blk) (s:Option Nat),bs[t]? = some b->srcs[t]? = some s->NX O O1 w mem b s
 known:∀ i∈vw,(mem i).isUnk=false
theorem C5.nil{O O1:Env}{w:World}{mem:Nat->Blk}:C5 O O1 w mem [] [] []:=⟨rfl,fun t b s h=>by simp at h,fun i h=>by simp at h⟩
theorem C5.one{O O1:Env}{w:World}{mem:Nat->Blk}{b:Blk}{s:Option Nat}(h:NX O O1 w mem b s):C5 O O1 w mem [s] [b] []:=⟨rfl,fun t b' s' h1 h2=>by
 cases t with
 | zero=>simp at h1 h2;subst h1;subst h2;exact h
 | succ t=>simp at h1,fun i h=>by simp at h⟩
theorem C5.append{O O1:Env}{w:World}{mem:Nat->Blk}{s1 s2:List (Option Nat)}{b1 b2:List Blk}{v1 v2:List Nat}(h:C5 O O1 w mem s1 b1 v1)(k:C5 O O1 w mem s2 b2 v2):C5 O O1 w mem (s1 ++ s2) (b1 ++ b2) (v1 ++ v2):=by
 refine ⟨by simp [h.len,k.len],fun t b s h1 h2=>?_,fun i hi=>(List.mem_append.1 hi).elim (h.known i) (k.known i)⟩
 rw [List.getElem?_append] at h1 h2
 rw [h.len] at h1
 split at h1
 .rename_i hlt;rw [if_pos hlt] at h2;exact h.blk t b s h1 h2
 .rename_i hlt;rw [if_neg hlt] at h2;exact k.blk _ b s h1 h2
theorem Do.left{O O1:Env}{w:World}{mem:Nat->Blk}{j:Nat}{s1 s2:List (Option Nat)}{v1 v2:List Nat}(h:Do O O1 w mem j (s1 ++ s2) (v1 ++ v2)):Do O O1 w mem j s1 v1 :=
 ⟨fun t i ht=>h.nm t i (by rw [List.getElem?_append_left (ax.1 ht).1];exact ht),h.od,fun i hi=>h.vw i (List.mem_append.2 (.inl hi))⟩
theorem Do.right{O O1:Env}{w:World}{mem:Nat->Blk}{j:Nat}{s1 s2:List (Option Nat)}{v1 v2:List Nat}(h:Do O O1 w mem j (s1 ++ s2) (v1 ++ v2)):Do O O1 w mem (j+s1.length) s2 v2 :=
 ⟨fun t i ht m hm=>by
  have:=h.nm (s1.length+t) i (by rw [List.getElem?_append_right (by omega),Nat.add_sub_cancel_left];exact ht) m hm
  rwa [Nat.add_assoc],h.od,fun i hi=>h.vw i (List.mem_append.2 (.inr hi))⟩
section
variable {B:Nat} {M:List Nat} {O O1:Env} {mem:Nat->Blk} {w:World}
theorem Nx(hm:Ak B M O mem w)(ho:AB O.od O1.od){i e:Nat}{sh:List Kd}{m:Nat}{d:Dat}(hi:mem i=.row e sh m d):NX O O1 w mem (.row e sh m d) (some i):=by
 refine ⟨by rw [hi];rfl,rfl,fun h=>by rw [hi] at h;exact h,fun mm hmm=>?_⟩
 have:=(hm.get (by rw [hi];rfl) hmm).2.1
 rw [hi] at this
 exact DN (σ:=fun _=>none) (fun _ _ h=>by cases h) rfl (fun _=>ho) this
theorem Gx{e:Nat}{cs cs':List SV}(_:True){i:Nat}(hi:mem i=.cells e cs)(hd:∀ xs,SV.denL O cs xs->SV.denL O1 cs' xs)(hm:Ak B M O mem w):NX O O1 w mem (.cells e cs') (some i):=by
 refine ⟨by rw [hi];rfl,rfl,fun h=>by rw [hi] at h;exact h.elim,fun mm hmm=>?_⟩
 have:=(hm.get (by rw [hi];rfl) hmm).2.1
 rw [hi] at this
 obtain ⟨h0,c,hc,hl⟩:=this
 exact ⟨h0,c,hc,hd _ hl⟩
theorem QB(hm:Ak B M O mem w){v:SV}{j:Nat}{r:LR SV}(h:Tf mem v j=some r)(hg:Do O O1 w mem j r.srcs r.vw):C5 O O1 w mem r.srcs r.bs r.vw/\∀ x,v.den O x->r.v.den O1 x:=by
 unfold Tf at h
 split at h
 .rename_i i s n
  split at h <;> cases h
  rename_i e sh m d hi
  refine ⟨.one (Nx hm hg.od hi),fun x ⟨mm,hmm,e⟩=>⟨mm,?_,e⟩⟩
  exact hg.nm 0 i rfl mm hmm
 .split at h <;> cases h
  rename_i v' hv'
  exact ⟨.nil,fun x hx=>FO (fun _ _ h=>by cases h) hv' (fun _=>hg.od) hx⟩
theorem HP(ho:AB O.od O1.od){kd:Kd}{v:SV}{x:Value}(h:kd.ok v=true)(hs:∀ sh,kd≠.sl sh)(hd:v.den O x):v.den O1 x:=by
 cases kd <;> cases v <;> simp only [Kd.ok,Bool.false_eq_true] at h <;> first | exact hd | exact absurd rfl (hs _) | exact Kd.den_mono ho hd | exact hd.imp (fun ⟨t,b,e,hp,hL⟩=>⟨t,b,e,ho.p _ _ hp,Kd.denL_mono ho hL⟩) id | (obtain ⟨b,o,e,hL⟩:=hd;exact ⟨b,o,e,Kd.denL_mono ho hL⟩)
theorem Ci(hm:Ak B M O mem w)(ho:AB O.od O1.od):∀ {ks:List Kd} {vs l:List SV} {nm:List Nat} {ns:List Bool},Ex mem ks vs=some (l,nm,ns)->(∀ b∈ns,b=true)->(∀ i∈nm,(mem i).isUnk=false->∀ m,O i=some m->∀ o y,w.cell? ⟨m.blk,o,none⟩=some y->O1.od m.blk o=some y) ->
  (∀ i∈nm,(mem i).isUnk=false)/\∀ xs,SV.denL O vs xs->SV.denL O1 l xs
 | [],vs,l,nm,ns,h,_,_=>by
  simp only [Ex] at h
  split at h <;> cases h
  exact ⟨fun i hi=>by simp at hi,fun xs hx=>by
   cases xs with
   | nil=>trivial
   | cons _ _=>exact hx.elim⟩
 | kd :: ks,vs,l,nm,ns,h,hn,hv=>by
  simp only [Ex] at h
  split at h <;> try (cases h;done)
  rename_i v vs
  split at h <;> try (cases h;done)
  rename_i l0 nm0 ns0 h0
  split at h
  .rename_i sh
   split at h <;> cases h
   rename_i n d ns' hr
   obtain ⟨k1,k2⟩:=Ci hm ho h0 (fun b hb=>hn b (List.mem_append.2 (.inr hb))) (fun i hi=>hv i (List.mem_append.2 (.inr hi)))
   refine ⟨fun i hi=>(List.mem_append.1 hi).elim (En hr i) (k1 i),fun xs hx=>?_⟩
   cases xs with
   | nil=>exact hx.elim
   | cons x xs =>
    have:=Jg ho (Eo hm (C:=fun b o y=>O1.od b o=some y) (fun b o y hy=>ho b o y hy) (fun i m hi hmi o y hy=>hv i (List.mem_append.2 (.inl hi)) (En hr i hi) m hmi o y hy) hr (fun b hb=>hn b (List.mem_append.2 (.inl hb))) hx.1)
    exact ⟨this,k2 xs hx.2⟩
  .rename_i sh
   split at h
   .rename_i t sh' d kk cc
    split at h <;> cases h
    rename_i hb
    simp only [aq] at hb
    obtain ⟨k1,k2⟩:=Ci hm ho h0 (fun b hb=>hn b (aj _ hb)) hv
    refine ⟨k1,fun xs hx=>?_⟩
    cases xs with
    | nil=>exact hx.elim
    | cons x xs =>
     have e1:=AW hb.1.1
     have e2:=Nat.eq_of_beq_eq_true hb.1.2
     have e3:=Nat.eq_of_beq_eq_true hb.2
     subst e1;subst e2;subst e3
     have ht:=hn t (List.mem_cons_self)
     rcases hx.1 with ⟨_,b,o,e,hL⟩ | ⟨hf,_⟩
     .exact ⟨⟨b,o,e,Kd.denL_mono ho hL⟩,k2 xs hx.2⟩
     .rw [ht] at hf;cases hf
   .split at h <;> cases h
    rename_i hok
    obtain ⟨k1,k2⟩:=Ci hm ho h0 hn hv
    refine ⟨k1,fun xs hx=>?_⟩
    cases xs with
    | nil=>exact hx.elim
    | cons x xs=>exact ⟨HP ho hok (fun sh e=>by cases e) hx.1,k2 xs hx.2⟩
  .rename_i hns1 hns
   split at h <;> cases h
   rename_i hok
   obtain ⟨k1,k2⟩:=Ci hm ho h0 hn hv
   refine ⟨k1,fun xs hx=>?_⟩
   cases xs with
   | nil=>exact hx.elim
   | cons x xs=>exact ⟨HP ho hok (fun sh e=>hns1 sh e) hx.1,k2 xs hx.2⟩
theorem QC(hm:Ak B M O mem w){sh:List Kd}{v:SV}{j:Nat}{r:LR SV}(h:Ti mem sh v=some r)(hn:∀ b∈r.ns,b=true)(hg:Do O O1 w mem j r.srcs r.vw):C5 O O1 w mem r.srcs r.bs r.vw/\∀ x,v.den O x->r.v.den O1 x:=by
 have elden:∀ {q j:Nat} {u:SV} {d:Dat} {y:Value},(el sh d q)[j]? = some u->u.den O y->u.den O1 y:=fun {q j u d y} hu hd=>by
  rw [C8] at hu
  cases hs:sh[j]? with
  | none=>rw [hs] at hu;cases hu
  | some kd=>rw [hs] at hu;cases hu;rw [DG] at hd ⊢;exact Kd.den_mono hg.od hd
 unfold Ti at h
 split at h <;> try (cases h;done)
 .rename_i i o
  split at h <;> try (cases h;done)
  rename_i e l hi
  split at h <;> try (cases h;done)
  rename_i l' nm' ns' hvc
  split at h <;> cases h
  rename_i hk
  obtain ⟨k1,k2⟩:=Ci (O1:=O1) hm hg.od hvc hn (fun i hi=>hg.vw i (aj _ hi))
  refine ⟨⟨rfl,fun t b s h=>by simp at h,fun i' hi'=>?_⟩,?_⟩
  .rcases List.mem_cons.1 hi' with rfl | hi'
   .rw [hi];rfl
   .exact k1 i' hi'
  rintro x ⟨m,hmi,rfl⟩
  obtain ⟨_,hb,_⟩:=hm.get (by rw [hi];rfl) hmi
  rw [hi] at hb
  obtain ⟨h0,c,hc,hl⟩:=hb
  refine ⟨m.blk,m.off,rfl,?_⟩
  rw [BN]
  intro c' u hu
  rw [I6 hk] at hu
  obtain ⟨y,hy,hd⟩:=AP (k2 _ hl) hu
  refine ⟨y,hg.vw i (by simp) (by rw [hi];rfl) m hmi _ y ?_,hd⟩
  rw [h0,Nat.zero_add,cell_of_row w m.blk _ c e (0,0) hc,<- Array.getElem?_toList]
  exact hy
 .rename_i i size k c
  split at h <;> try (cases h;done)
  rename_i e sh' m0 d hi
  split at h <;> cases h
  rename_i hb
  simp only [aq] at hb
  have e1:=AW hb.1
  subst e1
  have hsz:size=sh'.length:=by simpa using hb.2
  have hlt:k<m0:=by simpa using hn
  refine ⟨⟨rfl,fun t b s h=>by simp at h,fun i' hi'=>by simp at hi';subst hi';rw [hi];rfl⟩,?_⟩
  rintro x ⟨m,hmi,rfl⟩
  obtain ⟨_,hb,_⟩:=hm.get (by rw [hi];rfl) hmi
  rw [hi] at hb
  refine ⟨m.blk,m.off+k * size,by rw [Nat.add_assoc],?_⟩
  rw [BN]
  intro c' u hu
  obtain ⟨y,hy,hd⟩:=(hb.2.2.2 k hlt).2 c' u hu
  refine ⟨y,hg.vw i (by simp) (by rw [hi];rfl) m hmi _ y ?_,elden hu hd⟩
  rw [<- hy,hsz,Nat.add_assoc]
 .rename_i sh' d k c
  split at h <;> cases h
  rename_i he
  exact ⟨.nil,fun x ⟨b,o,e,hL⟩=>⟨b,o,e,(DI he).2 (Kd.denL_mono hg.od hL)⟩⟩
 .rename_i t sh' d k c
  split at h <;> cases h
  rename_i he
  have e1:=AW he
  subst e1
  have ht:t=true:=hn t (by simp)
  refine ⟨.nil,fun x hx=>?_⟩
  rcases hx with ⟨_,b,o,e,hL⟩ | ⟨hf,_⟩
  .exact ⟨b,o,e,Kd.denL_mono hg.od hL⟩
  .rw [ht] at hf;cases hf
 .rename_i t i sh' d
  split at h <;> cases h
  rename_i he
  have ht:t=true:=hn t (by simp)
  refine ⟨.nil,fun x hx=>?_⟩
  rcases hx with ⟨_,b,e,hp,hL⟩ | ⟨hf,_⟩
  .exact ⟨b,0,e,(DI he).2 (Kd.denL_mono hg.od hL)⟩
  .rw [ht] at hf;cases hf
theorem Qz(hm:Ak B M O mem w){sh:List Kd}{n:Nat}{v:SV}{j:Nat}{r:LR SV}(h:Td mem sh n v=some r)(hg:Do O O1 w mem j r.srcs r.vw):C5 O O1 w mem r.srcs r.bs r.vw/\∀ x,v.den O x->r.v.den O1 x:=by
 unfold Td at h
 split at h <;> try (cases h;done)
 .rename_i i o
  split at h <;> try (cases h;done)
  rename_i e l hi
  split at h <;> cases h
  rename_i hb
  simp only [aq,List.all_eq_true,List.mem_range] at hb
  refine ⟨⟨rfl,fun t b s h=>by simp at h,fun i' hi'=>by simp at hi';subst hi';rw [hi];rfl⟩,?_⟩
  rintro x ⟨m,hmi,rfl⟩
  obtain ⟨_,hbk,_⟩:=hm.get (by rw [hi];rfl) hmi
  rw [hi] at hbk
  obtain ⟨h0,c,hc,hl⟩:=hbk
  refine ⟨m.blk,m.off+o,rfl,fun q hq=>?_⟩
  rw [BN]
  intro c' u hu
  have hk:=hb.2 q hq
  have hu':=hu
  rw [GJ hk,List.getElem?_take] at hu
  split at hu <;> try (cases hu;done)
  rw [List.getElem?_drop,List.getElem?_drop] at hu
  obtain ⟨y,hy,hd⟩:=AP hl hu
  refine ⟨y,hg.vw i (by simp) (by rw [hi];rfl) m hmi _ y ?_,?_⟩
  .rw [h0,Nat.zero_add,cell_of_row w m.blk _ c e (0,0) hc,<- Array.getElem?_toList,<- hy]
   congr 1
   omega
  .rw [C8] at hu'
   cases hs:sh[c']? with
   | none=>rw [hs] at hu';cases hu'
   | some kd=>rw [hs] at hu';cases hu';rw [DG] at hd ⊢;exact Kd.den_mono hg.od hd
 .rename_i sh' n' d
  split at h <;> cases h
  rename_i he
  simp only [aq] at he
  have e1:=AW he.1
  subst e1
  have e2:n=n':=by simpa using he.2
  subst e2
  exact ⟨.nil,fun x ⟨b,o,e,hL⟩=>⟨b,o,e,fun q hq=>Kd.denL_mono hg.od (hL q hq)⟩⟩
theorem QA(hm:Ak B M O mem w){e:Nat}{sh:List Kd}{v:SV}{j:Nat}{r:LR SV}(h:Te mem e sh v j=some r)(hg:Do O O1 w mem j r.srcs r.vw):C5 O O1 w mem r.srcs r.bs r.vw/\∀ x,v.den O x->r.v.den O1 x:=by
 unfold Te at h
 split at h <;> try (cases h;done)
 .cases h
  exact ⟨.one ⟨rfl,rfl⟩,fun x hx=>.inl ⟨rfl,none,hx⟩⟩
 .rename_i i s n
  split at h <;> try (cases h;done)
  rename_i e' sh' m d hi
  split at h <;> cases h
  rename_i hb
  simp only [aq] at hb
  have e1:=AW hb.1.2
  subst e1
  have e2:e=e':=by simpa using hb.1.1
  subst e2
  exact ⟨.one (Nx hm hg.od hi),fun x hx=>hx.imp id fun ⟨mm,hmm,e⟩=>⟨mm,hg.nm 0 i rfl mm hmm,e⟩⟩
 .rename_i i s n
  split at h <;> try (cases h;done)
  rename_i e' sh' m d hi
  split at h <;> cases h
  rename_i hb
  simp only [aq] at hb
  have e1:=AW hb.1.2
  subst e1
  have e2:e=e':=by simpa using hb.1.1
  subst e2
  exact ⟨.one (Nx hm hg.od hi),fun x ⟨mm,hmm,e⟩=>.inr ⟨mm,hg.nm 0 i rfl mm hmm,e⟩⟩
mutual
theorem QD(hm:Ak B M O mem w):∀ {h:H} {v:SV} {j:Nat} {r:LR SV},I0 mem h v j=some r->(∀ b∈r.ns,b=true)->Do O O1 w mem j r.srcs r.vw->C5 O O1 w mem r.srcs r.bs r.vw/\∀ x,v.den O x->r.v.den O1 x
 | .k,v,j,r,h,_,hg=>QB hm (by simpa only [I0] using h) hg
 | .ro sh,v,j,r,h,hn,hg=>by
  simp only [I0] at h
  split at h <;> cases h
  rename_i n d ns hr
  refine ⟨⟨rfl,fun t b s h=>by simp at h,En hr⟩,fun x hx=>?_⟩
  have:=Jg hg.od (Eo hm (C:=fun b o y=>O1.od b o=some y) (fun b o y hy=>hg.od b o y hy) (fun i m hi hmi o y hy=>hg.vw i hi (En hr i hi) m hmi o y hy) hr hn hx)
  exact this
 | .rp sh,v,j,r,h,hn,hg=>QC hm (by simpa only [I0] using h) hn hg
 | .ra sh n,v,j,r,h,_,hg=>Qz hm (by simpa only [I0] using h) hg
 | .gr e sh,v,j,r,h,_,hg=>QA hm (by simpa only [I0] using h) hg
 | .a l,v,j,r,h,hn,hg=>by
  simp only [I0] at h
  split at h <;> try (cases h;done)
  split at h <;> cases h
  rename_i q hq
  obtain ⟨h1,h2⟩:=CA hm hq hn hg
  exact ⟨h1,fun x ⟨xs,e,hd⟩=>⟨xs,e,h2 xs hd⟩⟩
 | .f l,v,j,r,h,hn,hg=>by
  simp only [I0] at h
  split at h <;> try (cases h;done)
  .split at h <;> cases h
   rename_i q hq
   obtain ⟨h1,h2⟩:=CA hm hq hn hg
   exact ⟨h1,fun x ⟨xs,e,hd⟩=>⟨xs,e,h2 xs hd⟩⟩
  .split at h <;> cases h
   rename_i q hq
   obtain ⟨h1,h2⟩:=CA hm hq hn hg
   exact ⟨h1,fun x ⟨xs,e,hd⟩=>⟨xs,e,h2 xs hd⟩⟩
 | .c l,v,j,r,h,hn,hg=>by
  simp only [I0] at h
  split at h <;> try (cases h;done)
  rename_i i o
  split at h <;> try (cases h;done)
  rename_i e cs hi
  split at h <;> cases h
  rename_i q hq
  have hg':Do O O1 w mem (j+1) q.srcs q.vw:=Do.right (s1:=[some i]) (v1:=[]) hg
  obtain ⟨h1,h2⟩:=CA hm hq hn hg'
  refine ⟨C5.append (C5.one (Gx trivial hi h2 hm)) h1,fun x ⟨m,hmi,e⟩=>⟨m,?_,e⟩⟩
  exact hg.nm 0 i rfl m hmi
 | .s l,v,j,r,h,hn,hg=>by
  simp only [I0] at h
  split at h <;> try (cases h;done)
  rename_i i o
  split at h <;> try (cases h;done)
  rename_i e cs hi
  split at h <;> try (cases h;done)
  rename_i i' cs'
  split at h <;> try (cases h;done)
  rename_i hb
  rw [Nat.beq_eq] at hb
  subst hb
  split at h <;> cases h
  rename_i q hq
  have hg':Do O O1 w mem (j+1) q.srcs q.vw:=Do.right (s1:=[some i']) (v1:=[]) hg
  obtain ⟨h1,h2⟩:=CA hm hq hn hg'
  have hself:∀ m,O i'=some m->O1 j=some m:=fun m hmi=>hg.nm 0 i' rfl m hmi
  refine ⟨C5.append (C5.one (Gx trivial hi (fun xs hx=>?_) hm)) h1,fun x ⟨m,hmi,e⟩=>⟨m,hself m hmi,e⟩⟩
  cases xs with
  | nil=>exact hx.elim
  | cons x xs =>
   obtain ⟨⟨m,hmi,e⟩,hl⟩:=hx
   exact ⟨⟨m,hself m hmi,e⟩,h2 xs hl⟩
 | .sp l,v,j,r,h,hn,hg=>by
  simp only [I0] at h
  split at h <;> try (cases h;done)
  rename_i i s k n
  split at h <;> try (cases h;done)
  rename_i k' e cs hi
  split at h <;> try (cases h;done)
  rename_i js hjs
  split at h <;> try (cases h;done)
  rename_i q hq
  split at h <;> cases h
  rename_i cs' hcs
  have hg':Do O O1 w mem (j+1) q.srcs q.vw:=Do.right (s1:=[some i]) (v1:=[]) hg
  obtain ⟨h1,h2⟩:=K9 hm hq hn hg'
  refine ⟨C5.append (C5.one (Gx trivial hi (fun xs hx=>?_) hm)) h1,fun x ⟨A,c,e,hc,hA⟩=>⟨A,c,e,hc,fun h0=>let ⟨m,hmi,ha⟩:=hA h0;⟨m,hg.nm 0 i rfl m hmi,ha⟩⟩⟩
  exact CJ (fun a b hab m hmi=>h2 a b (Iq hab) m hmi) hcs (fun _=>hg.od) hx
theorem CA(hm:Ak B M O mem w):∀ {h:List H} {v:List SV} {j:Nat} {r:LR (List SV)},Fm mem h v j=some r->(∀ b∈r.ns,b=true)->Do O O1 w mem j r.srcs r.vw->C5 O O1 w mem r.srcs r.bs r.vw/\∀ xs,SV.denL O v xs->SV.denL O1 r.v xs
 | [],v,j,r,h,_,_=>by
  simp only [Fm] at h
  split at h <;> cases h
  exact ⟨.nil,fun xs hx=>by
   cases xs with
   | nil=>trivial
   | cons _ _=>exact hx.elim⟩
 | h0 :: hs,v,j,r,h,hn,hg=>by
  simp only [Fm] at h
  split at h <;> try (cases h;done)
  rename_i v vs
  split at h <;> try (cases h;done)
  rename_i r0 hr0
  split at h <;> cases h
  rename_i q hq
  obtain ⟨h1,h2⟩:=QD hm hr0 (fun b hb=>hn b (List.mem_append.2 (.inl hb))) hg.left
  obtain ⟨k1,k2⟩:=CA hm hq (fun b hb=>hn b (List.mem_append.2 (.inr hb))) hg.right
  refine ⟨h1.append k1,fun xs hx=>?_⟩
  cases xs with
  | nil=>exact hx.elim
  | cons x xs=>exact ⟨h2 x hx.1,k2 xs hx.2⟩
theorem K9(hm:Ak B M O mem w):∀ {h:List (List H)} {js:List Nat} {j:Nat} {r:LR (List (Nat × Nat))},LY mem h js j=some r->(∀ b∈r.ns,b=true)->Do O O1 w mem j r.srcs r.vw->C5 O O1 w mem r.srcs r.bs r.vw/\∀ q t,(q,t)∈r.v->∀ m,O q=some m->O1 t=some m
 | [],js,j,r,h,_,_=>by
  simp only [LY] at h
  split at h <;> cases h
  exact ⟨.nil,fun q t hqt=>by simp at hqt⟩
 | h0 :: hs,js,j,r,h,hn,hg=>by
  simp only [LY] at h
  split at h <;> try (cases h;done)
  rename_i q js
  split at h <;> try (cases h;done)
  rename_i e cs hi
  split at h <;> try (cases h;done)
  rename_i r0 hr0
  split at h <;> cases h
  rename_i p hp
  have hgl:Do O O1 w mem j (some q :: r0.srcs) r0.vw:=hg.left
  have hg1:Do O O1 w mem (j+1) r0.srcs r0.vw:=Do.right (s1:=[some q]) (v1:=[]) hgl
  have hg2:Do O O1 w mem (j+(1+r0.srcs.length)) p.srcs p.vw:=by
   have:=hg.right
   rwa [show (some q :: r0.srcs).length=1+r0.srcs.length by simp [Nat.add_comm]] at this
  obtain ⟨h1,h2⟩:=CA hm hr0 (fun b hb=>hn b (List.mem_append.2 (.inl hb))) hg1
  obtain ⟨k1,k2⟩:=K9 hm hp (fun b hb=>hn b (List.mem_append.2 (.inr hb))) hg2
  refine ⟨(C5.append (C5.one (Gx trivial hi h2 hm)) h1).append k1,fun a t hat m hmi=>?_⟩
  rcases List.mem_cons.1 hat with e | hat
  .cases e
   exact hgl.nm 0 q rfl m hmi
  .exact k2 a t hat m hmi
end
end
def Ah(bs:List Blk):Nat->Blk:=fun i=>match bs[i]? with | some b=>b | none=>.unk
def Es:List (Option Nat)->List Nat
 | []=>[]
 | some i :: l=>i :: Es l
 | none :: l=>Es l
theorem Et:∀ {l:List (Option Nat)} {t i:Nat},l[t]? = some (some i)->i∈Es l
 | a :: l,0,i,h=>by simp at h;subst h;simp [Es]
 | a :: l,t+1,i,h=>by
  have:=Et (l:=l) (t:=t) (by simpa using h)
  cases a <;> simp [Es,this]
theorem Fy:∀ {l:List (Option Nat)},Bs (Es l)=true->∀ {t t' i:Nat},l[t]? = some (some i)->l[t']? = some (some i)->t=t'
 | [],_,t,_,_,h,_=>by simp at h
 | none :: l,hn,t,t',i,h,h'=>by
  cases t with
  | zero=>simp at h
  | succ t=>cases t' with
   | zero=>simp at h'
   | succ t'=>exact congrArg (·+1) (Fy (l:=l) hn (by simpa using h) (by simpa using h'))
 | some a :: l,hn,t,t',i,h,h'=>by
  simp only [Es,Bs,aq,Bool.not_eq_true',List.any_eq_false] at hn
  have hno:∀ x∈Es l,x≠a:=fun x hx e=>hn.1 x hx (by rw [Nat.beq_eq];exact e)
  cases t with
  | zero=>cases t' with
   | zero=>rfl
   | succ t'=>simp at h;subst h;exact absurd rfl (hno _ (Et (t:=t') (by simpa using h')))
  | succ t=>cases t' with
   | zero=>simp at h';subst h';exact absurd rfl (hno _ (Et (t:=t) (by simpa using h)))
   | succ t'=>exact congrArg (·+1) (Fy (l:=l) hn.2 (by simpa using h) (by simpa using h'))
def E5(srcs:List (Option Nat))(t:Nat):Option Nat:=match srcs[t]? with | some s=>s | none=>none
def Re(srcs:List (Option Nat))(off:Nat)(t:Nat):Option Nat:=match Nat.blt t srcs.length with
 | true=>E5 srcs t
 | false=>some (off+(t - srcs.length))
def Jx(srcs:List (Option Nat))(σ:Nat->Option Nat):List (Nat × Blk)->Option (List (Nat × Blk))
 | []=>some []
 | u :: l=>match Jx srcs σ l with
  | some l'=>(match Nat.blt u.1 srcs.length,E5 srcs u.1,u.2.ren σ with
   | true,some i,some b=>some ((i,b) :: l')
   | true,none,_=>some l'
   | _,_,_=>none)
  | none=>none
theorem Jz{srcs:List (Option Nat)}{σ:Nat->Option Nat}:∀ {l l':List (Nat × Blk)},Jx srcs σ l=some l'->∀ u∈l,u.1<srcs.length/\∀ i,E5 srcs u.1=some i->∃ b,u.2.ren σ=some b/\(i,b)∈l'
 | [],_,_,u,hu=>by simp at hu
 | v :: l,l',h,u,hu=>by
  simp only [Jx] at h
  split at h <;> try (cases h;done)
  rename_i l1 hl1
  rcases List.mem_cons.1 hu with rfl | hu
  .split at h <;> cases h
   .rename_i hb hs hr
    refine ⟨by simpa using hb,fun i hi=>?_⟩
    rw [hs] at hi;cases hi
    exact ⟨_,hr,by simp⟩
   .rename_i hb hs
    exact ⟨by simpa using hb,fun i hi=>by rw [hs] at hi;cases hi⟩
  .obtain ⟨h1,h2⟩:=Jz hl1 u hu
   refine ⟨h1,fun i hi=>?_⟩
   obtain ⟨b,hb,hm⟩:=h2 i hi
   refine ⟨b,hb,?_⟩
   split at h <;> cases h
   .exact aj _ hm
   .exact hm
theorem Jy{srcs:List (Option Nat)}{σ:Nat->Option Nat}:∀ {l l':List (Nat × Blk)},Jx srcs σ l=some l'->∀ u'∈l',∃ u∈l,E5 srcs u.1=some u'.1/\u.2.ren σ=some u'.2
 | [],l',h,u',hu=>by simp only [Jx] at h;cases h;simp at hu
 | v :: l,l',h,u',hu=>by
  simp only [Jx] at h
  split at h <;> try (cases h;done)
  rename_i l1 hl1
  split at h <;> cases h
  .rename_i hb hs hr
   rcases List.mem_cons.1 hu with rfl | hu
   .exact ⟨v,by simp,hs,hr⟩
   .obtain ⟨u,h1,h2⟩:=Jy hl1 u' hu
    exact ⟨u,aj _ h1,h2⟩
  .obtain ⟨u,h1,h2⟩:=Jy hl1 u' hu
   exact ⟨u,aj _ h1,h2⟩
def Ae.nro(q:Ae):Bool:=q.v.nro&&(q.news.all Blk.nro&&q.upds.all fun u=>u.2.nro)
def AA(hs:List H)(m:List SV->List Blk->Option Ae):Ctr:=fun off mem args =>
 match Fm mem hs args 0 with
 | some r=>match m r.v r.bs with
  | some q=>match Bs (Es r.srcs)&&((r.vw.all fun i=>!(inL (Es r.srcs) i))&&(r.vw.isEmpty||q.nro)),q.v.ren (Re r.srcs off),HR (Re r.srcs off) q.news,Jx r.srcs (Re r.srcs off) q.upds with
   | true,some v,some N,some U=>some { v:=v,news:=N,upds:=U,need:=r.ns ++ q.need }
   | _,_,_,_=>none
  | none=>none
 | none=>none
def Ub(P:Program)(f:FuncId):Prop:=∃ fn,P.funcs[f]? = some fn/\fn.body.isSome=true/\(fn.name == "runtime.NumGoroutine")=false
open Classical in
theorem BM{hs:List H}{m:List SV->List Blk->Option Ae}{f:FuncId}(hfn:Ub P f)(h:∀ vs bs q,m vs bs=some q->q.need_ok->∀ (O1:Env) (M:List Nat) (xs:List Value) (w:World),SV.denL O1 vs xs->Ak w.heap.size M O1 (Ah bs) w->(∀ i,bs.length<=i->O1 i=none)->(∀ b∈M,∃ i∈List.range bs.length,∃ m,O1 i=some m/\m.blk=b) ->
   Calls P f ⟨xs⟩ w fun e w'=>∃ x O',e=.returned x/\A5 O1 O' bs.length q w w' x):Ag P (AA hs m) f:=by
 refine ⟨hfn,fun B M O mem off args r hr hneed hfit xs w hd hm hB hfr=>?_⟩
 unfold AA at hr
 split at hr <;> try (cases hr;done)
 rename_i lr hlr
 split at hr <;> try (cases hr;done)
 rename_i q hq
 split at hr <;> cases hr
 rename_i v N U hchk hv hN hU
 simp only [aq,Bool.or_eq_true,List.isEmpty_iff,List.all_eq_true] at hchk
 obtain ⟨hnd,hvs,hvr⟩:=hchk
 obtain ⟨hNl,hNg⟩:=Ep hN
 let V:Nat->Prop:=fun b=>∃ i,i∈lr.vw/\∃ m,O i=some m/\m.blk=b
 let od1:Od:=⟨fun b o=>if V b then w.cell? ⟨b,o,none⟩ else O.od b o,O.od.m,O.od.p⟩
 have hod1:AB O.od od1:=.ofC fun b o y hy=>by
  show (if V b then w.cell? ⟨b,o,none⟩ else O.od b o)=some y
  split
  .exact hm.seal_ b o y hy
  .exact hy
 let O1:Env:=⟨fun t=>match E5 lr.srcs t with | some i=>O i | none=>none,od1,O.gl.ext hod1⟩
 have hsrc:∀ (t i:Nat),lr.srcs[t]? = some (some i)->O1 t=O i:=fun t i ht=>by
  show (match E5 lr.srcs t with | some i=>O i | none=>none)=O i
  simp [E5,ht]
 have hsrc2:∀ (t:Nat) (mm:Nm),O1 t=some mm->∃ i,lr.srcs[t]? = some (some i)/\O i=some mm:=fun t mm ht=>by
  have ht':(match E5 lr.srcs t with | some i=>O i | none=>none)=some mm:=ht
  unfold E5 at ht'
  cases hs:lr.srcs[t]? with
  | none=>rw [hs] at ht';cases ht'
  | some s =>
   rw [hs] at ht'
   cases s with
   | none=>cases ht'
   | some i=>exact ⟨i,rfl,ht'⟩
 have hgood:Do O O1 w mem 0 lr.srcs lr.vw:=⟨fun t i ht mm hmm=>by rw [Nat.zero_add,hsrc t i ht];exact hmm,hod1,fun i hi _ mm hmm o y hy=>by
  show (if V mm.blk then w.cell? ⟨mm.blk,o,none⟩ else O.od mm.blk o)=some y
  rw [if_pos ⟨i,hi,mm,hmm,rfl⟩];exact hy⟩
 obtain ⟨hlok,hlden⟩:=CA hm hlr (fun b hb=>hneed b (List.mem_append.2 (.inl hb))) hgood
 have hknown:∀ (t i:Nat),lr.srcs[t]? = some (some i)->(mem i).isUnk=false:=fun t i ht=>by
  have hlt:t<lr.bs.length:=by rw [hlok.len];exact (ax.1 ht).1
  exact (hlok.blk t _ _ (az hlt) ht).1
 have hod1lt:∀ b o y,od1 b o=some y->b<w.heap.size:=fun b o y hy=>by
  have hy':(if V b then w.cell? ⟨b,o,none⟩ else O.od b o)=some y:=hy
  split at hy'
  .exact World.block_lt_of_cell? w _ hy'
  .exact hm.od_lt hy'
 let M1:List Nat:=(Es lr.srcs).filterMap fun i=>(O i).map (·.blk)
 have hmemAt:∀ t:Nat,(Ah lr.bs t).isUnk=false->∃ (b:Blk) (s:Option Nat),lr.bs[t]? = some b/\lr.srcs[t]? = some s/\Ah lr.bs t=b:=fun t ht=>by
  unfold Ah at ht ⊢
  cases hb:lr.bs[t]? with
  | none=>rw [hb] at ht;cases ht
  | some b =>
   have hlt:t<lr.srcs.length:=by rw [<- hlok.len];exact (ax.1 hb).1
   exact ⟨b,_,rfl,az hlt,rfl⟩
 have hM1:Ak w.heap.size M1 O1 (Ah lr.bs) w:=by
  refine ⟨fun t ht=>?_,fun t t' mm mm' hne ht ht' hmm hmm'=>?_,⟨fun b o y hy=>?_,fun b v hv=>hm.seal_.m b v hv,fun b i hp=>let ⟨⟨v,hv⟩,h⟩:=hm.seal_.p b i hp;⟨⟨v,hod1 b 0 v hv⟩,h⟩⟩,fun t mm ht hmm o=>?_,hm.pv⟩
  .obtain ⟨b,s,hb,hs,e⟩:=hmemAt t ht
   rw [e]
   have hbk:=hlok.blk t b s hb hs
   refine ⟨fun mm hmm=>?_,fun hn=>?_⟩
   .obtain ⟨i,hi,hri⟩:=hsrc2 t mm hmm
    rw [hs] at hi;cases hi
    obtain ⟨h1,_,_,h3⟩:=hbk
    refine ⟨(hm.get h1 hri).1,h3 mm hri,.inr ?_⟩
    exact List.mem_filterMap.2 ⟨i,Et hs,by rw [hri];rfl⟩
   .cases s with
    | none=>exact hbk.1
    | some i =>
     rw [hsrc t i hs] at hn
     exact hbk.2.2.1 ((hm.at_ i hbk.1).2 hn)
  .obtain ⟨i,hi,hri⟩:=hsrc2 t mm hmm
   obtain ⟨i',hi',hri'⟩:=hsrc2 t' mm' hmm'
   exact hm.apart i i' mm mm' (fun e=>hne (Fy hnd hi (by rw [e];exact hi'))) (hknown t i hi) (hknown t' i' hi') hri hri'
  .have hy':(if V b then w.cell? ⟨b,o,none⟩ else O.od b o)=some y:=hy
   split at hy'
   .exact hy'
   .exact hm.seal_ b o y hy'
  .obtain ⟨i,hi,hri⟩:=hsrc2 t mm hmm
   show (if V mm.blk then w.cell? ⟨mm.blk,o,none⟩ else O.od mm.blk o)=none
   rw [if_neg]
   .exact hm.free i mm (hknown t i hi) hri o
   .rintro ⟨i2,hi2,m2,hm2,e⟩
    have hne:i2≠i:=fun e2=>by
     have:=hvs i2 hi2
     rw [e2,I8.2 (Et hi)] at this
     cases this
    exact hm.apart i2 i m2 mm hne (hlok.known i2 hi2) (hknown t i hi) hm2 hri e
 have hfr1:∀ t,lr.bs.length<=t->O1 t=none:=fun t ht=>by
  cases hh:O1.nm t with
  | none=>rfl
  | some mm =>
   obtain ⟨i,hi,_⟩:=hsrc2 t mm hh
   have:=(ax.1 hi).1
   rw [hlok.len] at ht
   omega
 have hMb:∀ b∈M1,∃ i∈List.range lr.bs.length,∃ m,O1 i=some m/\m.blk=b:=fun b hb=>by
  obtain ⟨i,hi,hri⟩:=List.mem_filterMap.1 hb
  cases hO:O.nm i with
  | none=>rw [hO] at hri;cases hri
  | some mm =>
   rw [hO] at hri
   cases hri
   have:∃ t:Nat,lr.srcs[t]? = some (some i):=by
    have key:∀ (l:List (Option Nat)),i∈Es l->∃ t:Nat,l[t]? = some (some i):=by
     intro l
     induction l with
     | nil=>intro h;simp [Es] at h
     | cons a l ih =>
      intro h
      cases a with
      | none=>obtain ⟨t,ht⟩:=ih h;exact ⟨t+1,by simpa using ht⟩
      | some a =>
       rcases List.mem_cons.1 h with rfl | h
       .exact ⟨0,rfl⟩
       .obtain ⟨t,ht⟩:=ih h;exact ⟨t+1,by simpa using ht⟩
    exact key _ hi
   obtain ⟨t,ht⟩:=this
   refine ⟨t,List.mem_range.2 (by rw [hlok.len];exact (ax.1 ht).1),mm,?_,rfl⟩
   rw [hsrc t i ht];exact hO
 refine (h lr.v lr.bs q hq (fun b hb=>hneed b (List.mem_append.2 (.inr hb))) O1 M1 xs w (hlden xs hd) hM1 hfr1 hMb).mono ?_
 rintro e w' ⟨x,O1',rfl,hp⟩
 rw [hlok.len] at hp
 let od2:Od:=⟨fun b o=>if w.heap.size<=b then O1'.od b o else O.od b o,O1'.od.m,O1'.od.p⟩
 let O2:Env:=⟨fun i=>if off<=i/\i<off+q.news.length then O1' (lr.srcs.length+(i - off)) else O i,od2,O.gl.mix O1'.gl (fun k v h=>hp.ext.od.m k v (hod1.m k v h)) w.heap.size⟩
 have hfr':∀ i mm,O i=some mm->¬ (off<=i/\i<off+q.news.length):=fun i mm hi hc=>by
  have:=hfr (i - off) (by simp only;omega)
  rw [show off+(i - off)=i by omega,hi] at this
  cases this
 have hkeepN:∀ i mm,O i=some mm->O2 i=some mm:=fun i mm hi=>by
  show (if off<=i/\i<off+q.news.length then O1' (lr.srcs.length+(i - off)) else O i)=some mm
  rw [if_neg (hfr' i mm hi)];exact hi
 have hnewN:∀ j,j<q.news.length->O2 (off+j)=O1' (lr.srcs.length+j):=fun j hj=>by
  show (if off<=off+j/\off+j<off+q.news.length then O1' (lr.srcs.length+(off+j - off)) else O (off+j))=_
  rw [if_pos (by omega),Nat.add_sub_cancel_left]
 have hlowN:∀ t,t<lr.srcs.length->O1' t=O1 t:=fun t ht=>hp.old t (.inl ht)
 have hσ:∀ t j,Re lr.srcs off t=some j->∀ mm,O1' t=some mm->O2 j=some mm:=by
  intro t j hs mm hmm
  unfold Re at hs
  split at hs
  .rename_i hlt
   have hlt':t<lr.srcs.length:=by simpa using hlt
   rw [hlowN t hlt'] at hmm
   obtain ⟨i,hi,hri⟩:=hsrc2 t mm hmm
   have:j=i:=by simp [E5,hi] at hs;exact hs.symm
   rw [this];exact hkeepN i mm hri
  .rename_i hlt
   cases hs
   have hge:lr.srcs.length<=t:=by
    rcases Nat.lt_or_ge t lr.srcs.length with h | h
    .rw [Is h] at hlt;cases hlt
    .exact h
   rcases Nat.lt_or_ge (t - lr.srcs.length) q.news.length with h1 | h1
   .rw [hnewN _ h1,show lr.srcs.length+(t - lr.srcs.length)=t by omega];exact hmm
   .rw [hp.old t (.inr (by omega)),hfr1 t (by rw [hlok.len];exact hge)] at hmm;cases hmm
 have hodE:lr.vw=[]->AB O1'.od od2:=fun hv0=>.ofC fun b o y hy=>by
  show (if w.heap.size<=b then O1'.od b o else O.od b o)=some y
  rcases hp.odn b o y hy with h1 | ⟨_,h1⟩
  .have hlt:=hod1lt b o y h1
   rw [if_neg (by omega)]
   have h1':(if V b then w.cell? ⟨b,o,none⟩ else O.od b o)=some y:=h1
   rwa [if_neg] at h1'
   rintro ⟨i,hi,_⟩
   rw [hv0] at hi;simp at hi
  .rw [if_pos h1];exact hy
 have hro:∀ {P:Prop},(q.nro=true->P)->∀ b:Bool,(b=false->P->False)->b=false->AB O1'.od od2:=fun hP b hb hbf=>by
  rcases hvr with hv0 | hv0
  .exact hodE hv0
  .exact (hb hbf (hP hv0)).elim
 have hnroV:q.v.nro=false->AB O1'.od od2:=hro (P:=q.v.nro=true) (fun hn=>by simp only [Ae.nro,aq] at hn;exact hn.1) _ fun h1 h2=>by rw [h1] at h2;cases h2
 have hnroN:∀ b∈q.news,b.nro=false->AB O1'.od od2:=fun b hb=>hro (P:=b.nro=true) (fun hn=>by simp only [Ae.nro,aq,List.all_eq_true] at hn;exact hn.2.1 b hb) _ fun h1 h2=>by rw [h1] at h2;cases h2
 have hnroU:∀ u∈q.upds,u.2.nro=false->AB O1'.od od2:=fun u hu=>hro (P:=u.2.nro=true) (fun hn=>by simp only [Ae.nro,aq,List.all_eq_true] at hn;exact hn.2.2 u hu) _ fun h1 h2=>by rw [h1] at h2;cases h2
 have srcOf:∀ (t i:Nat),E5 lr.srcs t=some i->lr.srcs[t]? = some (some i):=fun t i h=>by
  unfold E5 at h
  cases hs:lr.srcs[t]? with
  | none=>rw [hs] at h;cases h
  | some s=>rw [hs] at h;simp only at h;rw [h]
 refine ⟨x,O2,rfl,⟨FO hσ hv hnroV hp.val,⟨hkeepN,⟨fun b o y hy=>?_,fun b v hv=>hp.ext.od.m b v hv,fun b i hi=>hp.ext.od.p b i hi⟩⟩,fun i hi=>?_,hp.os,hp.tape,hp.output,hp.size,fun b hb hu=>hp.keep b hb fun u hu' mm hmm=>?_,⟨fun b o y hy=>?_,fun b v hv=>hp.odn.m b v hv,hp.odn.p⟩,fun u' hu' hk=>?_,fun j b' hj hk=>?_,fun j j' b b' mm mm' hne hj hj' hk hk' hmm hmm'=>?_⟩⟩
 .have:=hm.od_lt hy
  show (if w.heap.size<=b then O1'.od b o else O.od b o)=some y
  rw [if_neg (by omega)];exact hy
 .show (if off<=i/\i<off+q.news.length then O1' (lr.srcs.length+(i - off)) else O i)=O i
  simp only [hNl] at hi
  rw [if_neg (by omega)]
 .obtain ⟨i,hi,hri⟩:=hsrc2 u.1 mm hmm
  obtain ⟨b',_,hmem⟩:=(Jz hU u hu').2 i (by simp [E5,hi])
  exact hu (i,b') hmem mm hri
 .have hy':(if w.heap.size<=b then O1'.od b o else O.od b o)=some y:=hy
  split at hy'
  .rename_i hge
   rcases hp.odn b o y hy' with h1 | h1
   .have:=hod1lt b o y h1;omega
   .exact .inr h1
  .exact .inl hy'
 .obtain ⟨u,hu,hs,hr⟩:=Jy hU u' hu'
  obtain ⟨hr1,hr2⟩:=BU hr
  rw [hr1] at hk
  obtain ⟨h1,h2⟩:=hp.upd u hu hk
  have hi:=srcOf _ _ hs
  refine ⟨fun mm hmm=>DN hσ hr (hnroU u hu) (h1 mm (by rw [hsrc _ _ hi];exact hmm)),fun hn=>hr2 (h2 (by rw [hsrc _ _ hi];exact hn))⟩
 .obtain ⟨b,hb,hr⟩:=hNg j b' hj
  obtain ⟨hr1,hr2⟩:=BU hr
  rw [hr1] at hk
  have hjl:=(ax.1 hb).1
  obtain ⟨h1,h2⟩:=hp.new j b hb hk
  rw [hnewN j hjl]
  refine ⟨fun mm hmm=>?_,fun hn=>hr2 (h2 hn)⟩
  obtain ⟨g1,g2,g3,g4⟩:=h1 mm hmm
  refine ⟨g1,DN hσ hr (hnroN b (List.mem_of_getElem? hb)) g2,fun o=>?_,?_⟩
  .show (if w.heap.size<=mm.blk then O1'.od mm.blk o else O.od mm.blk o)=none
   split
   .exact g3 o
   .cases ho:O.od mm.blk o with
    | none=>rfl
    | some y=>have:=hp.ext.od _ _ _ (hod1 _ _ _ ho);rw [g3 o] at this;cases this
  .rcases g4 with g4 | ⟨u,hu,hk2,m',hm',e⟩
   .exact .inl g4
   .obtain ⟨i,hi,hri⟩:=hsrc2 u.1 m' hm'
    obtain ⟨b2,hb2,hmem⟩:=(Jz hU u hu).2 i (by simp [E5,hi])
    exact .inr ⟨(i,b2),hmem,by rw [(BU hb2).1];exact hk2,m',hri,e⟩
 .obtain ⟨b0,hb0,hr⟩:=hNg j b hj
  obtain ⟨b1,hb1,hr1⟩:=hNg j' b' hj'
  rw [hnewN j (ax.1 hb0).1] at hmm
  rw [hnewN j' (ax.1 hb1).1] at hmm'
  rw [(BU hr).1] at hk
  rw [(BU hr1).1] at hk'
  exact hp.newapart j j' b0 b1 mm mm' hne hb0 hb1 hk hk' hmm hmm'
end runs
end Go.Sy
namespace Go.Sy
open Go.RowKit
variable [AO]
section runs
variable {P:Program}
def KM:List Nat->List SV->Nat->SV
 | t :: L,v :: vs,i=>match Nat.beq i t with
  | true=>v
  | false=>KM L vs i
 | _,_,_=>.any
def Rg(s:A4)(L:List Nat):List SV:=L.map s.tm
def Aq(na nt:Nat)(L:List Nat)(vs:List SV)(nx:Nat)(bs:List Blk):A4:={ na:=na,nt:=nt,tm:=KM L vs,nx:=nx,mem:=Ah bs }
structure GL where
 isSlot:Bool
 a:Nat
 c:Nat
 i:Nat
 e:Nat
 sh:List Kd
def GL.val(g:GL)(s:A4):SV:=match g.isSlot with
 | true=>s.tm g.a
 | false=>match s.mem g.a with
  | .cells _ l=>l.getD g.c .any
  | _=>.any
def GL.src(g:GL)(s:A4):Option Nat:=match g.val s with
 | .gr j _ _=>some j
 | .own j _ _=>some j
 | _=>none
def CT:List GL->Nat->Option GL
 | [],_=>none
 | g :: l,k=>match Nat.beq g.i k with
  | true=>some g
  | false=>CT l k
def P5(s:A4):List GL->Nat->Option Nat
 | [],_=>none
 | g :: l,k=>match g.src s with
  | some j=>(match Nat.beq j k with
   | true=>some g.i
   | false=>P5 s l k)
  | none=>P5 s l k
def Rf(s:A4)(nx:Nat)(gl:List GL)(k:Nat):Option Nat:=match P5 s gl k with
 | some i=>some i
 | none=>match Nat.blt k nx&&(CT gl k).isNone with
  | true=>some k
  | false=>none
def GL.ro(g:GL):Bool:=Nat.beq g.e 1000000
def nro:List GL->List GL
 | []=>[]
 | g :: l=>match g.ro with
  | true=>nro l
  | false=>g :: nro l
def Qh(g:GL):SV->SV
 | .nsl=>match g.ro with
  | true=>.ro g.sh 0 A3
  | false=>.gr g.i g.sh.length 0
 | .own i e n=>.gr i e n
 | v=>v
def BR:List GL->List Nat->List SV->List SV
 | gl,t :: L,v :: vs=>(match gl.find? (fun g=>g.isSlot&&Nat.beq g.a t) with | some g=>Qh g v | none=>v) :: BR gl L vs
 | _,_,vs=>vs
def GO(gl:List GL)(q:Nat):Nat->List SV->List SV
 | _,[]=>[]
 | c,v :: vs=>(match gl.find? (fun g=>!g.isSlot&&(Nat.beq g.a q&&Nat.beq g.c c)) with | some g=>Qh g v | none=>v) :: GO gl q (c+1) vs
def EI(gl:List GL)(q:Nat):Blk->Blk
 | .cells e l=>.cells e (GO gl q 0 l)
 | b=>b
def Jq(s:A4)(gl:List GL)(k:Nat):Blk:=match CT gl k with
 | some g=>(match g.src s with
  | some j=>s.mem j
  | none=>.row g.e g.sh 0 A3)
 | none=>s.mem k
def Oa(s:A4)(nx:Nat)(gl:List GL):Option (List Blk):=match HR (Rf s nx (nro gl)) ((List.range nx).map (Jq s (nro gl))) with
 | some bs=>some ((List.range nx).zipWith (EI gl) bs)
 | none=>none
def ES(s:A4):List GL->List Nat
 | []=>[]
 | g :: l=>match g.src s with
  | some j=>j :: ES s l
  | none=>ES s l
def TS(s:A4)(nx:Nat)(gl:List GL):Bool :=
 Bs (ES s gl)&&(Bs (gl.map (·.i))&&(((ES s gl).all fun j=>!(Nat.blt j nx&&(CT gl j).isNone))&&(gl.all fun g=>Nat.ble s.na g.i&&Nat.blt g.i nx)))
def czv(na nt:Nat)(L:List Nat)(nx:Nat)(gl:List GL)(s:A4):Option (List SV × List Blk) :=
 match Nat.beq s.na na&&(Nat.beq s.nt nt&&(Nat.ble s.na nx&&TS s nx (nro gl))),SV.renL (Rf s nx (nro gl)) (Rg s L),Oa s nx gl with
 | true,some vs,some bs=>some (BR gl L vs,bs)
 | _,_,_=>none
def cz(na nt:Nat)(L:List Nat)(nx:Nat)(gl:List GL)(s:A4)(K:List SV->List Blk->Prop):Prop :=
 match czv na nt L nx gl s with
 | some r=>K r.1 r.2
 | none=>False
theorem Cx:∀ {gl:List GL} {k:Nat} {g:GL},CT gl k=some g->g∈gl/\g.i=k
 | [],_,_,h=>by simp [CT] at h
 | a :: l,k,g,h=>by
  simp only [CT] at h
  split at h
  .rename_i e;rw [Nat.beq_eq] at e;cases h;exact ⟨by simp,e⟩
  .obtain ⟨h1,h2⟩:=Cx h;exact ⟨aj _ h1,h2⟩
theorem Ok:∀ {gl:List GL} {g:GL},Bs (gl.map (·.i))=true->g∈gl->CT gl g.i=some g
 | a :: l,g,hn,hg=>by
  simp only [List.map_cons,Bs,aq,Bool.not_eq_true',List.any_eq_false] at hn
  simp only [CT]
  rcases List.mem_cons.1 hg with rfl | hg
  .simp [Nat.beq_refl]
  .have hne:a.i≠g.i:=fun e=>hn.1 g.i (List.mem_map.2 ⟨g,hg,rfl⟩) (by rw [Nat.beq_eq];exact e.symm)
   have:Nat.beq a.i g.i=false:=by
    cases h:Nat.beq a.i g.i with
    | false=>rfl
    | true=>rw [Nat.beq_eq] at h;exact absurd h hne
   rw [this]
   exact Ok hn.2 hg
theorem Hg{s:A4}:∀ {gl:List GL} {k i:Nat},P5 s gl k=some i->∃ g∈gl,g.src s=some k/\g.i=i
 | [],_,_,h=>by simp [P5] at h
 | a :: l,k,i,h=>by
  simp only [P5] at h
  split at h
  .rename_i j hj
   split at h
   .rename_i e;rw [Nat.beq_eq] at e;subst e;cases h;exact ⟨a,by simp,hj,rfl⟩
   .obtain ⟨g,h1,h2⟩:=Hg h;exact ⟨g,aj _ h1,h2⟩
  .obtain ⟨g,h1,h2⟩:=Hg h;exact ⟨g,aj _ h1,h2⟩
theorem ET{s:A4}:∀ {gl:List GL} {g:GL} {j:Nat},g∈gl->g.src s=some j->j∈ES s gl
 | a :: l,g,j,hg,hj=>by
  simp only [ES]
  rcases List.mem_cons.1 hg with rfl | hg
  .rw [hj];simp
  .have:=ET hg hj
   split
   .exact aj _ this
   .exact this
theorem Jr{s:A4}:∀ {gl:List GL},Bs (ES s gl)=true->∀ {g g':GL} {j:Nat},g∈gl->g'∈gl->g.src s=some j->g'.src s=some j->g=g'
 | a :: l,hn,g,g',j,hg,hg',hj,hj'=>by
  simp only [ES] at hn
  cases ha:a.src s with
  | none =>
   rw [ha] at hn
   rcases List.mem_cons.1 hg with rfl | hg
   .rw [ha] at hj;cases hj
   .rcases List.mem_cons.1 hg' with rfl | hg'
    .rw [ha] at hj';cases hj'
    .exact Jr hn hg hg' hj hj'
  | some b =>
   rw [ha] at hn
   simp only [Bs,aq,Bool.not_eq_true',List.any_eq_false] at hn
   have hno:∀ x∈ES s l,x≠b:=fun x hx e=>hn.1 x hx (by rw [Nat.beq_eq];exact e)
   rcases List.mem_cons.1 hg with e1 | hg <;> rcases List.mem_cons.1 hg' with e2 | hg'
   .rw [e1,e2]
   .rw [e1,ha] at hj;cases hj
    exact absurd rfl (hno _ (ET hg' hj'))
   .rw [e2,ha] at hj';cases hj'
    exact absurd rfl (hno _ (ET hg hj))
   .exact Jr hn.2 hg hg' hj hj'
theorem GY:∀ (L:List Nat) (vs:List SV) (i:Nat),KM L vs i=.any\/∃ p:Nat,L[p]? = some i/\vs[p]? = some (KM L vs i)
 | [],_,_=>.inl rfl
 | _ :: _,[],_=>.inl rfl
 | t :: L,v :: vs,i=>by
  simp only [KM]
  split
  .rename_i e;rw [Nat.beq_eq] at e;subst e;exact .inr ⟨0,rfl,rfl⟩
  .rcases GY L vs i with h | ⟨p,h1,h2⟩
   .exact .inl h
   .exact .inr ⟨p+1,by simpa using h1,by simpa using h2⟩
theorem LI{O:Env}(g:GL){v:SV}{x:Value}(h:v.den O x):(Qh g v).den O x:=by
 unfold Qh
 split
 .split
  .exact ⟨none,0,h,⟨Nat.le_refl _,fun _=>rfl⟩,fun h=>absurd h (Nat.lt_irrefl _)⟩
  .exact .inl ⟨rfl,none,h⟩
 .exact .inr h
 .exact h
theorem GR{gl:List GL}:∀ {L:List Nat} {vs:List SV} {p:Nat} {u:SV},(BR gl L vs)[p]? = some u->∃ v,vs[p]? = some v/\∀ (O:Env) (x:Value),v.den O x->u.den O x
 | [],vs,p,u,h=>by simp only [BR] at h;exact ⟨u,h,fun _ _ h=>h⟩
 | _ :: _,[],p,u,h=>by simp [BR] at h
 | t :: L,v :: vs,p,u,h=>by
  simp only [BR] at h
  cases p with
  | zero =>
   simp only [List.getElem?_cons_zero,Option.some.injEq] at h
   refine ⟨v,rfl,fun O x hx=>?_⟩
   rw [<- h]
   split
   .exact LI _ hx
   .exact hx
  | succ p =>
   obtain ⟨v',h1,h2⟩:=GR (gl:=gl) (L:=L) (vs:=vs) (p:=p) (u:=u) (by simpa using h)
   exact ⟨v',by simpa using h1,h2⟩
theorem GP{gl:List GL}{q:Nat}{O:Env}:∀ {c:Nat} {vs:List SV} {xs:List Value},SV.denL O vs xs->SV.denL O (GO gl q c vs) xs
 | _,[],[],h=>h
 | c,v :: vs,x :: xs,⟨h,k⟩=>by
  simp only [GO]
  refine ⟨?_,GP k⟩
  split
  .exact LI _ h
  .exact h
 | _,[],_ :: _,h=>h.elim
 | _,_ :: _,[],h=>h.elim
theorem Nb{gl:List GL}{q:Nat}{O:Env}{w:World}{m:Nm}{b:Blk}(h:b.den O w m):(EI gl q b).den O w m:=by
 cases b with
 | cells e l=>obtain ⟨h0,c,hc,hd⟩:=h;exact ⟨h0,c,hc,GP hd⟩
 | _=>exact h
theorem IM{gl:List GL}{q:Nat}{b:Blk}:(EI gl q b).isUnk=b.isUnk/\((EI gl q b).ghost↔b.ghost):=by cases b <;> exact ⟨rfl,Iff.rfl⟩
theorem H3{σ:Nat->Option Nat}:∀ {l l':List SV},SV.renL σ l=some l'->∀ {i:Nat} {v':SV},l'[i]? = some v'->∃ v,l[i]? = some v/\v.ren σ=some v'
 | [],l',h,i,v',hi=>by simp only [SV.renL] at h;cases h;simp at hi
 | v :: l,l',h,i,v',hi=>by
  simp only [SV.renL] at h
  split at h <;> try (cases h;done)
  rename_i v1 hv1
  split at h <;> cases h
  rename_i l1 hl1
  cases i with
  | zero=>simp at hi;subst hi;exact ⟨v,rfl,hv1⟩
  | succ i=>exact H3 hl1 (by simpa using hi)
theorem Mf{σ:Nat->Option Nat}{v v':SV}(h:v.ren σ=some v'){O:Env}{a:Act}{x:Value}(hd:B4 O a v x):v.den O x:=by
 cases v <;> first | exact hd | (simp [SV.ren] at h)
theorem H5{O:Env}{a:Act}{v:SV}{x:Value}(hg:∀ t pol u,v≠.gd t pol u)(h:v.den O x):B4 O a v x:=by
 cases v <;> first | exact h | exact absurd rfl (hg _ _ _)
theorem Me{σ:Nat->Option Nat}{v v':SV}(h:v.ren σ=some v'):∀ t pol u,v'≠.gd t pol u:=by
 intro t pol u e
 subst e
 cases v <;> simp only [SV.ren] at h <;> first | (cases h;done) | (split at h <;> cases h)
theorem LJ{gl:List GL}:∀ {L:List Nat} {vs:List SV},(∀ (p:Nat) (v:SV),vs[p]? = some v->∀ t pol u,v≠SV.gd t pol u)->∀ {p:Nat} {u:SV},(BR gl L vs)[p]? = some u->∀ t pol u',u≠.gd t pol u'
 | [],vs,hv,p,u,h=>by simp only [BR] at h;exact hv p u h
 | _ :: _,[],_,p,u,h=>by simp [BR] at h
 | t :: L,v :: vs,hv,p,u,h=>by
  simp only [BR] at h
  cases p with
  | zero =>
   simp only [List.getElem?_cons_zero,Option.some.injEq] at h
   intro t' pol u' e
   have h0:=hv 0 v rfl
   rw [e] at h
   split at h
   .unfold Qh at h
    split at h
    .split at h <;> cases h
    .cases h
    .exact h0 _ _ _ h
   .exact h0 _ _ _ h
  | succ p=>exact LJ (gl:=gl) (L:=L) (vs:=vs) (fun p v hp=>hv (p+1) v (by simpa using hp)) (p:=p) (u:=u) (by simpa using h)
theorem Cu{B:Nat}{M:List Nat}{w0:BH}{O:Env}{s:A4}{a:Act}{w:World}(h:Ab B M w0 O s a w){na nt nx:Nat}{L:List Nat}{gl:List GL}{r:List SV × List Blk}(hz:czv na nt L nx gl s=some r) :
  ∃ O',Ab B M w0 O' (Aq na nt L r.1 nx r.2) a w:=by
 unfold czv at hz
 split at hz <;> cases hz
 rename_i vs bs hchk hvs hbs
 unfold Oa at hbs
 split at hbs <;> cases hbs
 rename_i cs hcs
 generalize nro gl=gl0 at hchk hvs hcs
 simp only [TS,aq,List.all_eq_true] at hchk
 obtain ⟨hna,hnt,hnx,hsd,hid,hsk,hgi⟩:=hchk
 have hna':s.na=na:=by simpa using hna
 have hnt':s.nt=nt:=by simpa using hnt
 have hnx':s.na<=nx:=by simpa using hnx
 subst hna'
 subst hnt'
 have glLow:∀ g∈gl0,s.na<=g.i/\g.i<nx:=fun g hg=>by
  have:=hgi g hg
  exact ⟨by simpa using this.1,by simpa using this.2⟩
 obtain ⟨hcl,hcg⟩:=Ep hcs
 simp only [List.length_map,List.length_range] at hcl
 let O2:Env:=⟨fun k=>if k<nx then (match CT gl0 k with | some g=>(match g.src s with | some j=>O j | none=>none) | none=>O k) else none,O.od,O.gl⟩
 -- where a name comes from
 let sn:Nat->Option Nat:=fun k=>match CT gl0 k with | some g=>g.src s | none=>some k
 have hsn:∀ k m,O2 k=some m->k<nx/\∃ j,sn k=some j/\O j=some m/\Jq s gl0 k=s.mem j:=by
  intro k m hk
  have hk':(if k<nx then (match CT gl0 k with | some g=>(match g.src s with | some j=>O j | none=>none) | none=>O k) else none)=some m:=hk
  split at hk' <;> try (cases hk';done)
  rename_i hlt
  refine ⟨hlt,?_⟩
  show ∃ j,(match CT gl0 k with | some g=>g.src s | none=>some k)=some j/\O j=some m/\(match CT gl0 k with | some g=>(match g.src s with | some j=>s.mem j | none=>.row g.e g.sh 0 A3) | none=>s.mem k)=s.mem j
  cases hg:CT gl0 k with
  | none=>rw [hg] at hk';exact ⟨k,rfl,hk',rfl⟩
  | some g =>
   rw [hg] at hk'
   simp only at hk' ⊢
   cases hs:g.src s with
   | none=>rw [hs] at hk';cases hk'
   | some j=>rw [hs] at hk';exact ⟨j,rfl,hk',rfl⟩
 have snInj:∀ k k' j,k<nx->k'<nx->sn k=some j->sn k'=some j->k=k':=by
  intro k k' j hk hk' h1 h2
  have h1':(match CT gl0 k with | some g=>g.src s | none=>some k)=some j:=h1
  have h2':(match CT gl0 k' with | some g=>g.src s | none=>some k')=some j:=h2
  have kept:∀ g∈gl0,g.src s=some j->∀ q,q<nx->CT gl0 q=none->q≠j:=by
   intro g hg hs q hq hn e
   have:=hsk j (ET hg hs)
   rw [<- e,hn,Is hq] at this
   cases this
  cases hg:CT gl0 k with
  | none =>
   rw [hg] at h1'
   cases hg':CT gl0 k' with
   | none=>rw [hg'] at h2';simp only [Option.some.injEq] at h1' h2';omega
   | some g' =>
    rw [hg'] at h2'
    simp only [Option.some.injEq] at h1'
    exact absurd h1' (kept g' (Cx hg').1 h2' k hk hg)
  | some g =>
   rw [hg] at h1'
   cases hg':CT gl0 k' with
   | none =>
    rw [hg'] at h2'
    simp only [Option.some.injEq] at h2'
    exact absurd h2' (kept g (Cx hg).1 h1' k' hk' hg')
   | some g' =>
    rw [hg'] at h2'
    have e:=Jr hsd (Cx hg).1 (Cx hg').1 h1' h2'
    rw [<- (Cx hg).2,<- (Cx hg').2,e]
 have hσ:∀ k k',Rf s nx gl0 k=some k'->∀ m,O k=some m->O2 k'=some m:=by
  intro k k' hs m hm
  show (if k'<nx then (match CT gl0 k' with | some g=>(match g.src s with | some j=>O j | none=>none) | none=>O k') else none)=some m
  unfold Rf at hs
  split at hs
  .rename_i i hi
   cases hs
   obtain ⟨g,hg,hsrc,rfl⟩:=Hg hi
   rw [if_pos (glLow g hg).2,Ok hid hg]
   simp only [hsrc]
   exact hm
  .split at hs <;> cases hs
   rename_i hb
   simp only [aq,Option.isNone_iff_eq_none] at hb
   rw [if_pos (by simpa using hb.1),hb.2]
   exact hm
 have hblk:∀ k,(Ah ((List.range nx).zipWith (EI gl) cs) k).isUnk=false->∃ c,Ah ((List.range nx).zipWith (EI gl) cs) k=EI gl k c/\(Jq s gl0 k).ren (Rf s nx gl0)=some c/\c.isUnk=false/\(Jq s gl0 k).isUnk=false/\k<nx:=by
  intro k hk
  have hk0:=hk
  unfold Ah at hk ⊢
  cases hb:((List.range nx).zipWith (EI gl) cs)[k]? with
  | none=>rw [hb] at hk;cases hk
  | some b =>
   rw [hb] at hk
   rw [List.getElem?_zipWith] at hb
   cases hr:(List.range nx)[k]? with
   | none=>rw [hr] at hb;cases hb
   | some k0 =>
    have hk0:k0=k/\k<nx:=by
     have hlt:k<nx:=by have:=(ax.1 hr).1;simpa using this
     rw [List.getElem?_range hlt] at hr
     cases hr;exact ⟨rfl,hlt⟩
    obtain ⟨rfl,hlt⟩:=hk0
    cases hc:cs[k0]? with
    | none=>rw [hr,hc] at hb;cases hb
    | some c =>
     rw [hr,hc] at hb
     cases hb
     obtain ⟨b0,hb0,hren⟩:=hcg k0 c hc
     rw [List.getElem?_map,hr] at hb0
     cases hb0
     rw [IM.1] at hk
     exact ⟨c,rfl,hren,hk,by rw [<- (BU hren).1];exact hk,hlt⟩
 have hMem:Ak B M O2 (Ah ((List.range nx).zipWith (EI gl) cs)) w:=by
  refine ⟨fun k hk=>?_,fun k k' m m' hne hk hk' hm hm'=>?_,h.mem.seal_,fun k m hk hm=>?_,h.mem.pv⟩
  .obtain ⟨c,he,hren,_,hsu,hlt⟩:=hblk k hk
   rw [he]
   refine ⟨fun m hm=>?_,fun hn=>?_⟩
   .obtain ⟨_,j,_,hj,hsb⟩:=hsn k m hm
    rw [hsb] at hren hsu
    obtain ⟨g1,g2,g3⟩:=h.mem.get hsu hj
    exact ⟨g1,Nb (DN hσ hren (fun _=>⟨fun _ _ _ h=>h,fun _ _ h=>h,fun _ _ h=>h⟩) g2),g3⟩
   .rw [IM.2]
    refine (BU hren).2 ?_
    have hn':(if k<nx then (match CT gl0 k with | some g=>(match g.src s with | some j=>O j | none=>none) | none=>O k) else none)=none:=hn
    rw [if_pos hlt] at hn'
    unfold Jq at hsu ⊢
    cases hg:CT gl0 k with
    | none=>rw [hg] at hn' hsu;exact (h.mem.at_ k hsu).2 hn'
    | some g =>
     rw [hg] at hn' hsu
     simp only at hn' hsu ⊢
     cases hs:g.src s with
     | none=>rfl
     | some j=>rw [hs] at hn' hsu;exact (h.mem.at_ j hsu).2 hn'
  .obtain ⟨_,_,_,_,hsu,_⟩:=hblk k hk
   obtain ⟨_,_,_,_,hsu',_⟩:=hblk k' hk'
   obtain ⟨hl,j,hj1,hj2,hj3⟩:=hsn k m hm
   obtain ⟨hl',j',hj1',hj2',hj3'⟩:=hsn k' m' hm'
   exact h.mem.apart j j' m m' (fun e=>hne (snInj k k' j hl hl' hj1 (by rw [e];exact hj1'))) (by rw [<- hj3];exact hsu) (by rw [<- hj3'];exact hsu') hj2 hj2'
  .obtain ⟨_,_,_,_,hsu,_⟩:=hblk k hk
   obtain ⟨_,j,_,hj2,hj3⟩:=hsn k m hm
   exact h.mem.free j m (by rw [<- hj3];exact hsu) hj2
 have low:∀ i,i<w0.n->O2 i=O i:=by
  intro i hi
  rw [<- h.nab] at hi
  show (if i<nx then (match CT gl0 i with | some g=>(match g.src s with | some j=>O j | none=>none) | none=>O i) else none)=O i
  rw [if_pos (by omega)]
  cases hg:CT gl0 i with
  | none=>rfl
  | some g =>
   obtain ⟨h1,h2⟩:=Cx hg
   have:=(glLow g h1).1
   omega
 refine ⟨O2,h.defs.map fun b o hb=>⟨hb.at_,fun k m hk hm=>?_,hb.nod,hb.nom⟩,h.size,fun i x hx=>?_,fun i hi=>?_,hMem,h.kept,h.base,⟨fun i m hm=>?_,h.ext.od⟩,h.argn,fun i hi=>by rw [low i hi];exact h.argl i hi,h.nab,by rw [<- h.nab];exact hnx',h.odb,h.mz⟩
 .obtain ⟨_,_,_,_,hsu,_⟩:=hblk k hk
  obtain ⟨_,j,_,hj2,hj3⟩:=hsn k m hm
  exact hb.off j m (by rw [<- hj3];exact hsu) hj2
 .show B4 O2 a (KM L (BR gl L vs) i) x
  rcases GY L (BR gl L vs) i with e | ⟨p,hp1,hp2⟩
  .rw [e];trivial
  .have hng:∀ (p:Nat) (v:SV),vs[p]? = some v->∀ t pol u,v≠.gd t pol u:=fun p v hv=>by
    obtain ⟨u,_,hu⟩:=H3 hvs hv
    exact Me hu
   refine H5 (LJ hng hp2) ?_
   obtain ⟨v,hv,hd⟩:=GR hp2
   refine hd O2 x ?_
   obtain ⟨u,hu1,hu2⟩:=H3 hvs hv
   unfold Rg at hu1
   rw [List.getElem?_map,hp1] at hu1
   cases hu1
   exact FO hσ hu2 (fun _=>⟨fun _ _ _ h=>h,fun _ _ h=>h,fun _ _ h=>h⟩) (Mf hu2 (h.tmp i x hx))
 .show (if i<nx then (match CT gl0 i with | some g=>(match g.src s with | some j=>O j | none=>none) | none=>O i) else none)=none
  have hi':nx<=i:=hi
  rw [if_neg (by omega)]
 .have hlt:i<w0.n:=by
   rcases Nat.lt_or_ge i w0.n with h1 | h1
   .exact h1
   .rw [h.argn i h1] at hm;cases hm
  rw [low i hlt]
  exact h.ext.nm i m hm
end runs
end Go.Sy
namespace Go.Sy
open Go.RowKit
variable [AO]
section runs
variable {P:Program}
abbrev XR:=XE->List SV->List Blk->Prop
def AJ(na nt:Nat)(Lh Le:List Nat)(nx:Nat)(gl:List GL)(R:XR):EZ:=fun e s=>match e with
 | .normal=>cz na nt Lh nx gl s (R .normal)
 | .exit j=>cz na nt Le nx gl s (R (.exit j))
 | .ret=>cz na nt Le nx gl s (R .ret)
theorem Bk{na nt:Nat}{L:List Nat}{nx:Nat}{gl:List GL}{s:A4}{K:List SV->List Blk->Prop}(h:cz na nt L nx gl s K):∃ r,czv na nt L nx gl s=some r/\K r.1 r.2:=by
 unfold cz at h
 split at h
 .rename_i r hr;exact ⟨r,hr,h⟩
 .exact h.elim
theorem S3{ι:Type}{L:Tab}{Λ:Lam}{fuel:Nat}{c:Code}{na nt nx:Nat}{Lh Le:List Nat}{gl:List GL}(hf:LOk P (AT P L Λ fuel c) c)(G:Nat->ι->XR->Prop)(va:ι->List SV)(ba:ι->List Blk)(h0:∀ x K,¬ G 0 x K)(hs:∀ f x K,G (f+1) x K->AT P L Λ fuel c (Aq na nt Lh (va x) nx (ba x)) (AJ na nt Lh Le nx gl fun e vs bs=>match e with | .normal=>∃ y,vs=va y/\bs=ba y/\G f y K | .exit j=>K (.exit j) vs bs | .ret=>K .ret vs bs)) :
  LOk P (fun s k=>cz na nt Lh nx gl s fun vs bs=>∃ f x,vs=va x/\bs=ba x/\G f x fun e vs bs=>k e (Aq na nt Le vs nx bs)) (.loop c):=by
 intro rd nn B M w0 s k O a w Q hr0 hd hg hk
 obtain ⟨r,hr,f,x,e1,e2,hG⟩:=Bk hg
 obtain ⟨O1,hd1⟩:=Cu hd hr
 rw [e1,e2] at hd1
 clear e1 e2 hd hg hr
 have key:∀ (f:Nat) (x:ι) (O:Env) (a:Act) (w:World),Ab B M w0 O (Aq na nt Lh (va x) nx (ba x)) a w->(G f x fun e vs bs=>k e (Aq na nt Le vs nx bs))->Code.roundsIn (FW rd) nn P c Q f a w:=by
  intro f
  induction f with
  | zero=>intro x O a w _ hG;exact (h0 x _ hG).elim
  | succ f ih =>
   intro x O a w hd hG
   rw [roundsIn_succ]
   refine hf rd nn B M w0 _ _ O a w _ hr0.lp hd (hs f x _ hG) fun e s' O' a' w' hs' hk'=>?_
   cases e with
   | normal =>
    have hk2:=hk'
    simp only [AJ] at hk2
    obtain ⟨r,hr,y,e1,e2,hG'⟩:=Bk hk2
    obtain ⟨O2,h1⟩:=Cu hs' hr
    rw [e1,e2] at h1
    exact ih y O2 a' w' h1 hG'
   | exit j =>
    have hk2:=hk'
    simp only [AJ] at hk2
    obtain ⟨r,hr,h2⟩:=Bk hk2
    obtain ⟨O2,h1⟩:=Cu hs' hr
    exact hk (.exit j) _ O2 a' w' h1 h2
   | ret =>
    have hk2:=hk'
    simp only [AJ] at hk2
    obtain ⟨r,hr,h2⟩:=Bk hk2
    obtain ⟨O2,h1⟩:=Cu hs' hr
    exact hk .ret _ O2 a' w' h1 h2
 exact wpIn_loop_rounds f (key f x O1 a w hd1 hG)
def AL(id:Nat)(K:EZ):EZ:=fun e s=>match e with
 | .normal=>K .normal s
 | .exit j=>match Nat.beq j id with
  | true=>K .normal s
  | false=>K (.exit j) s
 | .ret=>K .ret s
theorem PV{g:AX}{c:Code}{id:Nat}(h:LOk P g c):LOk P (fun s k=>g s (AL id k)) (.block id c):=by
 intro rd nn B M w0 s k O a w Q hr0 hd hg hk
 refine wpIn_block (h rd nn B M w0 s _ O a w _ hr0.bk hd hg fun e s' O' a' w' hs' hk'=>?_)
 cases e with
 | normal=>exact hk .normal _ _ _ _ hs' hk'
 | exit j =>
  show Exit.inBlock id Q (.exit j) a' w'
  simp only [Exit.inBlock]
  simp only [AL] at hk'
  split at hk'
  .rename_i hj;rw [Nat.beq_eq] at hj;rw [if_pos hj];exact hk .normal _ _ _ _ hs' hk'
  .rename_i hj;rw [if_neg (Nat.ne_of_beq_eq_false hj)];exact hk (.exit j) _ _ _ _ hs' hk'
 | ret=>exact hk .ret _ _ _ _ hs' hk'
theorem LZ{g g':AX}{c:Code}(h:LOk P g c)(hm:∀ s k,g' s k->g s k):LOk P g' c :=
 fun rd nn B M w0 s k O a w Q hr hd hg hk=>h rd nn B M w0 s k O a w Q hr hd (hm s k hg) hk
def J0:List (Nat × AX)->Lam
 | [],_=>none
 | p :: l,f=>match Nat.beq p.1 f with
  | true=>some p.2
  | false=>J0 l f
def GG{α κ:Type}(df:α)(E:α->κ->Prop)(K:κ)(o:Option α):Prop:=o.isSome=true/\E (o.getD df) K
theorem T8{α κ:Type}{df:α}{E:α->κ->Prop}{K:κ}{b:Bool}{x y:Option α}(h:b=true)(k:GG df E K (cond b x y)):GG df E K x:=by subst h;exact k
theorem TQ{α κ:Type}{df:α}{E:α->κ->Prop}{K:κ}{b:Bool}{x y:Option α}(h:b=false)(k:GG df E K (cond b x y)):GG df E K y:=by subst h;exact k
theorem TR{α κ:Type}{df:α}{E:α->κ->Prop}{K:κ}{b:Bool}{x:Option α}(k:GG df E K (cond b x none)):b=true:=by
 cases b with
 | true=>rfl
 | false=>have:=k.1;cases this
theorem Au{α κ:Type}{df:α}{E:α->κ->Prop}{K:κ}:¬ GG df E K none:=fun h=>by have:=h.1;cases this
def C6:Code->List (Nat × Code)
 | .seq a b=>C6 a ++ C6 b
 | .cond _ a b=>C6 a ++ C6 b
 | .block i a=>(i,a) :: C6 a
 | .loop a=>C6 a
 | .rangeFunc _ _ _ a=>C6 a
 | _=>[]
theorem Gw:∀ {c:Code} {id:Nat} {b:Code},Bf c id b↔(id,b)∈C6 c:=by
 intro c
 induction c with
 | seq a b iha ihb=>intro id d;simp only [Bf,C6,List.mem_append,iha,ihb]
 | cond x a b iha ihb=>intro id d;simp only [Bf,C6,List.mem_append,iha,ihb]
 | block i a ih =>
  intro id d
  simp only [Bf,C6,List.mem_cons,ih,Prod.mk.injEq]
  constructor
  .rintro (⟨rfl,rfl⟩ | h)
   .exact .inl ⟨rfl,rfl⟩
   .exact .inr h
  .rintro (⟨rfl,rfl⟩ | h)
   .exact .inl ⟨rfl,rfl⟩
   .exact .inr h
 | loop a ih=>intro id d;simp only [Bf,C6,ih]
 | rangeFunc f ps x a _ ih=>intro id d;simp only [Bf,C6,ih]
 | _=>intro id d;simp [Bf,C6]
theorem Ir:∀ {c:Code} {id:Nat} {b:Code},(id,b)∈C6 c->∀ {p:Nat × Code},p∈C6 b->p∈C6 c:=by
 intro c
 induction c with
 | seq a b iha ihb =>
  intro id d h p hp
  simp only [C6,List.mem_append] at h ⊢
  exact h.elim (fun h=>.inl (iha h hp)) fun h=>.inr (ihb h hp)
 | cond x a b iha ihb =>
  intro id d h p hp
  simp only [C6,List.mem_append] at h ⊢
  exact h.elim (fun h=>.inl (iha h hp)) fun h=>.inr (ihb h hp)
 | block i a ih =>
  intro id d h p hp
  simp only [C6,List.mem_cons,Prod.mk.injEq] at h ⊢
  rcases h with ⟨rfl,rfl⟩ | h
  .exact .inr hp
  .exact .inr (ih h hp)
 | loop a ih=>intro id d h p hp;simp only [C6] at h ⊢;exact ih h hp
 | rangeFunc f ps x a _ ih=>intro id d h p hp;simp only [C6] at h ⊢;exact ih h hp
 | _=>intro id d h;simp [C6] at h
def GW:List (Nat × Code)->Nat->Code
 | [],_=>.skip
 | p :: l,id=>match Nat.beq p.1 id with
  | true=>p.2
  | false=>GW l id
def Ad(c:Code)(id:Nat):Code:=GW (C6 c) id
def AU:Code->Code
 | .loop c=>c
 | .rangeFunc _ _ _ c=>c
 | _=>.skip
theorem Hk:∀ {l:List (Nat × Code)} {id:Nat},GW l id=.skip\/(id,GW l id)∈l
 | [],_=>.inl rfl
 | p :: l,id=>by
  simp only [GW]
  split
  .rename_i h;rw [Nat.beq_eq] at h;subst h;exact .inr (by simp)
  .rcases Hk (l:=l) (id:=id) with h | h
   .exact .inl h
   .exact .inr (aj _ h)
theorem J3:∀ {l:List (Nat × Code)} {id:Nat} {b:Code},Bs (l.map (·.1))=true->(id,b)∈l->GW l id=b
 | p :: l,id,b,hn,h=>by
  simp only [List.map_cons,Bs,aq] at hn
  simp only [GW]
  rcases List.mem_cons.1 h with rfl | h
  .simp [Nat.beq_refl]
  .have hne:p.1≠id:=by
    intro e
    subst e
    have:=hn.1
    simp at this
    exact this p.1 b h rfl
   have:Nat.beq p.1 id=false:=by
    cases h:Nat.beq p.1 id with
    | false=>rfl
    | true=>rw [Nat.beq_eq] at h;exact absurd h hne
   rw [this]
   exact J3 hn.2 h
def Gq(P:Program)(c:Code)(Λ:Lam):Prop:=∀ id b g,Bf c id b->Λ id=some g->LOk P g (.block id b)
theorem GU{c:Code}{Λ:Lam}(h:Gq P c Λ)(j:Nat):Gq P (AU (Ad c j)) Λ:=by
 intro id b g hb hg
 refine h id b g ?_ hg
 rw [Gw] at hb ⊢
 unfold Ad at hb
 rcases Hk (l:=C6 c) (id:=j) with e | e
 .rw [e] at hb;simp [AU,C6] at hb
 .refine Ir e ?_
  generalize GW (C6 c) j=d at hb
  cases d <;> simp [AU,C6] at hb ⊢
  all_goals exact hb
theorem AD{c:Code}(hn:Bs ((C6 c).map (·.1))=true){l:List (Nat × AX)}(hl:∀ p∈l,LOk P p.2 (.block p.1 (Ad c p.1))):Gq P c (J0 l):=by
 intro id b g hb hg
 rw [Gw] at hb
 have e:=J3 hn hb
 clear hb
 induction l with
 | nil=>cases hg
 | cons p l ih =>
  simp only [J0] at hg
  split at hg
  .rename_i h
   rw [Nat.beq_eq] at h
   cases hg
   have:=hl p (by simp)
   unfold Ad at this
   rw [h,e] at this
   exact this
  .exact ih (fun q hq=>hl q (aj _ hq)) hg
theorem Fk{c:Code}:∀ p∈([]:List (Nat × AX)),LOk P p.2 (.block p.1 (Ad c p.1)):=fun _ h=>by cases h
theorem El{c:Code}{id:Nat}{g:AX}{l:List (Nat × AX)}(h:LOk P g (.block id (Ad c id)))(hl:∀ p∈l,LOk P p.2 (.block p.1 (Ad c p.1))):∀ p∈(id,g) :: l,LOk P p.2 (.block p.1 (Ad c p.1)):=by
 intro p hp
 rcases List.mem_cons.1 hp with rfl | hp
 .exact h
 .exact hl p hp
theorem Fo{ι:Type}{L:Tab}(hL:Cr P L)(hmix:P.follows .mixedOrders=true){Λ:Lam}{fuel:Nat}{c:Code}{id:Nat}(hΛ:Gq P c Λ)(hc:Ad c id=.loop (AU (Ad c id))){na nt nx:Nat}{Lh Le:List Nat}{gl:List GL}(G:Nat->ι->XR->Prop)(va:ι->List SV)(ba:ι->List Blk)(h0:∀ x K,¬ G 0 x K)(hs:∀ f x K,G (f+1) x K->AT P L Λ fuel (AU (Ad c id)) (Aq na nt Lh (va x) nx (ba x)) (AJ na nt Lh Le nx gl fun e vs bs=>match e with | .normal=>∃ y,vs=va y/\bs=ba y/\G f y K | .exit j=>K (.exit j) vs bs | .ret=>K .ret vs bs)){g:AX}(hg:∀ s k,g s k->∃ r,czv na nt Lh nx gl s=some r/\∃ f x,r.1=va x/\r.2=ba x/\G f x fun e vs bs=>AL id k e (Aq na nt Le vs nx bs)) :
  LOk P g (.block id (Ad c id)):=by
 rw [hc]
 refine LZ (PV (S3 (gl:=gl) (Cl hL hmix _ (GU hΛ id)) G va ba h0 hs)) fun s k h=>?_
 obtain ⟨r,hr,f,x,h1,h2,h3⟩:=hg s k h
 unfold cz
 rw [hr]
 exact ⟨f,x,h1,h2,h3⟩
def Bl(na:Nat)(q:SV × List Blk × List Blk)(ns:List Bool):Ae:={ v:=q.1,news:=q.2.2,upds:=(List.range na).zip q.2.1,need:=ns }
theorem ID{L:Tab}(hL:Cr P L)(hmix:P.follows .mixedOrders=true){Λ:Lam}(fuel:Nat){f:FuncId}{fn:Func}{c:Code}(hf:P.funcs[f]? = some fn)(hb:fn.body=some c)(hname:(fn.name == "runtime.NumGoroutine")=false)(hΛ:∀ id b g,Bf c id b->Λ id=some g->LOk P g (.block id b)){hs:List H}{m:List SV->List Blk->Option Ae}{grs:List Nat}{rh:RH}(h:∀ vs bs q,m vs bs=some q->q.need_ok->∃ Q,q=Bl bs.length Q q.need/\AT P L Λ fuel c (Cb fn.ntmps vs bs.length (Ah bs)) (EQ P fn.results.toList (DT bs.length (List.range bs.length) grs rh fun v U N=>(v,U,N)=Q))):Ag P (AA hs m) f:=by
 refine BM ⟨fn,hf,by rw [hb];rfl,hname⟩ fun vs bs q hq hn O1 M xs w hd hm hfr hMb=>?_
 obtain ⟨Q,hQ,hx⟩:=h vs bs q hq hn
 refine (OX hL hmix fuel hf hb hΛ hd hm hfr hMb (fun q hq=>List.mem_range.1 hq) hx).mono ?_
 rintro e w' ⟨v,U,N,x,O',rfl,rfl,hp⟩
 refine ⟨x,O',rfl,?_⟩
 rw [hQ]
 exact ⟨hp.val,hp.ext,hp.old,hp.os,hp.tape,hp.output,hp.size,hp.keep,hp.odn,hp.upd,hp.new,hp.newapart⟩
theorem As{c:Code}:∀ id b g,Bf c id b->(fun _=>none:Lam) id=some g->LOk P g (.block id b):=fun _ _ _ _ h=>by cases h
theorem Df{b:Bool}{t e:Prop}(ht:b=true->t)(he:b=false->e):cnd b t e:=DV.2 ⟨ht,he⟩
theorem AH{b:Bool}{t:Prop}(hb:b=true)(ht:t):cnd b t False:=DV.2 ⟨fun _=>ht,fun h=>by rw [hb] at h;cases h⟩
theorem GB{b:Bool}{t:Prop}(hb:b=false)(ht:t):cnd b False t:=DV.2 ⟨fun h=>(by rw [hb] at h;cases h),fun _=>ht⟩
theorem U0{b:Bool}{t e:Prop}(ht:b=true->t)(he:b=false->e):t\/e:=by
 cases b with
 | true=>exact .inl (ht rfl)
 | false=>exact .inr (he rfl)
theorem IA{α κ:Type}{df:α}{E:α->κ->Prop}{K:κ}{b:Bool}{x:Option α}{T:Prop}(k:GG df E K (cond b x none))(f:GG df E K x->T):cnd b T False:=AH (TR k) (f (T8 (TR k) k))
theorem GA{α κ:Type}{df:α}{E:α->κ->Prop}{K:κ}{b:Bool}{x y:Option α}{T T':Prop}(k:GG df E K (cond b x y))(f:GG df E K x->T)(g:GG df E K y->T'):cnd b T T':=Df (fun h=>f (T8 h k)) fun h=>g (TQ h k)
theorem M6{α κ:Type}{df:α}{E:α->κ->Prop}{K:κ}{b:Bool}{x y:Option α}{T T':Prop}(k:GG df E K (cond b x y))(f:GG df E K x->T)(g:GG df E K y->T'):T\/T':=U0 (fun h=>f (T8 h k)) fun h=>g (TQ h k)
theorem Bu{p q:Prop}(h:p=q)(hq:q):p:=by rw [h];exact hq
theorem CE{a b:Bool}(h:(a&&b)=true):a=true:=by cases a <;> simp_all
theorem Al{a b:Bool}(h:(a&&b)=true):b=true:=by cases a <;> simp_all
theorem SH{a b:Bool}(h:(!a&&b)=true):a=false:=by cases a <;> simp_all
theorem IB{b x y c:Bool}(h:b=true)(k:cond b x y=c):x=c:=by subst h;exact k
theorem AC{b x y c:Bool}(h:b=false)(k:cond b x y=c):y=c:=by subst h;exact k
theorem FY{α:Type}{b:Bool}{x y z:α}(h:b=true)(k:x=z):cond b x y=z:=by subst h;exact k
theorem Cs{α:Type}{b:Bool}{x y z:α}(h:b=false)(k:y=z):cond b x y=z:=by subst h;exact k
theorem GV{α β:Type}{q:α->β}{m l:α}{x:β}(h:m=l)(hx:x=q l):x=q m:=by rw [h];exact hx
instance:Inhabited Dat:=⟨A3⟩
end runs
end Go.Sy
