/-
 A symbolic executor for the model's code, part O: a call as a whole; its end under names of its own. Conditions: none.
-/
import Derived.Test.YtpfipoimpmlmoaaGreatDoorJSyN
namespace Go.Sy
set_option linter.unusedVariables false
set_option linter.unusedSimpArgs false
open Go.RowKit
section runs
variable {P:Program}
def initS (nt:Nat) (args:List SV) (nx:Nat) (mem:Nat→Blk):SState :=
 {na:=nx,nt:=args.length+(nt - args.length),tm:=fun i=>match args[i]? with | some v=>v.top | none=>.any,nx:=nx,mem:=mem }
def retK (P:Program) (rs:List ResultVar) (R:SV→(Nat→Blk)→Prop):Kont:=fun e s=>match e with
 | .exit _=>False
 | .normal=>match resL P s rs with
  | some (vs,ns)=>needs ns (R (resV vs) s.mem)
  | none=>False
 | .ret=>match resL P s rs with
  | some (vs,ns)=>needs ns (R (resV vs) s.mem)
  | none=>False
theorem StDen.unmark {B:Nat} {M:List Nat} {b0:World} {ρ0 ρ:Env} {n0:Nat} {s:SState} {a:Act} {w:World} (h:StDen B M ⟨b0,ρ0,n0,fun _=>none,none⟩ ρ s a w) {d:Deferred} {ds:List Deferred} (hd:a.defers=d :: ds) :
  ∃ D,d={ target:=.collected D,args:=#[] }∧(Instr.takeDeferred D).run P w=.ok [] (w.putObj D (.deferred none))∧StDen B M ⟨b0,ρ0,n0,fun _=>none,none⟩ ρ s { a with defers:=ds } (w.putObj D (.deferred none)):=by
 obtain ⟨D,e,hB,hD⟩:=h.defs.at_ d (by rw [hd];simp)
 have hk:∀ b,b≠D→(w.putObj D (.deferred none)).heap[b]? = w.heap[b]?:=fun b hb=>World.putObj_heap_other hb
 have hne:∀ b o v,w.cell? ⟨b,o,none⟩=some v→b≠D:=by
  intro b o v hc e2
  subst e2
  simp [World.cell?,hD.at_] at hc
 have hnd:=h.defs.nd
 rw [hd] at hnd
 have hnd:=List.nodup_cons.1 hnd
 refine ⟨D,e,run_takeDeferred hD.at_,⟨⟨fun _ _ h=>(by cases h),fun d' hd'=>?_,hnd.2,fun _ h=>(by cases h)⟩,h.size,h.tmp,h.fresh,⟨fun i hi=>⟨fun m hm=>?_,(h.mem.at_ i hi).2⟩,h.mem.apart,⟨fun b o v hv=>?_,fun b v hv=>(hk b fun e2=>by have:=h.mem.seal_.m b v hv;rw [e2,hD.at_] at this;cases this).trans (h.mem.seal_.m b v hv),fun b i hp=>let ⟨⟨v,hv⟩,c,t,hc⟩:=h.mem.seal_.p b i hp;⟨⟨v,hv⟩,c,t,(hk b (hne b 0 v (h.mem.seal_ b 0 v hv))).trans hc⟩⟩,h.mem.free,h.mem.pv.keep ρ.gl (fun b o v hv=>hk b (hne b o v (h.mem.seal_ b o v hv))) fun b v hv=>hk b fun e2=>by have:=h.mem.seal_.m b v hv;rw [e2,hD.at_] at this;cases this⟩,?_,by rw [World.putObj_size];exact h.base,h.ext,h.argn,h.argl,h.nab,h.nale,h.odb,h.mz⟩⟩
 ·obtain ⟨D',e',hB',hD'⟩:=h.defs.at_ d' (by rw [hd];exact List.mem_cons_of_mem _ hd')
  exact ⟨D',e',hB',hD'.same (hk _ fun e2=>hnd.1 (by rw [e,← e2,← e'];exact hd'))⟩
 ·obtain ⟨g1,g2,g3⟩:=h.mem.get hi hm
  exact ⟨by rw [World.putObj_size];exact g1,Blk.den_same g2 (hk _ (hD.off i m hi hm)),g3⟩
 ·rw [World.cell?_of_block (w:=w) (hk b (hne b o v (h.mem.seal_ b o v hv)))]
  exact h.mem.seal_ b o v hv
 ·have k:=h.kept
  exact ⟨k.os,k.tape,k.output,by rw [World.putObj_size];exact k.size,fun b hb hM=>(hk b (by omega)).trans (k.block b hb hM)⟩
theorem calls_exec {L:Tab} (hL:TabOk P L) (hmix:P.follows .mixedOrders=true) {Λ:Lam} {fuel:Nat} {f:FuncId} {fn:Func} {c:Code} (hf:P.funcs[f]? = some fn) (hb:fn.body=some c) (hΛ:∀ id b g,hasBlk c id b→Λ id=some g→LOk P g (.block id b))
  {M:List Nat} {ρ0:Env} {nx0:Nat} {mem0:Nat→Blk} {args:List SV} {xs:List Value} {w:World} (hargs:SV.denL ρ0 args xs) (hM:MemDen w.heap.size M ρ0 mem0 w) (hfr:∀ i,nx0≤i→ρ0 i=none) (hz:nx0=0→M=[]) {R:SV→(Nat→Blk)→Prop}
  (h:exec P L Λ fuel c (initS fn.ntmps args nx0 mem0) (retK P fn.results.toList R)) :
  Calls P f ⟨xs⟩ w fun e w'=>∃ v x ρ mem,e=.returned x∧v.den ρ x∧Ext ρ0 ρ∧(∀ i,i<nx0→ρ i=ρ0 i)∧OdB ρ0.od ρ.od w.heap.size∧MemDen w.heap.size M ρ mem w'∧Kept w.heap.size M w w'∧R v mem:=by
 have hlen:=denL_length hargs
 refine (callsIn_wide (n:=0)).1 (callsIn_of_wp_marks (F:=Fence.wide) hf hb trivial (exec_wp hL hmix c hΛ none 0 w.heap.size M ⟨w,ρ0,nx0,fun _=>none,none⟩ _ _ ρ0 _ w _ (.inl ⟨rfl,rfl⟩) ?_ h ?_))
 ·refine ⟨Side.none _ _ _ _,?_,fun i x hx=>?_,hfr,hM,Kept.refl _ _ _,Nat.le_refl _,Ext.refl _,hfr,fun _ _=>rfl,rfl,Nat.le_refl _,⟨fun _ _ _ h=>.inl h,fun _ _ h=>.inl h,rfl⟩,hz⟩
  ·simp [initS,hlen]
  ·simp only [initS]
   cases ha:args[i]? with
   | none=>trivial
   | some v =>
    obtain ⟨y,hy,hd⟩:=denL_get hargs ha
    have hi:i<xs.length:=(List.getElem?_eq_some_iff.1 hy).1
    simp only [Array.getElem?_append] at hx
    rw [if_pos (by simpa using hi)] at hx
    have hxy:x=y:=by
     have:xs[i]? = some x:=by simpa using hx
     rw [this] at hy;cases hy;rfl
    rw [hxy]
    exact slotDen_top hd
 ·intro e s' ρ' a' w' hs hk
  have key:∀ (ds:List Deferred) (a':Act) (w':World) vs ns,a'.defers=ds→StDen w.heap.size M ⟨w,ρ0,nx0,fun _=>none,none⟩ ρ' s' a' w'→resL P s' fn.results.toList=some (vs,ns)→needs ns (R (resV vs) s'.mem) →
    LeavesInM Fence.wide 0 P fn a'.tmps (fun e w'=>∃ v x ρ mem,e=.returned x∧v.den ρ x∧Ext ρ0 ρ∧(∀ i,i<nx0→ρ i=ρ0 i)∧OdB ρ0.od ρ.od w.heap.size∧MemDen w.heap.size M ρ mem w'∧Kept w.heap.size M w w'∧R v mem) ds .returning w':=by
   intro ds
   induction ds with
   | nil =>
    intro a' w' vs ns _ hs hr hn
    rw [needs_iff] at hn
    obtain ⟨x,hx,hd⟩:=results_run hs fn vs ns hr hn.1
    exact ⟨x,hx,_,x,ρ',_,rfl,hd,hs.ext,hs.argl,hs.odb,hs.mem,hs.kept,hn.2⟩
   | cons d ds ih =>
    intro a' w' vs ns hd hs hr hn
    obtain ⟨D,e,ht,hs'⟩:=hs.unmark (P:=P) hd
    exact ⟨by simp,.inl ⟨D,_,by rw [e],ht,ih { a' with defers:=ds } _ vs ns rfl hs' hr hn⟩⟩
  cases e with
  | exit id=>exact hk.elim
  | normal =>
   simp only [retK] at hk
   split at hk
   ·exact key _ _ _ _ _ rfl hs (by assumption) hk
   ·exact hk.elim
  | ret =>
   simp only [retK] at hk
   split at hk
   ·exact key _ _ _ _ _ rfl hs (by assumption) hk
   ·exact hk.elim
end runs
end Go.Sy
