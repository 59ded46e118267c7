/-
 A region in any order, some operations of which change the world, one behind the other. Conditions: none.
-/
import Derived.Test.YtldjapmfmhifkaaUSyHand
namespace Go.Sy
open _root_.Array renaming getD_eq_getD_getElem?->aq,getElem?_eq_getElem->ax
set_option linter.unusedVariables false
set_option linter.unusedSimpArgs false
open Go.RowKit Go.ChangeMaps
section runs
variable {P:Program} {rd:Option Nat} {n:Nat}
theorem any_inv{F:Fence}{ops:Array Oper}{Q:Exit->Act->World->Prop}{I:Array Bool->Act->World->Prop}(hend:∀ listed a w,I listed a w->Region.ready .any ops listed=[]->Q .normal a w)(hstep:∀ (listed:Array Bool) a w i,I listed a w->i∈Region.ready .any ops listed->∀ K:Act->World->Prop,(∀ a' w',I (listed.setIfInBounds i true) a' w'->K a' w')->wpOpIn F n P ops Q i K a w)(hsz:∀ listed a w,I listed a w->listed.size=ops.size) :
  ∀ (fuel:Nat) (listed:Array Bool) (a:Act) (w:World),listed.toList.count false<=fuel->I listed a w->wpAnyIn F n P .any ops Q fuel listed a w
 | 0,listed,a,w,hc,h=>by
  have hno:Region.ready .any ops listed=[]:=by
   cases hr:Region.ready .any ops listed with
   | nil=>rfl
   | cons i l =>
    exfalso
    have hi:i∈Region.ready .any ops listed:=by rw [hr];simp
    rw [ready_iff] at hi
    obtain ⟨h1,h2,_⟩:=hi
    have hl:i<listed.size:=by rw [hsz _ _ _ h];exact h1
    have hm:false∈listed.toList:=by
     have:listed[i]=false:=by simpa [aq,hl] using h2
     rw [<- this];simp
    have:=List.count_pos_iff.2 hm
    omega
  exact ⟨hno,hend _ _ _ h hno⟩
 | fuel+1,listed,a,w,hc,h=>by
  refine ⟨fun h0=>hend _ _ _ h h0,fun i hi=>hstep listed a w i h hi _ fun a' w' h'=>any_inv hend hstep hsz fuel _ a' w' ?_ h'⟩
  rw [ready_iff] at hi
  obtain ⟨h1,h2,_⟩:=hi
  have hl:i<listed.size:=by rw [hsz _ _ _ h];exact h1
  have hf:listed[i]=false:=by simpa [aq,hl] using h2
  have hm:false∈listed.toList:=by rw [<- hf];simp
  have hp:=List.count_pos_iff.2 hm
  rw [Array.toList_setIfInBounds,List.count_set (by simpa using hl)]
  have e1:listed.toList[i]'(by simpa using hl)=false:=by simpa using hf
  have e2:(true == false)=false:=rfl
  rw [e1,e2]
  simp only [beq_self_eq_true,if_true,Bool.false_eq_true,if_false]
  omega
structure PhaseI (ops:Array Oper) (val:Nat->Value) (W:Nat->World) (eff:Nat->Option Nat) (N:Nat) (a0:Act) (listed:Array Bool) (a:Act) (w:World) (ph:Nat):Prop where
 le:ph<=N
 world:w=W ph
 eff_:∀ i p,eff i=some p->listed.getD i false=decide (p<ph)
 defers:a.defers=a0.defers
 tsz:a.tmps.size=a0.tmps.size
 got:∀ (i:Nat) (o:Oper) (d:Nat),ops[i]? = some o->o.dst=some d->listed.getD i false=true->a.eval (.tmp d)=val i
 rest:∀ t,(∀ (i:Nat) (o:Oper),ops[i]? = some o->o.dst≠some t)->a.eval (.tmp t)=a0.eval (.tmp t)
 size:listed.size=ops.size
theorem any_phase{ops:Array Oper}{id:Nat}{Q:Exit->Act->World->Prop}(hmix:P.follows .mixedOrders=true){val:Nat->Value}{W:Nat->World}{eff:Nat->Option Nat}{N:Nat}{a0:Act}(hg:∀ (i:Nat) (o:Oper),ops[i]? = some o->o.guard=none/\(∀ c,o.op≠.defer c)/\(∀ d,o.dst=some d->d<a0.tmps.size)/\(∀ e∈o.after.toList,Region.binds .any e=true->e.on<i))(hdst:∀ (i j:Nat) (oi oj:Oper) (d:Nat),ops[i]? = some oi->ops[j]? = some oj->oi.dst=some d->oj.dst=some d->i=j)(heff:∀ i p,eff i=some p->p<N/\i<ops.size)(hinj:∀ i j p,eff i=some p->eff j=some p->i=j)(hall:∀ p,p<N->∃ i,eff i=some p)(hchain:∀ (i:Nat) (o:Oper) (p:Nat),ops[i]? = some o->eff i=some (p+1)->∃ e∈o.after.toList,Region.binds .any e=true/\eff e.on=some p)(hrun:∀ (i:Nat) (o:Oper),ops[i]? = some o->∀ (a:Act) (ph:Nat),ph<=N->(∀ p,eff i=some p->p=ph) ->
   (∀ e∈o.after.toList,Region.binds .any e=true->∀ (oj:Oper) (d:Nat),ops[e.on]? = some oj->oj.dst=some d->a.eval (.tmp d)=val e.on) ->
   (∀ t,(∀ (i:Nat) (o:Oper),ops[i]? = some o->o.dst≠some t)->a.eval (.tmp t)=a0.eval (.tmp t)) ->
   (∀ e∈o.after.toList,Region.binds .any e=true->∀ p,eff e.on=some p->p<ph) ->
   (execOp a.eval o).run P (W ph)=.ok (.value (val i)) (W (if (eff i).isSome then ph+1 else ph))\/(o.dst=none/\(execOp a.eval o).run P (W ph)=.ok .skip (W (if (eff i).isSome then ph+1 else ph)))){w:World}(h0:W 0={ w with drawn:=w.drawn+1 })(hQ:∀ a:Act,a.defers=a0.defers->a.tmps.size=a0.tmps.size->(∀ t,(∀ (i:Nat) (o:Oper),ops[i]? = some o->o.dst≠some t)->a.eval (.tmp t)=a0.eval (.tmp t))->Q .normal a (W N)) :
  (Code.region id ops true).wpIn (FW rd) n P Q a0 w:=by
 refine wpIn_region_any hmix ?_
 refine any_inv (I:=fun listed a w=>∃ ph,PhaseI ops val W eff N a0 listed a w ph) ?e ?s (by rintro listed a w ⟨ph,h⟩;exact h.size) ops.size _ a0 _ (by simp) ?i
 case e =>
  rintro listed a w ⟨ph,h⟩ hr
  have all:∀ j,j<ops.size->listed.getD j false=true:=by
   intro j
   induction j using Nat.strongRecOn with
   | _ j ih =>
    intro hj
    cases hD:listed.getD j false
    ·exfalso
     have hjl:j<listed.size:=by rw [h.size];exact hj
     have hDt:listed.getD j true=false:=by
      simp only [aq,ax hjl,Option.getD_some] at hD ⊢
      exact hD
     have:j∈Region.ready .any ops listed:=by
      rw [ready_iff]
      refine ⟨hj,hDt,ops[j],ax hj,fun e he hb=>?_⟩
      have hlt:=(hg j _ (ax hj)).2.2.2 e he hb
      exact ih e.on hlt (by omega)
     rw [hr] at this
     cases this
    ·rfl
  have hph:ph=N:=by
   rcases Nat.lt_or_ge ph N with hlt | hge
   ·obtain ⟨i,hi⟩:=hall ph hlt
    have h1:=h.eff_ i ph hi
    rw [all i (heff i ph hi).2] at h1
    simp at h1
   ·have:=h.le
    omega
  rw [h.world,hph]
  exact hQ a h.defers h.tsz h.rest
 case s =>
  rintro listed a w i ⟨ph,h⟩ hi K hK
  rw [ready_iff] at hi
  obtain ⟨hi1,hi2,o,ho,hed⟩:=hi
  obtain ⟨hgd,hdf,hdl,_⟩:=hg i o ho
  have hil:i<listed.size:=by rw [h.size];exact hi1
  have hif:listed.getD i false=false:=by
   simp only [aq,ax hil,Option.getD_some] at hi2 ⊢
   exact hi2
  have hpi:∀ p,eff i=some p->p=ph:=fun p hp=>by
   have h1:=h.eff_ i p hp
   rw [hif] at h1
   have h1:¬ p<ph:=by simpa using h1.symm
   rcases Nat.lt_or_ge ph p with hlt | hge
   ·obtain ⟨q,rfl⟩:∃ q,p=q+1:=⟨p - 1,by omega⟩
    obtain ⟨e,he,hb,hq⟩:=hchain i o q ho hp
    have h2:=h.eff_ e.on q hq
    rw [hed e he hb] at h2
    have h2:q<ph:=by simpa using h2.symm
    omega
   ·omega
  have gset:∀ j,(listed.setIfInBounds i true).getD j false=if j=i then true else listed.getD j false:=fun j=>by
   simp only [aq,Array.getElem?_setIfInBounds]
   by_cases e:j=i
   ·subst e;simp [hil]
   ·rw [if_neg (Ne.symm e),if_neg e]
  have hval:∀ x,(∀ d,o.dst=some d->x=val i)->PhaseI ops val W eff N a0 (listed.setIfInBounds i true) (a.put o.dst x) (W (if (eff i).isSome then ph+1 else ph)) (if (eff i).isSome then ph+1 else ph):=fun x hx=>by
   refine ⟨?_,rfl,fun j p hp=>?_,(put_defs a o.dst x).trans h.defers,(put_size a o.dst x).trans h.tsz,fun j oj d hoj hd hlj=>?_,fun t ht=>?_,by rw [Array.size_setIfInBounds];exact h.size⟩
   ·cases hE:eff i with
    | none=>exact h.le
    | some p=>have:=hpi p hE;have:=(heff i p hE).1;show ph+1<=N;omega
   ·rw [gset]
    by_cases e:j=i
    ·subst e
     have:=hpi p hp
     subst this
     rw [hp]
     simp
    ·rw [if_neg e,h.eff_ j p hp]
     cases hE:eff i with
     | none=>rfl
     | some q =>
      have hq:=hpi q hE
      subst hq
      have:p≠q:=fun ee=>e (hinj j i q (by rw [<- ee];exact hp) hE)
      show decide (p<q)=decide (p<q+1)
      have:(p<q)↔(p<q+1):=by omega
      simp only [this]
   ·rw [gset] at hlj
    by_cases e:j=i
    ·subst e
     rw [ho] at hoj;cases hoj
     rw [hd]
     have:=hdl d hd
     rw [hx d hd]
     simp only [Act.eval,Act.put]
     simp [aq,h.tsz,this]
    ·rw [if_neg e] at hlj
     have hne:o.dst≠some d:=fun ee=>e (hdst j i oj o d hoj ho hd ee)
     rw [Act.eval_put (fun d' hd' ee=>hne (by cases ee;exact hd'))]
     exact h.got j oj d hoj hd hlj
   ·rw [Act.eval_put (fun d' hd' ee=>ht i o ho (by cases ee;exact hd'))]
    exact h.rest t ht
  have hr:=hrun i o ho a ph h.le hpi (fun e he hb oj d hoj hd=>h.got e.on oj d hoj hd (hed e he hb)) h.rest (fun e he hb p hp=>by
   have h2:=h.eff_ e.on p hp
   rw [hed e he hb] at h2
   simpa using h2.symm)
  unfold wpOpIn
  rw [ho]
  simp only
  rw [if_pos (by simp [Region.wanted,hgd]),h.world]
  rcases hr with hr | ⟨hd,hr⟩
  ·exact wp_of_value hr (hK _ _ ⟨_,hval _ fun _ _=>rfl⟩) hdf
  ·exact wp_of_skip hr (hK _ _ ⟨_,hval _ fun d h=>by rw [hd] at h;cases h⟩) hdf
 case i =>
  refine ⟨0,Nat.zero_le _,h0.symm,fun i p hp=>?_,rfl,rfl,fun i o d ho hd hl=>?_,fun _ _=>rfl,by simp⟩
  ·simp [aq,Array.getElem?_replicate]
   split <;> rfl
  ·exfalso
   simp only [aq,Array.getElem?_replicate] at hl
   split at hl <;> cases hl
end runs
end Go.Sy
