/-
 Walks by hand, one operation after the other: slots by a list; what single operations come to. Conditions: none.
-/
import Derived.Test.YtdcdjjogieojhaaGreatDoorJSyMe
namespace Go.Sy
set_option linter.unusedVariables false
set_option linter.unusedSimpArgs false
open Go.RowKit Go.ChangeMaps
set_option linter.unusedSectionVars false
set_option linter.unusedSectionVars false
attribute [local instance 2000] Go.Sy.G0
section runs
variable {P:Program} {rd:Option Nat} {n:Nat}
structure PhaseR (ops:Array Oper) (val:Nat→Value) (W:Nat→World→Prop) (eff:Nat→Option Nat) (N:Nat) (a0:Act) (listed:Array Bool) (a:Act) (w:World) (ph:Nat):Prop where
 le:ph≤N
 world:W ph w
 eff_:∀ i p,eff i=some p→listed.getD i false=decide (p<ph)
 defers:a.defers=a0.defers
 tsz:a.tmps.size=a0.tmps.size
 got:∀ (i:Nat) (o:Oper) (d:Nat),ops[i]? = some o→o.dst=some d→listed.getD i false=true→a.eval (.tmp d)=val i
 rest:∀ t,(∀ (i:Nat) (o:Oper),ops[i]? = some o→o.dst≠some t)→a.eval (.tmp t)=a0.eval (.tmp t)
 size:listed.size=ops.size
theorem any_phaseR {ops:Array Oper} {id:Nat} {Q:Exit→Act→World→Prop} (hmix:P.follows .mixedOrders=true) {val:Nat→Value} {W:Nat→World→Prop} {eff:Nat→Option Nat} {N:Nat} {a0:Act}
  (hg:∀ (i:Nat) (o:Oper),ops[i]? = some o→o.guard=none∧(∀ c,o.op≠.defer c)∧(∀ d,o.dst=some d→d<a0.tmps.size)∧(∀ e∈o.after.toList,Region.binds .any e=true→e.on<i))
  (hdst:∀ (i j:Nat) (oi oj:Oper) (d:Nat),ops[i]? = some oi→ops[j]? = some oj→oi.dst=some d→oj.dst=some d→i=j)
  (heff:∀ i p,eff i=some p→p<N∧i<ops.size)
  (hinj:∀ i j p,eff i=some p→eff j=some p→i=j)
  (hall:∀ p,p<N→∃ i,eff i=some p)
  (hchain:∀ (i:Nat) (o:Oper) (p:Nat),ops[i]? = some o→eff i=some (p+1)→∃ e∈o.after.toList,Region.binds .any e=true∧eff e.on=some p)
  (hrun:∀ (i:Nat) (o:Oper),ops[i]? = some o→∀ (a:Act) (ph:Nat),ph≤N→(∀ p,eff i=some p→p=ph) →
   (∀ e∈o.after.toList,Region.binds .any e=true→∀ (oj:Oper) (d:Nat),ops[e.on]? = some oj→oj.dst=some d→a.eval (.tmp d)=val e.on) →
   (∀ t,(∀ (i:Nat) (o:Oper),ops[i]? = some o→o.dst≠some t)→a.eval (.tmp t)=a0.eval (.tmp t)) →
   (∀ e∈o.after.toList,Region.binds .any e=true→∀ p,eff e.on=some p→p<ph) →
   ∀ w,W ph w→(∃ w',W (if (eff i).isSome then ph+1 else ph) w'∧(execOp a.eval o).run P w=.ok (.value (val i)) w')∨(o.dst=none∧∃ w',W (if (eff i).isSome then ph+1 else ph) w'∧(execOp a.eval o).run P w=.ok .skip w') ∨
    (∃ (f:Nat) (xs:List Value),(execOp a.eval o).run P w=.ok (.enter f ⟨xs⟩) w∧Calls P f ⟨xs⟩ w fun e w'=>e=.returned (val i)∧W (if (eff i).isSome then ph+1 else ph) w'))
  {w:World} (h0:W 0 { w with drawn:=w.drawn+1 })
  (hQ:∀ (a:Act) (w:World),W N w→a.defers=a0.defers→a.tmps.size=a0.tmps.size→(∀ t,(∀ (i:Nat) (o:Oper),ops[i]? = some o→o.dst≠some t)→a.eval (.tmp t)=a0.eval (.tmp t))→Q .normal a w) :
  (Code.region id ops true).wpIn (FW rd) n P Q a0 w:=by
 refine wpIn_region_any hmix ?_
 refine any_inv (I:=fun listed a w=>∃ ph,PhaseR ops val W eff N a0 listed a w ph) ?e ?s (by rintro listed a w ⟨ph,h⟩;exact h.size) ops.size _ a0 _ (by simp) ?i
 case e =>
  rintro listed a w ⟨ph,h⟩ hr
  have all:∀ j,j<ops.size→listed.getD j false=true:=by
   intro j
   induction j using Nat.strongRecOn with
   | _ j ih =>
    intro hj
    cases hD:listed.getD j false
    ·exfalso
     have hjl:j<listed.size:=by rw [h.size];exact hj
     have hDt:listed.getD j true=false:=by
      simp only [Array.getD_eq_getD_getElem?,Array.getElem?_eq_getElem hjl,Option.getD_some] at hD ⊢
      exact hD
     have:j∈Region.ready .any ops listed:=by
      rw [ready_iff]
      refine ⟨hj,hDt,ops[j],Array.getElem?_eq_getElem hj,fun e he hb=>?_⟩
      have hlt:=(hg j _ (Array.getElem?_eq_getElem hj)).2.2.2 e he hb
      exact ih e.on hlt (by omega)
     rw [hr] at this
     cases this
    ·rfl
  have hph:ph=N:=by
   rcases Nat.lt_or_ge ph N with hlt | hge
   ·obtain ⟨i,hi⟩:=hall ph hlt
    have h1:=h.eff_ i ph hi
    rw [all i (heff i ph hi).2] at h1
    simp at h1
   ·have:=h.le
    omega
  have hw:=h.world
  rw [hph] at hw
  exact hQ a w hw h.defers h.tsz h.rest
 case s =>
  rintro listed a w i ⟨ph,h⟩ hi K hK
  rw [ready_iff] at hi
  obtain ⟨hi1,hi2,o,ho,hed⟩:=hi
  obtain ⟨hgd,hdf,hdl,_⟩:=hg i o ho
  have hil:i<listed.size:=by rw [h.size];exact hi1
  have hif:listed.getD i false=false:=by
   simp only [Array.getD_eq_getD_getElem?,Array.getElem?_eq_getElem hil,Option.getD_some] at hi2 ⊢
   exact hi2
  have hpi:∀ p,eff i=some p→p=ph:=fun p hp=>by
   have h1:=h.eff_ i p hp
   rw [hif] at h1
   have h1:¬ p<ph:=by simpa using h1.symm
   rcases Nat.lt_or_ge ph p with hlt | hge
   ·obtain ⟨q,rfl⟩:∃ q,p=q+1:=⟨p - 1,by omega⟩
    obtain ⟨e,he,hb,hq⟩:=hchain i o q ho hp
    have h2:=h.eff_ e.on q hq
    rw [hed e he hb] at h2
    have h2:q<ph:=by simpa using h2.symm
    omega
   ·omega
  have gset:∀ j,(listed.setIfInBounds i true).getD j false=if j=i then true else listed.getD j false:=fun j=>by
   simp only [Array.getD_eq_getD_getElem?,Array.getElem?_setIfInBounds]
   by_cases e:j=i
   ·subst e;simp [hil]
   ·rw [if_neg (Ne.symm e),if_neg e]
  have hval:∀ x w',(∀ d,o.dst=some d→x=val i)→W (if (eff i).isSome then ph+1 else ph) w'→PhaseR ops val W eff N a0 (listed.setIfInBounds i true) (a.put o.dst x) w' (if (eff i).isSome then ph+1 else ph):=fun x w' hx hw'=>by
   refine ⟨?_,hw',fun j p hp=>?_,(put_defs a o.dst x).trans h.defers,(put_size a o.dst x).trans h.tsz,fun j oj d hoj hd hlj=>?_,fun t ht=>?_,by rw [Array.size_setIfInBounds];exact h.size⟩
   ·cases hE:eff i with
    | none=>exact h.le
    | some p=>have:=hpi p hE;have:=(heff i p hE).1;show ph+1≤N;omega
   ·rw [gset]
    by_cases e:j=i
    ·subst e
     have:=hpi p hp
     subst this
     rw [hp]
     simp
    ·rw [if_neg e,h.eff_ j p hp]
     cases hE:eff i with
     | none=>rfl
     | some q =>
      have hq:=hpi q hE
      subst hq
      have:p≠q:=fun ee=>e (hinj j i q (by rw [← ee];exact hp) hE)
      show decide (p<q)=decide (p<q+1)
      have:(p<q)↔(p<q+1):=by omega
      simp only [this]
   ·rw [gset] at hlj
    by_cases e:j=i
    ·subst e
     rw [ho] at hoj;cases hoj
     rw [hd]
     have:=hdl d hd
     rw [hx d hd]
     simp only [Act.eval,Act.put]
     simp [Array.getD_eq_getD_getElem?,h.tsz,this]
    ·rw [if_neg e] at hlj
     have hne:o.dst≠some d:=fun ee=>e (hdst j i oj o d hoj ho hd ee)
     rw [Act.eval_put (fun d' hd' ee=>hne (by cases ee;exact hd'))]
     exact h.got j oj d hoj hd hlj
   ·rw [Act.eval_put (fun d' hd' ee=>ht i o ho (by cases ee;exact hd'))]
    exact h.rest t ht
  have hr:=hrun i o ho a ph h.le hpi (fun e he hb oj d hoj hd=>h.got e.on oj d hoj hd (hed e he hb)) h.rest (fun e he hb p hp=>by
   have h2:=h.eff_ e.on p hp
   rw [hed e he hb] at h2
   simpa using h2.symm) w h.world
  unfold wpOpIn
  rw [ho]
  simp only
  rw [if_pos (by simp [Region.wanted,hgd])]
  rcases hr with ⟨w',hw',hr⟩ | ⟨hd,w',hw',hr⟩ | ⟨f,xs,hr,hC⟩
  ·exact wp_of_value hr (hK _ _ ⟨_,hval _ _ (fun _ _=>rfl) hw'⟩) hdf
  ·exact wp_of_skip hr (hK _ _ ⟨_,hval _ _ (fun d h=>by rw [hd] at h;cases h) hw'⟩) hdf
  ·refine ⟨fun _ _=>trivial,?_⟩
   rw [show (FW rd).round=rd from rfl,semAt_any rd _ _ hdf,hr]
   refine ⟨fun h=>(by cases h),callsIn_fw (hC.mono ?_)⟩
   rintro e w' ⟨rfl,hw'⟩
   exact hK _ _ ⟨_,hval _ _ (fun _ _=>rfl) hw'⟩
 case i =>
  refine ⟨0,Nat.zero_le _,h0,fun i p hp=>?_,rfl,rfl,fun i o d ho hd hl=>?_,fun _ _=>rfl,by simp⟩
  ·simp [Array.getD_eq_getD_getElem?,Array.getElem?_replicate]
   split <;> rfl
  ·exfalso
   simp only [Array.getD_eq_getD_getElem?,Array.getElem?_replicate] at hl
   split at hl <;> cases hl
end runs
end Go.Sy
namespace Go.Sy
set_option linter.unusedVariables false
set_option linter.unusedSimpArgs false
open Go.RowKit Go.ChangeMaps
set_option linter.unusedSectionVars false
set_option linter.unusedSectionVars false
attribute [local instance 2000] Go.Sy.G0
def lookV:List (Nat × Value)→Nat→Option Value
 | [],_=>none
 | (k,v) :: l,t=>cond (Nat.beq k t) (some v) (lookV l t)
structure Sl (a:Act) (nt:Nat) (l:List (Nat × Value)):Prop where
 sz:a.tmps.size=nt
 df:a.defers=[]
 g:∀ {t:Nat} {v:Value},lookV l t=some v→a.eval (.tmp t)=v
def allV (l:List (Nat × Value)):List (Nat × Value)→Prop
 | []=>True
 | p :: r=>lookV l p.1=some p.2∧allV l r
theorem allV_look {l:List (Nat × Value)}:∀ {l':List (Nat × Value)},allV l l'→∀ {t:Nat} {v:Value},lookV l' t=some v→lookV l t=some v
 | [],_,t,v,h=>by cases h
 | (k,u) :: r,⟨h1,h2⟩,t,v,h=>by
  unfold lookV at h
  cases hk:Nat.beq k t with
  | true =>
   rw [hk] at h
   have e:=Nat.eq_of_beq_eq_true hk
   subst e
   cases h
   exact h1
  | false =>
   rw [hk] at h
   exact allV_look h2 h
theorem Sl.pick {a:Act} {nt:Nat} {l:List (Nat × Value)} (h:Sl a nt l) (l':List (Nat × Value)) (k:allV l l'):Sl a nt l':=⟨h.sz,h.df,fun h'=>h.g (allV_look k h')⟩
theorem Sl.put {a:Act} {nt:Nat} {l:List (Nat × Value)} (h:Sl a nt l) {d:Nat} (hd:Nat.blt d nt=true) (x:Value):Sl (a.put (some d) x) nt ((d,x) :: l):=by
 have hd:d<a.tmps.size:=by rw [h.sz];simpa using hd
 refine ⟨(put_size a _ x).trans h.sz,(put_defs a _ x).trans h.df,fun {t v} e=>?_⟩
 unfold lookV at e
 cases hk:Nat.beq d t with
 | true =>
  rw [hk] at e
  have e':=Nat.eq_of_beq_eq_true hk
  subst e'
  cases e
  simp [Act.eval,Act.put,Array.getD_eq_getD_getElem?,hd]
 | false =>
  rw [hk] at e
  have hne:d≠t:=fun e'=>by rw [e',Nat.beq_refl] at hk;cases hk
  rw [Act.eval_put (fun d' hd' ee=>hne (by cases hd';cases ee;rfl))]
  exact h.g e
def Grow (w w':World):Prop:=Kept w.heap.size [] w w'
theorem Grow.refl (w:World):Grow w w:=Kept.refl _ _ _
theorem Grow.keep {w w':World} (h:Grow w w') {b:Nat} {o:Obj} (hb:w.heap[b]? = some o):w'.heap[b]? = some o:=(h.block b (Array.getElem?_eq_some_iff.1 hb).1 (by simp)).trans hb
theorem Kept.grow {B:Nat} {M:List Nat} {w0 w w':World} (h:Kept B M w0 w) (hB:B≤w.heap.size) (k:Grow w w'):Kept B M w0 w' :=
 ⟨k.os.trans h.os,k.tape.trans h.tape,k.output.trans h.output,Nat.le_trans h.size k.size,fun i hi hm=>(k.block i (Nat.lt_of_lt_of_le hi hB) (by simp)).trans (h.block i hi hm)⟩
theorem Grow.trans {w w1 w2:World} (h:Grow w w1) (k:Grow w1 w2):Grow w w2:=Kept.grow h h.size k
theorem Grow.alloc (w:World) (o:Obj):Grow w (w.alloc o):=⟨rfl,rfl,rfl,by simp,fun b hb _=>Below.heap_alloc w o b hb⟩
theorem Grow.drew (w:World) (k:Nat):Grow w { w with drawn:=k }:=⟨rfl,rfl,rfl,Nat.le_refl _,fun b hb _=>rfl⟩
theorem alloc_size (w:World) (o:Obj):(w.alloc o).heap.size=w.heap.size+1:=by simp
section runs
variable {P:Program} {rd:Option Nat} {n nt:Nat}
theorem H.val {ops:Array Oper} {o:Oper} {rest:List Oper} {Q:Exit→Act→World→Prop} {a:Act} {l:List (Nat × Value)} {d:Nat} {x:Value} {w w':World} (h:Sl a nt l) (hd:o.dst=some d) (hg:o.guard=none) (hdn:Nat.blt d nt=true)
  (hrun:(execOp a.eval o).run P w=.ok (.value x) w') (hde:∀ c,o.op≠.defer c) (hk:∀ a',Sl a' nt ((d,x) :: l)→wpListIn (FW rd) n P ops Q rest a' w'):wpListIn (FW rd) n P ops Q (o :: rest) a w:=by
 refine wpL_value hg hrun ?_ hde
 rw [hd]
 exact hk _ (h.put hdn x)
theorem H.skip {ops:Array Oper} {o:Oper} {rest:List Oper} {Q:Exit→Act→World→Prop} {a:Act} {l:List (Nat × Value)} {w w':World} (h:Sl a nt l) (hd:o.dst=none) (hg:o.guard=none)
  (hrun:(execOp a.eval o).run P w=.ok .skip w') (hde:∀ c,o.op≠.defer c) (hk:∀ a',Sl a' nt l→wpListIn (FW rd) n P ops Q rest a' w'):wpListIn (FW rd) n P ops Q (o :: rest) a w:=by
 refine wpL_skip hg hrun ?_ hde
 rw [hd]
 exact hk _ h
theorem wpIn_regionE {c:Code} {id:Nat} {ops:Array Oper} {Q:Exit→Act→World→Prop} {a:Act} {w:World} (h:c=.region id ops false) (k:wpListIn (FW rd) n P ops Q ops.toList a w):c.wpIn (FW rd) n P Q a w:=by
 rw [h];exact wpIn_region_list k
variable {a:Act} {w:World} {o:Oper}
theorem R.move {s:Nat} {x:Value} (ho:o.op=.move (.tmp s)) (e:a.eval (.tmp s)=x):(execOp a.eval o).run P w=.ok (.value x) w:=by unfold execOp;rw [ho];simp [e]
theorem R.assign {s:Nat} {x:Value} (ho:o.op=.assign (.tmp s)) (e:a.eval (.tmp s)=x):(execOp a.eval o).run P w=.ok (.value x) w:=by unfold execOp;rw [ho];simp [e]
theorem R.cmove {x:Value} (ho:o.op=.move (.const x)):(execOp a.eval o).run P w=.ok (.value x) w:=by unfold execOp;rw [ho];simp [Act.eval]
theorem R.cassign {x:Value} (ho:o.op=.assign (.const x)):(execOp a.eval o).run P w=.ok (.value x) w:=by unfold execOp;rw [ho];simp [Act.eval]
theorem R.nilc {s:Nat} {b:Addr} (ho:o.op=.nilCheck (.tmp s)) (e:a.eval (.tmp s)=.pointer (some b)):(execOp a.eval o).run P w=.ok (.value (.pointer (some b))) w:=by unfold execOp;rw [ho];simp [e]
theorem R.box {s:Nat} {t:TypeId} {x:Value} (ho:o.op=.box t (.tmp s)) (e:a.eval (.tmp s)=x):(execOp a.eval o).run P w=.ok (.value (.pointer (some ⟨w.heap.size,0,none⟩))) (w.alloc (.cells x.cells t (0,0))):=by
 unfold execOp;rw [ho];simp [e,Instr.box,newVar,newRow]
theorem R.alloc {t:TypeId} {z:Value} (ho:o.op=.alloc t) (hz:zeroOf P t=some z):(execOp a.eval o).run P w=.ok (.value (.pointer (some ⟨w.heap.size,0,none⟩))) (w.alloc (.cells z.cells t (0,0))):=by
 unfold execOp;rw [ho];simp [Instr.alloc,newVar,newRow,run_zeroOf hz]
theorem R.mkmap {t:TypeId} (ho:o.op=.makeMap t none):(execOp a.eval o).run P w=.ok (.value (.map (some w.heap.size))) (w.alloc (.map #[] 0)):=by
 unfold execOp;rw [ho];have:(Instr.makeMap t none).run P w=.ok (.map (some w.heap.size)) (w.alloc (.map #[] 0)):=rfl
 simp [this]
theorem R.len {t e:TypeId} {s:Nat} {A:Option Addr} {k c:Nat} (ho:o.op=.call { callee:=.builtin .len,args:=#[.tmp s],argTypes:=#[t] }) (ht:P.underlying t=some (.slice e)) (ex:a.eval (.tmp s)=.slice A k c):(execOp a.eval o).run P w=.ok (.value (.int .i64 (k:Int))) w:=by
 unfold execOp;rw [ho];simp [resolve,invoke,builtin,ex,Builtin.len_,run_underlying ht,goInt]
theorem R.bin {op:BinOp} {t t':TypeId} {s1 s2:Operand} {v1 v2:SV} {r:SV} {y:Value} (ho:o.op=.binOp op t s1 s2 t') (hx:xBin P op t v1 v2=some { v:=r }) (h1:v1.den ⟨fun _=>none,noOd,gl0 _⟩ (a.eval s1)) (h2:v2.den ⟨fun _=>none,noOd,gl0 _⟩ (a.eval s2)) (hy:∀ z,r.den ⟨fun _=>none,noOd,gl0 _⟩ z→z=y) :
  (execOp a.eval o).run P w=.ok (.value y) w:=by
 obtain ⟨z,g1,g2,g3⟩:=run_xBin (P:=P) (ρ:=⟨fun _=>none,noOd,gl0 _⟩) (w:=w) hx (fun b hb=>by simp at hb) (noOd_ok w) h1 h2 s1 s2 0
 have:=hy z g3.val
 subst this
 unfold execOp;rw [ho];simp [g1,g2]
end runs
end Go.Sy
