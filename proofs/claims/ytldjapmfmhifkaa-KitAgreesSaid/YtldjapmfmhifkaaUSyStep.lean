/-
 Walks by hand, one operation after the other: slots by a list; what single operations come to. Conditions: none.
-/
import Derived.Test.YtldjapmfmhifkaaUSyHand
namespace Go.Sy
set_option linter.unusedVariables false
set_option linter.unusedSimpArgs false
open Go.RowKit Go.ChangeMaps
def lookV:List (Nat × Value)->Nat->Option Value
 | [],_=>none
 | (k,v) :: l,t=>cond (Nat.beq k t) (some v) (lookV l t)
structure Sl (a:Act) (nt:Nat) (l:List (Nat × Value)):Prop where
 sz:a.tmps.size=nt
 df:a.defers=[]
 g:∀ {t:Nat} {v:Value},lookV l t=some v->a.eval (.tmp t)=v
def allV(l:List (Nat × Value)):List (Nat × Value)->Prop
 | []=>True
 | p :: r=>lookV l p.1=some p.2/\allV l r
theorem allV_look{l:List (Nat × Value)}:∀ {l':List (Nat × Value)},allV l l'->∀ {t:Nat} {v:Value},lookV l' t=some v->lookV l t=some v
 | [],_,t,v,h=>by cases h
 | (k,u) :: r,⟨h1,h2⟩,t,v,h=>by
  unfold lookV at h
  cases hk:Nat.beq k t with
  | true =>
   rw [hk] at h
   have e:=Nat.eq_of_beq_eq_true hk
   subst e
   cases h
   exact h1
  | false =>
   rw [hk] at h
   exact allV_look h2 h
theorem Sl.pick{a:Act}{nt:Nat}{l:List (Nat × Value)}(h:Sl a nt l)(l':List (Nat × Value))(k:allV l l'):Sl a nt l':=⟨h.sz,h.df,fun h'=>h.g (allV_look k h')⟩
theorem Sl.put{a:Act}{nt:Nat}{l:List (Nat × Value)}(h:Sl a nt l){d:Nat}(hd:Nat.blt d nt=true)(x:Value):Sl (a.put (some d) x) nt ((d,x) :: l):=by
 have hd:d<a.tmps.size:=by rw [h.sz];simpa using hd
 refine ⟨(put_size a _ x).trans h.sz,(put_defs a _ x).trans h.df,fun {t v} e=>?_⟩
 unfold lookV at e
 cases hk:Nat.beq d t with
 | true =>
  rw [hk] at e
  have e':=Nat.eq_of_beq_eq_true hk
  subst e'
  cases e
  simp [Act.eval,Act.put,Array.getD_eq_getD_getElem?,hd]
 | false =>
  rw [hk] at e
  have hne:d≠t:=fun e'=>by rw [e',Nat.beq_refl] at hk;cases hk
  rw [Act.eval_put (fun d' hd' ee=>hne (by cases hd';cases ee;rfl))]
  exact h.g e
def Grow(w w':World):Prop:=Kept w.heap.size [] w w'
theorem Grow.refl(w:World):Grow w w:=Kept.refl _ _ _
theorem Grow.keep{w w':World}(h:Grow w w'){b:Nat}{o:Obj}(hb:w.heap[b]? = some o):w'.heap[b]? = some o:=(h.block b (Array.getElem?_eq_some_iff.1 hb).1 (by simp)).trans hb
theorem Kept.grow{B:Nat}{M:List Nat}{w0 w w':World}(h:Kept B M w0 w)(hB:B<=w.heap.size)(k:Grow w w'):Kept B M w0 w' :=
 ⟨k.os.trans h.os,k.tape.trans h.tape,k.output.trans h.output,Nat.le_trans h.size k.size,fun i hi hm=>(k.block i (Nat.lt_of_lt_of_le hi hB) (by simp)).trans (h.block i hi hm)⟩
theorem Grow.trans{w w1 w2:World}(h:Grow w w1)(k:Grow w1 w2):Grow w w2:=Kept.grow h h.size k
theorem Grow.alloc(w:World)(o:Obj):Grow w (w.alloc o):=⟨rfl,rfl,rfl,by simp,fun b hb _=>Below.heap_alloc w o b hb⟩
theorem Grow.drew(w:World)(k:Nat):Grow w { w with drawn:=k }:=⟨rfl,rfl,rfl,Nat.le_refl _,fun b hb _=>rfl⟩
theorem alloc_size(w:World)(o:Obj):(w.alloc o).heap.size=w.heap.size+1:=by simp
section runs
variable {P:Program} {rd:Option Nat} {n nt:Nat}
theorem H.val{ops:Array Oper}{o:Oper}{rest:List Oper}{Q:Exit->Act->World->Prop}{a:Act}{l:List (Nat × Value)}{d:Nat}{x:Value}{w w':World}(h:Sl a nt l)(hd:o.dst=some d)(hg:o.guard=none)(hdn:Nat.blt d nt=true)(hrun:(execOp a.eval o).run P w=.ok (.value x) w')(hde:∀ c,o.op≠.defer c)(hk:∀ a',Sl a' nt ((d,x) :: l)->wpListIn (FW rd) n P ops Q rest a' w'):wpListIn (FW rd) n P ops Q (o :: rest) a w:=by
 refine wpL_value hg hrun ?_ hde
 rw [hd]
 exact hk _ (h.put hdn x)
theorem H.skip{ops:Array Oper}{o:Oper}{rest:List Oper}{Q:Exit->Act->World->Prop}{a:Act}{l:List (Nat × Value)}{w w':World}(h:Sl a nt l)(hd:o.dst=none)(hg:o.guard=none)(hrun:(execOp a.eval o).run P w=.ok .skip w')(hde:∀ c,o.op≠.defer c)(hk:∀ a',Sl a' nt l->wpListIn (FW rd) n P ops Q rest a' w'):wpListIn (FW rd) n P ops Q (o :: rest) a w:=by
 refine wpL_skip hg hrun ?_ hde
 rw [hd]
 exact hk _ h
theorem wpIn_regionE{c:Code}{id:Nat}{ops:Array Oper}{Q:Exit->Act->World->Prop}{a:Act}{w:World}(h:c=.region id ops false)(k:wpListIn (FW rd) n P ops Q ops.toList a w):c.wpIn (FW rd) n P Q a w:=by
 rw [h];exact wpIn_region_list k
variable {a:Act} {w:World} {o:Oper}
theorem R.move{s:Nat}{x:Value}(ho:o.op=.move (.tmp s))(e:a.eval (.tmp s)=x):(execOp a.eval o).run P w=.ok (.value x) w:=by unfold execOp;rw [ho];simp [e]
theorem R.assign{s:Nat}{x:Value}(ho:o.op=.assign (.tmp s))(e:a.eval (.tmp s)=x):(execOp a.eval o).run P w=.ok (.value x) w:=by unfold execOp;rw [ho];simp [e]
theorem R.cmove{x:Value}(ho:o.op=.move (.const x)):(execOp a.eval o).run P w=.ok (.value x) w:=by unfold execOp;rw [ho];simp [Act.eval]
theorem R.cassign{x:Value}(ho:o.op=.assign (.const x)):(execOp a.eval o).run P w=.ok (.value x) w:=by unfold execOp;rw [ho];simp [Act.eval]
theorem R.nilc{s:Nat}{b:Addr}(ho:o.op=.nilCheck (.tmp s))(e:a.eval (.tmp s)=.pointer (some b)):(execOp a.eval o).run P w=.ok (.value (.pointer (some b))) w:=by unfold execOp;rw [ho];simp [e]
theorem R.box{s:Nat}{t:TypeId}{x:Value}(ho:o.op=.box t (.tmp s))(e:a.eval (.tmp s)=x):(execOp a.eval o).run P w=.ok (.value (.pointer (some ⟨w.heap.size,0,none⟩))) (w.alloc (.cells x.cells t (0,0))):=by
 unfold execOp;rw [ho];simp [e,Instr.box,newVar,newRow]
theorem R.alloc{t:TypeId}{z:Value}(ho:o.op=.alloc t)(hz:zeroOf P t=some z):(execOp a.eval o).run P w=.ok (.value (.pointer (some ⟨w.heap.size,0,none⟩))) (w.alloc (.cells z.cells t (0,0))):=by
 unfold execOp;rw [ho];simp [Instr.alloc,newVar,newRow,run_zeroOf hz]
theorem R.mkmap{t:TypeId}(ho:o.op=.makeMap t none):(execOp a.eval o).run P w=.ok (.value (.map (some w.heap.size))) (w.alloc (.map #[] 0)):=by
 unfold execOp;rw [ho];have:(Instr.makeMap t none).run P w=.ok (.map (some w.heap.size)) (w.alloc (.map #[] 0)):=rfl
 simp [this]
theorem R.len{t e:TypeId}{s:Nat}{A:Option Addr}{k c:Nat}(ho:o.op=.call { callee:=.builtin .len,args:=#[.tmp s],argTypes:=#[t] })(ht:P.underlying t=some (.slice e))(ex:a.eval (.tmp s)=.slice A k c):(execOp a.eval o).run P w=.ok (.value (.int .i64 (k:Int))) w:=by
 unfold execOp;rw [ho];simp [resolve,invoke,builtin,ex,Builtin.len_,run_underlying ht,goInt]
theorem R.bin{op:BinOp}{t t':TypeId}{s1 s2:Operand}{v1 v2:SV}{r:SV}{y:Value}(ho:o.op=.binOp op t s1 s2 t')(hx:xBin P op t v1 v2=some { v:=r })(h1:v1.den ⟨fun _=>none,noOd⟩ (a.eval s1))(h2:v2.den ⟨fun _=>none,noOd⟩ (a.eval s2))(hy:∀ z,r.den ⟨fun _=>none,noOd⟩ z->z=y) :
  (execOp a.eval o).run P w=.ok (.value y) w:=by
 obtain ⟨z,g1,g2,g3⟩:=run_xBin (P:=P) (ρ:=⟨fun _=>none,noOd⟩) (w:=w) hx (fun b hb=>by simp at hb) (noOd_ok w) h1 h2 s1 s2 0
 have:=hy z g3.val
 subst this
 unfold execOp;rw [ho];simp [g1,g2]
end runs
end Go.Sy
