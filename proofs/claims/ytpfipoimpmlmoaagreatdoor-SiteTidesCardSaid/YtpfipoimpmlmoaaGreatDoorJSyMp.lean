/-
 Maps as functions: a map's block holds a function's values; look-up, store, emptying and ranges over it. Conditions: none; all of it is proved for every program P.
-/
import Derived.Maps.RangeRun
import Derived.Maps.Keyed
import Derived.Maps.Range
import Derived.WalkKit
namespace Go.Sy
set_option linter.unusedVariables false
set_option linter.unusedSimpArgs false
open Go.RowKit Go.ChangeMaps
variable {P:Program} {α:Type} {enc:α→Value} {k:TypeId}
structure KeyLaws (P:Program) (k:TypeId) (enc:α→Value):Prop where
 inj:∀ {a b:α},enc a=enc b→a=b
 check:∀ (w:World) (em:Bool) (a:α),(Instr.checkKey em 10000 k (enc a)).run P w=.ok () w
 find:∀ (w:World) (a:α) (es:List MapEntry),(∀ e∈es,∃ b,e.key=enc b)→((Instr.findKey k (enc a) es).run P w=.ok none w∧∀ e∈es,e.key≠enc a)∨∃ j e,(Instr.findKey k (enc a) es).run P w=.ok (some (j,e.val)) w∧es[j]? = some e∧e.key=enc a
 stays:∀ (w:World) (a:α),(Instr.keyThatStays (enc a) (enc a)).run P w=.ok (enc a) w
structure MapObj (enc:α→Value) (f:α→Option Value) (es:Array MapEntry) (clock:Nat):Prop where
 keys:∀ e∈es.toList,∃ a,e.key=enc a
 apart:(es.toList.map (·.key)).Nodup
 born:(es.toList.map (·.born)).Nodup
 lt:∀ e∈es.toList,e.born<clock
 val:∀ a v,f a=some v↔∃ e∈es.toList,e.key=enc a∧e.val=v
def MapAt (w:World) (b:Nat) (enc:α→Value) (f:α→Option Value):Prop:=∃ es clock,w.heap[b]? = some (.map es clock)∧MapObj enc f es clock
theorem MapObj.empty (enc:α→Value) (c:Nat):MapObj enc (fun _=>none) #[] c:=⟨by simp,by simp,by simp,by simp,by simp⟩
theorem MapAt.new (w:World) (enc:α→Value):MapAt (w.alloc (.map #[] 0)) w.heap.size enc (fun _=>none):=⟨#[],0,heap_alloc_new w _,MapObj.empty enc 0⟩
theorem MapAt.same {w w':World} {b:Nat} {f:α→Option Value} (h:MapAt w b enc f) (e:w'.heap[b]? = w.heap[b]?):MapAt w' b enc f:=let ⟨es,c,hb,o⟩:=h;⟨es,c,e.trans hb,o⟩
theorem MapAt.lt {w:World} {b:Nat} {f:α→Option Value} (h:MapAt w b enc f):b<w.heap.size:=let ⟨_,_,hb,_⟩:=h;(Array.getElem?_eq_some_iff.1 hb).1
theorem MapObj.none_of {f:α→Option Value} {es:Array MapEntry} {c:Nat} (o:MapObj enc f es c) {a:α} (h:∀ e∈es.toList,e.key≠enc a):f a=none:=by
 cases hf:f a with
 | none=>rfl
 | some v=>obtain ⟨e,he,hk,_⟩:=(o.val a v).1 hf;exact absurd hk (h e he)
theorem MapAt.lookup (K:KeyLaws P k enc) {t e:TypeId} (ht:P.underlying t=some (.map k e)) {w:World} {z:Value} (hz:(zeroValue e).run P w=.ok z w) {b:Nat} {f:α→Option Value} (h:MapAt w b enc f) (a:α) (c:Bool) :
  (Instr.lookup t (.map (some b)) (enc a) c).run P w=.ok (if c then .tuple #[(f a).getD z,.bool (f a).isSome] else (f a).getD z) w:=by
 obtain ⟨es,clock,hb,o⟩:=h
 rcases K.find w a es.toList o.keys with ⟨h1,h2⟩ | ⟨j,e0,h1,h2,h3⟩
 ·rw [o.none_of h2]
  simp [Instr.lookup,run_underlying ht,MapKept.run_getObj_map hb,K.check w _ a,h1,hz,Result.andThen]
 ·rw [(o.val a e0.val).2 ⟨e0,List.mem_of_getElem? h2,h3,rfl⟩]
  simp [Instr.lookup,run_underlying ht,MapKept.run_getObj_map hb,K.check w _ a,h1,Result.andThen]
theorem setBlock_same {w:World} {b:Nat} {o:Obj} (h:w.heap[b]? = some o) (o':Obj):(setBlock w b o').heap[b]? = some o':=by
 have:=(Array.getElem?_eq_some_iff.1 h).1
 simp [setBlock,this]
theorem MapAt.clear {t:TypeId} {d:TypeDesc} (ht:P.underlying t=some d) {w:World} {b:Nat} {f:α→Option Value} (h:MapAt w b enc f) (ty:TypeId) :
  ∃ o,(Builtin.clear_ #[t] ty #[.map (some b)]).run P w=.ok (.tuple #[]) (setBlock w b o)∧MapAt (setBlock w b o) b enc (fun _=>none):=by
 obtain ⟨es,clock,hb,o⟩:=h
 refine ⟨.map #[] clock,?_,_,_,setBlock_same hb _,MapObj.empty enc clock⟩
 simp [Builtin.clear_,run_underlying ht,MapKept.run_getObj_map hb,MapKept.run_setObj_map _ hb,Result.andThen,setBlock]
def IterAt (w:World) (r b:Nat) (enc:α→Value) (f:α→Option Value) (left:α→Bool) (cnt:Nat):Prop :=
 ∃ es clock since seen c0,w.heap[b]? = some (.map es clock)∧w.heap[r]? = some (.mapIter (some b) since seen c0)∧MapObj enc f es clock∧(∀ x∈es.toList,x.born<since)∧since≤c0∧since≤clock ∧
  (∀ a,left a=true↔∃ e∈(leftOf es seen).toList,e.key=enc a)∧cnt=(leftOf es seen).size
theorem IterAt.same {w w':World} {r b:Nat} {f:α→Option Value} {left:α→Bool} {cnt:Nat} (h:IterAt w r b enc f left cnt) (e1:w'.heap[b]? = w.heap[b]?) (e2:w'.heap[r]? = w.heap[r]?):IterAt w' r b enc f left cnt :=
 let ⟨es,c,s,n,c0,h1,h2,h3⟩:=h;⟨es,c,s,n,c0,e1.trans h1,e2.trans h2,h3⟩
theorem IterAt.map {w:World} {r b:Nat} {f:α→Option Value} {left:α→Bool} {cnt:Nat} (h:IterAt w r b enc f left cnt):MapAt w b enc f:=let ⟨es,c,_,_,_,h1,_,h3,_⟩:=h;⟨es,c,h1,h3⟩
theorem IterAt.lt {w:World} {r b:Nat} {f:α→Option Value} {left:α→Bool} {cnt:Nat} (h:IterAt w r b enc f left cnt):r<w.heap.size:=let ⟨_,_,_,_,_,_,h2,_⟩:=h;(Array.getElem?_eq_some_iff.1 h2).1
theorem MapAt.range {t e:TypeId} (ht:P.underlying t=some (.map k e)) {w:World} {b:Nat} {f:α→Option Value} (h:MapAt w b enc f) :
  ∃ o cnt,(Instr.range t (.map (some b))).run P w=.ok (.pointer (some ⟨w.heap.size,0,none⟩)) (w.alloc o)∧IterAt (w.alloc o) w.heap.size b enc f (fun a=>(f a).isSome) cnt:=by
 obtain ⟨es,clock,hb,o⟩:=h
 have hl:leftOf es #[]=es:=by simp [leftOf]
 refine ⟨.mapIter (some b) clock #[] clock,es.size,run_range_map w t k e b es clock ht hb,es,clock,clock,#[],clock,(Below.heap_alloc w _ _ (Array.getElem?_eq_some_iff.1 hb).1).trans hb,heap_alloc_new w _,o,o.lt,Nat.le_refl _,Nat.le_refl _,fun a=>?_,by rw [hl]⟩
 rw [hl]
 constructor
 ·intro h
  obtain ⟨v,hv⟩:=Option.isSome_iff_exists.1 h
  obtain ⟨e,he,hk,_⟩:=(o.val a v).1 hv
  exact ⟨e,he,hk⟩
 ·rintro ⟨e,he,hk⟩
  show (f a).isSome=true
  rw [(o.val a e.val).2 ⟨e,he,hk,rfl⟩];rfl
theorem findNow_int {q:IntKind} (x:Int):∀ (es:List MapEntry) (i:Nat),(∀ e∈es,∃ b,e.key=Value.int q b)→(Instr.findNow (.int q) (.int q x) es i=some none∧∀ e∈es,e.key≠.int q x)∨∃ j e,Instr.findNow (.int q) (.int q x) es i=some (some (i+j,e.val))∧es[j]? = some e∧e.key=.int q x
 | [],i,_=>.inl ⟨rfl,by simp⟩
 | e :: es,i,h=>by
  obtain ⟨b,hb⟩:=h e (by simp)
  by_cases hx:x=b
  ·subst hx
   exact .inr ⟨0,e,by simp [Instr.findNow,Instr.sameNow,hb],rfl,hb⟩
  ·have hf:Instr.findNow (.int q) (.int q x) (e :: es) i=Instr.findNow (.int q) (.int q x) es (i+1):=by
    rw [Instr.findNow,hb];simp only [Instr.sameNow,if_true,show (x == b)=false from by simp [hx]]
   rw [hf]
   rcases findNow_int x es (i+1) (fun e he=>h e (by simp [he])) with ⟨h1,h2⟩ | ⟨j,e',h1,h2,h3⟩
   ·refine .inl ⟨h1,fun e' he'=>?_⟩
    rcases List.mem_cons.1 he' with rfl | he'
    ·rw [hb];simp;exact fun e=>hx e.symm
    ·exact h2 e' he'
   ·exact .inr ⟨j+1,e',by rw [h1,show i+1+j=i+(j+1) by omega],h2,h3⟩
theorem intKeys {q:IntKind} (hk:P.underlying k=some (.int q)):KeyLaws P k (Value.int q) where
 inj h:=by cases h;rfl
 check w em a:=by
  show (Instr.checkKey em (9999+1) k (.int q a)).run P w=_
  unfold Instr.checkKey;simp [run_underlying hk,Result.andThen]
 find w a es h:=by
  rcases findNow_int a es 0 h with ⟨h1,h2⟩ | ⟨j,e,h1,h2,h3⟩
  ·exact .inl ⟨by simp [Instr.findKey,run_underlying hk,Result.andThen,h1],h2⟩
  ·exact .inr ⟨j,e,by simp [Instr.findKey,run_underlying hk,Result.andThen,h1],h2,h3⟩
 stays w a:=by simp [Instr.keyThatStays,Instr.sameBits,Result.andThen]
def pairV (p:Int × Int):Value:=.agg #[.int .i64 p.1,.int .i64 p.2]
theorem findAsking_pair (he:∀ (w:World) (x y:Int × Int),(Op.equal k (pairV x) (pairV y)).run P w=.ok (decide (x=y)) w) (w:World) (x:Int × Int):∀ (es:List MapEntry) (i:Nat),(∀ e∈es,∃ b,e.key=pairV b) →
  ((Instr.findAsking k (pairV x) es i).run P w=.ok none w∧∀ e∈es,e.key≠pairV x)∨∃ j e,(Instr.findAsking k (pairV x) es i).run P w=.ok (some (i+j,e.val)) w∧es[j]? = some e∧e.key=pairV x
 | [],i,_=>.inl ⟨rfl,by simp⟩
 | e :: es,i,h=>by
  obtain ⟨b,hb⟩:=h e (by simp)
  have inj:∀ {a b:Int × Int},pairV a=pairV b→a=b:=fun {a b} h=>by
   simp [pairV] at h;exact Prod.ext h.1 h.2
  by_cases hx:x=b
  ·subst hx
   exact .inr ⟨0,e,by simp [Instr.findAsking,hb,he,Result.andThen],rfl,hb⟩
  ·have hf:(Instr.findAsking k (pairV x) (e :: es) i).run P w=(Instr.findAsking k (pairV x) es (i+1)).run P w:=by simp [Instr.findAsking,hb,he,Result.andThen,hx]
   rw [hf]
   rcases findAsking_pair he w x es (i+1) (fun e he=>h e (by simp [he])) with ⟨h1,h2⟩ | ⟨j,e',h1,h2,h3⟩
   ·refine .inl ⟨h1,fun e' he'=>?_⟩
    rcases List.mem_cons.1 he' with rfl | he'
    ·rw [hb];exact fun e=>hx (inj e.symm)
    ·exact h2 e' he'
   ·exact .inr ⟨j+1,e',by rw [h1,show i+1+j=i+(j+1) by omega],h2,h3⟩
theorem pairKeys {fs:Array Field} (hk:P.underlying k=some (.struct fs)) (he:∀ (w:World) (x y:Int × Int),(Op.equal k (pairV x) (pairV y)).run P w=.ok (decide (x=y)) w) (hc:∀ (w:World) (em:Bool) (x:Int × Int),(Instr.checkKey em 10000 k (pairV x)).run P w=.ok () w):KeyLaws P k pairV where
 inj {a b} h:=by simp [pairV] at h;exact Prod.ext h.1 h.2
 check:=hc
 find w a es h:=by
  cases es with
  | nil=>exact .inl ⟨by simp [Instr.findKey,run_underlying hk,Result.andThen,Instr.findNow],by simp⟩
  | cons e es =>
   have e0:(Instr.findKey k (pairV a) (e :: es)).run P w=(Instr.findAsking k (pairV a) (e :: es) 0).run P w:=by
    obtain ⟨b,hb⟩:=h e (by simp)
    simp [Instr.findKey,run_underlying hk,Result.andThen,Instr.findNow,Instr.sameNow,pairV]
   rw [e0]
   rcases findAsking_pair he w a (e :: es) 0 h with h1 | ⟨j,e',h1,h2⟩
   ·exact .inl h1
   ·exact .inr ⟨j,e',by rw [h1,Nat.zero_add],h2⟩
 stays w a:=by simp [Instr.keyThatStays,Instr.sameBits,pairV,Result.andThen]
end Go.Sy
