/-
 A symbolic executor for the model's code: what nobody writes any more; package variables, in every memory as they were laid. Conditions: none.
-/
import Derived.Maps.RangeRun
import Derived.Maps.Keyed
import Derived.Maps.Range
import Derived.WalkKit
set_option linter.unusedVariables false
set_option linter.unusedSimpArgs false
set_option linter.unusedSectionVars false
namespace Go
abbrev BA := ByteArray
end Go
namespace Go.Sy
open Go.RowKit Go.ChangeMaps
variable {P:Program} {α:Type} {enc:α->Value} {k:TypeId}
structure CC (P:Program) (k:TypeId) (enc:α->Value):Prop where
 inj:∀ {a b:α},enc a=enc b->a=b
 check:∀ (w:World) (em:Bool) (a:α),(Instr.checkKey em 10000 k (enc a)).run P w=.ok () w
 find:∀ (w:World) (a:α) (es:List MapEntry),(∀ e∈es,∃ b,e.key=enc b)->((Instr.findKey k (enc a) es).run P w=.ok none w/\∀ e∈es,e.key≠enc a)\/∃ j e,(Instr.findKey k (enc a) es).run P w=.ok (some (j,e.val)) w/\es[j]? = some e/\e.key=enc a
 stays:∀ (w:World) (a:α),(Instr.keyThatStays (enc a) (enc a)).run P w=.ok (enc a) w
structure AZ (enc:α->Value) (f:α->Option Value) (es:Array MapEntry) (clock:Nat):Prop where
 keys:∀ e∈es.toList,∃ a,e.key=enc a
 apart:(es.toList.map (·.key)).Nodup
 born:(es.toList.map (·.born)).Nodup
 lt:∀ e∈es.toList,e.born<clock
 val:∀ a v,f a=some v↔∃ e∈es.toList,e.key=enc a/\e.val=v
def B5(w:World)(b:Nat)(enc:α->Value)(f:α->Option Value):Prop:=∃ es clock,w.heap[b]? = some (.map es clock)/\AZ enc f es clock
theorem AZ.empty(enc:α->Value)(c:Nat):AZ enc (fun _=>none) #[] c:=⟨by simp,by simp,by simp,by simp,by simp⟩
theorem B5.new(w:World)(enc:α->Value):B5 (w.alloc (.map #[] 0)) w.heap.size enc (fun _=>none):=⟨#[],0,heap_alloc_new w _,AZ.empty enc 0⟩
theorem B5.same{w w':World}{b:Nat}{f:α->Option Value}(h:B5 w b enc f)(e:w'.heap[b]? = w.heap[b]?):B5 w' b enc f:=let ⟨es,c,hb,o⟩:=h;⟨es,c,e.trans hb,o⟩
theorem B5.lt{w:World}{b:Nat}{f:α->Option Value}(h:B5 w b enc f):b<w.heap.size:=let ⟨_,_,hb,_⟩:=h;(Array.getElem?_eq_some_iff.1 hb).1
theorem AZ.none_of{f:α->Option Value}{es:Array MapEntry}{c:Nat}(o:AZ enc f es c){a:α}(h:∀ e∈es.toList,e.key≠enc a):f a=none:=by
 cases hf:f a with
 | none=>rfl
 | some v=>obtain ⟨e,he,hk,_⟩:=(o.val a v).1 hf;exact absurd hk (h e he)
theorem B5.lookup(K:CC P k enc){t e:TypeId}(ht:P.underlying t=some (.map k e)){w:World}{z:Value}(hz:(zeroValue e).run P w=.ok z w){b:Nat}{f:α->Option Value}(h:B5 w b enc f)(a:α)(c:Bool) :
  (Instr.lookup t (.map (some b)) (enc a) c).run P w=.ok (if c then .tuple #[(f a).getD z,.bool (f a).isSome] else (f a).getD z) w:=by
 obtain ⟨es,clock,hb,o⟩:=h
 rcases K.find w a es.toList o.keys with ⟨h1,h2⟩ | ⟨j,e0,h1,h2,h3⟩
 .rw [o.none_of h2]
  simp [Instr.lookup,run_underlying ht,MapKept.run_getObj_map hb,K.check w _ a,h1,hz,Result.andThen]
 .rw [(o.val a e0.val).2 ⟨e0,List.mem_of_getElem? h2,h3,rfl⟩]
  simp [Instr.lookup,run_underlying ht,MapKept.run_getObj_map hb,K.check w _ a,h1,Result.andThen]
theorem Fp[DecidableEq α](K:CC P k enc){f:α->Option Value}{es:Array MapEntry}{clock:Nat}(o:AZ enc f es clock){a:α}(h2:∀ e∈es.toList,e.key≠enc a)(v:Value) :
  AZ enc (fun x=>if x=a then some v else f x) (es.push ⟨enc a,v,clock⟩) (clock+1):=by
 refine ⟨fun e he=>?_,?_,?_,fun e he=>?_,fun x u=>?_⟩
 .simp only [Array.toList_push,List.mem_append,List.mem_singleton] at he
  rcases he with he | rfl
  .exact o.keys e he
  .exact ⟨a,rfl⟩
 .simp only [Array.toList_push,List.map_append,List.map_cons,List.map_nil]
  refine List.nodup_append.2 ⟨o.apart,by simp,fun x hx y hy e=>?_⟩
  simp at hy;subst hy;subst e
  obtain ⟨e,he,hk⟩:=List.mem_map.1 hx
  exact h2 e he hk
 .simp only [Array.toList_push,List.map_append,List.map_cons,List.map_nil]
  refine List.nodup_append.2 ⟨o.born,by simp,fun x hx y hy e=>?_⟩
  simp at hy;subst hy;subst e
  obtain ⟨e,he,hk⟩:=List.mem_map.1 hx
  have:=o.lt e he
  omega
 .simp only [Array.toList_push,List.mem_append,List.mem_singleton] at he
  rcases he with he | rfl
  .have:=o.lt e he;omega
  .exact Nat.lt_succ_self _
 .simp only [Array.toList_push,List.mem_append,List.mem_singleton]
  by_cases hx:x=a
  .subst hx
   rw [if_pos rfl]
   constructor
   .intro e;cases e;exact ⟨_,.inr rfl,rfl,rfl⟩
   .rintro ⟨e,he | rfl,hk,hv⟩
    .exact absurd hk (h2 e he)
    .rw [<- hv]
  .rw [if_neg hx,o.val]
   constructor
   .rintro ⟨e,he,h⟩;exact ⟨e,.inl he,h⟩
   .rintro ⟨e,he | rfl,hk,hv⟩
    .exact ⟨e,he,hk,hv⟩
    .exact absurd (K.inj hk).symm hx
theorem J4[DecidableEq α](K:CC P k enc){f:α->Option Value}{es es':Array MapEntry}{clock:Nat}(o:AZ enc f es clock){a:α}{j:Nat}{e0:MapEntry}(h2:es.toList[j]? = some e0)(h3:e0.key=enc a)(v:Value)(hl:es'.toList=es.toList.set j { e0 with key:=enc a,val:=v }):AZ enc (fun x=>if x=a then some v else f x) es' clock:=by
 have hj:j<es.toList.length:=(List.getElem?_eq_some_iff.1 h2).1
 have e1:es.toList[j]=e0:=(List.getElem?_eq_some_iff.1 h2).2
 have hk:es'.toList.map (·.key)=es.toList.map (·.key):=by
  rw [hl,List.map_set]
  apply List.ext_getElem?
  intro i
  rw [List.getElem?_set]
  split
  .subst_vars;simp only [List.getElem?_map,h2,Option.map_some,h3,List.length_map,if_pos hj]
  .rfl
 have hbn:es'.toList.map (·.born)=es.toList.map (·.born):=by
  rw [hl,List.map_set]
  apply List.ext_getElem?
  intro i
  rw [List.getElem?_set]
  split
  .subst_vars;simp only [List.getElem?_map,h2,Option.map_some,List.length_map,if_pos hj]
  .rfl
 have who:∀ x∈es'.toList,x={ e0 with key:=enc a,val:=v }\/(x∈es.toList/\x.key≠enc a):=by
  intro x hx
  rw [hl] at hx
  obtain ⟨i,hi,ex⟩:=List.getElem_of_mem hx
  rw [List.getElem_set] at ex
  split at ex
  .exact .inl ex.symm
  .rename_i hne
   have hi':i<es.toList.length:=by simpa using hi
   refine .inr ⟨ex ▸ List.getElem_mem hi',fun hke=>hne ?_⟩
   have:=(List.getElem_inj (h₀:=by simpa using hj) (h₁:=by simpa using hi') o.apart).1 (by simp only [List.getElem_map,e1,ex,h3,hke])
   exact this
 have back:∀ x∈es.toList,x.key≠enc a->x∈es'.toList:=by
  intro x hx hne
  rw [hl]
  obtain ⟨i,hi,ex⟩:=List.getElem_of_mem hx
  refine List.mem_iff_getElem?.2 ⟨i,?_⟩
  rw [List.getElem?_set]
  split
  .rename_i e;subst e;rw [<- ex,e1] at hne;exact absurd h3 hne
  .rw [List.getElem?_eq_getElem hi,ex]
 have new:({ e0 with key:=enc a,val:=v }:MapEntry)∈es'.toList:=by
  rw [hl];exact List.mem_iff_getElem?.2 ⟨j,by rw [List.getElem?_set,if_pos rfl,if_pos hj]⟩
 refine ⟨fun e he=>?_,by rw [hk];exact o.apart,by rw [hbn];exact o.born,fun e he=>?_,fun x u=>?_⟩
 .rcases who e he with rfl | ⟨h,_⟩
  .exact ⟨a,rfl⟩
  .exact o.keys e h
 .rcases who e he with rfl | ⟨h,_⟩
  .exact o.lt e0 (e1 ▸ List.getElem_mem hj)
  .exact o.lt e h
 .by_cases hx:x=a
  .subst hx
   rw [if_pos rfl]
   constructor
   .intro e;cases e;exact ⟨_,new,rfl,rfl⟩
   .rintro ⟨e,he,hk,hv⟩
    rcases who e he with rfl | ⟨_,h⟩
    .rw [<- hv]
    .exact absurd hk h
  .rw [if_neg hx,o.val]
   constructor
   .rintro ⟨e,he,hk,hv⟩;exact ⟨e,back e he (fun e'=>hx (K.inj (hk.symm.trans e'))),hk,hv⟩
   .rintro ⟨e,he,hk,hv⟩
    rcases who e he with rfl | ⟨h,_⟩
    .exact absurd (K.inj hk).symm hx
    .exact ⟨e,h,hk,hv⟩
theorem Bh{w:World}{b:Nat}{o:Obj}(h:w.heap[b]? = some o)(o':Obj):(setBlock w b o').heap[b]? = some o':=by
 have:=(Array.getElem?_eq_some_iff.1 h).1
 simp [setBlock,this]
theorem At(w:World){b i:Nat}(o:Obj)(h:i≠b):(setBlock w b o).heap[i]? = w.heap[i]?:=by
 simp [setBlock,Array.getElem?_setIfInBounds,Ne.symm h]
theorem B5.update[DecidableEq α](K:CC P k enc){t e:TypeId}(ht:P.underlying t=some (.map k e)){w:World}{b:Nat}{f:α->Option Value}(h:B5 w b enc f)(a:α)(v:Value) :
  ∃ o,(Instr.mapUpdate t (.map (some b)) (enc a) v).run P w=.ok () (setBlock w b o)/\B5 (setBlock w b o) b enc (fun x=>if x=a then some v else f x):=by
 obtain ⟨es,clock,hb,o⟩:=h
 rcases K.find w a es.toList o.keys with ⟨h1,h2⟩ | ⟨j,e0,h1,h2,h3⟩
 .refine ⟨.map (es.push ⟨enc a,v,clock⟩) (clock+1),?_,_,_,Bh hb _,Fp K o h2 v⟩
  simp [Instr.mapUpdate,run_underlying ht,MapKept.run_getObj_map hb,K.check w false a,h1,MapKept.run_setObj_map _ hb,Result.andThen,setBlock]
 .have hj:es[j]? = some e0:=by simpa using h2
  refine ⟨.map (es.modify j fun e'=>{ e' with key:=enc a,val:=v }) clock,?_,_,_,Bh hb _,J4 K o h2 h3 v (by rw [Array.toList_modify,modify_eq_set _ _ _ _ h2])⟩
  simp [Instr.mapUpdate,run_underlying ht,MapKept.run_getObj_map hb,K.check w false a,h1,hj,h3,K.stays,MapKept.run_setObj_map _ hb,Result.andThen,setBlock]
theorem B5.clear{t:TypeId}{d:TypeDesc}(ht:P.underlying t=some d){w:World}{b:Nat}{f:α->Option Value}(h:B5 w b enc f)(ty:TypeId) :
  ∃ o,(Builtin.clear_ #[t] ty #[.map (some b)]).run P w=.ok (.tuple #[]) (setBlock w b o)/\B5 (setBlock w b o) b enc (fun _=>none):=by
 obtain ⟨es,clock,hb,o⟩:=h
 refine ⟨.map #[] clock,?_,_,_,Bh hb _,AZ.empty enc clock⟩
 simp [Builtin.clear_,run_underlying ht,MapKept.run_getObj_map hb,MapKept.run_setObj_map _ hb,Result.andThen,setBlock]
def BL(w:World)(r b:Nat)(enc:α->Value)(f:α->Option Value)(left:α->Bool)(cnt:Nat):Prop :=
 ∃ es clock since seen c0,w.heap[b]? = some (.map es clock)/\w.heap[r]? = some (.mapIter (some b) since seen c0)/\AZ enc f es clock/\(∀ x∈es.toList,x.born<since)/\since<=c0/\since<=clock /\
  (∀ a,left a=true↔∃ e∈(leftOf es seen).toList,e.key=enc a)/\cnt=(leftOf es seen).size
theorem BL.same{w w':World}{r b:Nat}{f:α->Option Value}{left:α->Bool}{cnt:Nat}(h:BL w r b enc f left cnt)(e1:w'.heap[b]? = w.heap[b]?)(e2:w'.heap[r]? = w.heap[r]?):BL w' r b enc f left cnt :=
 let ⟨es,c,s,n,c0,h1,h2,h3⟩:=h;⟨es,c,s,n,c0,e1.trans h1,e2.trans h2,h3⟩
theorem BL.map{w:World}{r b:Nat}{f:α->Option Value}{left:α->Bool}{cnt:Nat}(h:BL w r b enc f left cnt):B5 w b enc f:=let ⟨es,c,_,_,_,h1,_,h3,_⟩:=h;⟨es,c,h1,h3⟩
theorem BL.ne{w:World}{r b:Nat}{f:α->Option Value}{left:α->Bool}{cnt:Nat}(h:BL w r b enc f left cnt):r≠b:=fun e=>by
 obtain ⟨es,c,_,_,_,h1,h2,_⟩:=h
 subst e;rw [h1] at h2;cases h2
theorem BL.lt{w:World}{r b:Nat}{f:α->Option Value}{left:α->Bool}{cnt:Nat}(h:BL w r b enc f left cnt):r<w.heap.size:=let ⟨_,_,_,_,_,_,h2,_⟩:=h;(Array.getElem?_eq_some_iff.1 h2).1
theorem B5.range{t e:TypeId}(ht:P.underlying t=some (.map k e)){w:World}{b:Nat}{f:α->Option Value}(h:B5 w b enc f) :
  ∃ o cnt,(Instr.range t (.map (some b))).run P w=.ok (.pointer (some ⟨w.heap.size,0,none⟩)) (w.alloc o)/\BL (w.alloc o) w.heap.size b enc f (fun a=>(f a).isSome) cnt:=by
 obtain ⟨es,clock,hb,o⟩:=h
 have hl:leftOf es #[]=es:=by simp [leftOf]
 refine ⟨.mapIter (some b) clock #[] clock,es.size,run_range_map w t k e b es clock ht hb,es,clock,clock,#[],clock,(Below.heap_alloc w _ _ (Array.getElem?_eq_some_iff.1 hb).1).trans hb,heap_alloc_new w _,o,o.lt,Nat.le_refl _,Nat.le_refl _,fun a=>?_,by rw [hl]⟩
 rw [hl]
 constructor
 .intro h
  obtain ⟨v,hv⟩:=Option.isSome_iff_exists.1 h
  obtain ⟨e,he,hk,_⟩:=(o.val a v).1 hv
  exact ⟨e,he,hk⟩
 .rintro ⟨e,he,hk⟩
  show (f a).isSome=true
  rw [(o.val a e.val).2 ⟨e,he,hk,rfl⟩];rfl
theorem BL.next[DecidableEq α](K:CC P k enc){w:World}{r b:Nat}{f:α->Option Value}{left:α->Bool}{cnt:Nat}(h:BL w r b enc f left cnt)(ty:TypeId) :
  ((∀ a,left a=false)/\(Instr.next (.pointer (some ⟨r,0,none⟩)) false ty).run P w=.ok (.tuple #[.bool false]) w) \/
  ∃ a v w1 o cnt',left a=true/\f a=some v/\(w1=w\/w1=w.drew)/\(Instr.next (.pointer (some ⟨r,0,none⟩)) false ty).run P w=.ok (.tuple #[.bool true,enc a,v]) (setBlock w1 r o) /\
   (Instr.entry (.pointer (some ⟨r,0,none⟩))).run P (setBlock w1 r o)=.ok (.tuple #[enc a,v]) (setBlock w1 r o)/\BL (setBlock w1 r o) r b enc f (fun x=>left x&&!decide (x=a)) cnt'/\cnt'<cnt:=by
 have hne:=h.ne
 obtain ⟨es,clock,since,seen,c0,hb,hr,o,hold,hsc,hsk,hl,hc⟩:=h
 rcases run_next_at (P:=P) w ty r b since c0 seen es clock hr hb hold hsc with ⟨h0,hrun⟩ | ⟨e,he,w1,hw1,hrun⟩
 .refine .inl ⟨fun a=>?_,hrun⟩
  cases hla:left a with
  | false=>rfl
  | true =>
   obtain ⟨e,he,_⟩:=(hl a).1 hla
   rw [Array.eq_empty_of_size_eq_zero h0] at he
   simp at he
 .obtain ⟨hem,hsn⟩:=mem_left he
  obtain ⟨a,ha⟩:=o.keys e hem
  have hr1:w1.heap[r]? = some (.mapIter (some b) since seen c0):=by rcases hw1 with rfl | rfl <;> exact hr
  have hb1:w1.heap[b]? = some (.map es clock):=by rcases hw1 with rfl | rfl <;> exact hb
  have s1:=Bh hr1 (.mapIter (some b) since (seen.push e.born) clock)
  have s2:(setBlock w1 r (.mapIter (some b) since (seen.push e.born) clock)).heap[b]? = some (.map es clock):=(At w1 _ hne.symm).trans hb1
  refine .inr ⟨a,e.val,w1,.mapIter (some b) since (seen.push e.born) clock,_,(hl a).2 ⟨e,he,ha⟩,(o.val a e.val).2 ⟨e,hem,ha,rfl⟩,hw1,by rw [<- ha];exact hrun,by rw [<- ha];exact run_entry_at _ r b since seen es clock e s1 s2 hem o.born,⟨es,clock,since,seen.push e.born,clock,s2,s1,o,hold,hsk,hsk,fun x=>?_,rfl⟩,by rw [hc];exact left_shrinks es seen e he⟩
  simp only [Bool.and_eq_true,hl,Bool.not_eq_true',decide_eq_false_iff_not]
  constructor
  .rintro ⟨⟨e1,he1,hk1⟩,hx⟩
   obtain ⟨h1,h2⟩:=mem_left he1
   refine ⟨e1,?_,hk1⟩
   simp only [leftOf,Array.toList_filter,List.mem_filter,contains_push,Bool.not_or,Bool.and_eq_true,Bool.not_eq_true']
   refine ⟨h1,h2,?_⟩
   cases hbe:e1.born == e.born with
   | false=>rfl
   | true =>
    have:=born_inj o.born h1 hem (by simpa using hbe)
    subst this
    exact absurd (K.inj (hk1.symm.trans ha)) hx
  .rintro ⟨e1,he1,hk1⟩
   simp only [leftOf,Array.toList_filter,List.mem_filter,contains_push,Bool.not_or,Bool.and_eq_true,Bool.not_eq_true'] at he1
   refine ⟨⟨e1,by simp only [leftOf,Array.toList_filter,List.mem_filter,he1.1,he1.2.1,Bool.not_false,and_self],hk1⟩,fun hxa=>?_⟩
   subst hxa
   have e2:e1=e:=by
    obtain ⟨i,hi,ei⟩:=List.getElem_of_mem he1.1
    obtain ⟨i',hi',ei'⟩:=List.getElem_of_mem hem
    have:=(List.getElem_inj (h₀:=by simpa using hi) (h₁:=by simpa using hi') o.apart).1 (by simp only [List.getElem_map,ei,ei',hk1,ha])
    subst this
    exact ei.symm.trans ei'
   subst e2
   simp at he1
theorem HJ{q:IntKind}(x:Int):∀ (es:List MapEntry) (i:Nat),(∀ e∈es,∃ b,e.key=Value.int q b)->(Instr.findNow (.int q) (.int q x) es i=some none/\∀ e∈es,e.key≠.int q x)\/∃ j e,Instr.findNow (.int q) (.int q x) es i=some (some (i+j,e.val))/\es[j]? = some e/\e.key=.int q x
 | [],i,_=>.inl ⟨rfl,by simp⟩
 | e :: es,i,h=>by
  obtain ⟨b,hb⟩:=h e (by simp)
  by_cases hx:x=b
  .subst hx
   exact .inr ⟨0,e,by simp [Instr.findNow,Instr.sameNow,hb],rfl,hb⟩
  .have hf:Instr.findNow (.int q) (.int q x) (e :: es) i=Instr.findNow (.int q) (.int q x) es (i+1):=by
    rw [Instr.findNow,hb];simp only [Instr.sameNow,if_true,show (x == b)=false from by simp [hx]]
   rw [hf]
   rcases HJ x es (i+1) (fun e he=>h e (by simp [he])) with ⟨h1,h2⟩ | ⟨j,e',h1,h2,h3⟩
   .refine .inl ⟨h1,fun e' he'=>?_⟩
    rcases List.mem_cons.1 he' with rfl | he'
    .rw [hb];simp;exact fun e=>hx e.symm
    .exact h2 e' he'
   .exact .inr ⟨j+1,e',by rw [h1,show i+1+j=i+(j+1) by omega],h2,h3⟩
theorem FJ{q:IntKind}(hk:P.underlying k=some (.int q)):CC P k (Value.int q) where
 inj h:=by cases h;rfl
 check w em a:=by
  show (Instr.checkKey em (9999+1) k (.int q a)).run P w=_
  unfold Instr.checkKey;simp [run_underlying hk,Result.andThen]
 find w a es h:=by
  rcases HJ a es 0 h with ⟨h1,h2⟩ | ⟨j,e,h1,h2,h3⟩
  .exact .inl ⟨by simp [Instr.findKey,run_underlying hk,Result.andThen,h1],h2⟩
  .exact .inr ⟨j,e,by simp [Instr.findKey,run_underlying hk,Result.andThen,h1],h2,h3⟩
 stays w a:=by simp [Instr.keyThatStays,Instr.sameBits,Result.andThen]
theorem GN(x:Bool):∀ (es:List MapEntry) (i:Nat),(∀ e∈es,∃ b,e.key=Value.bool b)->(Instr.findNow .bool (.bool x) es i=some none/\∀ e∈es,e.key≠.bool x)\/∃ j e,Instr.findNow .bool (.bool x) es i=some (some (i+j,e.val))/\es[j]? = some e/\e.key=.bool x
 | [],i,_=>.inl ⟨rfl,by simp⟩
 | e :: es,i,h=>by
  obtain ⟨b,hb⟩:=h e (by simp)
  by_cases hx:x=b
  .subst hx
   exact .inr ⟨0,e,by simp [Instr.findNow,Instr.sameNow,hb],rfl,hb⟩
  .have hf:Instr.findNow .bool (.bool x) (e :: es) i=Instr.findNow .bool (.bool x) es (i+1):=by
    rw [Instr.findNow,hb];simp only [Instr.sameNow,if_true,show (x == b)=false from by simp [hx]]
   rw [hf]
   rcases GN x es (i+1) (fun e he=>h e (by simp [he])) with ⟨h1,h2⟩ | ⟨j,e',h1,h2,h3⟩
   .refine .inl ⟨h1,fun e' he'=>?_⟩
    rcases List.mem_cons.1 he' with rfl | he'
    .rw [hb];intro e2;cases e2;exact hx rfl
    .exact h2 e' he'
   .exact .inr ⟨j+1,e',by rw [h1,show i+1+j=i+(j+1) by omega],h2,h3⟩
theorem PY(hk:P.underlying k=some .bool):CC P k Value.bool where
 inj h:=by cases h;rfl
 check w em a:=by
  show (Instr.checkKey em (9999+1) k (.bool a)).run P w=_
  unfold Instr.checkKey;simp [run_underlying hk,Result.andThen]
 find w a es h:=by
  rcases GN a es 0 h with ⟨h1,h2⟩ | ⟨j,e,h1,h2,h3⟩
  .exact .inl ⟨by simp [Instr.findKey,run_underlying hk,Result.andThen,h1],h2⟩
  .exact .inr ⟨j,e,by simp [Instr.findKey,run_underlying hk,Result.andThen,h1],h2,h3⟩
 stays w a:=by simp [Instr.keyThatStays,Instr.sameBits,Result.andThen]
def AE(p:Int × Int):Value:=.agg #[.int .i64 p.1,.int .i64 p.2]
theorem EX(he:∀ (w:World) (x y:Int × Int),(Op.equal k (AE x) (AE y)).run P w=.ok (decide (x=y)) w)(w:World)(x:Int × Int):∀ (es:List MapEntry) (i:Nat),(∀ e∈es,∃ b,e.key=AE b) ->
  ((Instr.findAsking k (AE x) es i).run P w=.ok none w/\∀ e∈es,e.key≠AE x)\/∃ j e,(Instr.findAsking k (AE x) es i).run P w=.ok (some (i+j,e.val)) w/\es[j]? = some e/\e.key=AE x
 | [],i,_=>.inl ⟨rfl,by simp⟩
 | e :: es,i,h=>by
  obtain ⟨b,hb⟩:=h e (by simp)
  have inj:∀ {a b:Int × Int},AE a=AE b->a=b:=fun {a b} h=>by
   simp [AE] at h;exact Prod.ext h.1 h.2
  by_cases hx:x=b
  .subst hx
   exact .inr ⟨0,e,by simp [Instr.findAsking,hb,he,Result.andThen],rfl,hb⟩
  .have hf:(Instr.findAsking k (AE x) (e :: es) i).run P w=(Instr.findAsking k (AE x) es (i+1)).run P w:=by simp [Instr.findAsking,hb,he,Result.andThen,hx]
   rw [hf]
   rcases EX he w x es (i+1) (fun e he=>h e (by simp [he])) with ⟨h1,h2⟩ | ⟨j,e',h1,h2,h3⟩
   .refine .inl ⟨h1,fun e' he'=>?_⟩
    rcases List.mem_cons.1 he' with rfl | he'
    .rw [hb];exact fun e=>hx (inj e.symm)
    .exact h2 e' he'
   .exact .inr ⟨j+1,e',by rw [h1,show i+1+j=i+(j+1) by omega],h2,h3⟩
theorem QQ{fs:Array Field}(hk:P.underlying k=some (.struct fs))(he:∀ (w:World) (x y:Int × Int),(Op.equal k (AE x) (AE y)).run P w=.ok (decide (x=y)) w)(hc:∀ (w:World) (em:Bool) (x:Int × Int),(Instr.checkKey em 10000 k (AE x)).run P w=.ok () w):CC P k AE where
 inj {a b} h:=by simp [AE] at h;exact Prod.ext h.1 h.2
 check:=hc
 find w a es h:=by
  cases es with
  | nil=>exact .inl ⟨by simp [Instr.findKey,run_underlying hk,Result.andThen,Instr.findNow],by simp⟩
  | cons e es =>
   have e0:(Instr.findKey k (AE a) (e :: es)).run P w=(Instr.findAsking k (AE a) (e :: es) 0).run P w:=by
    obtain ⟨b,hb⟩:=h e (by simp)
    simp [Instr.findKey,run_underlying hk,Result.andThen,Instr.findNow,Instr.sameNow,AE]
   rw [e0]
   rcases EX he w a (e :: es) 0 h with h1 | ⟨j,e',h1,h2⟩
   .exact .inl h1
   .exact .inr ⟨j,e',by rw [h1,Nat.zero_add],h2⟩
 stays w a:=by simp [Instr.keyThatStays,Instr.sameBits,AE,Result.andThen]
end Go.Sy
namespace Go.Sy
open Go.RowKit
structure Nm where
 blk:Nat
 off:Nat
 cap:Nat
structure Ids where
 f:Nat->Option Nat
 inj:∀ b b' i,f b=some i->f b'=some i->b=b'
def Br:Ids:=⟨fun _=>none,fun _ _ _ h=>by cases h⟩
structure Od where
 c:Nat->Nat->Option Value
 m:Nat->Option (Array MapEntry × Nat)
 p:Ids
instance:CoeFun Od fun _=>Nat->Nat->Option Value:=⟨Od.c⟩
structure AB (od od':Od):Prop where
 c:∀ b o v,od b o=some v->od' b o=some v
 m:∀ b v,od.m b=some v->od'.m b=some v
 p:∀ b i,od.p.f b=some i->od'.p.f b=some i
instance (od od':Od):CoeFun (AB od od') fun _=>∀ b o v,od b o=some v->od' b o=some v:=⟨AB.c⟩
theorem AB.refl(od:Od):AB od od:=⟨fun _ _ _ h=>h,fun _ _ h=>h,fun _ _ h=>h⟩
theorem AB.trans{a b c:Od}(h:AB a b)(k:AB b c):AB a c:=⟨fun x o v hv=>k.c x o v (h.c x o v hv),fun x v hv=>k.m x v (h.m x v hv),fun x i hi=>k.p x i (h.p x i hi)⟩
def glC:List Nat:=[1,2,3,4,5]
def Fi:List BA:=[⟨#[]⟩,⟨#[99,121,108,105,110,100,101,114]⟩,⟨#[114,101,103,117,108,97,116,111,114]⟩,⟨#[99,111,109,112,114,101,115,115,111,114]⟩,⟨#[111,116,104,101,114]⟩]
def Hs(b:Bool):BA:=bif b then ⟨#[112,97,115,115]⟩ else ⟨#[102,97,105,108]⟩
structure GlR (od:Od):Prop where
 one:∀ b∈glC,∃ v,od.c b 0=some v
 rs:∃ b es c,od.c 1 0=some (.map (some b))/\od.m b=some (es,c)/\AZ (fun k:Bool=>Value.bool k) (fun k=>some (.string (Hs k))) es c
def MR(od:Od):Prop:=∀ q s,Fi[q]? = some s->od.c 0 q=some (.string s)
def GlK(od:Od):Prop:=GlR od/\MR od
theorem GlR.ext{od od':Od}(h:GlR od)(e:AB od od'):GlR od' :=
 ⟨fun b hb=>let ⟨v,hv⟩:=h.one b hb;⟨v,e.c b 0 v hv⟩,let ⟨b,es,c,h1,h2,h3⟩:=h.rs;⟨b,es,c,e.c _ _ _ h1,e.m _ _ h2,h3⟩⟩
theorem GlR.mix{a b:Od}(ha:GlR a)(hb:GlR b)(hm:∀ k v,a.m k=some v->b.m k=some v)(n:Nat):GlR ⟨fun x o=>if n<=x then b.c x o else a.c x o,b.m,b.p⟩:=by
 refine ⟨fun x hx=>?_,?_⟩
 .show ∃ v,(if n<=x then b.c x 0 else a.c x 0)=some v
  split
  .exact hb.one x hx
  .exact ha.one x hx
 .show ∃ k es c,(if n<=1 then b.c 1 0 else a.c 1 0)=some (.map (some k))/\b.m k=some (es,c)/\_
  split
  .exact hb.rs
  .obtain ⟨k,es,c,h1,h2,h3⟩:=ha.rs
   exact ⟨k,es,c,h1,hm _ _ h2,h3⟩
theorem MR.mix{a b:Od}(ha:MR a)(hb:MR b)(n:Nat):MR ⟨fun x o=>if n<=x then b.c x o else a.c x o,b.m,b.p⟩:=fun q s hq=>by
 show (if n<=0 then b.c 0 q else a.c 0 q)=_
 split
 .exact hb q s hq
 .exact ha q s hq
def QR:List Value:=(List.range 20).map fun i=>Value.int .u64 ((10 ^ i:Nat):Int)
structure PvK (w:World):Prop where
 rs:∃ b t z,w.heap[1]? = some (.cells #[.map (some b)] t z)
 mx:∃ m,w.cell? ⟨2,0,none⟩=some (.int .i64 m)
 es:∃ a b t z,w.heap[3]? = some (.cells #[.iface a b] t z)
 er:∃ a b t z,w.heap[4]? = some (.cells #[.iface a b] t z)
 p10:∃ t z,w.heap[5]? = some (.cells QR.toArray t z)
theorem PvK.same{w w':World}(h:PvK w)(e:∀ b∈glC,w'.heap[b]? = w.heap[b]?):PvK w':=by
 obtain ⟨⟨r1,r2,r3,r⟩,⟨b1,b⟩,⟨c1,c2,c3,c4,c⟩,⟨d1,d2,d3,d4,d⟩,⟨a1,a2,a⟩⟩:=h
 exact ⟨⟨_,_,_,(e 1 (by decide)).trans r⟩,⟨b1,(World.cell?_of_block (e 2 (by decide))).trans b⟩,⟨_,_,_,_,(e 3 (by decide)).trans c⟩,⟨_,_,_,_,(e 4 (by decide)).trans d⟩,⟨_,_,(e 5 (by decide)).trans a⟩⟩
theorem PvK.keep{w w':World}{od:Od}(h:PvK w)(g:GlR od)(hc:∀ b o v,od.c b o=some v->w'.heap[b]? = w.heap[b]?)(hm:∀ b v,od.m b=some v->w'.heap[b]? = w.heap[b]?):PvK w' :=
 h.same fun b hb=>let ⟨v,hv⟩:=g.one b hb;hc b 0 v hv
def HV(w:World)(b:Nat):Option (Array MapEntry × Nat):=match w.heap[b]? with
 | some (.map es c)=>some (es,c)
 | _=>none
theorem Rq{w:World}{b:Nat}{v:Array MapEntry × Nat}(h:HV w b=some v):w.heap[b]? = some (.map v.1 v.2):=by
 unfold HV at h
 split at h
 .rename_i es c e;cases h;exact e
 .cases h
structure SQ (w:World):Prop where
 pv:PvK w
 rs:∃ b es c,w.cell? ⟨1,0,none⟩=some (.map (some b))/\w.heap[b]? = some (.map es c)/\AZ (fun k:Bool=>Value.bool k) (fun k=>some (.string (Hs k))) es c
theorem SQ.gl{w:World}(h:SQ w)(p:Ids):GlR ⟨fun b o=>w.cell? ⟨b,o,none⟩,HV w,p⟩:=by
 obtain ⟨⟨⟨r1,r2,r3,r⟩,⟨b1,b⟩,⟨c1,c2,c3,c4,c⟩,⟨d1,d2,d3,d4,d⟩,⟨a1,a2,a⟩⟩,⟨x,es,t,h1,h2,h3⟩⟩:=h
 refine ⟨fun x hx=>?_,⟨x,es,t,h1,by show HV w x=_;unfold HV;rw [h2],h3⟩⟩
 simp only [glC,List.mem_cons,List.not_mem_nil,or_false] at hx
 rcases hx with rfl | rfl | rfl | rfl | rfl
 .exact ⟨_,by simp only [World.cell?,r];rfl⟩
 .exact ⟨_,b⟩
 .exact ⟨_,by simp only [World.cell?,c];rfl⟩
 .exact ⟨_,by simp only [World.cell?,d];rfl⟩
 .exact ⟨.int .u64 1,by simp only [World.cell?,a];rfl⟩
def Lo:Od:=⟨fun b q=>if b=0 then some (.string (Fi.getD q ⟨#[]⟩)) else some (.map (some 0)),fun _=>some (#[⟨.bool true,.string (Hs true),0⟩,⟨.bool false,.string (Hs false),1⟩],2),Br⟩
theorem TH:GlR Lo:=by
 refine ⟨fun b _=>?_,⟨0,_,_,rfl,rfl,?_⟩⟩
 .by_cases h:b=0
  .exact ⟨_,if_pos h⟩
  .exact ⟨_,if_neg h⟩
 .refine ⟨fun e he=>?_,by simp,by simp,fun e he=>?_,fun a v=>?_⟩
  .simp at he
   rcases he with rfl | rfl
   .exact ⟨true,rfl⟩
   .exact ⟨false,rfl⟩
  .simp at he
   rcases he with rfl | rfl <;> simp
  .constructor
   .intro h
    cases a with
    | true=>exact ⟨⟨.bool true,.string (Hs true),0⟩,by simp,rfl,Option.some.inj h⟩
    | false=>exact ⟨⟨.bool false,.string (Hs false),1⟩,by simp,rfl,Option.some.inj h⟩
   .rintro ⟨e,he,hk,hv⟩
    simp at he
    rcases he with rfl | rfl
    .cases hk;exact congrArg some hv
    .cases hk;exact congrArg some hv
theorem TG:MR Lo:=fun q s hq=>by
 show (if 0=0 then some (Value.string (Fi.getD q ⟨#[]⟩)) else some (.map (some 0)))=_
 rw [if_pos rfl,List.getD_eq_getElem?_getD,hq];rfl
class AO where
 Gl:Od->Prop
 Pv:World->Prop
 on:Bool
 onK:Bool
 ext:∀ {od od':Od},Gl od->AB od od'->Gl od'
 mix:∀ {a b:Od},Gl a->Gl b->(∀ k v,a.m k=some v->b.m k=some v)->∀ n:Nat,Gl ⟨fun x o=>if n<=x then b.c x o else a.c x o,b.m,b.p⟩
 keep:∀ {w w':World} {od:Od},Pv w->Gl od->(∀ b o v,od.c b o=some v->w'.heap[b]? = w.heap[b]?)->(∀ b v,od.m b=some v->w'.heap[b]? = w.heap[b]?)->Pv w'
 hon:on=true->∀ {od:Od},Gl od->GlR od
 honK:onK=true->∀ {od:Od},Gl od->MR od
 any:Gl Lo
@[reducible] def G0:AO:=⟨fun _=>True,fun _=>True,false,false,fun _ _=>trivial,fun _ _ _ _=>trivial,fun _ _ _ _=>trivial,fun h=>(by cases h),fun h=>(by cases h),trivial⟩
@[reducible] def G1:AO:=⟨GlR,PvK,true,false,GlR.ext,GlR.mix,PvK.keep,fun _ _ h=>h,fun h=>(by cases h),TH⟩
@[reducible] def G2:AO:=⟨GlK,PvK,true,true,fun h e=>⟨h.1.ext e,fun q s hq=>e.c _ _ _ (h.2 q s hq)⟩,fun ha hb hm n=>⟨ha.1.mix hb.1 hm n,ha.2.mix hb.2 n⟩,fun h g hc hm=>h.keep g.1 hc hm,fun _ _ h=>h.1,fun _ _ h=>h.2,⟨TH,TG⟩⟩
attribute [instance] G1
def Gl[G:AO](od:Od):Prop:=G.Gl od
def Gs[G:AO](w:World):Prop:=G.Pv w
section
variable [G:AO]
theorem Gl.ext{od od':Od}(h:Gl od)(e:AB od od'):Gl od':=G.ext h e
theorem Gl.mix{a b:Od}(ha:Gl a)(hb:Gl b)(hm:∀ k v,a.m k=some v->b.m k=some v)(n:Nat):Gl ⟨fun x o=>if n<=x then b.c x o else a.c x o,b.m,b.p⟩:=G.mix ha hb hm n
theorem Gs.keep{w w':World}{od:Od}(h:Gs w)(g:Gl od)(hc:∀ b o v,od.c b o=some v->w'.heap[b]? = w.heap[b]?)(hm:∀ b v,od.m b=some v->w'.heap[b]? = w.heap[b]?):Gs w':=G.keep h g hc hm
theorem SZ:Gl Lo:=G.any
class Ea (w:World):Prop where
 pv:Gs w
 gl_:∀ p,Gl ⟨fun b o=>w.cell? ⟨b,o,none⟩,HV w,p⟩
theorem Ea.gl{w:World}(h:Ea w)(p:Ids):Gl ⟨fun b o=>w.cell? ⟨b,o,none⟩,HV w,p⟩:=h.gl_ p
end
theorem gl0(od:Od):@Gl G0 od:=trivial
theorem pv0(w:World):@Gs G0 w:=trivial
end Go.Sy
