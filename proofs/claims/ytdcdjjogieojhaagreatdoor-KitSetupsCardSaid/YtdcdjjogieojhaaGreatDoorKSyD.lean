/-
 A symbolic executor for the model's code, part D: new memory, parts, addresses, arithmetic. Conditions: none.
-/
import Derived.Test.YtdcdjjogieojhaaGreatDoorKSyC
import Derived.IntWalk
set_option linter.unusedVariables false
set_option linter.unusedSimpArgs false
set_option linter.unusedSectionVars false
namespace Go.Sy
open Go.RowKit
variable [AO]
section runs
variable {P:Program}
def Sx(off:Nat)(e:TypeId)(v:SV):Option Ae :=
 match v.cells? with
 | some l=>some { v:=.ptr off 0,news:=[.cells e l] }
 | none=>none
theorem R0{O:Env}{w:World}{off:Nat}{e:TypeId}{v:SV}{r:Ae}(h:Sx off e v=some r){x:Value}(hv:v.den O x)(hf:O off=none)(hod:∀ b o v,O.od b o=some v->b<w.heap.size) :
  ∃ y w' O',(Instr.box e x).run P w=.ok y w'/\A5 O O' off r w w' y:=by
 unfold Sx at h
 split at h <;> cases h
 rename_i l hl
 have hd:=cells?_den hv hl
 refine ⟨_,_,_,?_,A5.alloc (cap:=0) (c:=x.cells) (e:=e) (b:=.cells e l) hf rfl hod ⟨rfl,x.cells,heap_alloc_new w _,SV.denL_mono (Env.set_ext hf) _ _ hd⟩ ⟨_,Env.set_same _ _ _,rfl⟩⟩
 simp [Instr.box,newVar,newRow]
def Ca(P:Program)(t:TypeId):Option Value:=(P.info? t).bind (·.zero)
theorem BP{t:TypeId}{z:Value}(h:Ca P t=some z)(w:World):(zeroValue t).run P w=.ok z w:=by
 unfold Ca at h
 cases hi:P.info? t with
 | none=>simp [hi] at h
 | some i =>
  simp [hi] at h
  simp [zeroValue,typeInfo,hi,h]
def zv1:Value->SV
 | .slice none 0 0=>.nsl
 | v=>Pm v
theorem zv1_den(O:Env)(v:Value):(zv1 v).den O v:=by
 unfold zv1
 split
 .rfl
 .exact J9 O _
theorem zv1_denL(O:Env):∀ l:List Value,SV.denL O (l.map zv1) l
 | []=>trivial
 | v :: l=>⟨zv1_den O v,zv1_denL O l⟩
def Lc(P:Program)(off:Nat)(e:TypeId):Option Ae :=
 match Ca P e with
 | some z=>some { v:=.ptr off 0,news:=[.cells e (z.cells.toList.map zv1)] }
 | none=>none
theorem Ny{O:Env}{w:World}{off:Nat}{e:TypeId}{r:Ae}(h:Lc P off e=some r)(hf:O off=none)(hod:∀ b o v,O.od b o=some v->b<w.heap.size) :
  ∃ y w' O',(Instr.alloc e true (.tuple #[])).run P w=.ok y w'/\A5 O O' off r w w' y:=by
 unfold Lc at h
 split at h <;> cases h
 rename_i z hz
 refine ⟨_,_,_,?_,A5.alloc (cap:=0) (c:=z.cells) (e:=e) (b:=.cells e _) hf rfl hod ⟨rfl,z.cells,heap_alloc_new w _,zv1_denL _ _⟩ ⟨_,Env.set_same _ _ _,rfl⟩⟩
 simp [Instr.alloc,newVar,newRow,BP hz]
def Jn(place:Nat->Option (Nat × Nat)):List SV->List (Nat × SV)->Option (List SV)
 | cells,[]=>some cells
 | cells,(i,v) :: rest=>match place i,v.cells? with
  | some (off,size),some cs=>if cs.length=size/\off+cs.length<=cells.length then Jn place (Di cells off cs) rest else none
  | _,_=>none
theorem IS(o:Nat):∀ (vs:List Value) (n:Nat) (cs:Array Value),o+n+vs.length<=cs.size ->
  ((vs.zipIdx n).foldl (fun (cs:Array Value) (p:Value × Nat)=>cs.setIfInBounds (o+p.2) p.1) cs).toList=Di cs.toList (o+n) vs
 | [],n,cs,h=>by simp [Di]
 | v :: vs,n,cs,h=>by
  simp only [List.zipIdx_cons,List.foldl_cons]
  rw [IS o vs (n+1) (cs.setIfInBounds (o+n) v) (by simp at h ⊢;omega)]
  simp at h
  apply List.ext_getElem?
  intro i
  rw [DM (by simp;omega),DM (by simp;omega)]
  simp only [Array.toList_setIfInBounds,List.getElem?_set,List.length_cons,Array.length_toList]
  grind
def Gj(O:Env):List (Nat × SV)->List (Nat × Value)->Prop
 | [],[]=>True
 | (i,v) :: l,(j,x) :: xs=>i=j/\v.den O x/\Gj O l xs
 | _,_=>False
theorem GM{O:Env}{place:Nat->Option (Nat × Nat)}:∀ {ps:List (Nat × SV)} {xs:List (Nat × Value)} {cells:List SV} {cs:Array Value} {out:List SV},Gj O ps xs->SV.denL O cells cs.toList->Jn place cells ps=some out ->
  ∃ ys:Array Value,Instr.fill place cs xs=some ys/\SV.denL O out ys.toList
 | [],[],cells,cs,out,_,hc,h=>by simp [Jn] at h;subst h;exact ⟨cs,rfl,hc⟩
 | (i,v) :: ps,(j,x) :: xs,cells,cs,out,⟨hij,hv,hps⟩,hc,h=>by
  subst hij
  simp only [Jn] at h
  split at h <;> try (cases h;done)
  rename_i off size vs hpl hcv
  split at h <;> try (cases h;done)
  rename_i hcond
  obtain ⟨hsz,hle⟩:=hcond
  have hd:=cells?_den hv hcv
  have hl:=Ax hd
  have hlc:=Ax hc
  have hxs:x.cells.size=vs.length:=by simpa using hl
  have hcs:cs.size=cells.length:=by simpa using hlc
  have hov:SV.denL O (Di cells off vs) ((x.cells.zipIdx.foldl (fun (cs:Array Value) (p:Value × Nat)=>cs.setIfInBounds (off+p.2) p.1) cs)).toList:=by
   have:=IS off x.cells.toList 0 cs (by simp [hxs,hcs];omega)
   simp only [Nat.add_zero] at this
   rw [<- Array.foldl_toList,Array.toList_zipIdx,this]
   exact K1 hc hd off
  obtain ⟨ys,hys,hdy⟩:=GM hps hov h
  refine ⟨ys,?_,hdy⟩
  simp only [Instr.fill,hpl]
  have:¬ (x.cells.size≠size\/off+x.cells.size > cs.size):=by omega
  simp only [ne_eq,Bool.or_eq_true,decide_eq_true_eq,this,if_false]
  exact hys
 | [],_ :: _,_,_,_,h,_,_=>h.elim
 | _ :: _,[],_,_,_,h,_,_=>h.elim
def M9(P:Program)(t:TypeId):Option (Nat->Option (Nat × Nat)) :=
 match P.underlying t with
 | some (.struct fields)=>match fields.toList.mapM (fun f=>(P.info? f.type).map fun i=>(f.offset,i.size)) with
  | some places=>some (places.toArray[·]?)
  | none=>none
 | some (.array _ e)=>match Ch P e with
  | some s=>some fun i=>some (i * s,s)
  | none=>none
 | _=>none
def NN(P:Program)(t:TypeId)(ps:List (Nat × SV)):Option Ae :=
 match Ca P t,M9 P t with
 | some (.agg z),some places=>match Jn places (z.toList.map zv1) ps with
  | some out=>some { v:=.agg out }
  | none=>none
 | _,_=>none
theorem ER{O:Env}{w:World}{t:TypeId}{ps:List (Nat × SV)}{r:Ae}(h:NN P t ps=some r){xs:Array (Nat × Value)}(hp:Gj O ps xs.toList)(off:Nat) :
  ∃ y,(Instr.build t xs).run P w=.ok y w/\A5 O O off r w w y:=by
 unfold NN at h
 split at h <;> try (cases h;done)
 rename_i z places hz hpl
 split at h <;> cases h
 rename_i out hout
 obtain ⟨ys,hys,hd⟩:=GM hp (cs:=z) (by exact zv1_denL O _) hout
 refine ⟨.agg ys,?_,A5.pure_ ⟨ys.toList,by simp,hd⟩⟩
 apply run_build
 unfold M9 at hpl
 unfold Ca at hz
 unfold Program.built
 cases hit:P.info? t with
 | none=>simp [hit] at hz
 | some it =>
  simp only [hit,Option.bind_some] at hz
  split at hpl
  .rename_i fields hu
   split at hpl <;> cases hpl
   rename_i places hm
   simp only [hu,hz,hm]
   exact hys
  .rename_i n e hu
   split at hpl <;> cases hpl
   rename_i s hs
   unfold Ch at hs
   cases hie:P.info? e with
   | none=>simp [hie] at hs
   | some ie =>
    simp only [hie,Option.map_some,Option.some.injEq] at hs
    subst hs
    simp only [hu,hz,hie]
    exact hys
  .cases hpl
end runs
end Go.Sy
