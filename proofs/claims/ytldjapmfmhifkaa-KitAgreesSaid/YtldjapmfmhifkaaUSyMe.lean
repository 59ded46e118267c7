/-
 m[k] = v in two steps: the entry, and what is stored in it. Conditions: none.
-/
import Derived.Test.YtldjapmfmhifkaaUSyAny
namespace Go.Sy
set_option linter.unusedVariables false
set_option linter.unusedSimpArgs false
open Go.RowKit Go.ChangeMaps
section maps
variable {P:Program} {α:Type} {k:TypeId} {enc:α->Value}
theorem findIdx_at{es:Array MapEntry}{j:Nat}{e0:MapEntry}{b:Int}(hj:es[j]? = some e0)(hb:(e0.born:Int)=b)(hnd:(es.toList.map (·.born)).Nodup):es.findIdx? (fun e=>(e.born:Int) == b)=some j:=by
 have hjl:j<es.size:=(Array.getElem?_eq_some_iff.1 hj).1
 have hje:es[j]=e0:=(Array.getElem?_eq_some_iff.1 hj).2
 rw [Array.findIdx?_eq_some_iff_getElem]
 refine ⟨hjl,by rw [hje];simp [hb],fun i hi=>?_⟩
 have hil:i<es.size:=by omega
 intro h
 have h:((es[i].born:Int))=b:=by simpa using h
 have he:es[i].born=es[j].born:=by rw [hje];omega
 have:=(List.getElem_inj (h₀:=by simpa using hil) (h₁:=by simpa using hjl) hnd).1 (by simpa using he)
 omega
theorem MapAt.entry_store[DecidableEq α](K:KeyLaws P k enc){t e:TypeId}(ht:P.underlying t=some (.map k e)){z:Value}(hz:∀ w:World,(zeroValue e).run P w=.ok z w){w:World}{b:Nat}{f:α->Option Value}(h:MapAt w b enc f)(a:α)(v:Value) :
  ∃ (o1 o2:Obj) (x:Value) (s:Nat),(Instr.mapEntry t (.map (some b)) (enc a)).run P w=.ok (.tuple #[x,goInt s]) (setBlock w b o1) /\
   (∀ w1:World,w1.heap[b]? = some o1->(Instr.entryStore t (.map (some b)) (goInt s) v).run P w1=.ok () (setBlock w1 b o2)) /\
   ∃ es cl,o2=.map es cl/\MapObj enc (fun x=>if x=a then some v else f x) es cl:=by
 obtain ⟨es,clock,hb,o⟩:=h
 rcases K.find w a es.toList o.keys with ⟨h1,h2⟩ | ⟨j,e0,h1,h2,h3⟩
 ·refine ⟨.map (es.push ⟨enc a,z,clock⟩) (clock+1),.map (es.push ⟨enc a,v,clock⟩) (clock+1),z,clock,?_,fun w1 hw1=>?_,_,_,rfl,mapObj_push K o h2 v⟩
  ·simp [Instr.mapEntry,run_underlying ht,MapKept.run_getObj_map hb,K.check w false a,h1,hz,MapKept.run_setObj_map _ hb,Result.andThen,setBlock]
  ·have hn:((es.push ⟨enc a,z,clock⟩).toList.map (·.born)).Nodup:=(mapObj_push K o h2 z).born
   have hi:=findIdx_at (es:=es.push ⟨enc a,z,clock⟩) (j:=es.size) (e0:=⟨enc a,z,clock⟩) (b:=(clock:Int)) (by simp) rfl hn
   have hm:(es.push ⟨enc a,z,clock⟩).modify es.size (fun e=>{ e with val:=v })=es.push ⟨enc a,v,clock⟩:=by
    apply Array.toList_inj.1
    have hp:(es.push ⟨enc a,z,clock⟩).toList[es.size]? = some ⟨enc a,z,clock⟩:=by simp
    rw [Array.toList_modify,modify_eq_set _ _ _ _ hp]
    simp
   simp [Instr.entryStore,MapKept.run_getObj_map hw1,goInt,asInt,asIntOf,Result.andThen,hi,hm,MapKept.run_setObj_map _ hw1,setBlock]
 ·have hj:es[j]? = some e0:=by simpa using h2
  have hl:(es.modify j fun e'=>{ e' with key:=enc a }).toList=es.toList.set j { e0 with key:=enc a }:=by rw [Array.toList_modify,modify_eq_set _ _ _ _ h2]
  have e1:({ e0 with key:=enc a }:MapEntry)=e0:=by rw [<- h3]
  have hid:(es.modify j fun e'=>{ e' with key:=enc a })=es:=by
   apply Array.toList_inj.1
   rw [hl,e1]
   apply List.ext_getElem?
   intro i
   rw [List.getElem?_set]
   split
   ·subst_vars
    split
    ·exact h2.symm
    ·rename_i hlt;exact absurd (List.getElem?_eq_some_iff.1 h2).1 hlt
   ·rfl
  refine ⟨.map es clock,.map (es.modify j fun e'=>{ e' with val:=v }) clock,e0.val,e0.born,?_,fun w1 hw1=>?_,_,_,rfl,mapObj_set K o h2 h3 v (by rw [Array.toList_modify,modify_eq_set _ _ _ _ h2,<- h3])⟩
  ·simp [Instr.mapEntry,run_underlying ht,MapKept.run_getObj_map hb,K.check w false a,h1,hj,h3,K.stays,MapKept.run_setObj_map _ hb,Result.andThen,setBlock,hid]
  ·have hi:=findIdx_at hj (b:=(e0.born:Int)) rfl o.born
   simp [Instr.entryStore,MapKept.run_getObj_map hw1,goInt,asInt,asIntOf,Result.andThen,hi,MapKept.run_setObj_map _ hw1,setBlock]
end maps
end Go.Sy
