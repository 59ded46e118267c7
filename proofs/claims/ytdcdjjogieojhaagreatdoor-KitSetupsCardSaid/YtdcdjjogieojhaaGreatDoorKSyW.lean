/-
 A symbolic executor for the model's code, part W: laws: from a contract to the form of a row. Conditions: none.
-/
import Derived.Test.YtdcdjjogieojhaaGreatDoorKSyV
import Derived.ChangeSame
import Derived.Below
set_option linter.unusedVariables false
set_option linter.unusedSimpArgs false
set_option linter.unusedSectionVars false
namespace Go.Sy
open Go.RowKit Go.ChangeShapes Go.WideShapes
variable [AO]
def DY(w:World)[h:Ea w]:Env:=⟨fun _=>none,⟨fun b o=>w.cell? ⟨b,o,none⟩,HV w,Br⟩,h.gl _⟩
theorem No(w:World)[h:Ea w](B:Nat)(M:List Nat):Ak B M (DY w) (Ah []) w :=
 ⟨fun i hi=>by simp [Ah,Blk.isUnk] at hi,fun i j m m' _ hi=>by simp [Ah,Blk.isUnk] at hi,⟨fun b o v h=>h,fun b v h=>Rq h,fun b i h=>(by cases h)⟩,fun i m hi=>by simp [Ah,Blk.isUnk] at hi,h.pv⟩
theorem K7{P:Program}{f:FuncId}{c:Ctr}(hk:Ag P c f){w:World}[Ea w]{args:List SV}{xs:List Value}{b:Bool}{ns:List Bool}(hr:c 0 (Ah []) args=some { v:=.bool b,need:=ns })(hb:b=true)(hn:∀ n∈ns,n=true)(hden:SV.denL (DY w) args xs) :
  Calls P f ⟨xs⟩ w fun e w'=>e=.returned (.bool true)/\Below w.heap.size w w':=by
 refine (hk.2 w.heap.size [] (DY w) (Ah []) 0 args _ hr hn ⟨fun u hu=>by simp at hu,fun u hu=>by simp at hu⟩ xs w hden (No w _ _) (Nat.le_refl _) fun j _=>rfl).mono fun e w' ⟨x,O',he,hp⟩=>?_
 have hv:=hp.val
 simp only [SV.den] at hv
 subst hv hb
 exact ⟨he,hp.os,hp.tape,hp.output,hp.size,fun k hk=>hp.keep k hk fun u hu=>by simp at hu⟩
section
variable {H:Type} {enc:TypeId × Value->H} {P:Program}
theorem Ns{f:Func}{s:ChangeSpec}{apart fresh handsOn again:Bool}{W W':World}{args:Array Value}{v:Value}{ds gs:List (DataW H)}{before pa pv:List MemPlace}(hW:DataW.Whole enc P f.params.toList s.vars apart W args.toList ds gs before)(hres:∀ (b:Nat) (sp:Nat->Bool) (hd:Bool),DataW.TrodAll enc P W' b sp hd f.resultTypes.toList (v.resultList f.resultTypes.size) (s.fn H (ds ++ gs)).results [])(hargs:∀ sp:Nat->Bool,(∀ p∈before,sp p.block=true)->DataW.TrodAll enc P W' 0 sp true f.params.toList args.toList (s.fn H (ds ++ gs)).args pa)(hvars:∀ sp:Nat->Bool,(∀ p∈before,sp p.block=true)->DataW.TrodVars enc P W' sp s.vars (s.fn H (ds ++ gs)).vars pv)(hps:before=pa ++ pv)(hB:Below W.heap.size W W')(hok:∀ (j:Nat) (t:TypeId) (r:Value),f.resultTypes[j]? = some t->(v.resultList f.resultTypes.size)[j]? = some r->Value.okWide P W' .any 0 t r) :
  s.post enc P f apart fresh handsOn again W args v W':=by
 have hlt:=hW.lt
 have hold:∀ p∈before,(fun b=>decide (b<W.heap.size)) p.block=true:=fun p hp=>by simpa using hW.lt p hp
 refine ⟨ds,gs,before,[],pa,pv,hW,hres _ _ _,hargs _ hold,hvars _ hold,World.keptBut_mono (fun p hp=>⟨hp,?_⟩) (hB.frame (·∈before)),fun _=>?_⟩
 .rw [hps,List.mem_append] at hp
  exact Or.inr hp
 .obtain ⟨_,_,_,_,_,hz,hn⟩:=hW
  refine ⟨hok,_,_,([] ++ pa) ++ pv,⟨[] ++ pa,pv,trodAll_append (hargs _ (fun _ _=>rfl)) (hres _ _ _),hvars _ (fun _ _=>rfl),rfl,?_,?_⟩,?_⟩
  .intro b off hp
   have hp':MemPlace.cell b off∈before:=by rw [hps];simpa using hp
   rw [hB.frozen (hlt _ hp')]
   exact hz b off hp'
  .intro ha
   have:=hn ha
   rw [hps] at this
   simpa using this
  .intro p hp _
   rw [hps]
   simpa using hp
end
end Go.Sy
