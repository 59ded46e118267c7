/-
 A symbolic executor for the model's code, part Y: contracts with a result that is told ahead. Conditions: none.
-/
import Derived.Test.YtpfipoimpmlmoaaGreatDoorJSyX
namespace Go.Sy
set_option linter.unusedVariables false
set_option linter.unusedSimpArgs false
open Go.RowKit
section runs
variable {P:Program}
def eqv:Nat→SV→SV→Bool
 | 0,_,_=>false
 | f+1,a,b=>match a,b with
  | .int k n,.int k' m=>(if k=k' then true else false)&&decide (n=m)
  | .bool x,.bool y=>x == y
  | .str s,.str t=>decide (s=t)
  | .nsl,.nsl=>true
  | .ro sh n d,.ro sh' n' d'=>kdsEq sh sh'&&(Nat.beq n n'&&(List.range n).all fun q=>((el sh d q).zip (el sh' d' q)).all fun p=>eqv f p.1 p.2)
  | .agg l,.agg m=>Nat.beq l.length m.length&&(l.zip m).all fun p=>eqv f p.1 p.2
  | .tup l,.tup m=>Nat.beq l.length m.length&&(l.zip m).all fun p=>eqv f p.1 p.2
  | _,_=>false
theorem eqvL_den {f:Nat} (ih:∀ a b:SV,eqv f a b=true→∀ (ρ:Env) (x:Value),a.den ρ x→b.den ρ x) {ρ:Env}:∀ {l m:List SV} {xs:List Value},l.length=m.length→((l.zip m).all fun p=>eqv f p.1 p.2)=true→SV.denL ρ l xs→SV.denL ρ m xs
 | [],[],xs,_,_,h=>h
 | a :: l,b :: m,[],_,_,h=>h.elim
 | a :: l,b :: m,x :: xs,hl,hz,⟨h1,h2⟩=>by
  simp only [List.zip_cons_cons,List.all_cons,Bool.and_eq_true] at hz
  exact ⟨ih a b hz.1 ρ x h1,eqvL_den ih (by simpa using hl) hz.2 h2⟩
 | [],_ :: _,_,hl,_,_=>by simp at hl
 | _ :: _,[],_,hl,_,_=>by simp at hl
theorem eqv_den:∀ (f:Nat) (a b:SV),eqv f a b=true→∀ (ρ:Env) (x:Value),a.den ρ x→b.den ρ x
 | 0,a,b,h,_,_,_=>by simp [eqv] at h
 | f+1,a,b,h,ρ,x,hd=>by
  unfold eqv at h
  split at h
  ·rename_i k n k' m
   simp only [Bool.and_eq_true,decide_eq_true_eq] at h
   obtain ⟨h1,h2⟩:=h
   split at h1 <;> simp at h1
   rename_i hk;subst hk;subst h2;exact hd
  ·rename_i p q
   have:p=q:=by simpa using h
   subst this;exact hd
  ·rename_i p q
   have:p=q:=by simpa using h
   subst this;exact hd
  ·exact hd
  ·rename_i sh n d sh' n' d'
   simp only [Bool.and_eq_true] at h
   obtain ⟨h1,h2,h3⟩:=h
   have e1:=kdsEq_ok h1
   subst e1
   have e2:n=n':=by simpa using h2
   subst e2
   obtain ⟨A,cap,hx,hc,hA⟩:=hd
   refine ⟨A,cap,hx,hc,fun h0=>?_⟩
   obtain ⟨bb,o,ha,hq⟩:=hA h0
   refine ⟨bb,o,ha,fun q hlt=>?_⟩
   have g:=hq q hlt
   rw [kdE_iff] at g ⊢
   have hz:=List.all_eq_true.1 h3 q (List.mem_range.2 hlt)
   intro j v' hv'
   have hj:j<(el sh d q).length:=by rw [el_length];have:=(List.getElem?_eq_some_iff.1 hv').1;rwa [el_length] at this
   have hv:(el sh d q)[j]? = some ((el sh d q)[j]):=List.getElem?_eq_getElem hj
   obtain ⟨y,hy,hyd⟩:=g j _ hv
   refine ⟨y,hy,eqv_den f _ _ ?_ ρ y hyd⟩
   refine List.all_eq_true.1 hz ((el sh d q)[j],v') ?_
   refine List.mem_iff_getElem?.2 ⟨j,?_⟩
   rw [List.getElem?_zip_eq_some]
   exact ⟨hv,hv'⟩
  ·rename_i l m
   simp only [Bool.and_eq_true] at h
   obtain ⟨xs,hx,hl⟩:=hd
   exact ⟨xs,hx,eqvL_den (eqv_den f) (by simpa using h.1) h.2 hl⟩
  ·rename_i l m
   simp only [Bool.and_eq_true] at h
   obtain ⟨xs,hx,hl⟩:=hd
   exact ⟨xs,hx,eqvL_den (eqv_den f) (by simpa using h.1) h.2 hl⟩
  ·simp at h
def litC (c:Ctr) (v:SV):Ctr:=fun off mem args=>match c off mem args with
 | some r=>match r.news,r.upds with
  | [],[]=>some { v:=v,need:=r.need ++ [eqv 9 r.v v] }
  | _,_=>none
 | none=>none
theorem lit_ok {c:Ctr} {f:FuncId} (h:CtrOk P c f) (v:SV):CtrOk P (litC c v) f:=by
 refine ⟨h.1,fun B M ρ mem off args r hr hn hf xs w hd hm hB hfr=>?_⟩
 unfold litC at hr
 split at hr <;> try (cases hr;done)
 rename_i r0 hr0
 split at hr <;> cases hr
 rename_i hnews hupds
 obtain ⟨v0,news0,upds0,need0⟩:=r0
 simp only at hnews hupds
 subst hnews;subst hupds
 have hn0:∀ b∈need0,b=true:=fun b hb=>hn b (List.mem_append.2 (.inl hb))
 have he:eqv 9 v0 v=true:=hn _ (List.mem_append.2 (.inr (List.mem_singleton.2 rfl)))
 refine (h.2 B M ρ mem off args _ hr0 hn0 ⟨fun u hu=>by simp at hu,fun u hu=>by simp at hu⟩ xs w hd hm hB (fun j hj=>by simp at hj)).mono ?_
 rintro e w' ⟨x,ρ',rfl,hp⟩
 exact ⟨x,ρ',rfl,⟨eqv_den 9 _ _ he _ _ hp.val,hp.ext,hp.old,hp.os,hp.tape,hp.output,hp.size,hp.keep,hp.odn,fun u hu=>by simp at hu,fun j b hj=>by simp at hj,fun j j' b b' m m' hne hj=>by simp at hj⟩⟩
end runs
end Go.Sy
