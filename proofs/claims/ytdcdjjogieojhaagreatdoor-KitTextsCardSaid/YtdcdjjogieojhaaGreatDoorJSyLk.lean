/-
 A symbolic executor for the model's code: looking a key up in a map that nobody writes. Conditions: none.
-/
import Derived.Test.YtdcdjjogieojhaaGreatDoorJSyT
namespace Go.Sy
set_option linter.unusedVariables false
set_option linter.unusedSimpArgs false
open Go.RowKit
set_option linter.unusedSectionVars false
variable [Globs]
section runs
variable {P:Program}
def i64B (P:Program) (t:TypeId):Bool:=match P.underlying t with
 | some (.int .i64)=>true
 | _=>false
theorem i64B_ok {t:TypeId} (h:i64B P t=true):P.underlying t=some (.int .i64):=by
 unfold i64B at h;split at h
 ·assumption
 ·cases h
theorem eqS_struct (d:Nat) {k:TypeId} {fs:Array Field} (hu:P.underlying k=some (.struct fs)) (h8:P.stoodInHeld k=false) (xs ys:List SV) :
  eqS P (d+1) k (.agg xs) (.agg ys)=eqList (eqS P d) P xs ys ((fs.toList.filter fun f=>f.name != "_").map fun f=>(f.type,f.offset)):=by
 simp only [eqS,hu,h8,if_true]
theorem eqS_int (d:Nat) {t:TypeId} (h:P.underlying t=some (.int .i64)) (a b:Int):eqS P (d+1) t (.int .i64 a) (.int .i64 b)=some (decide (a=b)):=by
 simp only [eqS,h,if_true]
theorem chk_int {d:Nat} {t:TypeId} (h:P.underlying t=some (.int .i64)) (em:Bool) (a:Int) (w:World):(Instr.checkKey em (d+1) t (.int .i64 a)).run P w=.ok () w:=by
 unfold Instr.checkKey;simp [run_underlying h,Result.andThen]
def pairB (P:Program) (k:TypeId):Bool:=match P.underlying k with
 | some (.struct fs)=>(match fs.toList with
  | [f,g]=>i64B P f.type&&i64B P g.type&&Nat.beq f.offset 0&&Nat.beq g.offset 1&&f.name != "_"&&g.name != "_"&&(match aggOf P f.type,aggOf P g.type with | some false,some false=>true | _,_=>false)&&!P.stoodInHeld k
  | _=>false)
 | _=>false
theorem pair_keys {k:TypeId} (h:pairB P k=true):KeyLaws P k pairV:=by
 unfold pairB at h
 split at h <;> try (cases h;done)
 rename_i fs hu
 split at h <;> try (cases h;done)
 rename_i f g hfs
 simp only [Bool.and_eq_true,Bool.not_eq_true'] at h
 obtain ⟨⟨⟨⟨⟨⟨⟨h1,h2⟩,h3⟩,h4⟩,h5⟩,h6⟩,h7⟩,h8⟩:=h
 have e1:=i64B_ok h1
 have e2:=i64B_ok h2
 have e3:f.offset=0:=by simpa using h3
 have e4:g.offset=1:=by simpa using h4
 have e7:aggOf P f.type=some false∧aggOf P g.type=some false:=by split at h7 <;> simp_all
 have fse:fs=#[f,g]:=by apply Array.toList_inj.1;simpa using hfs
 subst fse
 have p1:∀ (w:World) (x:Int × Int),(part f.type #[Value.int .i64 x.1,.int .i64 x.2] f.offset).run P w=.ok (.int .i64 x.1) w:=fun w x=>by
  simp only [part,Sem.run_bind,run_isAgg e7.1,Result.andThen_ok,Bool.false_eq_true,if_false,e3];rfl
 have p2:∀ (w:World) (x:Int × Int),(part g.type #[Value.int .i64 x.1,.int .i64 x.2] g.offset).run P w=.ok (.int .i64 x.2) w:=fun w x=>by
  simp only [part,Sem.run_bind,run_isAgg e7.2,Result.andThen_ok,Bool.false_eq_true,if_false,e4];rfl
 have n1:f.name≠"_":=by simpa using h5
 have n2:g.name≠"_":=by simpa using h6
 refine pairKeys hu (fun w x y=>?_) fun w em x=>?_
 ·have hl:eqList (eqS P 9999) P [.int .i64 x.1,.int .i64 x.2] [.int .i64 y.1,.int .i64 y.2] [(f.type,f.offset),(g.type,g.offset)]=some (decide (x.1=y.1)&&(decide (x.2=y.2)&&true)):=by
   simp only [eqList,partS,e7.1,e7.2,e3,e4,List.getElem?_cons_zero,List.getElem?_cons_succ]
   cases hsz:szOf P f.type <;> cases hsz':szOf P g.type <;> simp only [eqS_int 9998 e1,eqS_int 9998 e2]
  have hs:eqS P 10000 k (.agg [.int .i64 x.1,.int .i64 x.2]) (.agg [.int .i64 y.1,.int .i64 y.2])=some (decide (x.1=y.1)&&(decide (x.2=y.2)&&true)):=by
   rw [eqS_struct 9999 hu h8,← hl]
   congr 1
   simp [n1,n2]
  have:=eqS_run 10000 k _ _ _ hs ⟨fun _=>none,anyOd,any_gl⟩ (pairV x) (pairV y) w ⟨_,rfl,rfl,rfl,trivial⟩ ⟨_,rfl,rfl,rfl,trivial⟩
  show (Op.equalIn 10000 k (pairV x) (pairV y)).run P w=_
  rw [this]
  have hd:(decide (x.1=y.1)&&(decide (x.2=y.2)&&true))=decide (x=y):=by
   rw [Bool.eq_iff_iff];simp [Prod.ext_iff]
  rw [hd]
 ·show (Instr.checkKey em (9999+1) k (pairV x)).run P w=_
  unfold Instr.checkKey pairV
  simp [run_underlying hu,Result.andThen,n1,n2,p1,p2]
  rw [show (9999:Nat)=9998+1 from rfl,chk_int e1]
  exact chk_int e2 em _ w
def zPtr (P:Program) (e:TypeId):Bool:=match zeroOf P e with
 | some (.pointer none)=>true
 | _=>false
def zBool (P:Program) (e:TypeId):Bool:=match zeroOf P e with
 | some (.bool false)=>true
 | _=>false
theorem zPtr_ok {e:TypeId} (h:zPtr P e=true) (w:World):(zeroValue e).run P w=.ok (.pointer none) w:=by
 unfold zPtr at h
 split at h
 ·rename_i hz;exact run_zeroOf hz w
 ·cases h
theorem zBool_ok {e:TypeId} (h:zBool P e=true) (w:World):(zeroValue e).run P w=.ok (.bool false) w:=by
 unfold zBool at h
 split at h
 ·rename_i hz;exact run_zeroOf hz w
 ·cases h
def zStr (P:Program) (e:TypeId):Bool:=match zeroOf P e with
 | some (.string _)=>true
 | _=>false
theorem zStr_ok {e:TypeId} (h:zStr P e=true) (w:World):∃ s,(zeroValue e).run P w=.ok (.string s) w:=by
 unfold zStr at h
 split at h
 ·rename_i hz;exact ⟨_,run_zeroOf hz w⟩
 ·cases h
def boolB (P:Program) (k:TypeId):Bool:=match P.underlying k with
 | some .bool=>true
 | _=>false
theorem boolB_ok {k:TypeId} (h:boolB P k=true):P.underlying k=some .bool:=by
 unfold boolB at h
 split at h
 ·assumption
 ·cases h
def xLookup (P:Program) (t:TypeId) (ok:Bool) (m x:SV):Option OpRes :=
 match P.underlying t with
 | some (.map k e)=>(match m,x with
  | .mp (.mi sh) d,.int .i64 r=>if i64B P k&&zPtr P e then some { v:=cond ok (.tup [.rq (decide (0≤r)&&d.bb r.toNat 0) sh (d.sub r.toNat 1) 0 0,.bool (decide (0≤r)&&d.bb r.toNat 0)]) (.rq (decide (0≤r)&&d.bb r.toNat 0) sh (d.sub r.toNat 1) 0 0) } else none
  | .mp .m1 d,.int .i64 r=>if i64B P k&&zBool P e&&!ok then some { v:=.bool (decide (0≤r)&&d.bb r.toNat 0) } else none
  | .mp .mb d,.agg [.int .i64 c,.int .i64 n]=>if pairB P k&&zBool P e&&!ok then some { v:=.bool (decide (0≤c)&&decide (0≤n)&&d.bb c.toNat n.toNat) } else none
  | .gv 1,.bool c=>if boolB P k&&zStr P e&&!ok then some { v:=.str (resW c) } else none
  | _,_=>none)
 | _=>none
theorem run_xLookup {B:Nat} {M:List Nat} {ρ:Env} {mem:Nat→Blk} {w:World} (hM:MemDen B M ρ mem w) {t:TypeId} {ok:Bool} {m x:SV} {r:OpRes} (h:xLookup P t ok m x=some r) {u v:Value} (hm:m.den ρ u) (hx:x.den ρ v) (off:Nat) :
  ∃ y,(Instr.lookup t u v ok).run P w=.ok y w∧OpPost ρ ρ off r w w y:=by
 unfold xLookup at h
 split at h <;> try (cases h;done)
 rename_i k e ht
 split at h <;> try (cases h;done)
 ·rename_i sh d q
  split at h <;> cases h
  rename_i hc
  simp only [Bool.and_eq_true] at hc
  obtain ⟨b,es,cl,f,rfl,hb,ho,hs,hf⟩:=hm
  cases hx
  have hat:MapAt w b (Value.int .i64) f:=⟨es,cl,hM.seal_.m b _ hb,ho⟩
  refine ⟨_,hat.lookup (intKeys (i64B_ok hc.1)) ht (zPtr_ok hc.2 w) q ok,?_⟩
  have hsq:=hs q
  have hd:(SV.rq (decide (0≤q)&&d.bb q.toNat 0) sh (d.sub q.toNat 1) 0 0).den ρ ((f q).getD (.pointer none)):=by
   cases hfq:f q with
   | none=>rw [hfq] at hsq;exact .inr ⟨hsq.symm,rfl⟩
   | some y =>
    rw [hfq] at hsq
    obtain ⟨b',o',rfl,hL⟩:=hf q y hfq
    exact .inl ⟨hsq.symm,b',o',rfl,hL⟩
  cases ok
  ·exact OpPost.pure_ hd
  ·exact OpPost.pure_ ⟨_,rfl,hd,by rw [hsq];rfl,trivial⟩
 ·rename_i d q
  split at h <;> cases h
  rename_i hc
  simp only [Bool.and_eq_true,Bool.not_eq_true'] at hc
  obtain ⟨⟨h1,h2⟩,rfl⟩:=hc
  obtain ⟨b,es,cl,f,rfl,hb,ho,hf⟩:=hm
  cases hx
  have hat:MapAt w b (Value.int .i64) f:=⟨es,cl,hM.seal_.m b _ hb,ho⟩
  refine ⟨_,hat.lookup (intKeys (i64B_ok h1)) ht (zBool_ok h2 w) q false,OpPost.pure_ ?_⟩
  show (f q).getD (.bool false)=.bool (decide (0≤q)&&d.bb q.toNat 0)
  rw [hf q]
  show (if (decide (0≤q)&&d.bb q.toNat 0)=true then some (Value.bool true) else none).getD (.bool false)=_
  cases (decide (0≤q)&&d.bb q.toNat 0) <;> rfl
 ·rename_i d c n
  split at h <;> cases h
  rename_i hc
  simp only [Bool.and_eq_true,Bool.not_eq_true'] at hc
  obtain ⟨⟨h1,h2⟩,rfl⟩:=hc
  obtain ⟨b,es,cl,f,rfl,hb,ho,hf,_⟩:=hm
  obtain ⟨xs,rfl,hxs⟩:=hx
  match xs,hxs with
  | [x1,x2],⟨e1,e2,_⟩ =>
  cases e1;cases e2
  have hat:MapAt w b pairV f:=⟨es,cl,hM.seal_.m b _ hb,ho⟩
  refine ⟨_,hat.lookup (pair_keys h1) ht (zBool_ok h2 w) (c,n) false,OpPost.pure_ ?_⟩
  show (f (c,n)).getD (.bool false)=.bool (decide (0≤c)&&decide (0≤n)&&d.bb c.toNat n.toNat)
  rw [hf (c,n)]
  show (if (decide (0≤c)&&decide (0≤n)&&d.bb c.toNat n.toNat)=true then some (Value.bool true) else none).getD (.bool false)=_
  cases (decide (0≤c)&&decide (0≤n)&&d.bb c.toNat n.toNat) <;> rfl
 ·rename_i c
  split at h <;> cases h
  rename_i hc
  simp only [Bool.and_eq_true,Bool.not_eq_true'] at hc
  obtain ⟨⟨h1,h2⟩,rfl⟩:=hc
  cases hx
  obtain ⟨b,es,cl,rfl,g2,g3⟩:=hm
  have hat:MapAt w b Value.bool (fun k=>some (.string (resW k))):=⟨es,cl,hM.seal_.m b _ g2,g3⟩
  obtain ⟨z,hz⟩:=zStr_ok h2 w
  exact ⟨_,hat.lookup (boolKeys (boolB_ok h1)) ht hz c false,OpPost.pure_ rfl⟩
end runs
end Go.Sy
