/-
 Contracts of functions: models, equations by the kernel, contracts. Conditions: none.
-/
import Derived.Test.YtdcdjjogieojhaaGreatDoorJ8
import Derived.KernelRfl
namespace Go.Proofs.YtdcdjjogieojhaaGreatDoor
open Go Go.Sy
noncomputable section
set_option linter.unusedVariables false
set_option linter.unusedSimpArgs false
set_option maxRecDepth 100000
set_option maxHeartbeats 2000000
attribute [local irreducible] Go.IntKind.wrap Int.tdiv Int.tmod Int.fdiv
open Go.Sy renaming tabOk_cons→tc,tabOk_nil→tn,cnd_need→cn,leaf_of→lf,cnd_gg→cg,cnd_gg2→ch,cond_f→cf,cond_t→ct,cnd_of→co,callOf→ca,roundOf→ro,cnd_not→nn,lams_cons→lc,lams_nil→ln,condT→cT,condF→cF,need1→n1,resOf→rs,and_l→al,and_r→ar,or_gg→og,ctr_of→cx,loop_blk→lb
open Go.IntKind renaming i64→Z
open Go.Sy.SV renaming int→V
open Go.Sy.Kd renaming int→W
/-! ### shotline/shotlinebase.Cut -/
def l33_0 (g:ByteArray) (m:Int):Nat→Nat→Int→Int→Dat→Option (Nat × Int × Nat × Dat)
 | 0,_,_,_,_=>none
 | f+1,i,l,d,b=>(cond (decide (d<(↑g.size:Int))) (cond (decide (0≤d∧d<(↑g.size:Int))) (cond (decide ((byteAt g d.toNat)=m)) (cond (decide (0≤l∧l≤d∧d≤(↑g.size:Int))) (cond (decide ((i+1)≤1073741824)) (l33_0 g m f (i+1) (Z.wrap (d+1)) (Z.wrap (d+1)) (b.app i (datS [SV.str (g.extract l.toNat d.toNat)] 1))) none) none) (l33_0 g m f i l (Z.wrap (d+1)) b)) none) (some (i,l,i,b)))
abbrev o33_0 (g:ByteArray) (m:Int) (i:Nat) (l d:Int) (b:Dat):Option (Nat × Int × Nat × Dat):=l33_0 g m (g.size+m.toNat+i+l.toNat+d.toNat+8) i l d b
def e33_0 (g:ByteArray) (m:Int) (r:Nat × Int × Nat × Dat) (K:XR):Prop:=K (XE.exit 0) [.str g,.gr 0 1 r.1,V Z r.2.1] [.row 9 [.str] r.2.2.1 r.2.2.2]
def g33_0:LSum:=fun s k=>match czv 0 34 [0,1,5,6,7] 1 [⟨true,5,0,0,9,[.str]⟩] s with
 | some ([.str g,.int .u8 m,.gr 0 1 i,V Z l,V Z d],[.row 9 [.str] b0_0 b])=>needs [decide (i=b0_0),(o33_0 g m i l d b).isSome] (e33_0 g m ((o33_0 g m i l d b).getD default) fun e vs bs=>inBlk 0 k e (mkSt 0 34 [0,5,6] vs 1 bs))
 | _=>False
theorem z33_0:LOk Tryz.prog g33_0 (.block 0 (bodyAt (Tryz.f33.body.getD .skip) 0)):=by
 refine lb (ι:=ByteArray × Int × Nat × Int × Int × Dat) (fuel:=8) (na:=0) (nt:=34) (nx:=1) (Lh:=[0,1,5,6,7]) (Le:=[0,5,6]) (gl:=[⟨true,5,0,0,9,[.str]⟩]) tn mix_ok noLam rfl (fun f (g,m,i,l,d,b) K=>GG default (e33_0 g m) K (l33_0 g m f i l d b)) (fun (g,m,i,l,d,b)=>[.str g,.int .u8 m,.gr 0 1 i,V Z l,V Z d]) (fun (g,m,i,l,d,b)=>[.row 9 [.str] i b]) (fun (_,_,_,_,_,_) K=>gg_none) ?_ ?_
 ·rintro f ⟨g,m,i,l,d,b⟩ K hG
  refine ro (fun R=>(cnd (decide (d<(↑g.size:Int)))
 (cnd (decide (0≤d∧d<(↑g.size:Int)))
 (cnd (decide ((byteAt g d.toNat)=m))
 (cnd (decide (0≤l∧l≤d∧d≤(↑g.size:Int)))
 (cnd (decide (i≤i))
 (cnd (decide ((i+1)≤1073741824))
 (R (XE.normal) [.str g,.int .u8 m,.gr 0 1 (i+1),V Z (Z.wrap (d+1)),V Z (Z.wrap (d+1))] [.row 9 [.str] (i+1) (b.app i (datS [SV.str (g.extract l.toNat d.toNat)] 1))])
    False)
   False)
   False)
 (R (XE.normal) [.str g,.int .u8 m,.gr 0 1 i,V Z l,V Z (Z.wrap (d+1))] [.row 9 [.str] i b]))
  False)
 (R (XE.exit 0) [.str g,.gr 0 1 i,V Z l] [.row 9 [.str] i b]))) (fun R=>by kernel_rfl) ?_
  exact ch hG (fun h0=>cg h0 fun h1=>ch h1 (fun h2=>cg h2 fun h3=>cn (decide_eq_true (Nat.le_refl _)) (cg h3 fun h4=>⟨(_,_,_,_,_,_),rfl,rfl,h4⟩)) (fun h2=>⟨(_,_,_,_,_,_),rfl,rfl,h2⟩)) (fun h0=>h0.2)
 ·intro s k h
  unfold g33_0 at h
  split at h <;> try exact h.elim
  rename_i e1
  rw [needs_iff] at h
  have hq:=h.1
  simp only [List.mem_cons,forall_eq_or_imp,decide_eq_true_eq,List.not_mem_nil,false_imp_iff,implies_true,and_true] at hq
  obtain ⟨rfl,hq⟩:=hq
  exact ⟨_,e1,_,(_,_,_,_,_,_),rfl,rfl,hq,h.2⟩
def m33 (a:ByteArray) (j:Int):Nat × Dat :=
 ((((o33_0 a j 0 0 0 noDat).getD default).1+1),(((o33_0 a j 0 0 0 noDat).getD default).2.2.2.app ((o33_0 a j 0 0 0 noDat).getD default).1 (datS [SV.str (a.extract (((o33_0 a j 0 0 0 noDat).getD default).2.1.toNat) ((↑a.size:Int).toNat))] 1)))
def n33 (a:ByteArray) (j:Int):Bool :=
 (((o33_0 a j 0 0 0 noDat).isSome)&&((decide (0≤((o33_0 a j 0 0 0 noDat).getD default).2.1∧((o33_0 a j 0 0 0 noDat).getD default).2.1≤(↑a.size:Int)∧(↑a.size:Int)≤(↑a.size:Int)))&&((decide (((o33_0 a j 0 0 0 noDat).getD default).1≤((o33_0 a j 0 0 0 noDat).getD default).2.2.1))&&((decide ((((o33_0 a j 0 0 0 noDat).getD default).1+1)≤1073741824))&&((decide ((0+(((o33_0 a j 0 0 0 noDat).getD default).1+1))≤(((o33_0 a j 0 0 0 noDat).getD default).1+1)))&&true)))))
def q33 (r:Nat × Dat):SV × List Blk × List Blk:=(.ro [.str] r.1 r.2,[],[])
def g33:GF:=fun vs bs=>match vs,bs with
 | [.str a,.int .u8 j],[]=>some (rs 0 (q33 (m33 a j)) [n33 a j])
 | _,_=>none
def c33:Ctr:=genC [.k,.k] g33
theorem k33:CtrOk Tryz.prog c33 33:=cx tn mix_ok 8 (fn:=Tryz.f33) (c:=(Tryz.f33.body.getD .skip)) (grs:=[]) (rh:=.ro [.str]) Tryz.func33 rfl (by kernel_rfl) (lam_of rfl (lc z33_0 ln)) fun vs bs q h hn=>by
 unfold g33 at h
 split at h <;> cases h
 rename_i a j
 have hn:=n1 hn
 exact ⟨_,rfl,ca (fun R => 
 let a0:=((o33_0 a j 0 0 0 noDat).getD default)
 (cnd ((o33_0 a j 0 0 0 noDat).isSome)
 (cnd (decide (0≤a0.2.1∧a0.2.1≤(↑a.size:Int)∧(↑a.size:Int)≤(↑a.size:Int)))
 (cnd (decide (a0.1≤a0.2.2.1))
 (cnd (decide ((a0.1+1)≤1073741824))
 (cnd (decide ((0+(a0.1+1))≤(a0.1+1)))
 (R (.ro [.str] (a0.1+1) (a0.2.2.2.app a0.1 (datS [SV.str (a.extract (a0.2.1.toNat) ((↑a.size:Int).toNat))] 1))) [] [])
   False)
   False)
  False)
  False)
 False)) (fun R=>by kernel_rfl) (cn (al hn) (cn (al (ar hn)) (cn (al (ar (ar hn))) (cn (al (ar (ar (ar hn)))) (cn (al (ar (ar (ar (ar hn))))) (lf rfl rfl))))))⟩
/-! ### shotline/shotlinebase.Size -/
def m72 (a:Int):Int :=
 (imax a (Z.wrap (0 - a)))
def q72 (r:Int):SV × List Blk × List Blk:=(V Z r,[],[])
def g72:GF:=fun vs bs=>match vs,bs with
 | [V Z a],[]=>some (rs 0 (q72 (m72 a)) [])
 | _,_=>none
def c72:Ctr:=genC [.k] g72
theorem k72:CtrOk Tryz.prog c72 72:=cx tn mix_ok 8 (fn:=Tryz.f72) (c:=(Tryz.f72.body.getD .skip)) (grs:=[]) (rh:=.k) Tryz.func72 rfl (by kernel_rfl) noLam fun vs bs q h hn=>by
 unfold g72 at h
 split at h <;> cases h
 rename_i a
 exact ⟨_,rfl,ca (fun R=>(R (V Z (imax a (Z.wrap (0 - a)))) [] [])) (fun R=>by kernel_rfl) (lf rfl rfl)⟩
/-! ### shotline/shotlineref07.passed -/
def m36 (a:Bool):ByteArray :=
 (cond (a) ({ data:=#[112,97,115,115] }:ByteArray) ({ data:=#[102,97,105,108] }:ByteArray))
def q36 (r:ByteArray):SV × List Blk × List Blk:=(.str r,[],[])
def g36:GF:=fun vs bs=>match vs,bs with
 | [.bool a],[]=>some (rs 0 (q36 (m36 a)) [])
 | _,_=>none
def c36:Ctr:=genC [.k] g36
theorem k36:CtrOk Tryz.prog c36 36:=cx tn mix_ok 8 (fn:=Tryz.f36) (c:=(Tryz.f36.body.getD .skip)) (grs:=[]) (rh:=.k) Tryz.func36 rfl (by kernel_rfl) noLam fun vs bs q h hn=>by
 unfold g36 at h
 split at h <;> cases h
 rename_i a
 exact ⟨_,rfl,ca (fun R=>(cnd (a)
 (R (.str ({ data:=#[112,97,115,115] }:ByteArray)) [] [])
 (R (.str ({ data:=#[102,97,105,108] }:ByteArray)) [] []))) (fun R=>by kernel_rfl) (co (fun h0=>lf (cT h0 rfl) rfl) (fun h0=>lf (cF h0 rfl) rfl))⟩
/-! ### shotline/shotlinebase.Number -/
def l34_0 (d:ByteArray) (g:Int):Nat→Int→Int→Option (Bool × (Int × Bool × Int) × (Int))
 | 0,_,_=>none
 | f+1,i,b=>(cond (decide (b<(↑d.size:Int))) (cond (decide (0≤b∧b<(↑d.size:Int))) (cond (bif (bif (bif (decide ((byteAt d b.toNat)<48)) then false else true) then false else true) then true else (decide (0≤b∧b<(↑d.size:Int)))) (cond (bif (decide ((byteAt d b.toNat)<48)) then true else (decide (57<(byteAt d b.toNat)))) (some (true,(0,false,i),default)) (cond (decide (0≤b∧b<(↑d.size:Int))) (l34_0 d g f (Z.wrap ((Z.wrap (10 * i))+(Z.wrap (IntKind.u8.wrap ((byteAt d b.toNat) - 48))))) (Z.wrap (b+1))) none)) none) none) (some (false,default,i)))
abbrev o34_0 (d:ByteArray) (g i b:Int):Option (Bool × (Int × Bool × Int) × (Int)):=l34_0 d g (d.size+g.toNat+i.toNat+b.toNat+8) i b
def e34_0 (d:ByteArray) (g:Int) (r:Bool × (Int × Bool × Int) × (Int)) (K:XR):Prop:=cnd r.1 (K (XE.ret) [V Z r.2.1.1,.bool r.2.1.2.1,V Z g,V Z r.2.1.2.2] []) (K (XE.exit 0) [.any,.any,V Z g,V Z r.2.2] [])
def g34_0:LSum:=fun s k=>match czv 0 70 [0,6,7,8] 0 [] s with
 | some ([.str d,V Z g,V Z i,V Z b],[])=>needs [(o34_0 d g i b).isSome] (e34_0 d g ((o34_0 d g i b).getD default) fun e vs bs=>inBlk 0 k e (mkSt 0 70 [4,5,6,7] vs 0 bs))
 | _=>False
theorem z34_0:LOk Tryz.prog g34_0 (.block 0 (bodyAt (Tryz.f34.body.getD .skip) 0)):=by
 refine lb (ι:=ByteArray × Int × Int × Int) (fuel:=8) (na:=0) (nt:=70) (nx:=0) (Lh:=[0,6,7,8]) (Le:=[4,5,6,7]) (gl:=[]) tn mix_ok noLam rfl (fun f (d,g,i,b) K=>GG default (e34_0 d g) K (l34_0 d g f i b)) (fun (d,g,i,b)=>[.str d,V Z g,V Z i,V Z b]) (fun (d,g,i,b)=>[]) (fun (_,_,_,_) K=>gg_none) ?_ ?_
 ·rintro f ⟨d,g,i,b⟩ K hG
  refine ro (fun R => 
 let a0:=(decide (0≤b∧b<(↑d.size:Int)))
 (cnd (decide (b<(↑d.size:Int)))
 (cnd a0
 (cnd (bif (bif (bif (decide ((byteAt d b.toNat)<48)) then false else true) then false else true) then true else a0)
 (cnd (bif (decide ((byteAt d b.toNat)<48)) then true else (decide (57<(byteAt d b.toNat))))
 (R (XE.ret) [V Z 0,.bool false,V Z g,V Z i] [])
 (cnd a0
 (R (XE.normal) [.str d,V Z g,V Z (Z.wrap ((Z.wrap (10 * i))+(Z.wrap (IntKind.u8.wrap ((byteAt d b.toNat) - 48))))),V Z (Z.wrap (b+1))] [])
   False))
  False)
  False)
 (R (XE.exit 0) [.any,.any,V Z g,V Z i] []))) (fun R=>by kernel_rfl) ?_
  exact ch hG (fun h0=>cg h0 fun h1=>cg h1 fun h2=>ch h2 (fun h3=>h3.2) (fun h3=>cg h3 fun h4=>⟨(_,_,_,_),rfl,rfl,h4⟩)) (fun h0=>h0.2)
 ·intro s k h
  unfold g34_0 at h
  split at h <;> try exact h.elim
  rename_i e1
  rw [needs_iff] at h
  exact ⟨_,e1,_,(_,_,_,_),rfl,rfl,h.1 _ (List.mem_singleton.2 rfl),h.2⟩
def m34 (a:ByteArray) (j:Int):Int × Bool :=
 (cond (bif (decide ((0:Int)<(↑a.size:Int))) then (decide ((byteAt a 0)=45)) else false) (cond (bif (bif (decide ((↑a.size:Int)=1)) then true else (decide (j<(Z.wrap ((↑a.size:Int) - 1))))) then true else (bif (decide ((byteAt a 1)=48)) then (decide (1<(↑a.size:Int))) else false)) (0,false) (cond ((o34_0 a 1 0 1).getD default).1 (((o34_0 a 1 0 1).getD default).2.1.1,((o34_0 a 1 0 1).getD default).2.1.2.1) ((Z.wrap (0 - ((o34_0 a 1 0 1).getD default).2.2)),true))) (cond (bif (bif (decide ((↑a.size:Int)=0)) then true else (decide (j<(Z.wrap ((↑a.size:Int) - 0))))) then true else (bif (decide ((byteAt a 0)=48)) then (decide (1<(↑a.size:Int))) else false)) (0,false) (cond ((o34_0 a 0 0 0).getD default).1 (((o34_0 a 0 0 0).getD default).2.1.1,((o34_0 a 0 0 0).getD default).2.1.2.1) (((o34_0 a 0 0 0).getD default).2.2,true))))
def n34 (a:ByteArray) (j:Int):Bool :=
 ((bif (bif (decide ((0:Int)<(↑a.size:Int))) then false else true) then true else (decide ((0:Int)≤(0:Int)∧(0:Int)<(↑a.size:Int))))&&(cond (bif (decide ((0:Int)<(↑a.size:Int))) then (decide ((byteAt a 0)=45)) else false) ((bif (bif (bif (bif (decide ((↑a.size:Int)=1)) then true else (decide (j<(Z.wrap ((↑a.size:Int) - 1))))) then false else true) then false else true) then true else (decide ((0:Int)≤(1:Int)∧(1:Int)<(↑a.size:Int))))&&(cond (bif (bif (decide ((↑a.size:Int)=1)) then true else (decide (j<(Z.wrap ((↑a.size:Int) - 1))))) then true else (bif (decide ((byteAt a 1)=48)) then (decide (1<(↑a.size:Int))) else false)) true (((o34_0 a 1 0 1).isSome)&&true))) ((bif (bif (bif (bif (decide ((↑a.size:Int)=0)) then true else (decide (j<(Z.wrap ((↑a.size:Int) - 0))))) then false else true) then false else true) then true else (decide ((0:Int)≤(0:Int)∧(0:Int)<(↑a.size:Int))))&&(cond (bif (bif (decide ((↑a.size:Int)=0)) then true else (decide (j<(Z.wrap ((↑a.size:Int) - 0))))) then true else (bif (decide ((byteAt a 0)=48)) then (decide (1<(↑a.size:Int))) else false)) true (((o34_0 a 0 0 0).isSome)&&true)))))
def q34 (r:Int × Bool):SV × List Blk × List Blk:=(.tup [V Z r.1,.bool r.2],[],[])
def g34:GF:=fun vs bs=>match vs,bs with
 | [.str a,V Z j],[]=>some (rs 0 (q34 (m34 a j)) [n34 a j])
 | _,_=>none
def c34:Ctr:=genC [.k,.k] g34
theorem k34:CtrOk Tryz.prog c34 34:=cx tn mix_ok 8 (fn:=Tryz.f34) (c:=(Tryz.f34.body.getD .skip)) (grs:=[]) (rh:=.k) Tryz.func34 rfl (by kernel_rfl) (lam_of rfl (lc z34_0 ln)) fun vs bs q h hn=>by
 unfold g34 at h
 split at h <;> cases h
 rename_i a j
 have hn:=n1 hn
 exact ⟨_,rfl,ca (fun R => 
 let a0:=(bif (decide ((↑a.size:Int)=1)) then true else (decide (j<(Z.wrap ((↑a.size:Int) - 1)))))
 let b0:=(bif (decide ((↑a.size:Int)=0)) then true else (decide (j<(Z.wrap ((↑a.size:Int) - 0)))))
 let c0:=((o34_0 a 1 0 1).getD default)
 let d0:=((o34_0 a 0 0 0).getD default)
 let e0:=(decide ((0:Int)≤(0:Int)∧(0:Int)<(↑a.size:Int)))
 (cnd (bif (bif (decide ((0:Int)<(↑a.size:Int))) then false else true) then true else e0)
 (cnd (bif (decide ((0:Int)<(↑a.size:Int))) then (decide ((byteAt a 0)=45)) else false)
 (cnd (bif (bif (bif a0 then false else true) then false else true) then true else (decide ((0:Int)≤(1:Int)∧(1:Int)<(↑a.size:Int))))
 (cnd (bif a0 then true else (bif (decide ((byteAt a 1)=48)) then (decide (1<(↑a.size:Int))) else false))
 (R (.tup [V Z 0,.bool false]) [] [])
 (cnd ((o34_0 a 1 0 1).isSome)
 (cnd c0.1
 (R (.tup [V Z c0.2.1.1,.bool c0.2.1.2.1]) [] [])
 (R (.tup [V Z (Z.wrap (0 - c0.2.2)),.bool true]) [] []))
   False))
  False)
 (cnd (bif (bif (bif b0 then false else true) then false else true) then true else e0)
 (cnd (bif b0 then true else (bif (decide ((byteAt a 0)=48)) then (decide (1<(↑a.size:Int))) else false))
 (R (.tup [V Z 0,.bool false]) [] [])
 (cnd ((o34_0 a 0 0 0).isSome)
 (cnd d0.1
 (R (.tup [V Z d0.2.1.1,.bool d0.2.1.2.1]) [] [])
 (R (.tup [V Z d0.2.2,.bool true]) [] []))
   False))
  False))
 False)) (fun R=>by kernel_rfl) (cn (al hn) (co (fun h0=>cn (al (ct h0 (ar hn))) (co (fun h1=>lf (cT h0 (cT h1 rfl)) rfl) (fun h1=>cn (al (cf h1 (ar (ct h0 (ar hn))))) (co (fun h2=>lf (cT h0 (cF h1 (cT h2 rfl))) rfl) (fun h2=>lf (cT h0 (cF h1 (cF h2 rfl))) rfl))))) (fun h0=>cn (al (cf h0 (ar hn))) (co (fun h1=>lf (cF h0 (cT h1 rfl)) rfl) (fun h1=>cn (al (cf h1 (ar (cf h0 (ar hn))))) (co (fun h2=>lf (cF h0 (cF h1 (cT h2 rfl))) rfl) (fun h2=>lf (cF h0 (cF h1 (cF h2 rfl))) rfl)))))))⟩
/-! ### shotline/shotlinebase.Decimal -/
def l35_0 (d:ByteArray):Nat→Int→ByteArray→Option (ByteArray)
 | 0,_,_=>none
 | f+1,a,g=>(cond (bif (decide (a=0)) then false else true) (cond (decide (0≤(IntKind.u8.wrap (Z.wrap (48+(m72 (a.tmod 10)))))∧(IntKind.u8.wrap (Z.wrap (48+(m72 (a.tmod 10)))))≤255)) (cond (decide ((((byteS (IntKind.u8.wrap (Z.wrap (48+(m72 (a.tmod 10)))))).size)+g.size)≤9223372036854775807)) (l35_0 d f (Z.wrap (a.tdiv 10)) ((byteS (IntKind.u8.wrap (Z.wrap (48+(m72 (a.tmod 10)))))) ++ g)) none) none) (some g))
abbrev o35_0 (d:ByteArray) (a:Int) (g:ByteArray):Option (ByteArray):=l35_0 d (30+a.toNat) a g
def e35_0 (d r:ByteArray) (K:XR):Prop:=K (XE.exit 0) [.str r,.str d] []
def g35_0:LSum:=fun s k=>match czv 0 27 [0,3,4] 0 [] s with
 | some ([V Z a,.str g,.str d],[])=>needs [(o35_0 d a g).isSome] (e35_0 d ((o35_0 d a g).getD default) fun e vs bs=>inBlk 0 k e (mkSt 0 27 [3,4] vs 0 bs))
 | _=>False
theorem z35_0:LOk Tryz.prog g35_0 (.block 0 (bodyAt (Tryz.f35.body.getD .skip) 0)):=by
 refine lb (ι:=Int × ByteArray × ByteArray) (fuel:=8) (na:=0) (nt:=27) (nx:=0) (Lh:=[0,3,4]) (Le:=[3,4]) (gl:=[]) (tc k72 tn) mix_ok noLam rfl (fun f (a,g,d) K=>GG default (e35_0 d) K (l35_0 d f a g)) (fun (a,g,d)=>[V Z a,.str g,.str d]) (fun (a,g,d)=>[]) (fun (_,_,_) K=>gg_none) ?_ ?_
 ·rintro f ⟨a,g,d⟩ K hG
  refine ro (fun R => 
 let a0:=(IntKind.u8.wrap (Z.wrap (48+(m72 (a.tmod 10)))))
 (cnd (bif (decide (a=0)) then false else true)
 (cnd (decide (0≤a0∧a0≤255))
 (cnd (decide ((((byteS a0).size)+g.size)≤9223372036854775807))
 (R (XE.normal) [V Z (Z.wrap (a.tdiv 10)),.str ((byteS a0) ++ g),.str d] [])
  False)
  False)
 (R (XE.exit 0) [.str g,.str d] []))) (fun R=>by kernel_rfl) ?_
  exact ch hG (fun h0=>cg h0 fun h1=>cg h1 fun h2=>⟨(_,_,_),rfl,rfl,h2⟩) (fun h0=>h0.2)
 ·intro s k h
  unfold g35_0 at h
  split at h <;> try exact h.elim
  rename_i e1
  rw [needs_iff] at h
  exact ⟨_,e1,_,(_,_,_),rfl,rfl,h.1 _ (List.mem_singleton.2 rfl),h.2⟩
def m35 (b:Int):ByteArray :=
 (cond (decide (b=0)) ({ data:=#[48] }:ByteArray) (cond (decide (b<(0:Int))) (({ data:=#[45] }:ByteArray) ++ ((o35_0 ({ data:=#[45] }:ByteArray) b ({ data:=#[] }:ByteArray)).getD default)) (({ data:=#[] }:ByteArray) ++ ((o35_0 ({ data:=#[] }:ByteArray) b ({ data:=#[] }:ByteArray)).getD default))))
def n35 (b:Int):Bool :=
 (cond (decide (b=0)) true (cond (decide (b<(0:Int))) (((o35_0 ({ data:=#[45] }:ByteArray) b ({ data:=#[] }:ByteArray)).isSome)&&((decide ((1+(((o35_0 ({ data:=#[45] }:ByteArray) b ({ data:=#[] }:ByteArray)).getD default).size))≤9223372036854775807))&&true)) (((o35_0 ({ data:=#[] }:ByteArray) b ({ data:=#[] }:ByteArray)).isSome)&&((decide ((0+(((o35_0 ({ data:=#[] }:ByteArray) b ({ data:=#[] }:ByteArray)).getD default).size))≤9223372036854775807))&&true))))
def q35 (r:ByteArray):SV × List Blk × List Blk:=(.str r,[],[])
def g35:GF:=fun vs bs=>match vs,bs with
 | [V Z b],[]=>some (rs 0 (q35 (m35 b)) [n35 b])
 | _,_=>none
def c35:Ctr:=genC [.k] g35
theorem k35:CtrOk Tryz.prog c35 35:=cx (tc k72 tn) mix_ok 8 (fn:=Tryz.f35) (c:=(Tryz.f35.body.getD .skip)) (grs:=[]) (rh:=.k) Tryz.func35 rfl (by kernel_rfl) (lam_of rfl (lc z35_0 ln)) fun vs bs q h hn=>by
 unfold g35 at h
 split at h <;> cases h
 rename_i b
 have hn:=n1 hn
 exact ⟨_,rfl,ca (fun R => 
 let a0:=({ data:=#[] }:ByteArray)
 let b0:=({ data:=#[45] }:ByteArray)
 (cnd (decide (b=0))
 (R (.str ({ data:=#[48] }:ByteArray)) [] [])
 (cnd (decide (b<(0:Int)))
 (cnd ((o35_0 b0 b a0).isSome)
 (cnd (decide ((1+(((o35_0 b0 b a0).getD default).size))≤9223372036854775807))
 (R (.str (b0 ++ ((o35_0 b0 b a0).getD default))) [] [])
   False)
  False)
 (cnd ((o35_0 a0 b a0).isSome)
 (cnd (decide ((0+(((o35_0 a0 b a0).getD default).size))≤9223372036854775807))
 (R (.str (a0 ++ ((o35_0 a0 b a0).getD default))) [] [])
   False)
  False)))) (fun R=>by kernel_rfl) (co (fun h0=>lf (cT h0 rfl) rfl) (fun h0=>co (fun h1=>cn (al (ct h1 (cf h0 hn))) (cn (al (ar (ct h1 (cf h0 hn)))) (lf (cF h0 (cT h1 rfl)) rfl))) (fun h1=>cn (al (cf h1 (cf h0 hn))) (cn (al (ar (cf h1 (cf h0 hn)))) (lf (cF h0 (cF h1 rfl)) rfl)))))⟩
/-! ### shotline/shotlineref07.FormatEvent -/
def m11 (d a:Int) (b e g:ByteArray) (i:Bool):ByteArray :=
 (cond (decide (d=0)) ((((((({ data:=#[99,104,101,99,107] }:ByteArray) ++ ((({ data:=#[32] }:ByteArray) ++ (m35 a)) ++ ({ data:=#[32] }:ByteArray))) ++ b) ++ ({ data:=#[32] }:ByteArray)) ++ e) ++ ({ data:=#[32] }:ByteArray)) ++ (m36 i)) (cond (decide (d=1)) ((({ data:=#[117,115,101] }:ByteArray) ++ ((({ data:=#[32] }:ByteArray) ++ (m35 a)) ++ ({ data:=#[32] }:ByteArray))) ++ b) (cond (decide (d=2)) ((((({ data:=#[102,105,108,108] }:ByteArray) ++ ((({ data:=#[32] }:ByteArray) ++ (m35 a)) ++ ({ data:=#[32] }:ByteArray))) ++ g) ++ ({ data:=#[32] }:ByteArray)) ++ b) (cond (decide (d=3)) ((({ data:=#[101,109,112,116,121] }:ByteArray) ++ ((({ data:=#[32] }:ByteArray) ++ (m35 a)) ++ ({ data:=#[32] }:ByteArray))) ++ b) (cond (decide (d=4)) ((((({ data:=#[97,105,114] }:ByteArray) ++ ((({ data:=#[32] }:ByteArray) ++ (m35 a)) ++ ({ data:=#[32] }:ByteArray))) ++ b) ++ ({ data:=#[32] }:ByteArray)) ++ (m36 i)) ({ data:=#[] }:ByteArray))))))
def n11 (d a:Int) (b e g:ByteArray) (i:Bool):Bool :=
 ((n35 a)&&((decide ((1+((m35 a).size))≤9223372036854775807))&&((decide ((((({ data:=#[32] }:ByteArray) ++ (m35 a)).size)+1)≤9223372036854775807))&&(cond (decide (d=0)) ((decide ((5+(((({ data:=#[32] }:ByteArray) ++ (m35 a)) ++ ({ data:=#[32] }:ByteArray)).size))≤9223372036854775807))&&((decide ((((({ data:=#[99,104,101,99,107] }:ByteArray) ++ ((({ data:=#[32] }:ByteArray) ++ (m35 a)) ++ ({ data:=#[32] }:ByteArray))).size)+b.size)≤9223372036854775807))&&((decide (((((({ data:=#[99,104,101,99,107] }:ByteArray) ++ ((({ data:=#[32] }:ByteArray) ++ (m35 a)) ++ ({ data:=#[32] }:ByteArray))) ++ b).size)+1)≤9223372036854775807))&&((decide ((((((({ data:=#[99,104,101,99,107] }:ByteArray) ++ ((({ data:=#[32] }:ByteArray) ++ (m35 a)) ++ ({ data:=#[32] }:ByteArray))) ++ b) ++ ({ data:=#[32] }:ByteArray)).size)+e.size)≤9223372036854775807))&&((decide (((((((({ data:=#[99,104,101,99,107] }:ByteArray) ++ ((({ data:=#[32] }:ByteArray) ++ (m35 a)) ++ ({ data:=#[32] }:ByteArray))) ++ b) ++ ({ data:=#[32] }:ByteArray)) ++ e).size)+1)≤9223372036854775807))&&((decide ((((((((({ data:=#[99,104,101,99,107] }:ByteArray) ++ ((({ data:=#[32] }:ByteArray) ++ (m35 a)) ++ ({ data:=#[32] }:ByteArray))) ++ b) ++ ({ data:=#[32] }:ByteArray)) ++ e) ++ ({ data:=#[32] }:ByteArray)).size)+((m36 i).size))≤9223372036854775807))&&true)))))) (cond (decide (d=1)) ((decide ((3+(((({ data:=#[32] }:ByteArray) ++ (m35 a)) ++ ({ data:=#[32] }:ByteArray)).size))≤9223372036854775807))&&((decide ((((({ data:=#[117,115,101] }:ByteArray) ++ ((({ data:=#[32] }:ByteArray) ++ (m35 a)) ++ ({ data:=#[32] }:ByteArray))).size)+b.size)≤9223372036854775807))&&true)) (cond (decide (d=2)) ((decide ((4+(((({ data:=#[32] }:ByteArray) ++ (m35 a)) ++ ({ data:=#[32] }:ByteArray)).size))≤9223372036854775807))&&((decide ((((({ data:=#[102,105,108,108] }:ByteArray) ++ ((({ data:=#[32] }:ByteArray) ++ (m35 a)) ++ ({ data:=#[32] }:ByteArray))).size)+g.size)≤9223372036854775807))&&((decide (((((({ data:=#[102,105,108,108] }:ByteArray) ++ ((({ data:=#[32] }:ByteArray) ++ (m35 a)) ++ ({ data:=#[32] }:ByteArray))) ++ g).size)+1)≤9223372036854775807))&&((decide ((((((({ data:=#[102,105,108,108] }:ByteArray) ++ ((({ data:=#[32] }:ByteArray) ++ (m35 a)) ++ ({ data:=#[32] }:ByteArray))) ++ g) ++ ({ data:=#[32] }:ByteArray)).size)+b.size)≤9223372036854775807))&&true)))) (cond (decide (d=3)) ((decide ((5+(((({ data:=#[32] }:ByteArray) ++ (m35 a)) ++ ({ data:=#[32] }:ByteArray)).size))≤9223372036854775807))&&((decide ((((({ data:=#[101,109,112,116,121] }:ByteArray) ++ ((({ data:=#[32] }:ByteArray) ++ (m35 a)) ++ ({ data:=#[32] }:ByteArray))).size)+b.size)≤9223372036854775807))&&true)) (cond (decide (d=4)) ((decide ((3+(((({ data:=#[32] }:ByteArray) ++ (m35 a)) ++ ({ data:=#[32] }:ByteArray)).size))≤9223372036854775807))&&((decide ((((({ data:=#[97,105,114] }:ByteArray) ++ ((({ data:=#[32] }:ByteArray) ++ (m35 a)) ++ ({ data:=#[32] }:ByteArray))).size)+b.size)≤9223372036854775807))&&((decide (((((({ data:=#[97,105,114] }:ByteArray) ++ ((({ data:=#[32] }:ByteArray) ++ (m35 a)) ++ ({ data:=#[32] }:ByteArray))) ++ b).size)+1)≤9223372036854775807))&&((decide ((((((({ data:=#[97,105,114] }:ByteArray) ++ ((({ data:=#[32] }:ByteArray) ++ (m35 a)) ++ ({ data:=#[32] }:ByteArray))) ++ b) ++ ({ data:=#[32] }:ByteArray)).size)+((m36 i).size))≤9223372036854775807))&&true)))) true))))))))
def q11 (r:ByteArray):SV × List Blk × List Blk:=(.str r,[],[])
def g11:GF:=fun vs bs=>match vs,bs with
 | [.agg [V Z d,V Z a,.str b,.str e,.str g,.bool i]],[]=>some (rs 0 (q11 (m11 d a b e g i)) [n11 d a b e g i])
 | _,_=>none
def c11:Ctr:=genC [.k] g11
theorem k11:CtrOk Tryz.prog c11 11:=cx (tc k35 (tc k36 tn)) mix_ok 8 (fn:=Tryz.f11) (c:=(Tryz.f11.body.getD .skip)) (grs:=[]) (rh:=.k) Tryz.func11 rfl (by kernel_rfl) noLam fun vs bs q h hn=>by
 unfold g11 at h
 split at h <;> cases h
 rename_i d a b e g i
 have hn:=n1 hn
 exact ⟨_,rfl,ca (fun R => 
 let c0:=({ data:=#[32] }:ByteArray)
 let a0:=((c0 ++ (m35 a)) ++ c0)
 let b0:=(({ data:=#[99,104,101,99,107] }:ByteArray) ++ a0)
 let d0:=(({ data:=#[102,105,108,108] }:ByteArray) ++ a0)
 let e0:=(({ data:=#[97,105,114] }:ByteArray) ++ a0)
 let f0:=(({ data:=#[101,109,112,116,121] }:ByteArray) ++ a0)
 let g0:=(({ data:=#[117,115,101] }:ByteArray) ++ a0)
 let h0:=(decide ((5+(a0.size))≤9223372036854775807))
 let i0:=(decide ((3+(a0.size))≤9223372036854775807))
 (cnd (n35 a)
 (cnd (decide ((1+((m35 a).size))≤9223372036854775807))
 (cnd (decide ((((c0 ++ (m35 a)).size)+1)≤9223372036854775807))
 (cnd (decide (d=0))
 (cnd h0
 (cnd (decide (((b0.size)+b.size)≤9223372036854775807))
 (cnd (decide ((((b0 ++ b).size)+1)≤9223372036854775807))
 (cnd (decide (((((b0 ++ b) ++ c0).size)+e.size)≤9223372036854775807))
 (cnd (decide ((((((b0 ++ b) ++ c0) ++ e).size)+1)≤9223372036854775807))
 (cnd (decide (((((((b0 ++ b) ++ c0) ++ e) ++ c0).size)+((m36 i).size))≤9223372036854775807))
 (R (.str (((((b0 ++ b) ++ c0) ++ e) ++ c0) ++ (m36 i))) [] [])
      False)
     False)
     False)
    False)
    False)
   False)
 (cnd (decide (d=1))
 (cnd i0
 (cnd (decide (((g0.size)+b.size)≤9223372036854775807))
 (R (.str (g0 ++ b)) [] [])
    False)
    False)
 (cnd (decide (d=2))
 (cnd (decide ((4+(a0.size))≤9223372036854775807))
 (cnd (decide (((d0.size)+g.size)≤9223372036854775807))
 (cnd (decide ((((d0 ++ g).size)+1)≤9223372036854775807))
 (cnd (decide (((((d0 ++ g) ++ c0).size)+b.size)≤9223372036854775807))
 (R (.str (((d0 ++ g) ++ c0) ++ b)) [] [])
      False)
     False)
     False)
    False)
 (cnd (decide (d=3))
 (cnd h0
 (cnd (decide (((f0.size)+b.size)≤9223372036854775807))
 (R (.str (f0 ++ b)) [] [])
     False)
     False)
 (cnd (decide (d=4))
 (cnd i0
 (cnd (decide (((e0.size)+b.size)≤9223372036854775807))
 (cnd (decide ((((e0 ++ b).size)+1)≤9223372036854775807))
 (cnd (decide (((((e0 ++ b) ++ c0).size)+((m36 i).size))≤9223372036854775807))
 (R (.str (((e0 ++ b) ++ c0) ++ (m36 i))) [] [])
       False)
      False)
      False)
     False)
 (R (.str ({ data:=#[] }:ByteArray)) [] []))))))
  False)
  False)
 False)) (fun R=>by kernel_rfl) (cn (al hn) (cn (al (ar hn)) (cn (al (ar (ar hn))) (co (fun h0=>cn (al (ct h0 (ar (ar (ar hn))))) (cn (al (ar (ct h0 (ar (ar (ar hn)))))) (cn (al (ar (ar (ct h0 (ar (ar (ar hn))))))) (cn (al (ar (ar (ar (ct h0 (ar (ar (ar hn)))))))) (cn (al (ar (ar (ar (ar (ct h0 (ar (ar (ar hn))))))))) (cn (al (ar (ar (ar (ar (ar (ct h0 (ar (ar (ar hn)))))))))) (lf (cT h0 rfl) rfl))))))) (fun h0=>co (fun h1=>cn (al (ct h1 (cf h0 (ar (ar (ar hn)))))) (cn (al (ar (ct h1 (cf h0 (ar (ar (ar hn))))))) (lf (cF h0 (cT h1 rfl)) rfl))) (fun h1=>co (fun h2=>cn (al (ct h2 (cf h1 (cf h0 (ar (ar (ar hn))))))) (cn (al (ar (ct h2 (cf h1 (cf h0 (ar (ar (ar hn)))))))) (cn (al (ar (ar (ct h2 (cf h1 (cf h0 (ar (ar (ar hn))))))))) (cn (al (ar (ar (ar (ct h2 (cf h1 (cf h0 (ar (ar (ar hn)))))))))) (lf (cF h0 (cF h1 (cT h2 rfl))) rfl))))) (fun h2=>co (fun h3=>cn (al (ct h3 (cf h2 (cf h1 (cf h0 (ar (ar (ar hn)))))))) (cn (al (ar (ct h3 (cf h2 (cf h1 (cf h0 (ar (ar (ar hn))))))))) (lf (cF h0 (cF h1 (cF h2 (cT h3 rfl)))) rfl))) (fun h3=>co (fun h4=>cn (al (ct h4 (cf h3 (cf h2 (cf h1 (cf h0 (ar (ar (ar hn))))))))) (cn (al (ar (ct h4 (cf h3 (cf h2 (cf h1 (cf h0 (ar (ar (ar hn)))))))))) (cn (al (ar (ar (ct h4 (cf h3 (cf h2 (cf h1 (cf h0 (ar (ar (ar hn))))))))))) (cn (al (ar (ar (ar (ct h4 (cf h3 (cf h2 (cf h1 (cf h0 (ar (ar (ar hn)))))))))))) (lf (cF h0 (cF h1 (cF h2 (cF h3 (cT h4 rfl))))) rfl))))) (fun h4=>lf (cF h0 (cF h1 (cF h2 (cF h3 (cF h4 rfl))))) rfl)))))))))⟩
/-! ### shotline/shotlineref07.ParseEvent -/
theorem x10 (a:ByteArray) (R:SV→List Blk→List Blk→Prop):exec Tryz.prog [(33,c33),(34,c34)] (fun _=>none) 8 (Tryz.f10.body.getD .skip) (initS Tryz.f10.ntmps [.str a] 0 (memOf [])) (retK Tryz.prog Tryz.f10.results.toList (outK 0 (List.range 0) [] (.k) fun v U N=>R v U N)) =
 (cnd (n33 a 32)
 (cnd (bif (bif (bif (decide ((↑((m33 a 32).1):Int)<3)) then false else true) then false else true) then true else (n33 a 10))
 (cnd (bif (decide ((↑((m33 a 32).1):Int)<3)) then true else (bif (decide ((↑((m33 a 10).1):Int)=1)) then false else true))
 (R (.tup [.agg [V Z 0,V Z 0,.str ({ data:=#[] }:ByteArray),.str ({ data:=#[] }:ByteArray),.str ({ data:=#[] }:ByteArray),.bool false],V Z 7]) [] [])
 (cnd (decide ((0:Int)≤(1:Int)∧(1:Int)<(↑((m33 a 32).1):Int)))
 (cnd (n34 ((m33 a 32).2.ss 1 0) 7)
 (cnd (bif (m34 ((m33 a 32).2.ss 1 0) 7).2 then false else true)
 (R (.tup [.agg [V Z 0,V Z 0,.str ({ data:=#[] }:ByteArray),.str ({ data:=#[] }:ByteArray),.str ({ data:=#[] }:ByteArray),.bool false],V Z 7]) [] [])
 (cnd (decide ((0:Int)≤(2:Int)∧(2:Int)<(↑((m33 a 32).1):Int)))
 (cnd (decide ((0:Int)≤(0:Int)∧(0:Int)<(↑((m33 a 32).1):Int)))
 (cnd (decide (((m33 a 32).2.ss 0 0)=({ data:=#[99,104,101,99,107] }:ByteArray)))
 (cnd (bif (decide ((↑((m33 a 32).1):Int)=5)) then false else true)
 (R (.tup [.agg [V Z 0,V Z 0,.str ({ data:=#[] }:ByteArray),.str ({ data:=#[] }:ByteArray),.str ({ data:=#[] }:ByteArray),.bool false],V Z 7]) [] [])
 (cnd (decide ((0:Int)≤(3:Int)∧(3:Int)<(↑((m33 a 32).1):Int)))
 (cnd (decide ((0:Int)≤(4:Int)∧(4:Int)<(↑((m33 a 32).1):Int)))
 (cnd (bif (bif (bif (decide (((m33 a 32).2.ss 4 0)=({ data:=#[112,97,115,115] }:ByteArray))) then false else true) then false else true) then true else (decide ((0:Int)≤(4:Int)∧(4:Int)<(↑((m33 a 32).1):Int))))
 (cnd (bif (bif (decide (((m33 a 32).2.ss 4 0)=({ data:=#[112,97,115,115] }:ByteArray))) then false else true) then (bif (decide (((m33 a 32).2.ss 4 0)=({ data:=#[102,97,105,108] }:ByteArray))) then false else true) else false)
 (R (.tup [.agg [V Z 0,V Z 0,.str ({ data:=#[] }:ByteArray),.str ({ data:=#[] }:ByteArray),.str ({ data:=#[] }:ByteArray),.bool false],V Z 7]) [] [])
 (cnd (decide ((0:Int)≤(4:Int)∧(4:Int)<(↑((m33 a 32).1):Int)))
 (R (.tup [.agg [V Z 0,V Z (m34 ((m33 a 32).2.ss 1 0) 7).1,.str ((m33 a 32).2.ss 2 0),.str ((m33 a 32).2.ss 3 0),.str ({ data:=#[] }:ByteArray),.bool (decide (((m33 a 32).2.ss 4 0)=({ data:=#[112,97,115,115] }:ByteArray)))],V Z 0]) [] [])
        False))
       False)
       False)
      False))
 (cnd (decide (((m33 a 32).2.ss 0 0)=({ data:=#[117,115,101] }:ByteArray)))
 (cnd (bif (decide ((↑((m33 a 32).1):Int)=3)) then false else true)
 (R (.tup [.agg [V Z 0,V Z 0,.str ({ data:=#[] }:ByteArray),.str ({ data:=#[] }:ByteArray),.str ({ data:=#[] }:ByteArray),.bool false],V Z 7]) [] [])
 (R (.tup [.agg [V Z 1,V Z (m34 ((m33 a 32).2.ss 1 0) 7).1,.str ((m33 a 32).2.ss 2 0),.str ({ data:=#[] }:ByteArray),.str ({ data:=#[] }:ByteArray),.bool false],V Z 0]) [] []))
 (cnd (decide (((m33 a 32).2.ss 0 0)=({ data:=#[102,105,108,108] }:ByteArray)))
 (cnd (bif (decide ((↑((m33 a 32).1):Int)=4)) then false else true)
 (R (.tup [.agg [V Z 0,V Z 0,.str ({ data:=#[] }:ByteArray),.str ({ data:=#[] }:ByteArray),.str ({ data:=#[] }:ByteArray),.bool false],V Z 7]) [] [])
 (cnd (decide ((0:Int)≤(2:Int)∧(2:Int)<(↑((m33 a 32).1):Int)))
 (cnd (decide ((0:Int)≤(3:Int)∧(3:Int)<(↑((m33 a 32).1):Int)))
 (R (.tup [.agg [V Z 2,V Z (m34 ((m33 a 32).2.ss 1 0) 7).1,.str ((m33 a 32).2.ss 3 0),.str ({ data:=#[] }:ByteArray),.str ((m33 a 32).2.ss 2 0),.bool false],V Z 0]) [] [])
        False)
       False))
 (cnd (decide (((m33 a 32).2.ss 0 0)=({ data:=#[101,109,112,116,121] }:ByteArray)))
 (cnd (bif (decide ((↑((m33 a 32).1):Int)=3)) then false else true)
 (R (.tup [.agg [V Z 0,V Z 0,.str ({ data:=#[] }:ByteArray),.str ({ data:=#[] }:ByteArray),.str ({ data:=#[] }:ByteArray),.bool false],V Z 7]) [] [])
 (R (.tup [.agg [V Z 3,V Z (m34 ((m33 a 32).2.ss 1 0) 7).1,.str ((m33 a 32).2.ss 2 0),.str ({ data:=#[] }:ByteArray),.str ({ data:=#[] }:ByteArray),.bool false],V Z 0]) [] []))
 (cnd (decide (((m33 a 32).2.ss 0 0)=({ data:=#[97,105,114] }:ByteArray)))
 (cnd (bif (decide ((↑((m33 a 32).1):Int)=4)) then false else true)
 (R (.tup [.agg [V Z 0,V Z 0,.str ({ data:=#[] }:ByteArray),.str ({ data:=#[] }:ByteArray),.str ({ data:=#[] }:ByteArray),.bool false],V Z 7]) [] [])
 (cnd (decide ((0:Int)≤(3:Int)∧(3:Int)<(↑((m33 a 32).1):Int)))
 (cnd (bif (bif (bif (decide (((m33 a 32).2.ss 3 0)=({ data:=#[112,97,115,115] }:ByteArray))) then false else true) then false else true) then true else (decide ((0:Int)≤(3:Int)∧(3:Int)<(↑((m33 a 32).1):Int))))
 (cnd (bif (bif (decide (((m33 a 32).2.ss 3 0)=({ data:=#[112,97,115,115] }:ByteArray))) then false else true) then (bif (decide (((m33 a 32).2.ss 3 0)=({ data:=#[102,97,105,108] }:ByteArray))) then false else true) else false)
 (R (.tup [.agg [V Z 0,V Z 0,.str ({ data:=#[] }:ByteArray),.str ({ data:=#[] }:ByteArray),.str ({ data:=#[] }:ByteArray),.bool false],V Z 7]) [] [])
 (cnd (decide ((0:Int)≤(3:Int)∧(3:Int)<(↑((m33 a 32).1):Int)))
 (R (.tup [.agg [V Z 4,V Z (m34 ((m33 a 32).2.ss 1 0) 7).1,.str ((m33 a 32).2.ss 2 0),.str ({ data:=#[] }:ByteArray),.str ({ data:=#[] }:ByteArray),.bool (decide (((m33 a 32).2.ss 3 0)=({ data:=#[112,97,115,115] }:ByteArray)))],V Z 0]) [] [])
          False))
         False)
        False))
 (R (.tup [.agg [V Z 0,V Z 0,.str ({ data:=#[] }:ByteArray),.str ({ data:=#[] }:ByteArray),.str ({ data:=#[] }:ByteArray),.bool false],V Z 7]) [] []))))))
     False)
    False))
   False)
   False))
  False)
 False):=by kernel_rfl
def m10 (a:ByteArray):Int × Int × ByteArray × ByteArray × ByteArray × Bool × Int :=
 (cond (bif (decide ((↑((m33 a 32).1):Int)<3)) then true else (bif (decide ((↑((m33 a 10).1):Int)=1)) then false else true)) (0,0,({ data:=#[] }:ByteArray),({ data:=#[] }:ByteArray),({ data:=#[] }:ByteArray),false,7) (cond (bif (m34 ((m33 a 32).2.ss 1 0) 7).2 then false else true) (0,0,({ data:=#[] }:ByteArray),({ data:=#[] }:ByteArray),({ data:=#[] }:ByteArray),false,7) (cond (decide (((m33 a 32).2.ss 0 0)=({ data:=#[99,104,101,99,107] }:ByteArray))) (cond (bif (decide ((↑((m33 a 32).1):Int)=5)) then false else true) (0,0,({ data:=#[] }:ByteArray),({ data:=#[] }:ByteArray),({ data:=#[] }:ByteArray),false,7) (cond (bif (bif (decide (((m33 a 32).2.ss 4 0)=({ data:=#[112,97,115,115] }:ByteArray))) then false else true) then (bif (decide (((m33 a 32).2.ss 4 0)=({ data:=#[102,97,105,108] }:ByteArray))) then false else true) else false) (0,0,({ data:=#[] }:ByteArray),({ data:=#[] }:ByteArray),({ data:=#[] }:ByteArray),false,7) (0,(m34 ((m33 a 32).2.ss 1 0) 7).1,((m33 a 32).2.ss 2 0),((m33 a 32).2.ss 3 0),({ data:=#[] }:ByteArray),(decide (((m33 a 32).2.ss 4 0)=({ data:=#[112,97,115,115] }:ByteArray))),0))) (cond (decide (((m33 a 32).2.ss 0 0)=({ data:=#[117,115,101] }:ByteArray))) (cond (bif (decide ((↑((m33 a 32).1):Int)=3)) then false else true) (0,0,({ data:=#[] }:ByteArray),({ data:=#[] }:ByteArray),({ data:=#[] }:ByteArray),false,7) (1,(m34 ((m33 a 32).2.ss 1 0) 7).1,((m33 a 32).2.ss 2 0),({ data:=#[] }:ByteArray),({ data:=#[] }:ByteArray),false,0)) (cond (decide (((m33 a 32).2.ss 0 0)=({ data:=#[102,105,108,108] }:ByteArray))) (cond (bif (decide ((↑((m33 a 32).1):Int)=4)) then false else true) (0,0,({ data:=#[] }:ByteArray),({ data:=#[] }:ByteArray),({ data:=#[] }:ByteArray),false,7) (2,(m34 ((m33 a 32).2.ss 1 0) 7).1,((m33 a 32).2.ss 3 0),({ data:=#[] }:ByteArray),((m33 a 32).2.ss 2 0),false,0)) (cond (decide (((m33 a 32).2.ss 0 0)=({ data:=#[101,109,112,116,121] }:ByteArray))) (cond (bif (decide ((↑((m33 a 32).1):Int)=3)) then false else true) (0,0,({ data:=#[] }:ByteArray),({ data:=#[] }:ByteArray),({ data:=#[] }:ByteArray),false,7) (3,(m34 ((m33 a 32).2.ss 1 0) 7).1,((m33 a 32).2.ss 2 0),({ data:=#[] }:ByteArray),({ data:=#[] }:ByteArray),false,0)) (cond (decide (((m33 a 32).2.ss 0 0)=({ data:=#[97,105,114] }:ByteArray))) (cond (bif (decide ((↑((m33 a 32).1):Int)=4)) then false else true) (0,0,({ data:=#[] }:ByteArray),({ data:=#[] }:ByteArray),({ data:=#[] }:ByteArray),false,7) (cond (bif (bif (decide (((m33 a 32).2.ss 3 0)=({ data:=#[112,97,115,115] }:ByteArray))) then false else true) then (bif (decide (((m33 a 32).2.ss 3 0)=({ data:=#[102,97,105,108] }:ByteArray))) then false else true) else false) (0,0,({ data:=#[] }:ByteArray),({ data:=#[] }:ByteArray),({ data:=#[] }:ByteArray),false,7) (4,(m34 ((m33 a 32).2.ss 1 0) 7).1,((m33 a 32).2.ss 2 0),({ data:=#[] }:ByteArray),({ data:=#[] }:ByteArray),(decide (((m33 a 32).2.ss 3 0)=({ data:=#[112,97,115,115] }:ByteArray))),0))) (0,0,({ data:=#[] }:ByteArray),({ data:=#[] }:ByteArray),({ data:=#[] }:ByteArray),false,7))))))))
def n10 (a:ByteArray):Bool :=
 ((n33 a 32)&&((bif (bif (bif (decide ((↑((m33 a 32).1):Int)<3)) then false else true) then false else true) then true else (n33 a 10))&&(cond (bif (decide ((↑((m33 a 32).1):Int)<3)) then true else (bif (decide ((↑((m33 a 10).1):Int)=1)) then false else true)) true ((decide ((0:Int)≤(1:Int)∧(1:Int)<(↑((m33 a 32).1):Int)))&&((n34 ((m33 a 32).2.ss 1 0) 7)&&(cond (bif (m34 ((m33 a 32).2.ss 1 0) 7).2 then false else true) true ((decide ((0:Int)≤(2:Int)∧(2:Int)<(↑((m33 a 32).1):Int)))&&((decide ((0:Int)≤(0:Int)∧(0:Int)<(↑((m33 a 32).1):Int)))&&(cond (decide (((m33 a 32).2.ss 0 0)=({ data:=#[99,104,101,99,107] }:ByteArray))) (cond (bif (decide ((↑((m33 a 32).1):Int)=5)) then false else true) true ((decide ((0:Int)≤(3:Int)∧(3:Int)<(↑((m33 a 32).1):Int)))&&((decide ((0:Int)≤(4:Int)∧(4:Int)<(↑((m33 a 32).1):Int)))&&((bif (bif (bif (decide (((m33 a 32).2.ss 4 0)=({ data:=#[112,97,115,115] }:ByteArray))) then false else true) then false else true) then true else (decide ((0:Int)≤(4:Int)∧(4:Int)<(↑((m33 a 32).1):Int))))&&(cond (bif (bif (decide (((m33 a 32).2.ss 4 0)=({ data:=#[112,97,115,115] }:ByteArray))) then false else true) then (bif (decide (((m33 a 32).2.ss 4 0)=({ data:=#[102,97,105,108] }:ByteArray))) then false else true) else false) true ((decide ((0:Int)≤(4:Int)∧(4:Int)<(↑((m33 a 32).1):Int)))&&true)))))) (cond (decide (((m33 a 32).2.ss 0 0)=({ data:=#[117,115,101] }:ByteArray))) true (cond (decide (((m33 a 32).2.ss 0 0)=({ data:=#[102,105,108,108] }:ByteArray))) (cond (bif (decide ((↑((m33 a 32).1):Int)=4)) then false else true) true ((decide ((0:Int)≤(2:Int)∧(2:Int)<(↑((m33 a 32).1):Int)))&&((decide ((0:Int)≤(3:Int)∧(3:Int)<(↑((m33 a 32).1):Int)))&&true))) (cond (decide (((m33 a 32).2.ss 0 0)=({ data:=#[101,109,112,116,121] }:ByteArray))) true (cond (decide (((m33 a 32).2.ss 0 0)=({ data:=#[97,105,114] }:ByteArray))) (cond (bif (decide ((↑((m33 a 32).1):Int)=4)) then false else true) true ((decide ((0:Int)≤(3:Int)∧(3:Int)<(↑((m33 a 32).1):Int)))&&((bif (bif (bif (decide (((m33 a 32).2.ss 3 0)=({ data:=#[112,97,115,115] }:ByteArray))) then false else true) then false else true) then true else (decide ((0:Int)≤(3:Int)∧(3:Int)<(↑((m33 a 32).1):Int))))&&(cond (bif (bif (decide (((m33 a 32).2.ss 3 0)=({ data:=#[112,97,115,115] }:ByteArray))) then false else true) then (bif (decide (((m33 a 32).2.ss 3 0)=({ data:=#[102,97,105,108] }:ByteArray))) then false else true) else false) true ((decide ((0:Int)≤(3:Int)∧(3:Int)<(↑((m33 a 32).1):Int)))&&true))))) true)))))))))))))
def q10 (r:Int × Int × ByteArray × ByteArray × ByteArray × Bool × Int):SV × List Blk × List Blk:=(.tup [.agg [V Z r.1,V Z r.2.1,.str r.2.2.1,.str r.2.2.2.1,.str r.2.2.2.2.1,.bool r.2.2.2.2.2.1],V Z r.2.2.2.2.2.2],[],[])
def g10:GF:=fun vs bs=>match vs,bs with
 | [.str a],[]=>some (rs 0 (q10 (m10 a)) [n10 a])
 | _,_=>none
def c10:Ctr:=genC [.k] g10
theorem p10 (a:ByteArray) (hn:n10 a=true):exec Tryz.prog [(33,c33),(34,c34)] (fun _=>none) 8 (Tryz.f10.body.getD .skip) (initS Tryz.f10.ntmps [.str a] 0 (memOf [])) (retK Tryz.prog Tryz.f10.results.toList (outK 0 (List.range 0) [] (.k) fun v U N=>(v,U,N)=(q10 (m10 a)))) :=
 propOf (x10 a _) (cn (al hn) (cn (al (ar hn)) (co (fun h0=>lf (cT h0 rfl) rfl) (fun h0=>cn (al (cf h0 (ar (ar hn)))) (cn (al (ar (cf h0 (ar (ar hn))))) (co (fun h1=>lf (cF h0 (cT h1 rfl)) rfl) (fun h1=>cn (al (cf h1 (ar (ar (cf h0 (ar (ar hn))))))) (cn (al (ar (cf h1 (ar (ar (cf h0 (ar (ar hn)))))))) (co (fun h2=>co (fun h3=>lf (cF h0 (cF h1 (cT h2 (cT h3 rfl)))) rfl) (fun h3=>cn (al (cf h3 (ct h2 (ar (ar (cf h1 (ar (ar (cf h0 (ar (ar hn))))))))))) (cn (al (ar (cf h3 (ct h2 (ar (ar (cf h1 (ar (ar (cf h0 (ar (ar hn)))))))))))) (cn (al (ar (ar (cf h3 (ct h2 (ar (ar (cf h1 (ar (ar (cf h0 (ar (ar hn))))))))))))) (co (fun h4=>lf (cF h0 (cF h1 (cT h2 (cF h3 (cT h4 rfl))))) rfl) (fun h4=>cn (al (cf h4 (ar (ar (ar (cf h3 (ct h2 (ar (ar (cf h1 (ar (ar (cf h0 (ar (ar hn))))))))))))))) (lf (cF h0 (cF h1 (cT h2 (cF h3 (cF h4 rfl))))) rfl))))))) (fun h2=>co (fun h3=>co (fun h4=>lf (cF h0 (cF h1 (cF h2 (cT h3 (cT h4 rfl))))) rfl) (fun h4=>lf (cF h0 (cF h1 (cF h2 (cT h3 (cF h4 rfl))))) rfl)) (fun h3=>co (fun h4=>co (fun h5=>lf (cF h0 (cF h1 (cF h2 (cF h3 (cT h4 (cT h5 rfl)))))) rfl) (fun h5=>cn (al (cf h5 (ct h4 (cf h3 (cf h2 (ar (ar (cf h1 (ar (ar (cf h0 (ar (ar hn))))))))))))) (cn (al (ar (cf h5 (ct h4 (cf h3 (cf h2 (ar (ar (cf h1 (ar (ar (cf h0 (ar (ar hn)))))))))))))) (lf (cF h0 (cF h1 (cF h2 (cF h3 (cT h4 (cF h5 rfl)))))) rfl)))) (fun h4=>co (fun h5=>co (fun h6=>lf (cF h0 (cF h1 (cF h2 (cF h3 (cF h4 (cT h5 (cT h6 rfl))))))) rfl) (fun h6=>lf (cF h0 (cF h1 (cF h2 (cF h3 (cF h4 (cT h5 (cF h6 rfl))))))) rfl)) (fun h5=>co (fun h6=>co (fun h7=>lf (cF h0 (cF h1 (cF h2 (cF h3 (cF h4 (cF h5 (cT h6 (cT h7 rfl)))))))) rfl) (fun h7=>cn (al (cf h7 (ct h6 (cf h5 (cf h4 (cf h3 (cf h2 (ar (ar (cf h1 (ar (ar (cf h0 (ar (ar hn))))))))))))))) (cn (al (ar (cf h7 (ct h6 (cf h5 (cf h4 (cf h3 (cf h2 (ar (ar (cf h1 (ar (ar (cf h0 (ar (ar hn)))))))))))))))) (co (fun h8=>lf (cF h0 (cF h1 (cF h2 (cF h3 (cF h4 (cF h5 (cT h6 (cF h7 (cT h8 rfl))))))))) rfl) (fun h8=>cn (al (cf h8 (ar (ar (cf h7 (ct h6 (cf h5 (cf h4 (cf h3 (cf h2 (ar (ar (cf h1 (ar (ar (cf h0 (ar (ar hn)))))))))))))))))) (lf (cF h0 (cF h1 (cF h2 (cF h3 (cF h4 (cF h5 (cT h6 (cF h7 (cF h8 rfl))))))))) rfl)))))) (fun h6=>lf (cF h0 (cF h1 (cF h2 (cF h3 (cF h4 (cF h5 (cF h6 rfl))))))) rfl))))))))))))))
theorem k10:CtrOk Tryz.prog c10 10:=cx (tc k33 (tc k34 tn)) mix_ok 8 (fn:=Tryz.f10) (c:=(Tryz.f10.body.getD .skip)) (grs:=[]) (rh:=.k) Tryz.func10 rfl (by kernel_rfl) noLam fun vs bs q h hn=>by
 unfold g10 at h
 split at h <;> cases h
 exact ⟨_,rfl,p10 _ (hn _ (List.mem_singleton.2 rfl))⟩
/-! ### shotline/kit.line -/
def m29u (b:ByteArray) (a:Int) (d:ByteArray):ByteArray × ByteArray × Int × ByteArray :=
 ((m67 3 (((datS [SV.str b] 1).app 1 (datS [SV.str (m66 a)] 1)).app 2 (datS [SV.str d] 1)) ({ data:=#[32] }:ByteArray)),b,a,d)
def n29u (b:ByteArray) (a:Int) (d:ByteArray):Bool :=
 ((n66 a)&&((n67 3 (((datS [SV.str b] 1).app 1 (datS [SV.str (m66 a)] 1)).app 2 (datS [SV.str d] 1)) ({ data:=#[32] }:ByteArray))&&true))
def q29u (r:ByteArray × ByteArray × Int × ByteArray):SV × List Blk × List Blk:=(.str r.1,[.cells 20 [.ifc 9 [.str r.2.1],.ifc 3 [V Z r.2.2.1],.ifc 9 [.str r.2.2.2]]],[])
def g29u:GF:=fun vs bs=>match vs,bs with
 | [.slc 0 1 0 3],[.cells 20 [.ifc 9 [.str b],.ifc 3 [V Z a],.ifc 9 [.str d]]]=>some (rs 1 (q29u (m29u b a d)) [n29u b a d])
 | _,_=>none
def c29u:Ctr:=genC [.sp []] g29u
theorem k29u:CtrOk Tryz.prog c29u 29:=cx (tc k66 (tc k67 tn)) mix_ok 40 (fn:=Tryz.f29) (c:=(Tryz.f29.body.getD .skip)) (grs:=[]) (rh:=.k) Tryz.func29 rfl (by kernel_rfl) noLam fun vs bs q h hn=>by
 unfold g29u at h
 split at h <;> cases h
 rename_i b a d
 have hn:=n1 hn
 exact ⟨_,rfl,ca (fun R=>(cnd (n66 a)
 (cnd (n67 3 (((datS [SV.str b] 1).app 1 (datS [SV.str (m66 a)] 1)).app 2 (datS [SV.str d] 1)) ({ data:=#[32] }:ByteArray))
 (R (.str (m67 3 (((datS [SV.str b] 1).app 1 (datS [SV.str (m66 a)] 1)).app 2 (datS [SV.str d] 1)) ({ data:=#[32] }:ByteArray))) [.cells 20 [.ifc 9 [.str b],.ifc 3 [V Z a],.ifc 9 [.str d]]] [])
  False)
 False)) (fun R=>by kernel_rfl) (cn (al hn) (cn (al (ar hn)) (lf rfl rfl)))⟩
/-! ### shotline/kit.line -/
def m29f (b:ByteArray) (a:Int) (d e:ByteArray):ByteArray × ByteArray × Int × ByteArray × ByteArray :=
 ((m67 4 ((((datS [SV.str b] 1).app 1 (datS [SV.str (m66 a)] 1)).app 2 (datS [SV.str d] 1)).app 3 (datS [SV.str e] 1)) ({ data:=#[32] }:ByteArray)),b,a,d,e)
def n29f (b:ByteArray) (a:Int) (d e:ByteArray):Bool :=
 ((n66 a)&&((n67 4 ((((datS [SV.str b] 1).app 1 (datS [SV.str (m66 a)] 1)).app 2 (datS [SV.str d] 1)).app 3 (datS [SV.str e] 1)) ({ data:=#[32] }:ByteArray))&&true))
def q29f (r:ByteArray × ByteArray × Int × ByteArray × ByteArray):SV × List Blk × List Blk:=(.str r.1,[.cells 20 [.ifc 9 [.str r.2.1],.ifc 3 [V Z r.2.2.1],.ifc 9 [.str r.2.2.2.1],.ifc 9 [.str r.2.2.2.2]]],[])
def g29f:GF:=fun vs bs=>match vs,bs with
 | [.slc 0 1 0 4],[.cells 20 [.ifc 9 [.str b],.ifc 3 [V Z a],.ifc 9 [.str d],.ifc 9 [.str e]]]=>some (rs 1 (q29f (m29f b a d e)) [n29f b a d e])
 | _,_=>none
def c29f:Ctr:=genC [.sp []] g29f
theorem k29f:CtrOk Tryz.prog c29f 29:=cx (tc k66 (tc k67 tn)) mix_ok 40 (fn:=Tryz.f29) (c:=(Tryz.f29.body.getD .skip)) (grs:=[]) (rh:=.k) Tryz.func29 rfl (by kernel_rfl) noLam fun vs bs q h hn=>by
 unfold g29f at h
 split at h <;> cases h
 rename_i b a d e
 have hn:=n1 hn
 exact ⟨_,rfl,ca (fun R => 
 let a0:=((((datS [SV.str b] 1).app 1 (datS [SV.str (m66 a)] 1)).app 2 (datS [SV.str d] 1)).app 3 (datS [SV.str e] 1))
 (cnd (n66 a)
 (cnd (n67 4 a0 ({ data:=#[32] }:ByteArray))
 (R (.str (m67 4 a0 ({ data:=#[32] }:ByteArray))) [.cells 20 [.ifc 9 [.str b],.ifc 3 [V Z a],.ifc 9 [.str d],.ifc 9 [.str e]]] [])
  False)
 False)) (fun R=>by kernel_rfl) (cn (al hn) (cn (al (ar hn)) (lf rfl rfl)))⟩
/-! ### shotline/kit.line -/
def m29a (b:ByteArray) (a:Int) (d:ByteArray) (e:Bool):ByteArray × ByteArray × Int × ByteArray × Bool :=
 ((m67 4 ((((datS [SV.str b] 1).app 1 (datS [SV.str (m66 a)] 1)).app 2 (datS [SV.str d] 1)).app 3 (datS [SV.str (resW e)] 1)) ({ data:=#[32] }:ByteArray)),b,a,d,e)
def n29a (b:ByteArray) (a:Int) (d:ByteArray) (e:Bool):Bool :=
 ((n66 a)&&((n67 4 ((((datS [SV.str b] 1).app 1 (datS [SV.str (m66 a)] 1)).app 2 (datS [SV.str d] 1)).app 3 (datS [SV.str (resW e)] 1)) ({ data:=#[32] }:ByteArray))&&true))
def q29a (r:ByteArray × ByteArray × Int × ByteArray × Bool):SV × List Blk × List Blk:=(.str r.1,[.cells 20 [.ifc 9 [.str r.2.1],.ifc 3 [V Z r.2.2.1],.ifc 9 [.str r.2.2.2.1],.ifc 4 [.bool r.2.2.2.2]]],[])
def g29a:GF:=fun vs bs=>match vs,bs with
 | [.slc 0 1 0 4],[.cells 20 [.ifc 9 [.str b],.ifc 3 [V Z a],.ifc 9 [.str d],.ifc 4 [.bool e]]]=>some (rs 1 (q29a (m29a b a d e)) [n29a b a d e])
 | _,_=>none
def c29a:Ctr:=genC [.sp []] g29a
theorem k29a:CtrOk Tryz.prog c29a 29:=cx (tc k66 (tc k67 tn)) mix_ok 40 (fn:=Tryz.f29) (c:=(Tryz.f29.body.getD .skip)) (grs:=[]) (rh:=.k) Tryz.func29 rfl (by kernel_rfl) noLam fun vs bs q h hn=>by
 unfold g29a at h
 split at h <;> cases h
 rename_i b a d e
 have hn:=n1 hn
 exact ⟨_,rfl,ca (fun R => 
 let a0:=((((datS [SV.str b] 1).app 1 (datS [SV.str (m66 a)] 1)).app 2 (datS [SV.str d] 1)).app 3 (datS [SV.str (resW e)] 1))
 (cnd (n66 a)
 (cnd (n67 4 a0 ({ data:=#[32] }:ByteArray))
 (R (.str (m67 4 a0 ({ data:=#[32] }:ByteArray))) [.cells 20 [.ifc 9 [.str b],.ifc 3 [V Z a],.ifc 9 [.str d],.ifc 4 [.bool e]]] [])
  False)
 False)) (fun R=>by kernel_rfl) (cn (al hn) (cn (al (ar hn)) (lf rfl rfl)))⟩
/-! ### shotline/kit.line -/
def m29i (b d e:ByteArray) (a:Int):ByteArray × ByteArray × ByteArray × ByteArray × Int :=
 ((m67 4 ((((datS [SV.str b] 1).app 1 (datS [SV.str d] 1)).app 2 (datS [SV.str e] 1)).app 3 (datS [SV.str (m66 a)] 1)) ({ data:=#[32] }:ByteArray)),b,d,e,a)
def n29i (b d e:ByteArray) (a:Int):Bool :=
 ((n66 a)&&((n67 4 ((((datS [SV.str b] 1).app 1 (datS [SV.str d] 1)).app 2 (datS [SV.str e] 1)).app 3 (datS [SV.str (m66 a)] 1)) ({ data:=#[32] }:ByteArray))&&true))
def q29i (r:ByteArray × ByteArray × ByteArray × ByteArray × Int):SV × List Blk × List Blk:=(.str r.1,[.cells 20 [.ifc 9 [.str r.2.1],.ifc 9 [.str r.2.2.1],.ifc 9 [.str r.2.2.2.1],.ifc 3 [V Z r.2.2.2.2]]],[])
def g29i:GF:=fun vs bs=>match vs,bs with
 | [.slc 0 1 0 4],[.cells 20 [.ifc 9 [.str b],.ifc 9 [.str d],.ifc 9 [.str e],.ifc 3 [V Z a]]]=>some (rs 1 (q29i (m29i b d e a)) [n29i b d e a])
 | _,_=>none
def c29i:Ctr:=genC [.sp []] g29i
theorem k29i:CtrOk Tryz.prog c29i 29:=cx (tc k66 (tc k67 tn)) mix_ok 40 (fn:=Tryz.f29) (c:=(Tryz.f29.body.getD .skip)) (grs:=[]) (rh:=.k) Tryz.func29 rfl (by kernel_rfl) noLam fun vs bs q h hn=>by
 unfold g29i at h
 split at h <;> cases h
 rename_i b d e a
 have hn:=n1 hn
 exact ⟨_,rfl,ca (fun R => 
 let a0:=((((datS [SV.str b] 1).app 1 (datS [SV.str d] 1)).app 2 (datS [SV.str e] 1)).app 3 (datS [SV.str (m66 a)] 1))
 (cnd (n66 a)
 (cnd (n67 4 a0 ({ data:=#[32] }:ByteArray))
 (R (.str (m67 4 a0 ({ data:=#[32] }:ByteArray))) [.cells 20 [.ifc 9 [.str b],.ifc 9 [.str d],.ifc 9 [.str e],.ifc 3 [V Z a]]] [])
  False)
 False)) (fun R=>by kernel_rfl) (cn (al hn) (cn (al (ar hn)) (lf rfl rfl)))⟩
/-! ### shotline/kit.line -/
def m29r (d e g:ByteArray) (a b:Int):ByteArray × ByteArray × ByteArray × ByteArray × Int × Int :=
 ((m67 5 (((((datS [SV.str d] 1).app 1 (datS [SV.str e] 1)).app 2 (datS [SV.str g] 1)).app 3 (datS [SV.str (m66 a)] 1)).app 4 (datS [SV.str (m66 b)] 1)) ({ data:=#[32] }:ByteArray)),d,e,g,a,b)
def n29r (d e g:ByteArray) (a b:Int):Bool :=
 ((n66 a)&&((n66 b)&&((n67 5 (((((datS [SV.str d] 1).app 1 (datS [SV.str e] 1)).app 2 (datS [SV.str g] 1)).app 3 (datS [SV.str (m66 a)] 1)).app 4 (datS [SV.str (m66 b)] 1)) ({ data:=#[32] }:ByteArray))&&true)))
def q29r (r:ByteArray × ByteArray × ByteArray × ByteArray × Int × Int):SV × List Blk × List Blk:=(.str r.1,[.cells 20 [.ifc 9 [.str r.2.1],.ifc 9 [.str r.2.2.1],.ifc 9 [.str r.2.2.2.1],.ifc 3 [V Z r.2.2.2.2.1],.ifc 3 [V Z r.2.2.2.2.2]]],[])
def g29r:GF:=fun vs bs=>match vs,bs with
 | [.slc 0 1 0 5],[.cells 20 [.ifc 9 [.str d],.ifc 9 [.str e],.ifc 9 [.str g],.ifc 3 [V Z a],.ifc 3 [V Z b]]]=>some (rs 1 (q29r (m29r d e g a b)) [n29r d e g a b])
 | _,_=>none
def c29r:Ctr:=genC [.sp []] g29r
theorem k29r:CtrOk Tryz.prog c29r 29:=cx (tc k66 (tc k67 tn)) mix_ok 40 (fn:=Tryz.f29) (c:=(Tryz.f29.body.getD .skip)) (grs:=[]) (rh:=.k) Tryz.func29 rfl (by kernel_rfl) noLam fun vs bs q h hn=>by
 unfold g29r at h
 split at h <;> cases h
 rename_i d e g a b
 have hn:=n1 hn
 exact ⟨_,rfl,ca (fun R => 
 let a0:=(((((datS [SV.str d] 1).app 1 (datS [SV.str e] 1)).app 2 (datS [SV.str g] 1)).app 3 (datS [SV.str (m66 a)] 1)).app 4 (datS [SV.str (m66 b)] 1))
 (cnd (n66 a)
 (cnd (n66 b)
 (cnd (n67 5 a0 ({ data:=#[32] }:ByteArray))
 (R (.str (m67 5 a0 ({ data:=#[32] }:ByteArray))) [.cells 20 [.ifc 9 [.str d],.ifc 9 [.str e],.ifc 9 [.str g],.ifc 3 [V Z a],.ifc 3 [V Z b]]] [])
  False)
  False)
 False)) (fun R=>by kernel_rfl) (cn (al hn) (cn (al (ar hn)) (cn (al (ar (ar hn))) (lf rfl rfl))))⟩
/-! ### shotline/kit.line -/
def m29k (b:ByteArray) (a:Int) (d e:ByteArray) (g:Bool):ByteArray × ByteArray × Int × ByteArray × ByteArray × Bool :=
 ((m67 5 (((((datS [SV.str b] 1).app 1 (datS [SV.str (m66 a)] 1)).app 2 (datS [SV.str d] 1)).app 3 (datS [SV.str e] 1)).app 4 (datS [SV.str (resW g)] 1)) ({ data:=#[32] }:ByteArray)),b,a,d,e,g)
def n29k (b:ByteArray) (a:Int) (d e:ByteArray) (g:Bool):Bool :=
 ((n66 a)&&((n67 5 (((((datS [SV.str b] 1).app 1 (datS [SV.str (m66 a)] 1)).app 2 (datS [SV.str d] 1)).app 3 (datS [SV.str e] 1)).app 4 (datS [SV.str (resW g)] 1)) ({ data:=#[32] }:ByteArray))&&true))
def q29k (r:ByteArray × ByteArray × Int × ByteArray × ByteArray × Bool):SV × List Blk × List Blk:=(.str r.1,[.cells 20 [.ifc 9 [.str r.2.1],.ifc 3 [V Z r.2.2.1],.ifc 9 [.str r.2.2.2.1],.ifc 9 [.str r.2.2.2.2.1],.ifc 4 [.bool r.2.2.2.2.2]]],[])
def g29k:GF:=fun vs bs=>match vs,bs with
 | [.slc 0 1 0 5],[.cells 20 [.ifc 9 [.str b],.ifc 3 [V Z a],.ifc 9 [.str d],.ifc 9 [.str e],.ifc 4 [.bool g]]]=>some (rs 1 (q29k (m29k b a d e g)) [n29k b a d e g])
 | _,_=>none
def c29k:Ctr:=genC [.sp []] g29k
theorem k29k:CtrOk Tryz.prog c29k 29:=cx (tc k66 (tc k67 tn)) mix_ok 40 (fn:=Tryz.f29) (c:=(Tryz.f29.body.getD .skip)) (grs:=[]) (rh:=.k) Tryz.func29 rfl (by kernel_rfl) noLam fun vs bs q h hn=>by
 unfold g29k at h
 split at h <;> cases h
 rename_i b a d e g
 have hn:=n1 hn
 exact ⟨_,rfl,ca (fun R => 
 let a0:=(((((datS [SV.str b] 1).app 1 (datS [SV.str (m66 a)] 1)).app 2 (datS [SV.str d] 1)).app 3 (datS [SV.str e] 1)).app 4 (datS [SV.str (resW g)] 1))
 (cnd (n66 a)
 (cnd (n67 5 a0 ({ data:=#[32] }:ByteArray))
 (R (.str (m67 5 a0 ({ data:=#[32] }:ByteArray))) [.cells 20 [.ifc 9 [.str b],.ifc 3 [V Z a],.ifc 9 [.str d],.ifc 9 [.str e],.ifc 4 [.bool g]]] [])
  False)
 False)) (fun R=>by kernel_rfl) (cn (al hn) (cn (al (ar hn)) (lf rfl rfl)))⟩
/-! ### shotline/kit.scan -/
def m31u (b:Nat) (a:Dat) (a1_0_0 a1_0_1:Int) (a1_0_2 a1_0_3 a1_0_4:ByteArray) (a1_0_5:Bool):Bool × Int × Int × ByteArray × ByteArray × ByteArray × Bool :=
 (cond (bif (decide ((↑b:Int)=2)) then false else true) (false,a1_0_0,a1_0_1,a1_0_2,a1_0_3,a1_0_4,a1_0_5) (cond (decide ((0:Int)<(↑b:Int))) (cond (bif (bif (bif (m69 (a.ss 0 0)).2 then false else true) then true else (bif (decide ((m66 (m69 (a.ss 0 0)).1)=(a.ss 0 0))) then false else true)) then true else (decide (7<(↑((m70 (a.ss 0 0) ({ data:=#[45] }:ByteArray)).size):Int)))) (false,a1_0_0,a1_0_1,a1_0_2,a1_0_3,a1_0_4,a1_0_5) (cond (decide (1<(↑b:Int))) (true,a1_0_0,(m69 (a.ss 0 0)).1,(a.ss 1 0),a1_0_3,a1_0_4,a1_0_5) (true,a1_0_0,(m69 (a.ss 0 0)).1,a1_0_2,a1_0_3,a1_0_4,a1_0_5))) (true,a1_0_0,a1_0_1,a1_0_2,a1_0_3,a1_0_4,a1_0_5)))
def n31u (b:Nat) (a:Dat) (a1_0_0 a1_0_1:Int) (a1_0_2 a1_0_3 a1_0_4:ByteArray) (a1_0_5:Bool):Bool :=
 (cond (bif (decide ((↑b:Int)=2)) then false else true) true (cond (decide ((0:Int)<(↑b:Int))) ((decide ((0:Int)≤(0:Int)∧(0:Int)<(↑b:Int)))&&((n69 (a.ss 0 0))&&((bif (bif (bif (bif (m69 (a.ss 0 0)).2 then false else true) then false else true) then false else true) then true else (n66 (m69 (a.ss 0 0)).1))&&(cond (bif (bif (bif (m69 (a.ss 0 0)).2 then false else true) then true else (bif (decide ((m66 (m69 (a.ss 0 0)).1)=(a.ss 0 0))) then false else true)) then true else (decide (7<(↑((m70 (a.ss 0 0) ({ data:=#[45] }:ByteArray)).size):Int)))) true (cond (decide (1<(↑b:Int))) ((decide ((0:Int)≤(1:Int)∧(1:Int)<(↑b:Int)))&&(!(decide (2<(↑b:Int)))&&true)) true))))) true))
def q31u (r:Bool × Int × Int × ByteArray × ByteArray × ByteArray × Bool):SV × List Blk × List Blk:=(.bool r.1,[.cells 20 [.ifc 81 [.ptr 1 1],.ifc 82 [.ptr 1 2]],.cells 27 [V Z r.2.1,V Z r.2.2.1,.str r.2.2.2.1,.str r.2.2.2.2.1,.str r.2.2.2.2.2.1,.bool r.2.2.2.2.2.2]],[])
def g31u:GF:=fun vs bs=>match vs,bs with
 | [.ro [.str] b a,.slc 0 1 0 2],[.cells 20 [.ifc 81 [.ptr 1 1],.ifc 82 [.ptr 1 2]],.cells 27 [V Z a1_0_0,V Z a1_0_1,.str a1_0_2,.str a1_0_3,.str a1_0_4,.bool a1_0_5]]=>some (rs 2 (q31u (m31u b a a1_0_0 a1_0_1 a1_0_2 a1_0_3 a1_0_4 a1_0_5)) [n31u b a a1_0_0 a1_0_1 a1_0_2 a1_0_3 a1_0_4 a1_0_5])
 | _,_=>none
def c31u:Ctr:=genC [.ro [.str],.sp [[.k,.k,.k,.k,.k,.k]]] g31u
theorem k31u:CtrOk Tryz.prog c31u 31:=cx (tc k66 (tc k69 (tc k70 tn))) mix_ok 40 (fn:=Tryz.f31) (c:=(Tryz.f31.body.getD .skip)) (grs:=[]) (rh:=.k) Tryz.func31 rfl (by kernel_rfl) noLam fun vs bs q h hn=>by
 unfold g31u at h
 split at h <;> cases h
 rename_i b a a1_0_0 a1_0_1 a1_0_2 a1_0_3 a1_0_4 a1_0_5
 have hn:=n1 hn
 exact ⟨_,rfl,ca (fun R=>(cnd (bif (decide ((↑b:Int)=2)) then false else true)
 (R (.bool false) [.cells 20 [.ifc 81 [.ptr 1 1],.ifc 82 [.ptr 1 2]],.cells 27 [V Z a1_0_0,V Z a1_0_1,.str a1_0_2,.str a1_0_3,.str a1_0_4,.bool a1_0_5]] [])
 (cnd (decide ((0:Int)<(↑b:Int)))
 (cnd (decide ((0:Int)≤(0:Int)∧(0:Int)<(↑b:Int)))
 (cnd (n69 (a.ss 0 0))
 (cnd (bif (bif (bif (bif (m69 (a.ss 0 0)).2 then false else true) then false else true) then false else true) then true else (n66 (m69 (a.ss 0 0)).1))
 (cnd (bif (bif (bif (m69 (a.ss 0 0)).2 then false else true) then true else (bif (decide ((m66 (m69 (a.ss 0 0)).1)=(a.ss 0 0))) then false else true)) then true else (decide (7<(↑((m70 (a.ss 0 0) ({ data:=#[45] }:ByteArray)).size):Int))))
 (R (.bool false) [.cells 20 [.ifc 81 [.ptr 1 1],.ifc 82 [.ptr 1 2]],.cells 27 [V Z a1_0_0,V Z a1_0_1,.str a1_0_2,.str a1_0_3,.str a1_0_4,.bool a1_0_5]] [])
 (cnd (decide (1<(↑b:Int)))
 (cnd (decide ((0:Int)≤(1:Int)∧(1:Int)<(↑b:Int)))
 (cnd (decide (2<(↑b:Int)))
 (cnd (decide ((0:Int)≤(2:Int)∧(2:Int)<(↑b:Int)))
      False
      False)
 (R (.bool true) [.cells 20 [.ifc 81 [.ptr 1 1],.ifc 82 [.ptr 1 2]],.cells 27 [V Z a1_0_0,V Z (m69 (a.ss 0 0)).1,.str (a.ss 1 0),.str a1_0_3,.str a1_0_4,.bool a1_0_5]] []))
     False)
 (R (.bool true) [.cells 20 [.ifc 81 [.ptr 1 1],.ifc 82 [.ptr 1 2]],.cells 27 [V Z a1_0_0,V Z (m69 (a.ss 0 0)).1,.str a1_0_2,.str a1_0_3,.str a1_0_4,.bool a1_0_5]] [])))
   False)
   False)
  False)
 (R (.bool true) [.cells 20 [.ifc 81 [.ptr 1 1],.ifc 82 [.ptr 1 2]],.cells 27 [V Z a1_0_0,V Z a1_0_1,.str a1_0_2,.str a1_0_3,.str a1_0_4,.bool a1_0_5]] [])))) (fun R=>by kernel_rfl) (co (fun h0=>lf (cT h0 rfl) rfl) (fun h0=>co (fun h1=>cn (al (ct h1 (cf h0 hn))) (cn (al (ar (ct h1 (cf h0 hn)))) (cn (al (ar (ar (ct h1 (cf h0 hn))))) (co (fun h2=>lf (cF h0 (cT h1 (cT h2 rfl))) rfl) (fun h2=>co (fun h3=>cn (al (ct h3 (cf h2 (ar (ar (ar (ct h1 (cf h0 hn)))))))) (co (fun h4=>(Bool.false_ne_true ((not_l (ar (ct h3 (cf h2 (ar (ar (ar (ct h1 (cf h0 hn))))))))).symm.trans h4)).elim) (fun _=>lf (cF h0 (cT h1 (cF h2 (cT h3 rfl)))) rfl))) (fun h3=>lf (cF h0 (cT h1 (cF h2 (cF h3 rfl)))) rfl)))))) (fun h1=>lf (cF h0 (cF h1 rfl)) rfl)))⟩
/-! ### shotline/kit.scan -/
def m31f (b:Nat) (a:Dat) (a1_0_0 a1_0_1:Int) (a1_0_2 a1_0_3 a1_0_4:ByteArray) (a1_0_5:Bool):Bool × Int × Int × ByteArray × ByteArray × ByteArray × Bool :=
 (cond (bif (decide ((↑b:Int)=3)) then false else true) (false,a1_0_0,a1_0_1,a1_0_2,a1_0_3,a1_0_4,a1_0_5) (cond (decide ((0:Int)<(↑b:Int))) (cond (bif (bif (bif (m69 (a.ss 0 0)).2 then false else true) then true else (bif (decide ((m66 (m69 (a.ss 0 0)).1)=(a.ss 0 0))) then false else true)) then true else (decide (7<(↑((m70 (a.ss 0 0) ({ data:=#[45] }:ByteArray)).size):Int)))) (false,a1_0_0,a1_0_1,a1_0_2,a1_0_3,a1_0_4,a1_0_5) (cond (decide (1<(↑b:Int))) (cond (decide (2<(↑b:Int))) (true,a1_0_0,(m69 (a.ss 0 0)).1,(a.ss 2 0),a1_0_3,(a.ss 1 0),a1_0_5) (true,a1_0_0,(m69 (a.ss 0 0)).1,a1_0_2,a1_0_3,(a.ss 1 0),a1_0_5)) (true,a1_0_0,(m69 (a.ss 0 0)).1,a1_0_2,a1_0_3,a1_0_4,a1_0_5))) (true,a1_0_0,a1_0_1,a1_0_2,a1_0_3,a1_0_4,a1_0_5)))
def n31f (b:Nat) (a:Dat) (a1_0_0 a1_0_1:Int) (a1_0_2 a1_0_3 a1_0_4:ByteArray) (a1_0_5:Bool):Bool :=
 (cond (bif (decide ((↑b:Int)=3)) then false else true) true (cond (decide ((0:Int)<(↑b:Int))) ((decide ((0:Int)≤(0:Int)∧(0:Int)<(↑b:Int)))&&((n69 (a.ss 0 0))&&((bif (bif (bif (bif (m69 (a.ss 0 0)).2 then false else true) then false else true) then false else true) then true else (n66 (m69 (a.ss 0 0)).1))&&(cond (bif (bif (bif (m69 (a.ss 0 0)).2 then false else true) then true else (bif (decide ((m66 (m69 (a.ss 0 0)).1)=(a.ss 0 0))) then false else true)) then true else (decide (7<(↑((m70 (a.ss 0 0) ({ data:=#[45] }:ByteArray)).size):Int)))) true (cond (decide (1<(↑b:Int))) ((decide ((0:Int)≤(1:Int)∧(1:Int)<(↑b:Int)))&&(cond (decide (2<(↑b:Int))) ((decide ((0:Int)≤(2:Int)∧(2:Int)<(↑b:Int)))&&(!(decide (3<(↑b:Int)))&&true)) true)) true))))) true))
def q31f (r:Bool × Int × Int × ByteArray × ByteArray × ByteArray × Bool):SV × List Blk × List Blk:=(.bool r.1,[.cells 20 [.ifc 81 [.ptr 1 1],.ifc 82 [.ptr 1 4],.ifc 82 [.ptr 1 2]],.cells 27 [V Z r.2.1,V Z r.2.2.1,.str r.2.2.2.1,.str r.2.2.2.2.1,.str r.2.2.2.2.2.1,.bool r.2.2.2.2.2.2]],[])
def g31f:GF:=fun vs bs=>match vs,bs with
 | [.ro [.str] b a,.slc 0 1 0 3],[.cells 20 [.ifc 81 [.ptr 1 1],.ifc 82 [.ptr 1 4],.ifc 82 [.ptr 1 2]],.cells 27 [V Z a1_0_0,V Z a1_0_1,.str a1_0_2,.str a1_0_3,.str a1_0_4,.bool a1_0_5]]=>some (rs 2 (q31f (m31f b a a1_0_0 a1_0_1 a1_0_2 a1_0_3 a1_0_4 a1_0_5)) [n31f b a a1_0_0 a1_0_1 a1_0_2 a1_0_3 a1_0_4 a1_0_5])
 | _,_=>none
def c31f:Ctr:=genC [.ro [.str],.sp [[.k,.k,.k,.k,.k,.k]]] g31f
theorem k31f:CtrOk Tryz.prog c31f 31:=cx (tc k66 (tc k69 (tc k70 tn))) mix_ok 40 (fn:=Tryz.f31) (c:=(Tryz.f31.body.getD .skip)) (grs:=[]) (rh:=.k) Tryz.func31 rfl (by kernel_rfl) noLam fun vs bs q h hn=>by
 unfold g31f at h
 split at h <;> cases h
 rename_i b a a1_0_0 a1_0_1 a1_0_2 a1_0_3 a1_0_4 a1_0_5
 have hn:=n1 hn
 exact ⟨_,rfl,ca (fun R=>(cnd (bif (decide ((↑b:Int)=3)) then false else true)
 (R (.bool false) [.cells 20 [.ifc 81 [.ptr 1 1],.ifc 82 [.ptr 1 4],.ifc 82 [.ptr 1 2]],.cells 27 [V Z a1_0_0,V Z a1_0_1,.str a1_0_2,.str a1_0_3,.str a1_0_4,.bool a1_0_5]] [])
 (cnd (decide ((0:Int)<(↑b:Int)))
 (cnd (decide ((0:Int)≤(0:Int)∧(0:Int)<(↑b:Int)))
 (cnd (n69 (a.ss 0 0))
 (cnd (bif (bif (bif (bif (m69 (a.ss 0 0)).2 then false else true) then false else true) then false else true) then true else (n66 (m69 (a.ss 0 0)).1))
 (cnd (bif (bif (bif (m69 (a.ss 0 0)).2 then false else true) then true else (bif (decide ((m66 (m69 (a.ss 0 0)).1)=(a.ss 0 0))) then false else true)) then true else (decide (7<(↑((m70 (a.ss 0 0) ({ data:=#[45] }:ByteArray)).size):Int))))
 (R (.bool false) [.cells 20 [.ifc 81 [.ptr 1 1],.ifc 82 [.ptr 1 4],.ifc 82 [.ptr 1 2]],.cells 27 [V Z a1_0_0,V Z a1_0_1,.str a1_0_2,.str a1_0_3,.str a1_0_4,.bool a1_0_5]] [])
 (cnd (decide (1<(↑b:Int)))
 (cnd (decide ((0:Int)≤(1:Int)∧(1:Int)<(↑b:Int)))
 (cnd (decide (2<(↑b:Int)))
 (cnd (decide ((0:Int)≤(2:Int)∧(2:Int)<(↑b:Int)))
 (cnd (decide (3<(↑b:Int)))
 (cnd (decide ((0:Int)≤(3:Int)∧(3:Int)<(↑b:Int)))
       False
       False)
 (R (.bool true) [.cells 20 [.ifc 81 [.ptr 1 1],.ifc 82 [.ptr 1 4],.ifc 82 [.ptr 1 2]],.cells 27 [V Z a1_0_0,V Z (m69 (a.ss 0 0)).1,.str (a.ss 2 0),.str a1_0_3,.str (a.ss 1 0),.bool a1_0_5]] []))
      False)
 (R (.bool true) [.cells 20 [.ifc 81 [.ptr 1 1],.ifc 82 [.ptr 1 4],.ifc 82 [.ptr 1 2]],.cells 27 [V Z a1_0_0,V Z (m69 (a.ss 0 0)).1,.str a1_0_2,.str a1_0_3,.str (a.ss 1 0),.bool a1_0_5]] []))
     False)
 (R (.bool true) [.cells 20 [.ifc 81 [.ptr 1 1],.ifc 82 [.ptr 1 4],.ifc 82 [.ptr 1 2]],.cells 27 [V Z a1_0_0,V Z (m69 (a.ss 0 0)).1,.str a1_0_2,.str a1_0_3,.str a1_0_4,.bool a1_0_5]] [])))
   False)
   False)
  False)
 (R (.bool true) [.cells 20 [.ifc 81 [.ptr 1 1],.ifc 82 [.ptr 1 4],.ifc 82 [.ptr 1 2]],.cells 27 [V Z a1_0_0,V Z a1_0_1,.str a1_0_2,.str a1_0_3,.str a1_0_4,.bool a1_0_5]] [])))) (fun R=>by kernel_rfl) (co (fun h0=>lf (cT h0 rfl) rfl) (fun h0=>co (fun h1=>cn (al (ct h1 (cf h0 hn))) (cn (al (ar (ct h1 (cf h0 hn)))) (cn (al (ar (ar (ct h1 (cf h0 hn))))) (co (fun h2=>lf (cF h0 (cT h1 (cT h2 rfl))) rfl) (fun h2=>co (fun h3=>cn (al (ct h3 (cf h2 (ar (ar (ar (ct h1 (cf h0 hn)))))))) (co (fun h4=>cn (al (ct h4 (ar (ct h3 (cf h2 (ar (ar (ar (ct h1 (cf h0 hn)))))))))) (co (fun h5=>(Bool.false_ne_true ((not_l (ar (ct h4 (ar (ct h3 (cf h2 (ar (ar (ar (ct h1 (cf h0 hn))))))))))).symm.trans h5)).elim) (fun _=>lf (cF h0 (cT h1 (cF h2 (cT h3 (cT h4 rfl))))) rfl))) (fun h4=>lf (cF h0 (cT h1 (cF h2 (cT h3 (cF h4 rfl))))) rfl))) (fun h3=>lf (cF h0 (cT h1 (cF h2 (cF h3 rfl)))) rfl)))))) (fun h1=>lf (cF h0 (cF h1 rfl)) rfl)))⟩
/-! ### shotline/kit.scan -/
def m31a (b:Nat) (a:Dat) (a1_0_0 a1_0_1:Int) (a1_0_2 a1_0_3 a1_0_4:ByteArray) (a1_0_5:Bool):Bool × Int × Int × ByteArray × ByteArray × ByteArray × Bool :=
 (cond (bif (decide ((↑b:Int)=3)) then false else true) (false,a1_0_0,a1_0_1,a1_0_2,a1_0_3,a1_0_4,a1_0_5) (cond (decide ((0:Int)<(↑b:Int))) (cond (bif (bif (bif (m69 (a.ss 0 0)).2 then false else true) then true else (bif (decide ((m66 (m69 (a.ss 0 0)).1)=(a.ss 0 0))) then false else true)) then true else (decide (7<(↑((m70 (a.ss 0 0) ({ data:=#[45] }:ByteArray)).size):Int)))) (false,a1_0_0,a1_0_1,a1_0_2,a1_0_3,a1_0_4,a1_0_5) (cond (decide (1<(↑b:Int))) (cond (decide (2<(↑b:Int))) (cond (bif (bif (decide ((a.ss 2 0)=(resW true))) then false else true) then (bif (decide ((a.ss 2 0)=(resW false))) then false else true) else false) (false,a1_0_0,(m69 (a.ss 0 0)).1,(a.ss 1 0),a1_0_3,a1_0_4,a1_0_5) (true,a1_0_0,(m69 (a.ss 0 0)).1,(a.ss 1 0),a1_0_3,a1_0_4,(decide ((a.ss 2 0)=(resW true))))) (true,a1_0_0,(m69 (a.ss 0 0)).1,(a.ss 1 0),a1_0_3,a1_0_4,a1_0_5)) (true,a1_0_0,(m69 (a.ss 0 0)).1,a1_0_2,a1_0_3,a1_0_4,a1_0_5))) (true,a1_0_0,a1_0_1,a1_0_2,a1_0_3,a1_0_4,a1_0_5)))
def n31a (b:Nat) (a:Dat) (a1_0_0 a1_0_1:Int) (a1_0_2 a1_0_3 a1_0_4:ByteArray) (a1_0_5:Bool):Bool :=
 (cond (bif (decide ((↑b:Int)=3)) then false else true) true (cond (decide ((0:Int)<(↑b:Int))) ((decide ((0:Int)≤(0:Int)∧(0:Int)<(↑b:Int)))&&((n69 (a.ss 0 0))&&((bif (bif (bif (bif (m69 (a.ss 0 0)).2 then false else true) then false else true) then false else true) then true else (n66 (m69 (a.ss 0 0)).1))&&(cond (bif (bif (bif (m69 (a.ss 0 0)).2 then false else true) then true else (bif (decide ((m66 (m69 (a.ss 0 0)).1)=(a.ss 0 0))) then false else true)) then true else (decide (7<(↑((m70 (a.ss 0 0) ({ data:=#[45] }:ByteArray)).size):Int)))) true (cond (decide (1<(↑b:Int))) ((decide ((0:Int)≤(1:Int)∧(1:Int)<(↑b:Int)))&&(cond (decide (2<(↑b:Int))) ((decide ((0:Int)≤(2:Int)∧(2:Int)<(↑b:Int)))&&(cond (bif (bif (decide ((a.ss 2 0)=(resW true))) then false else true) then (bif (decide ((a.ss 2 0)=(resW false))) then false else true) else false) true (!(decide (3<(↑b:Int)))&&true))) true)) true))))) true))
def q31a (r:Bool × Int × Int × ByteArray × ByteArray × ByteArray × Bool):SV × List Blk × List Blk:=(.bool r.1,[.cells 20 [.ifc 81 [.ptr 1 1],.ifc 82 [.ptr 1 2],.ifc 83 [.ptr 1 5]],.cells 27 [V Z r.2.1,V Z r.2.2.1,.str r.2.2.2.1,.str r.2.2.2.2.1,.str r.2.2.2.2.2.1,.bool r.2.2.2.2.2.2]],[])
def g31a:GF:=fun vs bs=>match vs,bs with
 | [.ro [.str] b a,.slc 0 1 0 3],[.cells 20 [.ifc 81 [.ptr 1 1],.ifc 82 [.ptr 1 2],.ifc 83 [.ptr 1 5]],.cells 27 [V Z a1_0_0,V Z a1_0_1,.str a1_0_2,.str a1_0_3,.str a1_0_4,.bool a1_0_5]]=>some (rs 2 (q31a (m31a b a a1_0_0 a1_0_1 a1_0_2 a1_0_3 a1_0_4 a1_0_5)) [n31a b a a1_0_0 a1_0_1 a1_0_2 a1_0_3 a1_0_4 a1_0_5])
 | _,_=>none
def c31a:Ctr:=genC [.ro [.str],.sp [[.k,.k,.k,.k,.k,.k]]] g31a
theorem k31a:CtrOk Tryz.prog c31a 31:=cx (tc k66 (tc k69 (tc k70 tn))) mix_ok 40 (fn:=Tryz.f31) (c:=(Tryz.f31.body.getD .skip)) (grs:=[]) (rh:=.k) Tryz.func31 rfl (by kernel_rfl) noLam fun vs bs q h hn=>by
 unfold g31a at h
 split at h <;> cases h
 rename_i b a a1_0_0 a1_0_1 a1_0_2 a1_0_3 a1_0_4 a1_0_5
 have hn:=n1 hn
 exact ⟨_,rfl,ca (fun R=>(cnd (bif (decide ((↑b:Int)=3)) then false else true)
 (R (.bool false) [.cells 20 [.ifc 81 [.ptr 1 1],.ifc 82 [.ptr 1 2],.ifc 83 [.ptr 1 5]],.cells 27 [V Z a1_0_0,V Z a1_0_1,.str a1_0_2,.str a1_0_3,.str a1_0_4,.bool a1_0_5]] [])
 (cnd (decide ((0:Int)<(↑b:Int)))
 (cnd (decide ((0:Int)≤(0:Int)∧(0:Int)<(↑b:Int)))
 (cnd (n69 (a.ss 0 0))
 (cnd (bif (bif (bif (bif (m69 (a.ss 0 0)).2 then false else true) then false else true) then false else true) then true else (n66 (m69 (a.ss 0 0)).1))
 (cnd (bif (bif (bif (m69 (a.ss 0 0)).2 then false else true) then true else (bif (decide ((m66 (m69 (a.ss 0 0)).1)=(a.ss 0 0))) then false else true)) then true else (decide (7<(↑((m70 (a.ss 0 0) ({ data:=#[45] }:ByteArray)).size):Int))))
 (R (.bool false) [.cells 20 [.ifc 81 [.ptr 1 1],.ifc 82 [.ptr 1 2],.ifc 83 [.ptr 1 5]],.cells 27 [V Z a1_0_0,V Z a1_0_1,.str a1_0_2,.str a1_0_3,.str a1_0_4,.bool a1_0_5]] [])
 (cnd (decide (1<(↑b:Int)))
 (cnd (decide ((0:Int)≤(1:Int)∧(1:Int)<(↑b:Int)))
 (cnd (decide (2<(↑b:Int)))
 (cnd (decide ((0:Int)≤(2:Int)∧(2:Int)<(↑b:Int)))
 (cnd (bif (bif (decide ((a.ss 2 0)=(resW true))) then false else true) then (bif (decide ((a.ss 2 0)=(resW false))) then false else true) else false)
 (R (.bool false) [.cells 20 [.ifc 81 [.ptr 1 1],.ifc 82 [.ptr 1 2],.ifc 83 [.ptr 1 5]],.cells 27 [V Z a1_0_0,V Z (m69 (a.ss 0 0)).1,.str (a.ss 1 0),.str a1_0_3,.str a1_0_4,.bool a1_0_5]] [])
 (cnd (decide (3<(↑b:Int)))
 (cnd (decide ((0:Int)≤(3:Int)∧(3:Int)<(↑b:Int)))
       False
       False)
 (R (.bool true) [.cells 20 [.ifc 81 [.ptr 1 1],.ifc 82 [.ptr 1 2],.ifc 83 [.ptr 1 5]],.cells 27 [V Z a1_0_0,V Z (m69 (a.ss 0 0)).1,.str (a.ss 1 0),.str a1_0_3,.str a1_0_4,.bool (decide ((a.ss 2 0)=(resW true)))]] [])))
      False)
 (R (.bool true) [.cells 20 [.ifc 81 [.ptr 1 1],.ifc 82 [.ptr 1 2],.ifc 83 [.ptr 1 5]],.cells 27 [V Z a1_0_0,V Z (m69 (a.ss 0 0)).1,.str (a.ss 1 0),.str a1_0_3,.str a1_0_4,.bool a1_0_5]] []))
     False)
 (R (.bool true) [.cells 20 [.ifc 81 [.ptr 1 1],.ifc 82 [.ptr 1 2],.ifc 83 [.ptr 1 5]],.cells 27 [V Z a1_0_0,V Z (m69 (a.ss 0 0)).1,.str a1_0_2,.str a1_0_3,.str a1_0_4,.bool a1_0_5]] [])))
   False)
   False)
  False)
 (R (.bool true) [.cells 20 [.ifc 81 [.ptr 1 1],.ifc 82 [.ptr 1 2],.ifc 83 [.ptr 1 5]],.cells 27 [V Z a1_0_0,V Z a1_0_1,.str a1_0_2,.str a1_0_3,.str a1_0_4,.bool a1_0_5]] [])))) (fun R=>by kernel_rfl) (co (fun h0=>lf (cT h0 rfl) rfl) (fun h0=>co (fun h1=>cn (al (ct h1 (cf h0 hn))) (cn (al (ar (ct h1 (cf h0 hn)))) (cn (al (ar (ar (ct h1 (cf h0 hn))))) (co (fun h2=>lf (cF h0 (cT h1 (cT h2 rfl))) rfl) (fun h2=>co (fun h3=>cn (al (ct h3 (cf h2 (ar (ar (ar (ct h1 (cf h0 hn)))))))) (co (fun h4=>cn (al (ct h4 (ar (ct h3 (cf h2 (ar (ar (ar (ct h1 (cf h0 hn)))))))))) (co (fun h5=>lf (cF h0 (cT h1 (cF h2 (cT h3 (cT h4 (cT h5 rfl)))))) rfl) (fun h5=>co (fun h6=>(Bool.false_ne_true ((not_l (cf h5 (ar (ct h4 (ar (ct h3 (cf h2 (ar (ar (ar (ct h1 (cf h0 hn)))))))))))).symm.trans h6)).elim) (fun _=>lf (cF h0 (cT h1 (cF h2 (cT h3 (cT h4 (cF h5 rfl)))))) rfl)))) (fun h4=>lf (cF h0 (cT h1 (cF h2 (cT h3 (cF h4 rfl))))) rfl))) (fun h3=>lf (cF h0 (cT h1 (cF h2 (cF h3 rfl)))) rfl)))))) (fun h1=>lf (cF h0 (cF h1 rfl)) rfl)))⟩
/-! ### shotline/kit.scan -/
def m31k (b:Nat) (a:Dat) (a1_0_0 a1_0_1:Int) (a1_0_2 a1_0_3 a1_0_4:ByteArray) (a1_0_5:Bool):Bool × Int × Int × ByteArray × ByteArray × ByteArray × Bool :=
 (cond (bif (decide ((↑b:Int)=4)) then false else true) (false,a1_0_0,a1_0_1,a1_0_2,a1_0_3,a1_0_4,a1_0_5) (cond (decide ((0:Int)<(↑b:Int))) (cond (bif (bif (bif (m69 (a.ss 0 0)).2 then false else true) then true else (bif (decide ((m66 (m69 (a.ss 0 0)).1)=(a.ss 0 0))) then false else true)) then true else (decide (7<(↑((m70 (a.ss 0 0) ({ data:=#[45] }:ByteArray)).size):Int)))) (false,a1_0_0,a1_0_1,a1_0_2,a1_0_3,a1_0_4,a1_0_5) (cond (decide (1<(↑b:Int))) (cond (decide (2<(↑b:Int))) (cond (decide (3<(↑b:Int))) (cond (bif (bif (decide ((a.ss 3 0)=(resW true))) then false else true) then (bif (decide ((a.ss 3 0)=(resW false))) then false else true) else false) (false,a1_0_0,(m69 (a.ss 0 0)).1,(a.ss 1 0),(a.ss 2 0),a1_0_4,a1_0_5) (true,a1_0_0,(m69 (a.ss 0 0)).1,(a.ss 1 0),(a.ss 2 0),a1_0_4,(decide ((a.ss 3 0)=(resW true))))) (true,a1_0_0,(m69 (a.ss 0 0)).1,(a.ss 1 0),(a.ss 2 0),a1_0_4,a1_0_5)) (true,a1_0_0,(m69 (a.ss 0 0)).1,(a.ss 1 0),a1_0_3,a1_0_4,a1_0_5)) (true,a1_0_0,(m69 (a.ss 0 0)).1,a1_0_2,a1_0_3,a1_0_4,a1_0_5))) (true,a1_0_0,a1_0_1,a1_0_2,a1_0_3,a1_0_4,a1_0_5)))
def n31k (b:Nat) (a:Dat) (a1_0_0 a1_0_1:Int) (a1_0_2 a1_0_3 a1_0_4:ByteArray) (a1_0_5:Bool):Bool :=
 (cond (bif (decide ((↑b:Int)=4)) then false else true) true (cond (decide ((0:Int)<(↑b:Int))) ((decide ((0:Int)≤(0:Int)∧(0:Int)<(↑b:Int)))&&((n69 (a.ss 0 0))&&((bif (bif (bif (bif (m69 (a.ss 0 0)).2 then false else true) then false else true) then false else true) then true else (n66 (m69 (a.ss 0 0)).1))&&(cond (bif (bif (bif (m69 (a.ss 0 0)).2 then false else true) then true else (bif (decide ((m66 (m69 (a.ss 0 0)).1)=(a.ss 0 0))) then false else true)) then true else (decide (7<(↑((m70 (a.ss 0 0) ({ data:=#[45] }:ByteArray)).size):Int)))) true (cond (decide (1<(↑b:Int))) ((decide ((0:Int)≤(1:Int)∧(1:Int)<(↑b:Int)))&&(cond (decide (2<(↑b:Int))) ((decide ((0:Int)≤(2:Int)∧(2:Int)<(↑b:Int)))&&(cond (decide (3<(↑b:Int))) ((decide ((0:Int)≤(3:Int)∧(3:Int)<(↑b:Int)))&&(cond (bif (bif (decide ((a.ss 3 0)=(resW true))) then false else true) then (bif (decide ((a.ss 3 0)=(resW false))) then false else true) else false) true (!(decide (4<(↑b:Int)))&&true))) true)) true)) true))))) true))
def q31k (r:Bool × Int × Int × ByteArray × ByteArray × ByteArray × Bool):SV × List Blk × List Blk:=(.bool r.1,[.cells 20 [.ifc 81 [.ptr 1 1],.ifc 82 [.ptr 1 2],.ifc 82 [.ptr 1 3],.ifc 83 [.ptr 1 5]],.cells 27 [V Z r.2.1,V Z r.2.2.1,.str r.2.2.2.1,.str r.2.2.2.2.1,.str r.2.2.2.2.2.1,.bool r.2.2.2.2.2.2]],[])
def g31k:GF:=fun vs bs=>match vs,bs with
 | [.ro [.str] b a,.slc 0 1 0 4],[.cells 20 [.ifc 81 [.ptr 1 1],.ifc 82 [.ptr 1 2],.ifc 82 [.ptr 1 3],.ifc 83 [.ptr 1 5]],.cells 27 [V Z a1_0_0,V Z a1_0_1,.str a1_0_2,.str a1_0_3,.str a1_0_4,.bool a1_0_5]]=>some (rs 2 (q31k (m31k b a a1_0_0 a1_0_1 a1_0_2 a1_0_3 a1_0_4 a1_0_5)) [n31k b a a1_0_0 a1_0_1 a1_0_2 a1_0_3 a1_0_4 a1_0_5])
 | _,_=>none
def c31k:Ctr:=genC [.ro [.str],.sp [[.k,.k,.k,.k,.k,.k]]] g31k
theorem k31k:CtrOk Tryz.prog c31k 31:=cx (tc k66 (tc k69 (tc k70 tn))) mix_ok 40 (fn:=Tryz.f31) (c:=(Tryz.f31.body.getD .skip)) (grs:=[]) (rh:=.k) Tryz.func31 rfl (by kernel_rfl) noLam fun vs bs q h hn=>by
 unfold g31k at h
 split at h <;> cases h
 rename_i b a a1_0_0 a1_0_1 a1_0_2 a1_0_3 a1_0_4 a1_0_5
 have hn:=n1 hn
 exact ⟨_,rfl,ca (fun R=>(cnd (bif (decide ((↑b:Int)=4)) then false else true)
 (R (.bool false) [.cells 20 [.ifc 81 [.ptr 1 1],.ifc 82 [.ptr 1 2],.ifc 82 [.ptr 1 3],.ifc 83 [.ptr 1 5]],.cells 27 [V Z a1_0_0,V Z a1_0_1,.str a1_0_2,.str a1_0_3,.str a1_0_4,.bool a1_0_5]] [])
 (cnd (decide ((0:Int)<(↑b:Int)))
 (cnd (decide ((0:Int)≤(0:Int)∧(0:Int)<(↑b:Int)))
 (cnd (n69 (a.ss 0 0))
 (cnd (bif (bif (bif (bif (m69 (a.ss 0 0)).2 then false else true) then false else true) then false else true) then true else (n66 (m69 (a.ss 0 0)).1))
 (cnd (bif (bif (bif (m69 (a.ss 0 0)).2 then false else true) then true else (bif (decide ((m66 (m69 (a.ss 0 0)).1)=(a.ss 0 0))) then false else true)) then true else (decide (7<(↑((m70 (a.ss 0 0) ({ data:=#[45] }:ByteArray)).size):Int))))
 (R (.bool false) [.cells 20 [.ifc 81 [.ptr 1 1],.ifc 82 [.ptr 1 2],.ifc 82 [.ptr 1 3],.ifc 83 [.ptr 1 5]],.cells 27 [V Z a1_0_0,V Z a1_0_1,.str a1_0_2,.str a1_0_3,.str a1_0_4,.bool a1_0_5]] [])
 (cnd (decide (1<(↑b:Int)))
 (cnd (decide ((0:Int)≤(1:Int)∧(1:Int)<(↑b:Int)))
 (cnd (decide (2<(↑b:Int)))
 (cnd (decide ((0:Int)≤(2:Int)∧(2:Int)<(↑b:Int)))
 (cnd (decide (3<(↑b:Int)))
 (cnd (decide ((0:Int)≤(3:Int)∧(3:Int)<(↑b:Int)))
 (cnd (bif (bif (decide ((a.ss 3 0)=(resW true))) then false else true) then (bif (decide ((a.ss 3 0)=(resW false))) then false else true) else false)
 (R (.bool false) [.cells 20 [.ifc 81 [.ptr 1 1],.ifc 82 [.ptr 1 2],.ifc 82 [.ptr 1 3],.ifc 83 [.ptr 1 5]],.cells 27 [V Z a1_0_0,V Z (m69 (a.ss 0 0)).1,.str (a.ss 1 0),.str (a.ss 2 0),.str a1_0_4,.bool a1_0_5]] [])
 (cnd (decide (4<(↑b:Int)))
 (cnd (decide ((0:Int)≤(4:Int)∧(4:Int)<(↑b:Int)))
        False
        False)
 (R (.bool true) [.cells 20 [.ifc 81 [.ptr 1 1],.ifc 82 [.ptr 1 2],.ifc 82 [.ptr 1 3],.ifc 83 [.ptr 1 5]],.cells 27 [V Z a1_0_0,V Z (m69 (a.ss 0 0)).1,.str (a.ss 1 0),.str (a.ss 2 0),.str a1_0_4,.bool (decide ((a.ss 3 0)=(resW true)))]] [])))
       False)
 (R (.bool true) [.cells 20 [.ifc 81 [.ptr 1 1],.ifc 82 [.ptr 1 2],.ifc 82 [.ptr 1 3],.ifc 83 [.ptr 1 5]],.cells 27 [V Z a1_0_0,V Z (m69 (a.ss 0 0)).1,.str (a.ss 1 0),.str (a.ss 2 0),.str a1_0_4,.bool a1_0_5]] []))
      False)
 (R (.bool true) [.cells 20 [.ifc 81 [.ptr 1 1],.ifc 82 [.ptr 1 2],.ifc 82 [.ptr 1 3],.ifc 83 [.ptr 1 5]],.cells 27 [V Z a1_0_0,V Z (m69 (a.ss 0 0)).1,.str (a.ss 1 0),.str a1_0_3,.str a1_0_4,.bool a1_0_5]] []))
     False)
 (R (.bool true) [.cells 20 [.ifc 81 [.ptr 1 1],.ifc 82 [.ptr 1 2],.ifc 82 [.ptr 1 3],.ifc 83 [.ptr 1 5]],.cells 27 [V Z a1_0_0,V Z (m69 (a.ss 0 0)).1,.str a1_0_2,.str a1_0_3,.str a1_0_4,.bool a1_0_5]] [])))
   False)
   False)
  False)
 (R (.bool true) [.cells 20 [.ifc 81 [.ptr 1 1],.ifc 82 [.ptr 1 2],.ifc 82 [.ptr 1 3],.ifc 83 [.ptr 1 5]],.cells 27 [V Z a1_0_0,V Z a1_0_1,.str a1_0_2,.str a1_0_3,.str a1_0_4,.bool a1_0_5]] [])))) (fun R=>by kernel_rfl) (co (fun h0=>lf (cT h0 rfl) rfl) (fun h0=>co (fun h1=>cn (al (ct h1 (cf h0 hn))) (cn (al (ar (ct h1 (cf h0 hn)))) (cn (al (ar (ar (ct h1 (cf h0 hn))))) (co (fun h2=>lf (cF h0 (cT h1 (cT h2 rfl))) rfl) (fun h2=>co (fun h3=>cn (al (ct h3 (cf h2 (ar (ar (ar (ct h1 (cf h0 hn)))))))) (co (fun h4=>cn (al (ct h4 (ar (ct h3 (cf h2 (ar (ar (ar (ct h1 (cf h0 hn)))))))))) (co (fun h5=>cn (al (ct h5 (ar (ct h4 (ar (ct h3 (cf h2 (ar (ar (ar (ct h1 (cf h0 hn)))))))))))) (co (fun h6=>lf (cF h0 (cT h1 (cF h2 (cT h3 (cT h4 (cT h5 (cT h6 rfl))))))) rfl) (fun h6=>co (fun h7=>(Bool.false_ne_true ((not_l (cf h6 (ar (ct h5 (ar (ct h4 (ar (ct h3 (cf h2 (ar (ar (ar (ct h1 (cf h0 hn)))))))))))))).symm.trans h7)).elim) (fun _=>lf (cF h0 (cT h1 (cF h2 (cT h3 (cT h4 (cT h5 (cF h6 rfl))))))) rfl)))) (fun h5=>lf (cF h0 (cT h1 (cF h2 (cT h3 (cT h4 (cF h5 rfl)))))) rfl))) (fun h4=>lf (cF h0 (cT h1 (cF h2 (cT h3 (cF h4 rfl))))) rfl))) (fun h3=>lf (cF h0 (cT h1 (cF h2 (cF h3 rfl)))) rfl)))))) (fun h1=>lf (cF h0 (cF h1 rfl)) rfl)))⟩
/-! ### shotline/kit.scan -/
def m31i (b:Nat) (a:Dat) (a1_0_0:ByteArray) (a1_0_1 a1_0_2:Int) (a1_1_0:ByteArray):Bool × ByteArray × Int × Int × ByteArray :=
 (cond (bif (decide ((↑b:Int)=3)) then false else true) (false,a1_0_0,a1_0_1,a1_0_2,a1_1_0) (cond (decide ((0:Int)<(↑b:Int))) (cond (decide (1<(↑b:Int))) (cond (decide (2<(↑b:Int))) (cond (bif (bif (bif (m69 (a.ss 2 0)).2 then false else true) then true else (bif (decide ((m66 (m69 (a.ss 2 0)).1)=(a.ss 2 0))) then false else true)) then true else (decide (7<(↑((m70 (a.ss 2 0) ({ data:=#[45] }:ByteArray)).size):Int)))) (false,(a.ss 0 0),a1_0_1,a1_0_2,(a.ss 1 0)) (true,(a.ss 0 0),a1_0_1,(m69 (a.ss 2 0)).1,(a.ss 1 0))) (true,(a.ss 0 0),a1_0_1,a1_0_2,(a.ss 1 0))) (true,(a.ss 0 0),a1_0_1,a1_0_2,a1_1_0)) (true,a1_0_0,a1_0_1,a1_0_2,a1_1_0)))
def n31i (b:Nat) (a:Dat) (a1_0_0:ByteArray) (a1_0_1 a1_0_2:Int) (a1_1_0:ByteArray):Bool :=
 (cond (bif (decide ((↑b:Int)=3)) then false else true) true (cond (decide ((0:Int)<(↑b:Int))) ((decide ((0:Int)≤(0:Int)∧(0:Int)<(↑b:Int)))&&(cond (decide (1<(↑b:Int))) ((decide ((0:Int)≤(1:Int)∧(1:Int)<(↑b:Int)))&&(cond (decide (2<(↑b:Int))) ((decide ((0:Int)≤(2:Int)∧(2:Int)<(↑b:Int)))&&((n69 (a.ss 2 0))&&((bif (bif (bif (bif (m69 (a.ss 2 0)).2 then false else true) then false else true) then false else true) then true else (n66 (m69 (a.ss 2 0)).1))&&(cond (bif (bif (bif (m69 (a.ss 2 0)).2 then false else true) then true else (bif (decide ((m66 (m69 (a.ss 2 0)).1)=(a.ss 2 0))) then false else true)) then true else (decide (7<(↑((m70 (a.ss 2 0) ({ data:=#[45] }:ByteArray)).size):Int)))) true (!(decide (3<(↑b:Int)))&&true))))) true)) true)) true))
def q31i (r:Bool × ByteArray × Int × Int × ByteArray):SV × List Blk × List Blk:=(.bool r.1,[.cells 20 [.ifc 82 [.ptr 1 0],.ifc 82 [.ptr 2 0],.ifc 81 [.ptr 1 2]],.cells 75 [.str r.2.1,V Z r.2.2.1,V Z r.2.2.2.1],.cells 9 [.str r.2.2.2.2]],[])
def g31i:GF:=fun vs bs=>match vs,bs with
 | [.ro [.str] b a,.slc 0 1 0 3],[.cells 20 [.ifc 82 [.ptr 1 0],.ifc 82 [.ptr 2 0],.ifc 81 [.ptr 1 2]],.cells 75 [.str a1_0_0,V Z a1_0_1,V Z a1_0_2],.cells 9 [.str a1_1_0]]=>some (rs 3 (q31i (m31i b a a1_0_0 a1_0_1 a1_0_2 a1_1_0)) [n31i b a a1_0_0 a1_0_1 a1_0_2 a1_1_0])
 | _,_=>none
def c31i:Ctr:=genC [.ro [.str],.sp [[.k,.k,.k],[.k]]] g31i
theorem k31i:CtrOk Tryz.prog c31i 31:=cx (tc k66 (tc k69 (tc k70 tn))) mix_ok 40 (fn:=Tryz.f31) (c:=(Tryz.f31.body.getD .skip)) (grs:=[]) (rh:=.k) Tryz.func31 rfl (by kernel_rfl) noLam fun vs bs q h hn=>by
 unfold g31i at h
 split at h <;> cases h
 rename_i b a a1_0_0 a1_0_1 a1_0_2 a1_1_0
 have hn:=n1 hn
 exact ⟨_,rfl,ca (fun R=>(cnd (bif (decide ((↑b:Int)=3)) then false else true)
 (R (.bool false) [.cells 20 [.ifc 82 [.ptr 1 0],.ifc 82 [.ptr 2 0],.ifc 81 [.ptr 1 2]],.cells 75 [.str a1_0_0,V Z a1_0_1,V Z a1_0_2],.cells 9 [.str a1_1_0]] [])
 (cnd (decide ((0:Int)<(↑b:Int)))
 (cnd (decide ((0:Int)≤(0:Int)∧(0:Int)<(↑b:Int)))
 (cnd (decide (1<(↑b:Int)))
 (cnd (decide ((0:Int)≤(1:Int)∧(1:Int)<(↑b:Int)))
 (cnd (decide (2<(↑b:Int)))
 (cnd (decide ((0:Int)≤(2:Int)∧(2:Int)<(↑b:Int)))
 (cnd (n69 (a.ss 2 0))
 (cnd (bif (bif (bif (bif (m69 (a.ss 2 0)).2 then false else true) then false else true) then false else true) then true else (n66 (m69 (a.ss 2 0)).1))
 (cnd (bif (bif (bif (m69 (a.ss 2 0)).2 then false else true) then true else (bif (decide ((m66 (m69 (a.ss 2 0)).1)=(a.ss 2 0))) then false else true)) then true else (decide (7<(↑((m70 (a.ss 2 0) ({ data:=#[45] }:ByteArray)).size):Int))))
 (R (.bool false) [.cells 20 [.ifc 82 [.ptr 1 0],.ifc 82 [.ptr 2 0],.ifc 81 [.ptr 1 2]],.cells 75 [.str (a.ss 0 0),V Z a1_0_1,V Z a1_0_2],.cells 9 [.str (a.ss 1 0)]] [])
 (cnd (decide (3<(↑b:Int)))
 (cnd (decide ((0:Int)≤(3:Int)∧(3:Int)<(↑b:Int)))
       False
       False)
 (R (.bool true) [.cells 20 [.ifc 82 [.ptr 1 0],.ifc 82 [.ptr 2 0],.ifc 81 [.ptr 1 2]],.cells 75 [.str (a.ss 0 0),V Z a1_0_1,V Z (m69 (a.ss 2 0)).1],.cells 9 [.str (a.ss 1 0)]] [])))
     False)
     False)
    False)
 (R (.bool true) [.cells 20 [.ifc 82 [.ptr 1 0],.ifc 82 [.ptr 2 0],.ifc 81 [.ptr 1 2]],.cells 75 [.str (a.ss 0 0),V Z a1_0_1,V Z a1_0_2],.cells 9 [.str (a.ss 1 0)]] []))
   False)
 (R (.bool true) [.cells 20 [.ifc 82 [.ptr 1 0],.ifc 82 [.ptr 2 0],.ifc 81 [.ptr 1 2]],.cells 75 [.str (a.ss 0 0),V Z a1_0_1,V Z a1_0_2],.cells 9 [.str a1_1_0]] []))
  False)
 (R (.bool true) [.cells 20 [.ifc 82 [.ptr 1 0],.ifc 82 [.ptr 2 0],.ifc 81 [.ptr 1 2]],.cells 75 [.str a1_0_0,V Z a1_0_1,V Z a1_0_2],.cells 9 [.str a1_1_0]] [])))) (fun R=>by kernel_rfl) (co (fun h0=>lf (cT h0 rfl) rfl) (fun h0=>co (fun h1=>cn (al (ct h1 (cf h0 hn))) (co (fun h2=>cn (al (ct h2 (ar (ct h1 (cf h0 hn))))) (co (fun h3=>cn (al (ct h3 (ar (ct h2 (ar (ct h1 (cf h0 hn))))))) (cn (al (ar (ct h3 (ar (ct h2 (ar (ct h1 (cf h0 hn)))))))) (cn (al (ar (ar (ct h3 (ar (ct h2 (ar (ct h1 (cf h0 hn))))))))) (co (fun h4=>lf (cF h0 (cT h1 (cT h2 (cT h3 (cT h4 rfl))))) rfl) (fun h4=>co (fun h5=>(Bool.false_ne_true ((not_l (cf h4 (ar (ar (ar (ct h3 (ar (ct h2 (ar (ct h1 (cf h0 hn))))))))))).symm.trans h5)).elim) (fun _=>lf (cF h0 (cT h1 (cT h2 (cT h3 (cF h4 rfl))))) rfl)))))) (fun h3=>lf (cF h0 (cT h1 (cT h2 (cF h3 rfl)))) rfl))) (fun h2=>lf (cF h0 (cT h1 (cF h2 rfl))) rfl))) (fun h1=>lf (cF h0 (cF h1 rfl)) rfl)))⟩
/-! ### shotline/kit.scan -/
def m31r (b:Nat) (a:Dat) (a1_0_0:ByteArray) (a1_0_1 a1_0_2 a1_0_3:Int) (a1_1_0:ByteArray):Bool × ByteArray × Int × Int × Int × ByteArray :=
 (cond (bif (decide ((↑b:Int)=4)) then false else true) (false,a1_0_0,a1_0_1,a1_0_2,a1_0_3,a1_1_0) (cond (decide ((0:Int)<(↑b:Int))) (cond (decide (1<(↑b:Int))) (cond (decide (2<(↑b:Int))) (cond (bif (bif (bif (m69 (a.ss 2 0)).2 then false else true) then true else (bif (decide ((m66 (m69 (a.ss 2 0)).1)=(a.ss 2 0))) then false else true)) then true else (decide (7<(↑((m70 (a.ss 2 0) ({ data:=#[45] }:ByteArray)).size):Int)))) (false,(a.ss 0 0),a1_0_1,a1_0_2,a1_0_3,(a.ss 1 0)) (cond (decide (3<(↑b:Int))) (cond (bif (bif (bif (m69 (a.ss 3 0)).2 then false else true) then true else (bif (decide ((m66 (m69 (a.ss 3 0)).1)=(a.ss 3 0))) then false else true)) then true else (decide (7<(↑((m70 (a.ss 3 0) ({ data:=#[45] }:ByteArray)).size):Int)))) (false,(a.ss 0 0),a1_0_1,(m69 (a.ss 2 0)).1,a1_0_3,(a.ss 1 0)) (true,(a.ss 0 0),a1_0_1,(m69 (a.ss 2 0)).1,(m69 (a.ss 3 0)).1,(a.ss 1 0))) (true,(a.ss 0 0),a1_0_1,(m69 (a.ss 2 0)).1,a1_0_3,(a.ss 1 0)))) (true,(a.ss 0 0),a1_0_1,a1_0_2,a1_0_3,(a.ss 1 0))) (true,(a.ss 0 0),a1_0_1,a1_0_2,a1_0_3,a1_1_0)) (true,a1_0_0,a1_0_1,a1_0_2,a1_0_3,a1_1_0)))
def n31r (b:Nat) (a:Dat) (a1_0_0:ByteArray) (a1_0_1 a1_0_2 a1_0_3:Int) (a1_1_0:ByteArray):Bool :=
 (cond (bif (decide ((↑b:Int)=4)) then false else true) true (cond (decide ((0:Int)<(↑b:Int))) ((decide ((0:Int)≤(0:Int)∧(0:Int)<(↑b:Int)))&&(cond (decide (1<(↑b:Int))) ((decide ((0:Int)≤(1:Int)∧(1:Int)<(↑b:Int)))&&(cond (decide (2<(↑b:Int))) ((decide ((0:Int)≤(2:Int)∧(2:Int)<(↑b:Int)))&&((n69 (a.ss 2 0))&&((bif (bif (bif (bif (m69 (a.ss 2 0)).2 then false else true) then false else true) then false else true) then true else (n66 (m69 (a.ss 2 0)).1))&&(cond (bif (bif (bif (m69 (a.ss 2 0)).2 then false else true) then true else (bif (decide ((m66 (m69 (a.ss 2 0)).1)=(a.ss 2 0))) then false else true)) then true else (decide (7<(↑((m70 (a.ss 2 0) ({ data:=#[45] }:ByteArray)).size):Int)))) true (cond (decide (3<(↑b:Int))) ((decide ((0:Int)≤(3:Int)∧(3:Int)<(↑b:Int)))&&((n69 (a.ss 3 0))&&((bif (bif (bif (bif (m69 (a.ss 3 0)).2 then false else true) then false else true) then false else true) then true else (n66 (m69 (a.ss 3 0)).1))&&(cond (bif (bif (bif (m69 (a.ss 3 0)).2 then false else true) then true else (bif (decide ((m66 (m69 (a.ss 3 0)).1)=(a.ss 3 0))) then false else true)) then true else (decide (7<(↑((m70 (a.ss 3 0) ({ data:=#[45] }:ByteArray)).size):Int)))) true (!(decide (4<(↑b:Int)))&&true))))) true))))) true)) true)) true))
def q31r (r:Bool × ByteArray × Int × Int × Int × ByteArray):SV × List Blk × List Blk:=(.bool r.1,[.cells 20 [.ifc 82 [.ptr 1 0],.ifc 82 [.ptr 2 0],.ifc 81 [.ptr 1 2],.ifc 81 [.ptr 1 3]],.cells 77 [.str r.2.1,V Z r.2.2.1,V Z r.2.2.2.1,V Z r.2.2.2.2.1],.cells 9 [.str r.2.2.2.2.2]],[])
def g31r:GF:=fun vs bs=>match vs,bs with
 | [.ro [.str] b a,.slc 0 1 0 4],[.cells 20 [.ifc 82 [.ptr 1 0],.ifc 82 [.ptr 2 0],.ifc 81 [.ptr 1 2],.ifc 81 [.ptr 1 3]],.cells 77 [.str a1_0_0,V Z a1_0_1,V Z a1_0_2,V Z a1_0_3],.cells 9 [.str a1_1_0]]=>some (rs 3 (q31r (m31r b a a1_0_0 a1_0_1 a1_0_2 a1_0_3 a1_1_0)) [n31r b a a1_0_0 a1_0_1 a1_0_2 a1_0_3 a1_1_0])
 | _,_=>none
def c31r:Ctr:=genC [.ro [.str],.sp [[.k,.k,.k,.k],[.k]]] g31r
theorem k31r:CtrOk Tryz.prog c31r 31:=cx (tc k66 (tc k69 (tc k70 tn))) mix_ok 40 (fn:=Tryz.f31) (c:=(Tryz.f31.body.getD .skip)) (grs:=[]) (rh:=.k) Tryz.func31 rfl (by kernel_rfl) noLam fun vs bs q h hn=>by
 unfold g31r at h
 split at h <;> cases h
 rename_i b a a1_0_0 a1_0_1 a1_0_2 a1_0_3 a1_1_0
 have hn:=n1 hn
 exact ⟨_,rfl,ca (fun R=>(cnd (bif (decide ((↑b:Int)=4)) then false else true)
 (R (.bool false) [.cells 20 [.ifc 82 [.ptr 1 0],.ifc 82 [.ptr 2 0],.ifc 81 [.ptr 1 2],.ifc 81 [.ptr 1 3]],.cells 77 [.str a1_0_0,V Z a1_0_1,V Z a1_0_2,V Z a1_0_3],.cells 9 [.str a1_1_0]] [])
 (cnd (decide ((0:Int)<(↑b:Int)))
 (cnd (decide ((0:Int)≤(0:Int)∧(0:Int)<(↑b:Int)))
 (cnd (decide (1<(↑b:Int)))
 (cnd (decide ((0:Int)≤(1:Int)∧(1:Int)<(↑b:Int)))
 (cnd (decide (2<(↑b:Int)))
 (cnd (decide ((0:Int)≤(2:Int)∧(2:Int)<(↑b:Int)))
 (cnd (n69 (a.ss 2 0))
 (cnd (bif (bif (bif (bif (m69 (a.ss 2 0)).2 then false else true) then false else true) then false else true) then true else (n66 (m69 (a.ss 2 0)).1))
 (cnd (bif (bif (bif (m69 (a.ss 2 0)).2 then false else true) then true else (bif (decide ((m66 (m69 (a.ss 2 0)).1)=(a.ss 2 0))) then false else true)) then true else (decide (7<(↑((m70 (a.ss 2 0) ({ data:=#[45] }:ByteArray)).size):Int))))
 (R (.bool false) [.cells 20 [.ifc 82 [.ptr 1 0],.ifc 82 [.ptr 2 0],.ifc 81 [.ptr 1 2],.ifc 81 [.ptr 1 3]],.cells 77 [.str (a.ss 0 0),V Z a1_0_1,V Z a1_0_2,V Z a1_0_3],.cells 9 [.str (a.ss 1 0)]] [])
 (cnd (decide (3<(↑b:Int)))
 (cnd (decide ((0:Int)≤(3:Int)∧(3:Int)<(↑b:Int)))
 (cnd (n69 (a.ss 3 0))
 (cnd (bif (bif (bif (bif (m69 (a.ss 3 0)).2 then false else true) then false else true) then false else true) then true else (n66 (m69 (a.ss 3 0)).1))
 (cnd (bif (bif (bif (m69 (a.ss 3 0)).2 then false else true) then true else (bif (decide ((m66 (m69 (a.ss 3 0)).1)=(a.ss 3 0))) then false else true)) then true else (decide (7<(↑((m70 (a.ss 3 0) ({ data:=#[45] }:ByteArray)).size):Int))))
 (R (.bool false) [.cells 20 [.ifc 82 [.ptr 1 0],.ifc 82 [.ptr 2 0],.ifc 81 [.ptr 1 2],.ifc 81 [.ptr 1 3]],.cells 77 [.str (a.ss 0 0),V Z a1_0_1,V Z (m69 (a.ss 2 0)).1,V Z a1_0_3],.cells 9 [.str (a.ss 1 0)]] [])
 (cnd (decide (4<(↑b:Int)))
 (cnd (decide ((0:Int)≤(4:Int)∧(4:Int)<(↑b:Int)))
         False
         False)
 (R (.bool true) [.cells 20 [.ifc 82 [.ptr 1 0],.ifc 82 [.ptr 2 0],.ifc 81 [.ptr 1 2],.ifc 81 [.ptr 1 3]],.cells 77 [.str (a.ss 0 0),V Z a1_0_1,V Z (m69 (a.ss 2 0)).1,V Z (m69 (a.ss 3 0)).1],.cells 9 [.str (a.ss 1 0)]] [])))
        False)
       False)
       False)
 (R (.bool true) [.cells 20 [.ifc 82 [.ptr 1 0],.ifc 82 [.ptr 2 0],.ifc 81 [.ptr 1 2],.ifc 81 [.ptr 1 3]],.cells 77 [.str (a.ss 0 0),V Z a1_0_1,V Z (m69 (a.ss 2 0)).1,V Z a1_0_3],.cells 9 [.str (a.ss 1 0)]] [])))
     False)
     False)
    False)
 (R (.bool true) [.cells 20 [.ifc 82 [.ptr 1 0],.ifc 82 [.ptr 2 0],.ifc 81 [.ptr 1 2],.ifc 81 [.ptr 1 3]],.cells 77 [.str (a.ss 0 0),V Z a1_0_1,V Z a1_0_2,V Z a1_0_3],.cells 9 [.str (a.ss 1 0)]] []))
   False)
 (R (.bool true) [.cells 20 [.ifc 82 [.ptr 1 0],.ifc 82 [.ptr 2 0],.ifc 81 [.ptr 1 2],.ifc 81 [.ptr 1 3]],.cells 77 [.str (a.ss 0 0),V Z a1_0_1,V Z a1_0_2,V Z a1_0_3],.cells 9 [.str a1_1_0]] []))
  False)
 (R (.bool true) [.cells 20 [.ifc 82 [.ptr 1 0],.ifc 82 [.ptr 2 0],.ifc 81 [.ptr 1 2],.ifc 81 [.ptr 1 3]],.cells 77 [.str a1_0_0,V Z a1_0_1,V Z a1_0_2,V Z a1_0_3],.cells 9 [.str a1_1_0]] [])))) (fun R=>by kernel_rfl) (co (fun h0=>lf (cT h0 rfl) rfl) (fun h0=>co (fun h1=>cn (al (ct h1 (cf h0 hn))) (co (fun h2=>cn (al (ct h2 (ar (ct h1 (cf h0 hn))))) (co (fun h3=>cn (al (ct h3 (ar (ct h2 (ar (ct h1 (cf h0 hn))))))) (cn (al (ar (ct h3 (ar (ct h2 (ar (ct h1 (cf h0 hn)))))))) (cn (al (ar (ar (ct h3 (ar (ct h2 (ar (ct h1 (cf h0 hn))))))))) (co (fun h4=>lf (cF h0 (cT h1 (cT h2 (cT h3 (cT h4 rfl))))) rfl) (fun h4=>co (fun h5=>cn (al (ct h5 (cf h4 (ar (ar (ar (ct h3 (ar (ct h2 (ar (ct h1 (cf h0 hn)))))))))))) (cn (al (ar (ct h5 (cf h4 (ar (ar (ar (ct h3 (ar (ct h2 (ar (ct h1 (cf h0 hn))))))))))))) (cn (al (ar (ar (ct h5 (cf h4 (ar (ar (ar (ct h3 (ar (ct h2 (ar (ct h1 (cf h0 hn)))))))))))))) (co (fun h6=>lf (cF h0 (cT h1 (cT h2 (cT h3 (cF h4 (cT h5 (cT h6 rfl))))))) rfl) (fun h6=>co (fun h7=>(Bool.false_ne_true ((not_l (cf h6 (ar (ar (ar (ct h5 (cf h4 (ar (ar (ar (ct h3 (ar (ct h2 (ar (ct h1 (cf h0 hn)))))))))))))))).symm.trans h7)).elim) (fun _=>lf (cF h0 (cT h1 (cT h2 (cT h3 (cF h4 (cT h5 (cF h6 rfl))))))) rfl)))))) (fun h5=>lf (cF h0 (cT h1 (cT h2 (cT h3 (cF h4 (cF h5 rfl)))))) rfl)))))) (fun h3=>lf (cF h0 (cT h1 (cT h2 (cF h3 rfl)))) rfl))) (fun h2=>lf (cF h0 (cT h1 (cF h2 rfl))) rfl))) (fun h1=>lf (cF h0 (cF h1 rfl)) rfl)))⟩
end
end Go.Proofs.YtdcdjjogieojhaaGreatDoor
