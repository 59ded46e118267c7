/-
 Contracts of functions: models, equations by the kernel, contracts. Conditions: none.
-/
import Derived.Test.YtdcdjjogieojhaaGreatDoorKSyKo
import Derived.Test.YtdcdjjogieojhaaGreatDoorKSyPl
import Derived.Test.YtdcdjjogieojhaaGreatDoorKSyShop
import Derived.Test.YtdcdjjogieojhaaGreatDoorKSyStep
import Derived.Test.YtdcdjjogieojhaaGreatDoorKSyW
import Derived.Test.YtdcdjjogieojhaaGreatDoorKSyOr
import Derived.Test.YtdcdjjogieojhaaGreatDoorKPLoop
import Derived.KernelRfl
set_option linter.unusedVariables false
set_option linter.unusedSimpArgs false
set_option linter.unusedSectionVars false
namespace Go.Proofs.YtdcdjjogieojhaaGreatDoor
open Go Go.Sy
noncomputable section
set_option maxRecDepth 100000
set_option maxHeartbeats 2000000
attribute [local irreducible] Go.IntKind.wrap Int.tdiv Int.tmod Int.fdiv
variable [Go.Sy.AO]
open Go.Sy renaming B8->tc,AM->tn,AH->cn,GV->lf,IA->cg,GA->ch,AC->cf,IB->ct,Df->co,Iw->ca,roundOf->ro,GB->nn,El->lc,Fk->ln,FY->cT,Cs->cF,J7->n1,Bl->rs,CE->al,Al->ar,M6->og,ID->cx,Fo->lb
open Go.IntKind renaming i64->Z
open Go.Sy.SV renaming int->V
open Go.Sy.Kd renaming int->W
open Decidable renaming decide->aq
open Inhabited renaming default->ax
open Bool renaming false->az,true->aj
open Option renaming some->ak,none->aw
def bt14413_0:BA:={ data:=(([0,1,2,2,3,3,3,3,4,4,4,4,4,4,4,4,5,5,5,5,5,5,5,5,5,5,5,5,5,5,5,5,6,6,6,6,6,6,6,6,6,6,6,6,6,6,6,6,6,6,6,6,6,6,6,6,6,6,6,6,6,6,6,6].append [7,7,7,7,7,7,7,7,7,7,7,7,7,7,7,7,7,7,7,7,7,7,7,7,7,7,7,7,7,7,7,7,7,7,7,7,7,7,7,7,7,7,7,7,7,7,7,7,7,7,7,7,7,7,7,7,7,7,7,7,7,7,7,7]).append ([8,8,8,8,8,8,8,8,8,8,8,8,8,8,8,8,8,8,8,8,8,8,8,8,8,8,8,8,8,8,8,8,8,8,8,8,8,8,8,8,8,8,8,8,8,8,8,8,8,8,8,8,8,8,8,8,8,8,8,8,8,8,8,8].append [8,8,8,8,8,8,8,8,8,8,8,8,8,8,8,8,8,8,8,8,8,8,8,8,8,8,8,8,8,8,8,8,8,8,8,8,8,8,8,8,8,8,8,8,8,8,8,8,8,8,8,8,8,8,8,8,8,8,8,8,8,8,8,8])).toArray }
def bt19670_1:BA:={ data:=#[0,1,2,2,3,3,3,3,4,4,4,4,4,4,4,4,5,5,5,5,5,5,5,5,5,5,5,5,5,5,5,5,6,6,6,6,6,6,6,6,6,6,6,6,6,6,6,6,6,6,6,6,6,6,6,6,6,6,6,6,6,6,6,6,7,7,7,7,7,7,7,7,7,7,7,7,7,7,7,7,7,7,7,7,7,7,7,7,7,7,7,7,7,7,7,7,7,7,7,7,7,7,7,7,7,7,7,7,7,7,7,7,7,7,7,7,7,7,7,7,7,7,7,7,7,7,7,7,8,8,8,8,8,8,8,8,8,8,8,8,8,8,8,8,8,8,8,8,8,8,8,8,8,8,8,8,8,8,8,8,8,8,8,8,8,8,8,8,8,8,8,8,8,8,8,8,8,8,8,8,8,8,8,8,8,8,8,8,8,8,8,8,8,8,8,8,8,8,8,8,8,8,8,8,8,8,8,8,8,8,8,8,8,8,8,8,8,8,8,8,8,8,8,8,8,8,8,8,8,8,8,8,8,8,8,8,8,8,8,8,8,8,8,8,8,8,8,8,8,8,8,8,8,8,8,8] }
def bt48795_2:BA:={ data:=(([(0:UInt8),(1:UInt8),(2:UInt8),(2:UInt8),(3:UInt8),(3:UInt8),(3:UInt8),(3:UInt8),(4:UInt8),(4:UInt8),(4:UInt8),(4:UInt8),(4:UInt8),(4:UInt8),(4:UInt8),(4:UInt8),(5:UInt8),(5:UInt8),(5:UInt8),(5:UInt8),(5:UInt8),(5:UInt8),(5:UInt8),(5:UInt8),(5:UInt8),(5:UInt8),(5:UInt8),(5:UInt8),(5:UInt8),(5:UInt8),(5:UInt8),(5:UInt8),(6:UInt8),(6:UInt8),(6:UInt8),(6:UInt8),(6:UInt8),(6:UInt8),(6:UInt8),(6:UInt8),(6:UInt8),(6:UInt8),(6:UInt8),(6:UInt8),(6:UInt8),(6:UInt8),(6:UInt8),(6:UInt8),(6:UInt8),(6:UInt8),(6:UInt8),(6:UInt8),(6:UInt8),(6:UInt8),(6:UInt8),(6:UInt8),(6:UInt8),(6:UInt8),(6:UInt8),(6:UInt8),(6:UInt8),(6:UInt8),(6:UInt8),(6:UInt8)].append [(7:UInt8),(7:UInt8),(7:UInt8),(7:UInt8),(7:UInt8),(7:UInt8),(7:UInt8),(7:UInt8),(7:UInt8),(7:UInt8),(7:UInt8),(7:UInt8),(7:UInt8),(7:UInt8),(7:UInt8),(7:UInt8),(7:UInt8),(7:UInt8),(7:UInt8),(7:UInt8),(7:UInt8),(7:UInt8),(7:UInt8),(7:UInt8),(7:UInt8),(7:UInt8),(7:UInt8),(7:UInt8),(7:UInt8),(7:UInt8),(7:UInt8),(7:UInt8),(7:UInt8),(7:UInt8),(7:UInt8),(7:UInt8),(7:UInt8),(7:UInt8),(7:UInt8),(7:UInt8),(7:UInt8),(7:UInt8),(7:UInt8),(7:UInt8),(7:UInt8),(7:UInt8),(7:UInt8),(7:UInt8),(7:UInt8),(7:UInt8),(7:UInt8),(7:UInt8),(7:UInt8),(7:UInt8),(7:UInt8),(7:UInt8),(7:UInt8),(7:UInt8),(7:UInt8),(7:UInt8),(7:UInt8),(7:UInt8),(7:UInt8),(7:UInt8)]).append ([(8:UInt8),(8:UInt8),(8:UInt8),(8:UInt8),(8:UInt8),(8:UInt8),(8:UInt8),(8:UInt8),(8:UInt8),(8:UInt8),(8:UInt8),(8:UInt8),(8:UInt8),(8:UInt8),(8:UInt8),(8:UInt8),(8:UInt8),(8:UInt8),(8:UInt8),(8:UInt8),(8:UInt8),(8:UInt8),(8:UInt8),(8:UInt8),(8:UInt8),(8:UInt8),(8:UInt8),(8:UInt8),(8:UInt8),(8:UInt8),(8:UInt8),(8:UInt8),(8:UInt8),(8:UInt8),(8:UInt8),(8:UInt8),(8:UInt8),(8:UInt8),(8:UInt8),(8:UInt8),(8:UInt8),(8:UInt8),(8:UInt8),(8:UInt8),(8:UInt8),(8:UInt8),(8:UInt8),(8:UInt8),(8:UInt8),(8:UInt8),(8:UInt8),(8:UInt8),(8:UInt8),(8:UInt8),(8:UInt8),(8:UInt8),(8:UInt8),(8:UInt8),(8:UInt8),(8:UInt8),(8:UInt8),(8:UInt8),(8:UInt8),(8:UInt8)].append [(8:UInt8),(8:UInt8),(8:UInt8),(8:UInt8),(8:UInt8),(8:UInt8),(8:UInt8),(8:UInt8),(8:UInt8),(8:UInt8),(8:UInt8),(8:UInt8),(8:UInt8),(8:UInt8),(8:UInt8),(8:UInt8),(8:UInt8),(8:UInt8),(8:UInt8),(8:UInt8),(8:UInt8),(8:UInt8),(8:UInt8),(8:UInt8),(8:UInt8),(8:UInt8),(8:UInt8),(8:UInt8),(8:UInt8),(8:UInt8),(8:UInt8),(8:UInt8),(8:UInt8),(8:UInt8),(8:UInt8),(8:UInt8),(8:UInt8),(8:UInt8),(8:UInt8),(8:UInt8),(8:UInt8),(8:UInt8),(8:UInt8),(8:UInt8),(8:UInt8),(8:UInt8),(8:UInt8),(8:UInt8),(8:UInt8),(8:UInt8),(8:UInt8),(8:UInt8),(8:UInt8),(8:UInt8),(8:UInt8),(8:UInt8),(8:UInt8),(8:UInt8),(8:UInt8),(8:UInt8),(8:UInt8),(8:UInt8),(8:UInt8),(8:UInt8)])).toArray }
/-! ### cmp.isNaN[int] -/
def m91(a:Int):Bool :=
 (cond (aq (a=a)) az aj)
def q91(r:Bool):SV × List Blk × List Blk:=(.bool r,[],[])
def g91:GF:=fun vs bs=>match vs,bs with
 | [V Z a],[]=>ak (rs 0 (q91 (m91 a)) [])
 | _,_=>aw
def c91:Ctr:=AA [.k] g91
theorem k91:Ag Tryz.prog c91 91:=cx tn A6 8 (fn:=Tryz.f91) (c:=(Tryz.f91.body.getD .skip)) (grs:=[]) (rh:=.k) Tryz.func91 rfl (by kernel_rfl) As fun vs bs q h hn=>by
 unfold g91 at h
 split at h <;> cases h
 rename_i a
 exact ⟨_,rfl,ca (fun R=>(R (.bool (cond (aq (a=a)) az aj)) [] [])) (fun R=>by kernel_rfl) (lf rfl rfl)⟩
/-! ### shotline/kit.within -/
def m50(a b d:Int):Bool :=
 (bif (aq (b<=a)) then (aq (a<=d)) else az)
def q50(r:Bool):SV × List Blk × List Blk:=(.bool r,[],[])
def g50:GF:=fun vs bs=>match vs,bs with
 | [V Z a,V Z b,V Z d],[]=>ak (rs 0 (q50 (m50 a b d)) [])
 | _,_=>aw
def c50:Ctr:=AA [.k,.k,.k] g50
theorem k50:Ag Tryz.prog c50 50:=cx tn A6 8 (fn:=Tryz.f50) (c:=(Tryz.f50.body.getD .skip)) (grs:=[]) (rh:=.k) Tryz.func50 rfl (by kernel_rfl) As fun vs bs q h hn=>by
 unfold g50 at h
 split at h <;> cases h
 rename_i a b d
 exact ⟨_,rfl,ca (fun R=>(R (.bool (bif (aq (b<=a)) then (aq (a<=d)) else az)) [] [])) (fun R=>by kernel_rfl) (lf rfl rfl)⟩
/-! ### shotline/kit.isName -/
def l45_0(i:BA)(b:Nat)(a:Dat)(j:Int):Nat->Int->Option (Bool × (Bool) × (Unit))
 | 0,_=>aw
 | f+1,d=>(cond (aq (d<j)) (cond (aq (0<=d/\d<↑b)) (cond (bif (cond (bif (bif (aq (97<=(a.ii d.toNat 0))) then (aq ((a.ii d.toNat 0)<=122)) else az) then aj else (bif (aq (65<=(a.ii d.toNat 0))) then (aq ((a.ii d.toNat 0)<=90)) else az)) az aj) then (bif (aq (d=0)) then aj else (bif (cond (aq ((a.ii d.toNat 0)=45)) az aj) then (bif (aq ((a.ii d.toNat 0)<48)) then aj else (aq (57<(a.ii d.toNat 0)))) else az)) else az) (ak (aj,az,ax)) (l45_0 i b a j f (Z.wrap (d+1)))) aw) (ak (az,ax,())))
abbrev o45_0(i:BA)(b:Nat)(a:Dat)(j d:Int):Option (Bool × (Bool) × (Unit)):=l45_0 i b a j (i.size+b+j.toNat+d.toNat+8) d
def e45_0(i:BA)(b:Nat)(a:Dat)(j:Int)(r:Bool × (Bool) × (Unit))(K:XR):Prop:=cnd r.1 (K (XE.ret) [.str i,.bool r.2.1] []) (K (XE.exit 0) [.str i,.any] [])
def g45_0:AX:=fun s k=>match czv 0 54 [0,7,8,9] 0 [] s with
 | ak ([.str i,.ro [.int .u8] b a,V Z j,V Z d],[])=>Ay [(o45_0 i b a j d).isSome] (e45_0 i b a j ((o45_0 i b a j d).getD ax) fun e vs bs=>AL 0 k e (Aq 0 54 [0,2] vs 0 bs))
 | _=>False
theorem z45_0:LOk Tryz.prog g45_0 (.block 0 (Ad (Tryz.f45.body.getD .skip) 0)):=by
 refine lb (ι:=BA × Nat × Dat × Int × Int) (fuel:=8) (na:=0) (nt:=54) (nx:=0) (Lh:=[0,7,8,9]) (Le:=[0,2]) (gl:=[]) tn A6 As rfl (fun f (i,b,a,j,d) K=>GG ax (e45_0 i b a j) K (l45_0 i b a j f d)) (fun (i,b,a,j,d)=>[.str i,.ro [.int .u8] b a,V Z j,V Z d]) (fun (i,b,a,j,d)=>[]) (fun (_,_,_,_,_) K=>Au) ?_ ?_
 .rintro f ⟨i,b,a,j,d⟩ K hG
  refine ro (fun R=>(cnd (aq (d<j))
 (cnd (aq (0<=d/\d<↑b))
 (cnd (bif (cond (bif (bif (aq (97<=(a.ii d.toNat 0))) then (aq ((a.ii d.toNat 0)<=122)) else az) then aj else (bif (aq (65<=(a.ii d.toNat 0))) then (aq ((a.ii d.toNat 0)<=90)) else az)) az aj) then (bif (aq (d=0)) then aj else (bif (cond (aq ((a.ii d.toNat 0)=45)) az aj) then (bif (aq ((a.ii d.toNat 0)<48)) then aj else (aq (57<(a.ii d.toNat 0)))) else az)) else az)
 (R (XE.ret) [.str i,.bool az] [])
 (R (XE.normal) [.str i,.ro [.int .u8] b a,V Z j,V Z (Z.wrap (d+1))] []))
  False)
 (R (XE.exit 0) [.str i,.any] []))) (fun R=>by kernel_rfl) ?_
  exact ch hG (fun h0=>cg h0 fun h1=>ch h1 (fun h2=>h2.2) (fun h2=>⟨(_,_,_,_,_),rfl,rfl,h2⟩)) (fun h0=>h0.2)
 .intro s k h
  unfold g45_0 at h
  split at h <;> try exact h.elim
  rename_i e1
  rw [Ac] at h
  exact ⟨_,e1,_,(_,_,_,_,_),rfl,rfl,h.1 _ (List.mem_singleton.2 rfl),h.2⟩
def m45(g:BA):Bool :=
 (cond ((o45_0 g g.size ({ ii:=fun q x=>((g.data.toList.getD q 0).toNat:Int),ss:=A3.ss,bb:=A3.bb,sn:=A3.sn,sd:=A3.sd }) (g.size:Int) 0).getD ax).1 ((o45_0 g g.size ({ ii:=fun q x=>((g.data.toList.getD q 0).toNat:Int),ss:=A3.ss,bb:=A3.bb,sn:=A3.sn,sd:=A3.sd }) (g.size:Int) 0).getD ax).2.1 (bif (cond (aq (g=({ data:=#[] }:BA))) az aj) then (aq ((g.size:Int)<=12)) else az))
def n45(g:BA):Bool :=
 (((o45_0 g g.size ({ ii:=fun q x=>((g.data.toList.getD q 0).toNat:Int),ss:=A3.ss,bb:=A3.bb,sn:=A3.sn,sd:=A3.sd }) (g.size:Int) 0).isSome)&&aj)
def q45(r:Bool):SV × List Blk × List Blk:=(.bool r,[],[])
def g45:GF:=fun vs bs=>match vs,bs with
 | [.str g],[]=>ak (rs 0 (q45 (m45 g)) [n45 g])
 | _,_=>aw
def c45:Ctr:=AA [.k] g45
theorem k45:Ag Tryz.prog c45 45:=cx tn A6 8 (fn:=Tryz.f45) (c:=(Tryz.f45.body.getD .skip)) (grs:=[]) (rh:=.k) Tryz.func45 rfl (by kernel_rfl) (AD rfl (lc z45_0 ln)) fun vs bs q h hn=>by
 unfold g45 at h
 split at h <;> cases h
 rename_i g
 have hn:=n1 hn
 exact ⟨_,rfl,ca (fun R=>(cnd ((o45_0 g g.size ({ ii:=fun q x=>((g.data.toList.getD q 0).toNat:Int),ss:=A3.ss,bb:=A3.bb,sn:=A3.sn,sd:=A3.sd }) (g.size:Int) 0).isSome)
 (cnd ((o45_0 g g.size ({ ii:=fun q x=>((g.data.toList.getD q 0).toNat:Int),ss:=A3.ss,bb:=A3.bb,sn:=A3.sn,sd:=A3.sd }) (g.size:Int) 0).getD ax).1
 (R (.bool ((o45_0 g g.size ({ ii:=fun q x=>((g.data.toList.getD q 0).toNat:Int),ss:=A3.ss,bb:=A3.bb,sn:=A3.sn,sd:=A3.sd }) (g.size:Int) 0).getD ax).2.1) [] [])
 (R (.bool (bif (cond (aq (g=({ data:=#[] }:BA))) az aj) then (aq ((g.size:Int)<=12)) else az)) [] []))
 False)) (fun R=>by kernel_rfl) (cn (al hn) (co (fun h0=>lf (cT h0 rfl) rfl) (fun h0=>lf (cF h0 rfl) rfl)))⟩
/-! ### shotline/kit.item$1 -/
def m75(a:BA)(d e:Int)(b:Dat):Bool :=
 (aq (a=(b.ss 0 0)))
def q75(r:Bool):SV × List Blk × List Blk:=(.bool r,[],[])
def g75:GF:=fun vs bs=>match vs,bs with
 | [.agg [.str a,V Z d,V Z e],.rp [.str] b 0 0],[]=>ak (rs 0 (q75 (m75 a d e b)) [])
 | _,_=>aw
def c75:Ctr:=AA [.k,.rp [.str]] g75
theorem k75:Ag Tryz.prog c75 75:=cx tn A6 8 (fn:=Tryz.f75) (c:=(Tryz.f75.body.getD .skip)) (grs:=[]) (rh:=.k) Tryz.func75 rfl (by kernel_rfl) As fun vs bs q h hn=>by
 unfold g75 at h
 split at h <;> cases h
 rename_i a d e b
 exact ⟨_,rfl,ca (fun R=>(R (.bool (aq (a=(b.ss 0 0)))) [] [])) (fun R=>by kernel_rfl) (lf rfl rfl)⟩
/-! ### shotline/kit.rule$1 -/
def m77(a:BA)(d e g:Int)(b:Dat):Bool :=
 (aq (a=(b.ss 0 0)))
def q77(r:Bool):SV × List Blk × List Blk:=(.bool r,[],[])
def g77:GF:=fun vs bs=>match vs,bs with
 | [.agg [.str a,V Z d,V Z e,V Z g],.rp [.str] b 0 0],[]=>ak (rs 0 (q77 (m77 a d e g b)) [])
 | _,_=>aw
def c77:Ctr:=AA [.k,.rp [.str]] g77
theorem k77:Ag Tryz.prog c77 77:=cx tn A6 8 (fn:=Tryz.f77) (c:=(Tryz.f77.body.getD .skip)) (grs:=[]) (rh:=.k) Tryz.func77 rfl (by kernel_rfl) As fun vs bs q h hn=>by
 unfold g77 at h
 split at h <;> cases h
 rename_i a d e g b
 exact ⟨_,rfl,ca (fun R=>(R (.bool (aq (a=(b.ss 0 0)))) [] [])) (fun R=>by kernel_rfl) (lf rfl rfl)⟩
/-! ### (*shotline/kit.check).fails -/
def m88(d:Dat)(e:BA)(g a b i:Int):Int × Bool :=
 (cond (cond (d.3 0 (0+1+1)) az aj) (0,aj) (cond (bif (cond (aq (a=0)) az aj) then (aq (a<(Z.wrap (i - (d.ii 0 0))))) else az) (1,aj) (cond (bif (cond (aq (b=0)) az aj) then (aq (b<=(d.ii 0 1))) else az) (2,aj) (0,az))))
def q88(r:Int × Bool):SV × List Blk × List Blk:=(.tup [V Z r.1,.bool r.2],[],[])
def g88:GF:=fun vs bs=>match vs,bs with
 | [.rp [W Z,W Z,.bool] d 0 0,.agg [.str e,V Z g,V Z a,V Z b],V Z i],[]=>ak (rs 0 (q88 (m88 d e g a b i)) [])
 | _,_=>aw
def c88:Ctr:=AA [.rp [W Z,W Z,.bool],.k,.k] g88
theorem k88:Ag Tryz.prog c88 88:=cx tn A6 8 (fn:=Tryz.f88) (c:=(Tryz.f88.body.getD .skip)) (grs:=[]) (rh:=.k) Tryz.func88 rfl (by kernel_rfl) As fun vs bs q h hn=>by
 unfold g88 at h
 split at h <;> cases h
 rename_i d e g a b i
 exact ⟨_,rfl,ca (fun R=>(cnd (cond (d.3 0 (0+1+1)) az aj)
 (R (.tup [V Z 0,.bool aj]) [] [])
 (cnd (bif (cond (aq (a=0)) az aj) then (aq (a<(Z.wrap (i - (d.ii 0 0))))) else az)
 (R (.tup [V Z 1,.bool aj]) [] [])
 (cnd (bif (cond (aq (b=0)) az aj) then (aq (b<=(d.ii 0 1))) else az)
 (R (.tup [V Z 2,.bool aj]) [] [])
 (R (.tup [V Z 0,.bool az]) [] []))))) (fun R=>by kernel_rfl) (co (fun h0=>lf (cT h0 rfl) rfl) (fun h0=>co (fun h1=>lf (cF h0 (cT h1 rfl)) rfl) (fun h1=>co (fun h2=>lf (cF h0 (cF h1 (cT h2 rfl))) rfl) (fun h2=>lf (cF h0 (cF h1 (cF h2 rfl))) rfl))))⟩
/-! ### shotline/shotlinebase.Within -/
def m42(a b d:Int):Bool :=
 (bif (aq (b<=a)) then (aq (a<=d)) else az)
def q42(r:Bool):SV × List Blk × List Blk:=(.bool r,[],[])
def g42:GF:=fun vs bs=>match vs,bs with
 | [V Z a,V Z b,V Z d],[]=>ak (rs 0 (q42 (m42 a b d)) [])
 | _,_=>aw
def c42:Ctr:=AA [.k,.k,.k] g42
theorem k42:Ag Tryz.prog c42 42:=cx tn A6 8 (fn:=Tryz.f42) (c:=(Tryz.f42.body.getD .skip)) (grs:=[]) (rh:=.k) Tryz.func42 rfl (by kernel_rfl) As fun vs bs q h hn=>by
 unfold g42 at h
 split at h <;> cases h
 rename_i a b d
 exact ⟨_,rfl,ca (fun R=>(R (.bool (bif (aq (b<=a)) then (aq (a<=d)) else az)) [] [])) (fun R=>by kernel_rfl) (lf rfl rfl)⟩
/-! ### shotline/shotlinebase.IsName -/
def l37_0(b:BA):Nat->Int->Option (Bool × (Bool) × (Unit))
 | 0,_=>aw
 | f+1,a=>(cond (aq (a<(b.size:Int))) (cond (aq (0<=a/\a<(b.size:Int))) (cond (bif (cond (bif (bif (aq (97<=(An b a.toNat))) then (aq ((An b a.toNat)<=122)) else az) then aj else (bif (aq (65<=(An b a.toNat))) then (aq ((An b a.toNat)<=90)) else az)) az aj) then (bif (aq (a=0)) then aj else (bif (cond (aq ((An b a.toNat)=45)) az aj) then (bif (aq ((An b a.toNat)<48)) then aj else (aq (57<(An b a.toNat)))) else az)) else az) (ak (aj,az,ax)) (l37_0 b f (Z.wrap (a+1)))) aw) (ak (az,ax,())))
abbrev o37_0(b:BA)(a:Int):Option (Bool × (Bool) × (Unit)):=l37_0 b (b.size+a.toNat+8) a
def e37_0(b:BA)(r:Bool × (Bool) × (Unit))(K:XR):Prop:=cnd r.1 (K (XE.ret) [.bool r.2.1] []) (K (XE.exit 0) [.any] [])
def g37_0:AX:=fun s k=>match czv 0 55 [0,3] 0 [] s with
 | ak ([.str b,V Z a],[])=>Ay [(o37_0 b a).isSome] (e37_0 b ((o37_0 b a).getD ax) fun e vs bs=>AL 0 k e (Aq 0 55 [2] vs 0 bs))
 | _=>False
theorem z37_0:LOk Tryz.prog g37_0 (.block 0 (Ad (Tryz.f37.body.getD .skip) 0)):=by
 refine lb (ι:=BA × Int) (fuel:=8) (na:=0) (nt:=55) (nx:=0) (Lh:=[0,3]) (Le:=[2]) (gl:=[]) tn A6 As rfl (fun f (b,a) K=>GG ax (e37_0 b) K (l37_0 b f a)) (fun (b,a)=>[.str b,V Z a]) (fun (b,a)=>[]) (fun (_,_) K=>Au) ?_ ?_
 .rintro f ⟨b,a⟩ K hG
  refine ro (fun R => 
 let a0:=(An b a.toNat)
 (cnd (aq (a<(b.size:Int)))
 (cnd (aq (0<=a/\a<(b.size:Int)))
 (cnd (bif (cond (bif (bif (aq (97<=a0)) then (aq (a0<=122)) else az) then aj else (bif (aq (65<=a0)) then (aq (a0<=90)) else az)) az aj) then (bif (aq (a=0)) then aj else (bif (cond (aq (a0=45)) az aj) then (bif (aq (a0<48)) then aj else (aq (57<a0))) else az)) else az)
 (R (XE.ret) [.bool az] [])
 (R (XE.normal) [.str b,V Z (Z.wrap (a+1))] []))
  False)
 (R (XE.exit 0) [.any] []))) (fun R=>by kernel_rfl) ?_
  exact ch hG (fun h0=>cg h0 fun h1=>ch h1 (fun h2=>h2.2) (fun h2=>⟨(_,_),rfl,rfl,h2⟩)) (fun h0=>h0.2)
 .intro s k h
  unfold g37_0 at h
  split at h <;> try exact h.elim
  rename_i e1
  rw [Ac] at h
  exact ⟨_,e1,_,(_,_),rfl,rfl,h.1 _ (List.mem_singleton.2 rfl),h.2⟩
def m37(d:BA):Bool :=
 (cond (bif (aq ((d.size:Int)<1)) then aj else (aq (12<(d.size:Int)))) az (cond ((o37_0 d 0).getD ax).1 ((o37_0 d 0).getD ax).2.1 aj))
def n37(d:BA):Bool :=
 (cond (bif (aq ((d.size:Int)<1)) then aj else (aq (12<(d.size:Int)))) aj (((o37_0 d 0).isSome)&&aj))
def q37(r:Bool):SV × List Blk × List Blk:=(.bool r,[],[])
def g37:GF:=fun vs bs=>match vs,bs with
 | [.str d],[]=>ak (rs 0 (q37 (m37 d)) [n37 d])
 | _,_=>aw
def c37:Ctr:=AA [.k] g37
theorem k37:Ag Tryz.prog c37 37:=cx tn A6 8 (fn:=Tryz.f37) (c:=(Tryz.f37.body.getD .skip)) (grs:=[]) (rh:=.k) Tryz.func37 rfl (by kernel_rfl) (AD rfl (lc z37_0 ln)) fun vs bs q h hn=>by
 unfold g37 at h
 split at h <;> cases h
 rename_i d
 have hn:=n1 hn
 exact ⟨_,rfl,ca (fun R=>(cnd (bif (aq ((d.size:Int)<1)) then aj else (aq (12<(d.size:Int))))
 (R (.bool az) [] [])
 (cnd ((o37_0 d 0).isSome)
 (cnd ((o37_0 d 0).getD ax).1
 (R (.bool ((o37_0 d 0).getD ax).2.1) [] [])
 (R (.bool aj) [] []))
  False))) (fun R=>by kernel_rfl) (co (fun h0=>lf (cT h0 rfl) rfl) (fun h0=>cn (al (cf h0 hn)) (co (fun h1=>lf (cF h0 (cT h1 rfl)) rfl) (fun h1=>lf (cF h0 (cF h1 rfl)) rfl))))⟩
/-! ### shotline/shotlinelaw07.slim -/
theorem x7(e g:Int)(a b d:BA)(i:Bool)(R:SV->List Blk->List Blk->Prop):AT Tryz.prog [] (fun _=>aw) 8 (Tryz.f7.body.getD .skip) (Cb Tryz.f7.ntmps [.agg [V Z e,V Z g,.str a,.str b,.str d,.bool i]] 0 (Ah [])) (EQ Tryz.prog Tryz.f7.results.toList (DT 0 (List.range 0) [] (.k) fun v U N=>R v U N)) =
 (R (.bool (bif (bif (aq ((a.size:Int)<=20)) then (aq ((b.size:Int)<=20)) else az) then (aq ((d.size:Int)<=20)) else az)) [] []):=by kernel_rfl
def m7(e g:Int)(a b d:BA)(i:Bool):Bool :=
 (bif (bif (aq ((a.size:Int)<=20)) then (aq ((b.size:Int)<=20)) else az) then (aq ((d.size:Int)<=20)) else az)
def q7(r:Bool):SV × List Blk × List Blk:=(.bool r,[],[])
def g7:GF:=fun vs bs=>match vs,bs with
 | [.agg [V Z e,V Z g,.str a,.str b,.str d,.bool i]],[]=>ak (rs 0 (q7 (m7 e g a b d i)) [])
 | _,_=>aw
def c7:Ctr:=AA [.k] g7
theorem p7(e g:Int)(a b d:BA)(i:Bool):AT Tryz.prog [] (fun _=>aw) 8 (Tryz.f7.body.getD .skip) (Cb Tryz.f7.ntmps [.agg [V Z e,V Z g,.str a,.str b,.str d,.bool i]] 0 (Ah [])) (EQ Tryz.prog Tryz.f7.results.toList (DT 0 (List.range 0) [] (.k) fun v U N=>(v,U,N)=(q7 (m7 e g a b d i)))) :=
 Bu (x7 e g a b d i _) (lf rfl rfl)
theorem k7:Ag Tryz.prog c7 7:=cx tn A6 8 (fn:=Tryz.f7) (c:=(Tryz.f7.body.getD .skip)) (grs:=[]) (rh:=.k) Tryz.func7 rfl (by kernel_rfl) As fun vs bs q h _=>by
 unfold g7 at h
 split at h <;> cases h
 exact ⟨_,rfl,p7 _ _ _ _ _ _⟩
/-! ### shotline/shotlinebase.Texts -/
def l26_0(a:Nat)(d:Dat)(b:Nat)(g:Dat):Nat->Int->Option (Bool × (Bool) × (Unit))
 | 0,_=>aw
 | f+1,i=>(cond (aq (i<(a:Int))) (cond (aq (0<=i/\i<↑a)) (cond (aq (0<=i/\i<↑b)) (cond (cond (aq ((d.ss i.toNat 0)=(g.ss i.toNat 0))) az aj) (ak (aj,az,ax)) (l26_0 a d b g f (Z.wrap (i+1)))) aw) aw) (ak (az,ax,())))
abbrev o26_0(a:Nat)(d:Dat)(b:Nat)(g:Dat)(i:Int):Option (Bool × (Bool) × (Unit)):=l26_0 a d b g (a+b+i.toNat+8) i
def e26_0(a:Nat)(d:Dat)(b:Nat)(g:Dat)(r:Bool × (Bool) × (Unit))(K:XR):Prop:=cnd r.1 (K (XE.ret) [.bool r.2.1] []) (K (XE.exit 0) [.any] [])
def g26_0:AX:=fun s k=>match czv 0 26 [0,1,5] 0 [] s with
 | ak ([.ro [.str] a d,.ro [.str] b g,V Z i],[])=>Ay [(o26_0 a d b g i).isSome] (e26_0 a d b g ((o26_0 a d b g i).getD ax) fun e vs bs=>AL 0 k e (Aq 0 26 [4] vs 0 bs))
 | _=>False
theorem z26_0:LOk Tryz.prog g26_0 (.block 0 (Ad (Tryz.f26.body.getD .skip) 0)):=by
 refine lb (ι:=Nat × Dat × Nat × Dat × Int) (fuel:=8) (na:=0) (nt:=26) (nx:=0) (Lh:=[0,1,5]) (Le:=[4]) (gl:=[]) tn A6 As rfl (fun f (a,d,b,g,i) K=>GG ax (e26_0 a d b g) K (l26_0 a d b g f i)) (fun (a,d,b,g,i)=>[.ro [.str] a d,.ro [.str] b g,V Z i]) (fun (a,d,b,g,i)=>[]) (fun (_,_,_,_,_) K=>Au) ?_ ?_
 .rintro f ⟨a,d,b,g,i⟩ K hG
  refine ro (fun R=>(cnd (aq (i<(a:Int)))
 (cnd (aq (0<=i/\i<↑a))
 (cnd (aq (0<=i/\i<↑b))
 (cnd (cond (aq ((d.ss i.toNat 0)=(g.ss i.toNat 0))) az aj)
 (R (XE.ret) [.bool az] [])
 (R (XE.normal) [.ro [.str] a d,.ro [.str] b g,V Z (Z.wrap (i+1))] []))
  False)
  False)
 (R (XE.exit 0) [.any] []))) (fun R=>by kernel_rfl) ?_
  exact ch hG (fun h0=>cg h0 fun h1=>cg h1 fun h2=>ch h2 (fun h3=>h3.2) (fun h3=>⟨(_,_,_,_,_),rfl,rfl,h3⟩)) (fun h0=>h0.2)
 .intro s k h
  unfold g26_0 at h
  split at h <;> try exact h.elim
  rename_i e1
  rw [Ac] at h
  exact ⟨_,e1,_,(_,_,_,_,_),rfl,rfl,h.1 _ (List.mem_singleton.2 rfl),h.2⟩
def m26(j:Nat)(m:Dat)(l:Nat)(n:Dat):Bool :=
 (cond (cond (aq ((j:Int)=(l:Int))) az aj) az (cond ((o26_0 j m l n 0).getD ax).1 ((o26_0 j m l n 0).getD ax).2.1 aj))
def n26(j:Nat)(m:Dat)(l:Nat)(n:Dat):Bool :=
 (cond (cond (aq ((j:Int)=(l:Int))) az aj) aj (((o26_0 j m l n 0).isSome)&&aj))
def q26(r:Bool):SV × List Blk × List Blk:=(.bool r,[],[])
def g26:GF:=fun vs bs=>match vs,bs with
 | [.ro [.str] j m,.ro [.str] l n],[]=>ak (rs 0 (q26 (m26 j m l n)) [n26 j m l n])
 | _,_=>aw
def c26:Ctr:=AA [.ro [.str],.ro [.str]] g26
theorem k26:Ag Tryz.prog c26 26:=cx tn A6 8 (fn:=Tryz.f26) (c:=(Tryz.f26.body.getD .skip)) (grs:=[]) (rh:=.k) Tryz.func26 rfl (by kernel_rfl) (AD rfl (lc z26_0 ln)) fun vs bs q h hn=>by
 unfold g26 at h
 split at h <;> cases h
 rename_i j m l n
 have hn:=n1 hn
 exact ⟨_,rfl,ca (fun R=>(cnd (cond (aq ((j:Int)=(l:Int))) az aj)
 (R (.bool az) [] [])
 (cnd ((o26_0 j m l n 0).isSome)
 (cnd ((o26_0 j m l n 0).getD ax).1
 (R (.bool ((o26_0 j m l n 0).getD ax).2.1) [] [])
 (R (.bool aj) [] []))
  False))) (fun R=>by kernel_rfl) (co (fun h0=>lf (cT h0 rfl) rfl) (fun h0=>cn (al (cf h0 hn)) (co (fun h1=>lf (cF h0 (cT h1 rfl)) rfl) (fun h1=>lf (cF h0 (cF h1 rfl)) rfl))))⟩
/-! ### shotline/shotlineref07.Copy -/
def m15(b:Nat)(e:Dat)(d:Nat)(g:Dat):Nat × Dat × Nat × Dat :=
 ((0+b),((Aw [] 3).app 0 e),(0+d),((Aw [] 4).app 0 g))
def n15(b:Nat)(e:Dat)(d:Nat)(g:Dat):Bool :=
 ((aq ((0+b)<=1073741824))&&((aq ((0+d)<=1073741824))&&((aq ((0+(0+b))<=(0+b)))&&((aq ((0+(0+d))<=(0+d)))&&aj))))
def q15(r:Nat × Dat × Nat × Dat):SV × List Blk × List Blk:=(.agg [.ro [.str,W Z,W Z] r.1 r.2.1,.ro [.str,W Z,W Z,W Z] r.2.2.1 r.2.2.2],[],[])
def g15:GF:=fun vs bs=>match vs,bs with
 | [.agg [.ro [.str,W Z,W Z] b e,.ro [.str,W Z,W Z,W Z] d g]],[]=>ak (rs 0 (q15 (m15 b e d g)) [n15 b e d g])
 | _,_=>aw
def c15:Ctr:=AA [.a [.ro [.str,W Z,W Z],.ro [.str,W Z,W Z,W Z]]] g15
theorem k15:Ag Tryz.prog c15 15:=cx tn A6 8 (fn:=Tryz.f15) (c:=(Tryz.f15.body.getD .skip)) (grs:=[]) (rh:=.t [.ro [.str,W Z,W Z],.ro [.str,W Z,W Z,W Z]]) Tryz.func15 rfl (by kernel_rfl) As fun vs bs q h hn=>by
 unfold g15 at h
 split at h <;> cases h
 rename_i b e d g
 have hn:=n1 hn
 exact ⟨_,rfl,ca (fun R=>(cnd (aq ((0+b)<=1073741824))
 (cnd (aq ((0+d)<=1073741824))
 (cnd (aq ((0+(0+b))<=(0+b)))
 (cnd (aq ((0+(0+d))<=(0+d)))
 (R (.agg [.ro [.str,W Z,W Z] (0+b) ((Aw [] 3).app 0 e),.ro [.str,W Z,W Z,W Z] (0+d) ((Aw [] 4).app 0 g)]) [] [])
   False)
  False)
  False)
 False)) (fun R=>by kernel_rfl) (cn (al hn) (cn (al (ar hn)) (cn (al (ar (ar hn))) (cn (al (ar (ar (ar hn)))) (lf rfl rfl)))))⟩
/-! ### shotline/shotlinelaw07.Shed -/
def m22 :Dat × Dat :=
 ((Aw [SV.str ({ data:=#[99,49] }:BA),V Z 3,V Z 0,SV.str ({ data:=#[97] }:BA),V Z 1,V Z 0,SV.str ({ data:=#[98] }:BA),V Z 1,V Z 0,SV.str ({ data:=#[114] }:BA),V Z 2,V Z 100] 3),(Aw [SV.str ({ data:=#[116,101,115,116] }:BA),V Z 1,V Z 1000,V Z 0,SV.str ({ data:=#[115,101,114,118,105,99,101] }:BA),V Z 2,V Z 365,V Z 2] 4))
def q22(r:Dat × Dat):SV × List Blk × List Blk:=(.agg [.ro [.str,W Z,W Z] 4 r.1,.ro [.str,W Z,W Z,W Z] 2 r.2],[],[])
def g22:GF:=fun vs bs=>match vs,bs with
 | [],[]=>ak (rs 0 (q22 (m22)) [])
 | _,_=>aw
def c22:Ctr:=AA [] g22
theorem k22:Ag Tryz.prog c22 22:=cx tn A6 8 (fn:=Tryz.f22) (c:=(Tryz.f22.body.getD .skip)) (grs:=[]) (rh:=.t [.ro [.str,W Z,W Z],.ro [.str,W Z,W Z,W Z]]) Tryz.func22 rfl (by kernel_rfl) As fun vs bs q h hn=>by
 unfold g22 at h
 split at h <;> cases h
 exact ⟨_,rfl,ca (fun R=>(R (.agg [.ro [.str,W Z,W Z] 4 (Aw [SV.str ({ data:=#[99,49] }:BA),V Z 3,V Z 0,SV.str ({ data:=#[97] }:BA),V Z 1,V Z 0,SV.str ({ data:=#[98] }:BA),V Z 1,V Z 0,SV.str ({ data:=#[114] }:BA),V Z 2,V Z 100] 3),.ro [.str,W Z,W Z,W Z] 2 (Aw [SV.str ({ data:=#[116,101,115,116] }:BA),V Z 1,V Z 1000,V Z 0,SV.str ({ data:=#[115,101,114,118,105,99,101] }:BA),V Z 2,V Z 365,V Z 2] 4)]) [] [])) (fun R=>by kernel_rfl) (lf rfl rfl)⟩
/-! ### shotline/shotlinelaw07.Diary -/
def m23 :Dat :=
 (Aw [V Z 2,V Z 5,SV.str ({ data:=#[97] }:BA),SV.str ({ data:=#[] }:BA),SV.str ({ data:=#[99,49] }:BA),SV.bool az,V Z 2,V Z 6,SV.str ({ data:=#[98] }:BA),SV.str ({ data:=#[] }:BA),SV.str ({ data:=#[97] }:BA),SV.bool az,V Z 4,V Z 7,SV.str ({ data:=#[99,49] }:BA),SV.str ({ data:=#[] }:BA),SV.str ({ data:=#[] }:BA),SV.bool az] 6)
def q23(r:Dat):SV × List Blk × List Blk:=(.ro [W Z,W Z,.str,.str,.str,.bool] 3 r,[],[])
def g23:GF:=fun vs bs=>match vs,bs with
 | [],[]=>ak (rs 0 (q23 (m23)) [])
 | _,_=>aw
def c23:Ctr:=AA [] g23
theorem k23:Ag Tryz.prog c23 23:=cx tn A6 8 (fn:=Tryz.f23) (c:=(Tryz.f23.body.getD .skip)) (grs:=[]) (rh:=.ro [W Z,W Z,.str,.str,.str,.bool]) Tryz.func23 rfl (by kernel_rfl) As fun vs bs q h hn=>by
 unfold g23 at h
 split at h <;> cases h
 exact ⟨_,rfl,ca (fun R => 
 let a0:=({ data:=#[] }:BA)
 let b0:=({ data:=#[99,49] }:BA)
 (R (.ro [W Z,W Z,.str,.str,.str,.bool] 3 (Aw [V Z 2,V Z 5,SV.str ({ data:=#[97] }:BA),SV.str a0,SV.str b0,SV.bool az,V Z 2,V Z 6,SV.str ({ data:=#[98] }:BA),SV.str a0,SV.str ({ data:=#[97] }:BA),SV.bool az,V Z 4,V Z 7,SV.str b0,SV.str a0,SV.str a0,SV.bool az] 6)) [] [])) (fun R=>by kernel_rfl) (lf rfl rfl)⟩
/-! ### shotline/shotlinelaw07.sameReasons -/
def l27_0(d:Nat)(a:Dat)(i:Nat)(b:Dat):Nat->Int->Option (Bool × (Bool) × (Unit))
 | 0,_=>aw
 | f+1,g=>(cond (aq (g<(d:Int))) (cond (aq (0<=g/\g<↑d)) (cond (aq (0<=g/\g<↑i)) (cond (cond (bif (aq ((a.ii g.toNat 0)=(b.ii g.toNat 0))) then (bif (aq ((a.ss g.toNat 1)=(b.ss g.toNat 1))) then (bif (bif (aq ((a.ss g.toNat 2)=(b.ss g.toNat 2))) then (bif (aq ((a.ii g.toNat 3)=(b.ii g.toNat 3))) then aj else az) else az) then aj else az) else az) else az) az aj) (ak (aj,az,ax)) (l27_0 d a i b f (Z.wrap (g+1)))) aw) aw) (ak (az,ax,())))
abbrev o27_0(d:Nat)(a:Dat)(i:Nat)(b:Dat)(g:Int):Option (Bool × (Bool) × (Unit)):=l27_0 d a i b (d+i+g.toNat+8) g
def e27_0(d:Nat)(a:Dat)(i:Nat)(b:Dat)(r:Bool × (Bool) × (Unit))(K:XR):Prop:=cnd r.1 (K (XE.ret) [.bool r.2.1] []) (K (XE.exit 0) [.any] [])
def g27_0:AX:=fun s k=>match czv 0 26 [0,1,5] 0 [] s with
 | ak ([.ro [W Z,.str,.str,W Z] d a,.ro [W Z,.str,.str,W Z] i b,V Z g],[])=>Ay [(o27_0 d a i b g).isSome] (e27_0 d a i b ((o27_0 d a i b g).getD ax) fun e vs bs=>AL 0 k e (Aq 0 26 [4] vs 0 bs))
 | _=>False
theorem z27_0:LOk Tryz.prog g27_0 (.block 0 (Ad (Tryz.f27.body.getD .skip) 0)):=by
 refine lb (ι:=Nat × Dat × Nat × Dat × Int) (fuel:=8) (na:=0) (nt:=26) (nx:=0) (Lh:=[0,1,5]) (Le:=[4]) (gl:=[]) tn A6 As rfl (fun f (d,a,i,b,g) K=>GG ax (e27_0 d a i b) K (l27_0 d a i b f g)) (fun (d,a,i,b,g)=>[.ro [W Z,.str,.str,W Z] d a,.ro [W Z,.str,.str,W Z] i b,V Z g]) (fun (d,a,i,b,g)=>[]) (fun (_,_,_,_,_) K=>Au) ?_ ?_
 .rintro f ⟨d,a,i,b,g⟩ K hG
  refine ro (fun R=>(cnd (aq (g<(d:Int)))
 (cnd (aq (0<=g/\g<↑d))
 (cnd (aq (0<=g/\g<↑i))
 (cnd (cond (bif (aq ((a.ii g.toNat 0)=(b.ii g.toNat 0))) then (bif (aq ((a.ss g.toNat 1)=(b.ss g.toNat 1))) then (bif (bif (aq ((a.ss g.toNat 2)=(b.ss g.toNat 2))) then (bif (aq ((a.ii g.toNat 3)=(b.ii g.toNat 3))) then aj else az) else az) then aj else az) else az) else az) az aj)
 (R (XE.ret) [.bool az] [])
 (R (XE.normal) [.ro [W Z,.str,.str,W Z] d a,.ro [W Z,.str,.str,W Z] i b,V Z (Z.wrap (g+1))] []))
  False)
  False)
 (R (XE.exit 0) [.any] []))) (fun R=>by kernel_rfl) ?_
  exact ch hG (fun h0=>cg h0 fun h1=>cg h1 fun h2=>ch h2 (fun h3=>h3.2) (fun h3=>⟨(_,_,_,_,_),rfl,rfl,h3⟩)) (fun h0=>h0.2)
 .intro s k h
  unfold g27_0 at h
  split at h <;> try exact h.elim
  rename_i e1
  rw [Ac] at h
  exact ⟨_,e1,_,(_,_,_,_,_),rfl,rfl,h.1 _ (List.mem_singleton.2 rfl),h.2⟩
def m27(j:Nat)(m:Dat)(l:Nat)(n:Dat):Bool :=
 (cond (cond (aq ((j:Int)=(l:Int))) az aj) az (cond ((o27_0 j m l n 0).getD ax).1 ((o27_0 j m l n 0).getD ax).2.1 aj))
def n27(j:Nat)(m:Dat)(l:Nat)(n:Dat):Bool :=
 (cond (cond (aq ((j:Int)=(l:Int))) az aj) aj (((o27_0 j m l n 0).isSome)&&aj))
def q27(r:Bool):SV × List Blk × List Blk:=(.bool r,[],[])
def g27:GF:=fun vs bs=>match vs,bs with
 | [.ro [W Z,.str,.str,W Z] j m,.ro [W Z,.str,.str,W Z] l n],[]=>ak (rs 0 (q27 (m27 j m l n)) [n27 j m l n])
 | _,_=>aw
def c27:Ctr:=AA [.ro [W Z,.str,.str,W Z],.ro [W Z,.str,.str,W Z]] g27
theorem k27:Ag Tryz.prog c27 27:=cx tn A6 8 (fn:=Tryz.f27) (c:=(Tryz.f27.body.getD .skip)) (grs:=[]) (rh:=.k) Tryz.func27 rfl (by kernel_rfl) (AD rfl (lc z27_0 ln)) fun vs bs q h hn=>by
 unfold g27 at h
 split at h <;> cases h
 rename_i j m l n
 have hn:=n1 hn
 exact ⟨_,rfl,ca (fun R=>(cnd (cond (aq ((j:Int)=(l:Int))) az aj)
 (R (.bool az) [] [])
 (cnd ((o27_0 j m l n 0).isSome)
 (cnd ((o27_0 j m l n 0).getD ax).1
 (R (.bool ((o27_0 j m l n 0).getD ax).2.1) [] [])
 (R (.bool aj) [] []))
  False))) (fun R=>by kernel_rfl) (co (fun h0=>lf (cT h0 rfl) rfl) (fun h0=>cn (al (cf h0 hn)) (co (fun h1=>lf (cF h0 (cT h1 rfl)) rfl) (fun h1=>lf (cF h0 (cF h1 rfl)) rfl))))⟩
/-! ### shotline/shotlinelaw07.sameDues -/
def l28_0(d:Nat)(a:Dat)(g:Nat)(b:Dat):Nat->Int->Option (Bool × (Bool) × (Unit))
 | 0,_=>aw
 | f+1,i=>(cond (aq (i<(d:Int))) (cond (aq (0<=i/\i<↑d)) (cond (aq (0<=i/\i<↑g)) (cond (cond (bif (aq ((a.ss i.toNat 0)=(b.ss i.toNat 0))) then (bif (aq ((a.ss i.toNat 1)=(b.ss i.toNat 1))) then (bif (aq ((a.ii i.toNat 2)=(b.ii i.toNat 2))) then aj else az) else az) else az) az aj) (ak (aj,az,ax)) (l28_0 d a g b f (Z.wrap (i+1)))) aw) aw) (ak (az,ax,())))
abbrev o28_0(d:Nat)(a:Dat)(g:Nat)(b:Dat)(i:Int):Option (Bool × (Bool) × (Unit)):=l28_0 d a g b (d+g+i.toNat+8) i
def e28_0(d:Nat)(a:Dat)(g:Nat)(b:Dat)(r:Bool × (Bool) × (Unit))(K:XR):Prop:=cnd r.1 (K (XE.ret) [.bool r.2.1] []) (K (XE.exit 0) [.any] [])
def g28_0:AX:=fun s k=>match czv 0 26 [0,1,5] 0 [] s with
 | ak ([.ro [.str,.str,W Z] d a,.ro [.str,.str,W Z] g b,V Z i],[])=>Ay [(o28_0 d a g b i).isSome] (e28_0 d a g b ((o28_0 d a g b i).getD ax) fun e vs bs=>AL 0 k e (Aq 0 26 [4] vs 0 bs))
 | _=>False
theorem z28_0:LOk Tryz.prog g28_0 (.block 0 (Ad (Tryz.f28.body.getD .skip) 0)):=by
 refine lb (ι:=Nat × Dat × Nat × Dat × Int) (fuel:=8) (na:=0) (nt:=26) (nx:=0) (Lh:=[0,1,5]) (Le:=[4]) (gl:=[]) tn A6 As rfl (fun f (d,a,g,b,i) K=>GG ax (e28_0 d a g b) K (l28_0 d a g b f i)) (fun (d,a,g,b,i)=>[.ro [.str,.str,W Z] d a,.ro [.str,.str,W Z] g b,V Z i]) (fun (d,a,g,b,i)=>[]) (fun (_,_,_,_,_) K=>Au) ?_ ?_
 .rintro f ⟨d,a,g,b,i⟩ K hG
  refine ro (fun R=>(cnd (aq (i<(d:Int)))
 (cnd (aq (0<=i/\i<↑d))
 (cnd (aq (0<=i/\i<↑g))
 (cnd (cond (bif (aq ((a.ss i.toNat 0)=(b.ss i.toNat 0))) then (bif (aq ((a.ss i.toNat 1)=(b.ss i.toNat 1))) then (bif (aq ((a.ii i.toNat 2)=(b.ii i.toNat 2))) then aj else az) else az) else az) az aj)
 (R (XE.ret) [.bool az] [])
 (R (XE.normal) [.ro [.str,.str,W Z] d a,.ro [.str,.str,W Z] g b,V Z (Z.wrap (i+1))] []))
  False)
  False)
 (R (XE.exit 0) [.any] []))) (fun R=>by kernel_rfl) ?_
  exact ch hG (fun h0=>cg h0 fun h1=>cg h1 fun h2=>ch h2 (fun h3=>h3.2) (fun h3=>⟨(_,_,_,_,_),rfl,rfl,h3⟩)) (fun h0=>h0.2)
 .intro s k h
  unfold g28_0 at h
  split at h <;> try exact h.elim
  rename_i e1
  rw [Ac] at h
  exact ⟨_,e1,_,(_,_,_,_,_),rfl,rfl,h.1 _ (List.mem_singleton.2 rfl),h.2⟩
def m28(j:Nat)(m:Dat)(l:Nat)(n:Dat):Bool :=
 (cond (cond (aq ((j:Int)=(l:Int))) az aj) az (cond ((o28_0 j m l n 0).getD ax).1 ((o28_0 j m l n 0).getD ax).2.1 aj))
def n28(j:Nat)(m:Dat)(l:Nat)(n:Dat):Bool :=
 (cond (cond (aq ((j:Int)=(l:Int))) az aj) aj (((o28_0 j m l n 0).isSome)&&aj))
def q28(r:Bool):SV × List Blk × List Blk:=(.bool r,[],[])
def g28:GF:=fun vs bs=>match vs,bs with
 | [.ro [.str,.str,W Z] j m,.ro [.str,.str,W Z] l n],[]=>ak (rs 0 (q28 (m28 j m l n)) [n28 j m l n])
 | _,_=>aw
def c28:Ctr:=AA [.ro [.str,.str,W Z],.ro [.str,.str,W Z]] g28
theorem k28:Ag Tryz.prog c28 28:=cx tn A6 8 (fn:=Tryz.f28) (c:=(Tryz.f28.body.getD .skip)) (grs:=[]) (rh:=.k) Tryz.func28 rfl (by kernel_rfl) (AD rfl (lc z28_0 ln)) fun vs bs q h hn=>by
 unfold g28 at h
 split at h <;> cases h
 rename_i j m l n
 have hn:=n1 hn
 exact ⟨_,rfl,ca (fun R=>(cnd (cond (aq ((j:Int)=(l:Int))) az aj)
 (R (.bool az) [] [])
 (cnd ((o28_0 j m l n 0).isSome)
 (cnd ((o28_0 j m l n 0).getD ax).1
 (R (.bool ((o28_0 j m l n 0).getD ax).2.1) [] [])
 (R (.bool aj) [] []))
  False))) (fun R=>by kernel_rfl) (co (fun h0=>lf (cT h0 rfl) rfl) (fun h0=>cn (al (cf h0 hn)) (co (fun h1=>lf (cF h0 (cT h1 rfl)) rfl) (fun h1=>lf (cF h0 (cF h1 rfl)) rfl))))⟩

/-! ### shotline/kit.isDay -/
def m48(a:Int):Bool :=
 (m50 a 0 100000)
def q48(r:Bool):SV × List Blk × List Blk:=(.bool r,[],[])
def g48:GF:=fun vs bs=>match vs,bs with
 | [V Z a],[]=>ak (rs 0 (q48 (m48 a)) [])
 | _,_=>aw
def c48:Ctr:=AA [.k] g48
theorem k48:Ag Tryz.prog c48 48:=cx (tc k50 tn) A6 8 (fn:=Tryz.f48) (c:=(Tryz.f48.body.getD .skip)) (grs:=[]) (rh:=.k) Tryz.func48 rfl (by kernel_rfl) As fun vs bs q h hn=>by
 unfold g48 at h
 split at h <;> cases h
 rename_i a
 exact ⟨_,rfl,ca (fun R=>(R (.bool (m50 a 0 100000)) [] [])) (fun R=>by kernel_rfl) (lf rfl rfl)⟩
/-! ### shotline/kit.isKind -/
def m47(a:Int):Bool :=
 (m50 a 1 4)
def q47(r:Bool):SV × List Blk × List Blk:=(.bool r,[],[])
def g47:GF:=fun vs bs=>match vs,bs with
 | [V Z a],[]=>ak (rs 0 (q47 (m47 a)) [])
 | _,_=>aw
def c47:Ctr:=AA [.k] g47
theorem k47:Ag Tryz.prog c47 47:=cx (tc k50 tn) A6 8 (fn:=Tryz.f47) (c:=(Tryz.f47.body.getD .skip)) (grs:=[]) (rh:=.k) Tryz.func47 rfl (by kernel_rfl) As fun vs bs q h hn=>by
 unfold g47 at h
 split at h <;> cases h
 rename_i a
 exact ⟨_,rfl,ca (fun R=>(R (.bool (m50 a 1 4)) [] [])) (fun R=>by kernel_rfl) (lf rfl rfl)⟩
/-! ### cmp.Compare[int] -/
def m65(b a:Int):Int :=
 (cond (m91 b) (cond (m91 a) 0 (-1)) (cond (m91 a) 1 (cond (aq (b<a)) (-1) (cond (aq (a<b)) 1 0))))
def q65(r:Int):SV × List Blk × List Blk:=(V Z r,[],[])
def g65:GF:=fun vs bs=>match vs,bs with
 | [V Z b,V Z a],[]=>ak (rs 0 (q65 (m65 b a)) [])
 | _,_=>aw
def c65:Ctr:=AA [.k,.k] g65
theorem k65:Ag Tryz.prog c65 65:=cx (tc k91 tn) A6 8 (fn:=Tryz.f65) (c:=(Tryz.f65.body.getD .skip)) (grs:=[]) (rh:=.k) Tryz.func65 rfl (by kernel_rfl) As fun vs bs q h hn=>by
 unfold g65 at h
 split at h <;> cases h
 rename_i b a
 exact ⟨_,rfl,ca (fun R=>(cnd (m91 b)
 (cnd (m91 a)
 (R (V Z 0) [] [])
 (R (V Z (-1)) [] []))
 (cnd (m91 a)
 (R (V Z 1) [] [])
 (cnd (aq (b<a))
 (R (V Z (-1)) [] [])
 (cnd (aq (a<b))
 (R (V Z 1) [] [])
 (R (V Z 0) [] [])))))) (fun R=>by kernel_rfl) (co (fun h0=>co (fun h1=>lf (cT h0 (cT h1 rfl)) rfl) (fun h1=>lf (cT h0 (cF h1 rfl)) rfl)) (fun h0=>co (fun h1=>lf (cF h0 (cT h1 rfl)) rfl) (fun h1=>co (fun h2=>lf (cF h0 (cF h1 (cT h2 rfl))) rfl) (fun h2=>co (fun h3=>lf (cF h0 (cF h1 (cF h2 (cT h3 rfl)))) rfl) (fun h3=>lf (cF h0 (cF h1 (cF h2 (cF h3 rfl)))) rfl)))))⟩
/-! ### shotline/shotlineref07.IsDay -/
def m40(a:Int):Bool :=
 (m42 a 0 100000)
def q40(r:Bool):SV × List Blk × List Blk:=(.bool r,[],[])
def g40:GF:=fun vs bs=>match vs,bs with
 | [V Z a],[]=>ak (rs 0 (q40 (m40 a)) [])
 | _,_=>aw
def c40:Ctr:=AA [.k] g40
theorem k40:Ag Tryz.prog c40 40:=cx (tc k42 tn) A6 8 (fn:=Tryz.f40) (c:=(Tryz.f40.body.getD .skip)) (grs:=[]) (rh:=.k) Tryz.func40 rfl (by kernel_rfl) As fun vs bs q h hn=>by
 unfold g40 at h
 split at h <;> cases h
 rename_i a
 exact ⟨_,rfl,ca (fun R=>(R (.bool (m42 a 0 100000)) [] [])) (fun R=>by kernel_rfl) (lf rfl rfl)⟩
/-! ### shotline/shotlineref07.IsKind -/
def m39(a:Int):Bool :=
 (m42 a 1 4)
def q39(r:Bool):SV × List Blk × List Blk:=(.bool r,[],[])
def g39:GF:=fun vs bs=>match vs,bs with
 | [V Z a],[]=>ak (rs 0 (q39 (m39 a)) [])
 | _,_=>aw
def c39:Ctr:=AA [.k] g39
theorem k39:Ag Tryz.prog c39 39:=cx (tc k42 tn) A6 8 (fn:=Tryz.f39) (c:=(Tryz.f39.body.getD .skip)) (grs:=[]) (rh:=.k) Tryz.func39 rfl (by kernel_rfl) As fun vs bs q h hn=>by
 unfold g39 at h
 split at h <;> cases h
 rename_i a
 exact ⟨_,rfl,ca (fun R=>(R (.bool (m42 a 1 4)) [] [])) (fun R=>by kernel_rfl) (lf rfl rfl)⟩
/-! ### shotline/shotlinelaw07.Short -/
def l6_0(i:Nat)(b:Dat)(d:Nat)(j:Dat)(g:Nat)(l:Dat):Nat->Int->Option (Bool × (Bool) × (Unit))
 | 0,_=>aw
 | f+1,x=>(cond (aq (x<(d:Int))) (cond (aq (0<=x/\x<↑d)) (cond (aq ((20:Int)<(((j.ss x.toNat 0).size):Int))) (ak (aj,az,ax)) (l6_0 i b d j g l f (Z.wrap (x+1)))) aw) (ak (az,ax,())))
abbrev o6_0(i:Nat)(b:Dat)(d:Nat)(j:Dat)(g:Nat)(l:Dat)(x:Int):Option (Bool × (Bool) × (Unit)):=l6_0 i b d j g l (i+x.toNat+d+g+8) x
def e6_0(i:Nat)(b:Dat)(d:Nat)(j:Dat)(g:Nat)(l:Dat)(r:Bool × (Bool) × (Unit))(K:XR):Prop:=cnd r.1 (K (XE.ret) [.ro [W Z,W Z,.str,.str,.str,.bool] i b,.ptr 0 0,.bool r.2.1] [.cells 25 [.ro [.str,W Z,W Z] d j,.ro [.str,W Z,W Z,W Z] g l]]) (K (XE.exit 0) [.ro [W Z,W Z,.str,.str,.str,.bool] i b,.ptr 0 0,.any] [.cells 25 [.ro [.str,W Z,W Z] d j,.ro [.str,W Z,W Z,W Z] g l]])
def g6_0:AX:=fun s k=>match czv 0 99 [1,2,5] 1 [] s with
 | ak ([.ro [W Z,W Z,.str,.str,.str,.bool] i b,.ptr 0 0,V Z x],[.cells 25 [.ro [.str,W Z,W Z] d j,.ro [.str,W Z,W Z,W Z] g l]])=>Ay [(o6_0 i b d j g l x).isSome] (e6_0 i b d j g l ((o6_0 i b d j g l x).getD ax) fun e vs bs=>AL 0 k e (Aq 0 99 [1,2,4] vs 1 bs))
 | _=>False
theorem z6_0:LOk Tryz.prog g6_0 (.block 0 (Ad (Tryz.f6.body.getD .skip) 0)):=by
 refine lb (ι:=Nat × Dat × Int × Nat × Dat × Nat × Dat) (fuel:=8) (na:=0) (nt:=99) (nx:=1) (Lh:=[1,2,5]) (Le:=[1,2,4]) (gl:=[]) (tc k7 tn) A6 As rfl (fun f (i,b,x,d,j,g,l) K=>GG ax (e6_0 i b d j g l) K (l6_0 i b d j g l f x)) (fun (i,b,x,d,j,g,l)=>[.ro [W Z,W Z,.str,.str,.str,.bool] i b,.ptr 0 0,V Z x]) (fun (i,b,x,d,j,g,l)=>[.cells 25 [.ro [.str,W Z,W Z] d j,.ro [.str,W Z,W Z,W Z] g l]]) (fun (_,_,_,_,_,_,_) K=>Au) ?_ ?_
 .rintro f ⟨i,b,x,d,j,g,l⟩ K hG
  refine ro (fun R=>(cnd (aq (x<(d:Int)))
 (cnd (aq (0<=x/\x<↑d))
 (cnd (aq ((20:Int)<(((j.ss x.toNat 0).size):Int)))
 (R (XE.ret) [.ro [W Z,W Z,.str,.str,.str,.bool] i b,.ptr 0 0,.bool az] [.cells 25 [.ro [.str,W Z,W Z] d j,.ro [.str,W Z,W Z,W Z] g l]])
 (R (XE.normal) [.ro [W Z,W Z,.str,.str,.str,.bool] i b,.ptr 0 0,V Z (Z.wrap (x+1))] [.cells 25 [.ro [.str,W Z,W Z] d j,.ro [.str,W Z,W Z,W Z] g l]]))
  False)
 (R (XE.exit 0) [.ro [W Z,W Z,.str,.str,.str,.bool] i b,.ptr 0 0,.any] [.cells 25 [.ro [.str,W Z,W Z] d j,.ro [.str,W Z,W Z,W Z] g l]]))) (fun R=>by kernel_rfl) ?_
  exact ch hG (fun h0=>cg h0 fun h1=>ch h1 (fun h2=>h2.2) (fun h2=>⟨(_,_,_,_,_,_,_),rfl,rfl,h2⟩)) (fun h0=>h0.2)
 .intro s k h
  unfold g6_0 at h
  split at h <;> try exact h.elim
  rename_i e1
  rw [Ac] at h
  exact ⟨_,e1,_,(_,_,_,_,_,_,_),rfl,rfl,h.1 _ (List.mem_singleton.2 rfl),h.2⟩
def l6_2(i:Nat)(b:Dat)(d:Nat)(j:Dat)(g:Nat)(l:Dat):Nat->Int->Option (Bool × (Bool) × (Unit))
 | 0,_=>aw
 | f+1,y=>(cond (aq (y<(g:Int))) (cond (aq (0<=y/\y<↑g)) (cond (aq ((20:Int)<(((l.ss y.toNat 0).size):Int))) (ak (aj,az,ax)) (l6_2 i b d j g l f (Z.wrap (y+1)))) aw) (ak (az,ax,())))
abbrev o6_2(i:Nat)(b:Dat)(d:Nat)(j:Dat)(g:Nat)(l:Dat)(y:Int):Option (Bool × (Bool) × (Unit)):=l6_2 i b d j g l (i+y.toNat+d+g+8) y
def e6_2(i:Nat)(b:Dat)(d:Nat)(j:Dat)(g:Nat)(l:Dat)(r:Bool × (Bool) × (Unit))(K:XR):Prop:=cnd r.1 (K (XE.ret) [.ro [W Z,W Z,.str,.str,.str,.bool] i b,.bool r.2.1] [.cells 25 [.ro [.str,W Z,W Z] d j,.ro [.str,W Z,W Z,W Z] g l]]) (K (XE.exit 2) [.ro [W Z,W Z,.str,.str,.str,.bool] i b,.any] [.cells 25 [.ro [.str,W Z,W Z] d j,.ro [.str,W Z,W Z,W Z] g l]])
def g6_2:AX:=fun s k=>match czv 0 99 [1,2,6] 1 [] s with
 | ak ([.ro [W Z,W Z,.str,.str,.str,.bool] i b,.ptr 0 0,V Z y],[.cells 25 [.ro [.str,W Z,W Z] d j,.ro [.str,W Z,W Z,W Z] g l]])=>Ay [(o6_2 i b d j g l y).isSome] (e6_2 i b d j g l ((o6_2 i b d j g l y).getD ax) fun e vs bs=>AL 2 k e (Aq 0 99 [1,4] vs 1 bs))
 | _=>False
theorem z6_2:LOk Tryz.prog g6_2 (.block 2 (Ad (Tryz.f6.body.getD .skip) 2)):=by
 refine lb (ι:=Nat × Dat × Int × Nat × Dat × Nat × Dat) (fuel:=8) (na:=0) (nt:=99) (nx:=1) (Lh:=[1,2,6]) (Le:=[1,4]) (gl:=[]) (tc k7 tn) A6 (AD rfl (lc z6_0 ln)) rfl (fun f (i,b,y,d,j,g,l) K=>GG ax (e6_2 i b d j g l) K (l6_2 i b d j g l f y)) (fun (i,b,y,d,j,g,l)=>[.ro [W Z,W Z,.str,.str,.str,.bool] i b,.ptr 0 0,V Z y]) (fun (i,b,y,d,j,g,l)=>[.cells 25 [.ro [.str,W Z,W Z] d j,.ro [.str,W Z,W Z,W Z] g l]]) (fun (_,_,_,_,_,_,_) K=>Au) ?_ ?_
 .rintro f ⟨i,b,y,d,j,g,l⟩ K hG
  refine ro (fun R=>(cnd (aq (y<(g:Int)))
 (cnd (aq (0<=y/\y<↑g))
 (cnd (aq ((20:Int)<(((l.ss y.toNat 0).size):Int)))
 (R (XE.ret) [.ro [W Z,W Z,.str,.str,.str,.bool] i b,.bool az] [.cells 25 [.ro [.str,W Z,W Z] d j,.ro [.str,W Z,W Z,W Z] g l]])
 (R (XE.normal) [.ro [W Z,W Z,.str,.str,.str,.bool] i b,.ptr 0 0,V Z (Z.wrap (y+1))] [.cells 25 [.ro [.str,W Z,W Z] d j,.ro [.str,W Z,W Z,W Z] g l]]))
  False)
 (R (XE.exit 2) [.ro [W Z,W Z,.str,.str,.str,.bool] i b,.any] [.cells 25 [.ro [.str,W Z,W Z] d j,.ro [.str,W Z,W Z,W Z] g l]]))) (fun R=>by kernel_rfl) ?_
  exact ch hG (fun h0=>cg h0 fun h1=>ch h1 (fun h2=>h2.2) (fun h2=>⟨(_,_,_,_,_,_,_),rfl,rfl,h2⟩)) (fun h0=>h0.2)
 .intro s k h
  unfold g6_2 at h
  split at h <;> try exact h.elim
  rename_i e1
  rw [Ac] at h
  exact ⟨_,e1,_,(_,_,_,_,_,_,_),rfl,rfl,h.1 _ (List.mem_singleton.2 rfl),h.2⟩
def l6_4(i:Nat)(b:Dat)(d:Nat)(j:Dat)(g:Nat)(l:Dat):Nat->Int->Option (Bool × (Bool) × (Unit))
 | 0,_=>aw
 | f+1,w=>(cond (aq (w<(i:Int))) (cond (aq (0<=w/\w<↑i)) (cond (cond (m7 (b.ii w.toNat 0) (b.ii w.toNat 1) (b.ss w.toNat 2) (b.ss w.toNat 3) (b.ss w.toNat 4) (b.bb w.toNat 5)) az aj) (ak (aj,az,ax)) (l6_4 i b d j g l f (Z.wrap (w+1)))) aw) (ak (az,ax,())))
abbrev o6_4(i:Nat)(b:Dat)(d:Nat)(j:Dat)(g:Nat)(l:Dat)(w:Int):Option (Bool × (Bool) × (Unit)):=l6_4 i b d j g l (i+w.toNat+d+g+8) w
def e6_4(i:Nat)(b:Dat)(d:Nat)(j:Dat)(g:Nat)(l:Dat)(r:Bool × (Bool) × (Unit))(K:XR):Prop:=cnd r.1 (K (XE.ret) [.bool r.2.1] [.cells 25 [.ro [.str,W Z,W Z] d j,.ro [.str,W Z,W Z,W Z] g l]]) (K (XE.exit 4) [.any] [.cells 25 [.ro [.str,W Z,W Z] d j,.ro [.str,W Z,W Z,W Z] g l]])
def g6_4:AX:=fun s k=>match czv 0 99 [1,7] 1 [] s with
 | ak ([.ro [W Z,W Z,.str,.str,.str,.bool] i b,V Z w],[.cells 25 [.ro [.str,W Z,W Z] d j,.ro [.str,W Z,W Z,W Z] g l]])=>Ay [(o6_4 i b d j g l w).isSome] (e6_4 i b d j g l ((o6_4 i b d j g l w).getD ax) fun e vs bs=>AL 4 k e (Aq 0 99 [4] vs 1 bs))
 | _=>False
theorem z6_4:LOk Tryz.prog g6_4 (.block 4 (Ad (Tryz.f6.body.getD .skip) 4)):=by
 refine lb (ι:=Nat × Dat × Int × Nat × Dat × Nat × Dat) (fuel:=8) (na:=0) (nt:=99) (nx:=1) (Lh:=[1,7]) (Le:=[4]) (gl:=[]) (tc k7 tn) A6 (AD rfl (lc z6_0 (lc z6_2 ln))) rfl (fun f (i,b,w,d,j,g,l) K=>GG ax (e6_4 i b d j g l) K (l6_4 i b d j g l f w)) (fun (i,b,w,d,j,g,l)=>[.ro [W Z,W Z,.str,.str,.str,.bool] i b,V Z w]) (fun (i,b,w,d,j,g,l)=>[.cells 25 [.ro [.str,W Z,W Z] d j,.ro [.str,W Z,W Z,W Z] g l]]) (fun (_,_,_,_,_,_,_) K=>Au) ?_ ?_
 .rintro f ⟨i,b,w,d,j,g,l⟩ K hG
  refine ro (fun R=>(cnd (aq (w<(i:Int)))
 (cnd (aq (0<=w/\w<↑i))
 (cnd (cond (m7 (b.ii w.toNat 0) (b.ii w.toNat 1) (b.ss w.toNat 2) (b.ss w.toNat 3) (b.ss w.toNat 4) (b.bb w.toNat 5)) az aj)
 (R (XE.ret) [.bool az] [.cells 25 [.ro [.str,W Z,W Z] d j,.ro [.str,W Z,W Z,W Z] g l]])
 (R (XE.normal) [.ro [W Z,W Z,.str,.str,.str,.bool] i b,V Z (Z.wrap (w+1))] [.cells 25 [.ro [.str,W Z,W Z] d j,.ro [.str,W Z,W Z,W Z] g l]]))
  False)
 (R (XE.exit 4) [.any] [.cells 25 [.ro [.str,W Z,W Z] d j,.ro [.str,W Z,W Z,W Z] g l]]))) (fun R=>by kernel_rfl) ?_
  exact ch hG (fun h0=>cg h0 fun h1=>ch h1 (fun h2=>h2.2) (fun h2=>⟨(_,_,_,_,_,_,_),rfl,rfl,h2⟩)) (fun h0=>h0.2)
 .intro s k h
  unfold g6_4 at h
  split at h <;> try exact h.elim
  rename_i e1
  rw [Ac] at h
  exact ⟨_,e1,_,(_,_,_,_,_,_,_),rfl,rfl,h.1 _ (List.mem_singleton.2 rfl),h.2⟩
theorem x6(m:Nat)(o:Dat)(n:Nat)(p:Dat)(t:Nat)(u:Dat)(R:SV->List Blk->List Blk->Prop):AT Tryz.prog [(7,c7)] (J0 [(0,g6_0),(2,g6_2),(4,g6_4)]) 8 (Tryz.f6.body.getD .skip) (Cb Tryz.f6.ntmps [.agg [.ro [.str,W Z,W Z] m o,.ro [.str,W Z,W Z,W Z] n p],.ro [W Z,W Z,.str,.str,.str,.bool] t u] 0 (Ah [])) (EQ Tryz.prog Tryz.f6.results.toList (DT 0 (List.range 0) [] (.k) fun v U N=>R v U N)) =
 (cnd (bif (bif (bif (bif (bif (bif (aq (6<(m:Int))) then (aq ((m:Int)<=30)) else az) then aj else (aq (32<(m:Int)))) then aj else (bif (aq (5<(n:Int))) then (aq ((n:Int)<=20)) else az)) then aj else (aq (22<(n:Int)))) then aj else (bif (aq (12<(t:Int))) then (aq ((t:Int)<=200)) else az)) then aj else (aq (202<(t:Int))))
 (R (.bool az) [] [])
 (cnd ((o6_0 t u m o n p 0).isSome)
 (cnd ((o6_0 t u m o n p 0).getD ax).1
 (R (.bool ((o6_0 t u m o n p 0).getD ax).2.1) [] [])
 (cnd ((o6_2 t u m o n p 0).isSome)
 (cnd ((o6_2 t u m o n p 0).getD ax).1
 (R (.bool ((o6_2 t u m o n p 0).getD ax).2.1) [] [])
 (cnd ((o6_4 t u m o n p 0).isSome)
 (cnd ((o6_4 t u m o n p 0).getD ax).1
 (R (.bool ((o6_4 t u m o n p 0).getD ax).2.1) [] [])
 (R (.bool aj) [] []))
    False))
   False))
  False)):=by kernel_rfl
def m6(m:Nat)(o:Dat)(n:Nat)(p:Dat)(t:Nat)(u:Dat):Bool :=
 (cond (bif (bif (bif (bif (bif (bif (aq (6<(m:Int))) then (aq ((m:Int)<=30)) else az) then aj else (aq (32<(m:Int)))) then aj else (bif (aq (5<(n:Int))) then (aq ((n:Int)<=20)) else az)) then aj else (aq (22<(n:Int)))) then aj else (bif (aq (12<(t:Int))) then (aq ((t:Int)<=200)) else az)) then aj else (aq (202<(t:Int)))) az (cond ((o6_0 t u m o n p 0).getD ax).1 ((o6_0 t u m o n p 0).getD ax).2.1 (cond ((o6_2 t u m o n p 0).getD ax).1 ((o6_2 t u m o n p 0).getD ax).2.1 (cond ((o6_4 t u m o n p 0).getD ax).1 ((o6_4 t u m o n p 0).getD ax).2.1 aj))))
def n6(m:Nat)(o:Dat)(n:Nat)(p:Dat)(t:Nat)(u:Dat):Bool :=
 (cond (bif (bif (bif (bif (bif (bif (aq (6<(m:Int))) then (aq ((m:Int)<=30)) else az) then aj else (aq (32<(m:Int)))) then aj else (bif (aq (5<(n:Int))) then (aq ((n:Int)<=20)) else az)) then aj else (aq (22<(n:Int)))) then aj else (bif (aq (12<(t:Int))) then (aq ((t:Int)<=200)) else az)) then aj else (aq (202<(t:Int)))) aj (((o6_0 t u m o n p 0).isSome)&&(cond ((o6_0 t u m o n p 0).getD ax).1 aj (((o6_2 t u m o n p 0).isSome)&&(cond ((o6_2 t u m o n p 0).getD ax).1 aj (((o6_4 t u m o n p 0).isSome)&&aj))))))
def q6(r:Bool):SV × List Blk × List Blk:=(.bool r,[],[])
def g6:GF:=fun vs bs=>match vs,bs with
 | [.agg [.ro [.str,W Z,W Z] m o,.ro [.str,W Z,W Z,W Z] n p],.ro [W Z,W Z,.str,.str,.str,.bool] t u],[]=>ak (rs 0 (q6 (m6 m o n p t u)) [n6 m o n p t u])
 | _,_=>aw
def c6:Ctr:=AA [.a [.ro [.str,W Z,W Z],.ro [.str,W Z,W Z,W Z]],.ro [W Z,W Z,.str,.str,.str,.bool]] g6
theorem p6(m:Nat)(o:Dat)(n:Nat)(p:Dat)(t:Nat)(u:Dat)(hn:n6 m o n p t u=aj):AT Tryz.prog [(7,c7)] (J0 [(0,g6_0),(2,g6_2),(4,g6_4)]) 8 (Tryz.f6.body.getD .skip) (Cb Tryz.f6.ntmps [.agg [.ro [.str,W Z,W Z] m o,.ro [.str,W Z,W Z,W Z] n p],.ro [W Z,W Z,.str,.str,.str,.bool] t u] 0 (Ah [])) (EQ Tryz.prog Tryz.f6.results.toList (DT 0 (List.range 0) [] (.k) fun v U N=>(v,U,N)=(q6 (m6 m o n p t u)))) :=
 Bu (x6 m o n p t u _) (co (fun h0=>lf (cT h0 rfl) rfl) (fun h0=>cn (al (cf h0 hn)) (co (fun h1=>lf (cF h0 (cT h1 rfl)) rfl) (fun h1=>cn (al (cf h1 (ar (cf h0 hn)))) (co (fun h2=>lf (cF h0 (cF h1 (cT h2 rfl))) rfl) (fun h2=>cn (al (cf h2 (ar (cf h1 (ar (cf h0 hn)))))) (co (fun h3=>lf (cF h0 (cF h1 (cF h2 (cT h3 rfl)))) rfl) (fun h3=>lf (cF h0 (cF h1 (cF h2 (cF h3 rfl)))) rfl))))))))
theorem k6:Ag Tryz.prog c6 6:=cx (tc k7 tn) A6 8 (fn:=Tryz.f6) (c:=(Tryz.f6.body.getD .skip)) (grs:=[]) (rh:=.k) Tryz.func6 rfl (by kernel_rfl) (AD rfl (lc z6_0 (lc z6_2 (lc z6_4 ln)))) fun vs bs q h hn=>by
 unfold g6 at h
 split at h <;> cases h
 exact ⟨_,rfl,p6 _ _ _ _ _ _ (hn _ (List.mem_singleton.2 rfl))⟩
/-! ### slices.IndexFunc[[]shotline/api.KitItem,shotline/api.KitItem] -/
def l101c75_0(b:Nat)(a j:Dat)(i:Int):Nat->Int->Option (Bool × (Int) × (Unit))
 | 0,_=>aw
 | f+1,d=>(cond (aq (d<i)) (cond (aq (0<=d/\d<↑b)) (cond (m75 (a.ss d.toNat 0) (a.ii d.toNat 1) (a.ii d.toNat 2) j) (ak (aj,d,ax)) (l101c75_0 b a j i f (Z.wrap (d+1)))) aw) (ak (az,ax,())))
abbrev o101c75_0(b:Nat)(a j:Dat)(i d:Int):Option (Bool × (Int) × (Unit)):=l101c75_0 b a j i (b+i.toNat+d.toNat+8) d
def e101c75_0(b:Nat)(a j:Dat)(i:Int)(r:Bool × (Int) × (Unit))(K:XR):Prop:=cnd r.1 (K (XE.ret) [V Z r.2.1] []) (K (XE.exit 0) [.any] [])
def g101c75_0:AX:=fun s k=>match czv 0 19 [0,1,7,8] 0 [] s with
 | ak ([.ro [.str,W Z,W Z] b a,.fn 75 [.rp [.str] j 0 0],V Z i,V Z d],[])=>Ay [(o101c75_0 b a j i d).isSome] (e101c75_0 b a j i ((o101c75_0 b a j i d).getD ax) fun e vs bs=>AL 0 k e (Aq 0 19 [4] vs 0 bs))
 | _=>False
theorem z101c75_0:LOk Tryz.prog g101c75_0 (.block 0 (Ad (Tryz.f101.body.getD .skip) 0)):=by
 refine lb (ι:=Nat × Dat × Dat × Int × Int) (fuel:=8) (na:=0) (nt:=19) (nx:=0) (Lh:=[0,1,7,8]) (Le:=[4]) (gl:=[]) (tc k75 tn) A6 As rfl (fun f (b,a,j,i,d) K=>GG ax (e101c75_0 b a j i) K (l101c75_0 b a j i f d)) (fun (b,a,j,i,d)=>[.ro [.str,W Z,W Z] b a,.fn 75 [.rp [.str] j 0 0],V Z i,V Z d]) (fun (b,a,j,i,d)=>[]) (fun (_,_,_,_,_) K=>Au) ?_ ?_
 .rintro f ⟨b,a,j,i,d⟩ K hG
  refine ro (fun R=>(cnd (aq (d<i))
 (cnd (aq (0<=d/\d<↑b))
 (cnd (m75 (a.ss d.toNat 0) (a.ii d.toNat 1) (a.ii d.toNat 2) j)
 (R (XE.ret) [V Z d] [])
 (R (XE.normal) [.ro [.str,W Z,W Z] b a,.fn 75 [.rp [.str] j 0 0],V Z i,V Z (Z.wrap (d+1))] []))
  False)
 (R (XE.exit 0) [.any] []))) (fun R=>by kernel_rfl) ?_
  exact ch hG (fun h0=>cg h0 fun h1=>ch h1 (fun h2=>h2.2) (fun h2=>⟨(_,_,_,_,_),rfl,rfl,h2⟩)) (fun h0=>h0.2)
 .intro s k h
  unfold g101c75_0 at h
  split at h <;> try exact h.elim
  rename_i e1
  rw [Ac] at h
  exact ⟨_,e1,_,(_,_,_,_,_),rfl,rfl,h.1 _ (List.mem_singleton.2 rfl),h.2⟩
def m101c75(g:Nat)(l da1c0:Dat):Int :=
 (cond ((o101c75_0 g l da1c0 (g:Int) 0).getD ax).1 ((o101c75_0 g l da1c0 (g:Int) 0).getD ax).2.1 (-1))
def n101c75(g:Nat)(l da1c0:Dat):Bool :=
 (((o101c75_0 g l da1c0 (g:Int) 0).isSome)&&aj)
def q101c75(r:Int):SV × List Blk × List Blk:=(V Z r,[],[])
def g101c75:GF:=fun vs bs=>match vs,bs with
 | [.ro [.str,W Z,W Z] g l,.fn 75 [.rp [.str] da1c0 0 0]],[]=>ak (rs 0 (q101c75 (m101c75 g l da1c0)) [n101c75 g l da1c0])
 | _,_=>aw
def c101c75:Ctr:=AA [.ro [.str,W Z,W Z],.f [.rp [.str]]] g101c75
theorem k101c75:Ag Tryz.prog c101c75 101:=cx (tc k75 tn) A6 8 (fn:=Tryz.f101) (c:=(Tryz.f101.body.getD .skip)) (grs:=[]) (rh:=.k) Tryz.func101 rfl (by kernel_rfl) (AD rfl (lc z101c75_0 ln)) fun vs bs q h hn=>by
 unfold g101c75 at h
 split at h <;> cases h
 rename_i g l da1c0
 have hn:=n1 hn
 exact ⟨_,rfl,ca (fun R=>(cnd ((o101c75_0 g l da1c0 (g:Int) 0).isSome)
 (cnd ((o101c75_0 g l da1c0 (g:Int) 0).getD ax).1
 (R (V Z ((o101c75_0 g l da1c0 (g:Int) 0).getD ax).2.1) [] [])
 (R (V Z (-1)) [] []))
 False)) (fun R=>by kernel_rfl) (cn (al hn) (co (fun h0=>lf (cT h0 rfl) rfl) (fun h0=>lf (cF h0 rfl) rfl)))⟩
/-! ### slices.IndexFunc[[]shotline/api.KitRule,shotline/api.KitRule] -/
def l102c77_0(b:Nat)(a j:Dat)(i:Int):Nat->Int->Option (Bool × (Int) × (Unit))
 | 0,_=>aw
 | f+1,d=>(cond (aq (d<i)) (cond (aq (0<=d/\d<↑b)) (cond (m77 (a.ss d.toNat 0) (a.ii d.toNat 1) (a.ii d.toNat 2) (a.ii d.toNat 3) j) (ak (aj,d,ax)) (l102c77_0 b a j i f (Z.wrap (d+1)))) aw) (ak (az,ax,())))
abbrev o102c77_0(b:Nat)(a j:Dat)(i d:Int):Option (Bool × (Int) × (Unit)):=l102c77_0 b a j i (b+i.toNat+d.toNat+8) d
def e102c77_0(b:Nat)(a j:Dat)(i:Int)(r:Bool × (Int) × (Unit))(K:XR):Prop:=cnd r.1 (K (XE.ret) [V Z r.2.1] []) (K (XE.exit 0) [.any] [])
def g102c77_0:AX:=fun s k=>match czv 0 19 [0,1,7,8] 0 [] s with
 | ak ([.ro [.str,W Z,W Z,W Z] b a,.fn 77 [.rp [.str] j 0 0],V Z i,V Z d],[])=>Ay [(o102c77_0 b a j i d).isSome] (e102c77_0 b a j i ((o102c77_0 b a j i d).getD ax) fun e vs bs=>AL 0 k e (Aq 0 19 [4] vs 0 bs))
 | _=>False
theorem z102c77_0:LOk Tryz.prog g102c77_0 (.block 0 (Ad (Tryz.f102.body.getD .skip) 0)):=by
 refine lb (ι:=Nat × Dat × Dat × Int × Int) (fuel:=8) (na:=0) (nt:=19) (nx:=0) (Lh:=[0,1,7,8]) (Le:=[4]) (gl:=[]) (tc k77 tn) A6 As rfl (fun f (b,a,j,i,d) K=>GG ax (e102c77_0 b a j i) K (l102c77_0 b a j i f d)) (fun (b,a,j,i,d)=>[.ro [.str,W Z,W Z,W Z] b a,.fn 77 [.rp [.str] j 0 0],V Z i,V Z d]) (fun (b,a,j,i,d)=>[]) (fun (_,_,_,_,_) K=>Au) ?_ ?_
 .rintro f ⟨b,a,j,i,d⟩ K hG
  refine ro (fun R=>(cnd (aq (d<i))
 (cnd (aq (0<=d/\d<↑b))
 (cnd (m77 (a.ss d.toNat 0) (a.ii d.toNat 1) (a.ii d.toNat 2) (a.ii d.toNat 3) j)
 (R (XE.ret) [V Z d] [])
 (R (XE.normal) [.ro [.str,W Z,W Z,W Z] b a,.fn 77 [.rp [.str] j 0 0],V Z i,V Z (Z.wrap (d+1))] []))
  False)
 (R (XE.exit 0) [.any] []))) (fun R=>by kernel_rfl) ?_
  exact ch hG (fun h0=>cg h0 fun h1=>ch h1 (fun h2=>h2.2) (fun h2=>⟨(_,_,_,_,_),rfl,rfl,h2⟩)) (fun h0=>h0.2)
 .intro s k h
  unfold g102c77_0 at h
  split at h <;> try exact h.elim
  rename_i e1
  rw [Ac] at h
  exact ⟨_,e1,_,(_,_,_,_,_),rfl,rfl,h.1 _ (List.mem_singleton.2 rfl),h.2⟩
def m102c77(g:Nat)(l da1c0:Dat):Int :=
 (cond ((o102c77_0 g l da1c0 (g:Int) 0).getD ax).1 ((o102c77_0 g l da1c0 (g:Int) 0).getD ax).2.1 (-1))
def n102c77(g:Nat)(l da1c0:Dat):Bool :=
 (((o102c77_0 g l da1c0 (g:Int) 0).isSome)&&aj)
def q102c77(r:Int):SV × List Blk × List Blk:=(V Z r,[],[])
def g102c77:GF:=fun vs bs=>match vs,bs with
 | [.ro [.str,W Z,W Z,W Z] g l,.fn 77 [.rp [.str] da1c0 0 0]],[]=>ak (rs 0 (q102c77 (m102c77 g l da1c0)) [n102c77 g l da1c0])
 | _,_=>aw
def c102c77:Ctr:=AA [.ro [.str,W Z,W Z,W Z],.f [.rp [.str]]] g102c77
theorem k102c77:Ag Tryz.prog c102c77 102:=cx (tc k77 tn) A6 8 (fn:=Tryz.f102) (c:=(Tryz.f102.body.getD .skip)) (grs:=[]) (rh:=.k) Tryz.func102 rfl (by kernel_rfl) (AD rfl (lc z102c77_0 ln)) fun vs bs q h hn=>by
 unfold g102c77 at h
 split at h <;> cases h
 rename_i g l da1c0
 have hn:=n1 hn
 exact ⟨_,rfl,ca (fun R=>(cnd ((o102c77_0 g l da1c0 (g:Int) 0).isSome)
 (cnd ((o102c77_0 g l da1c0 (g:Int) 0).getD ax).1
 (R (V Z ((o102c77_0 g l da1c0 (g:Int) 0).getD ax).2.1) [] [])
 (R (V Z (-1)) [] []))
 False)) (fun R=>by kernel_rfl) (cn (al hn) (co (fun h0=>lf (cT h0 rfl) rfl) (fun h0=>lf (cF h0 rfl) rfl)))⟩
/-! ### shotline/shotlineref07.Item -/
def l38_0(p:BA)(b:Nat)(d:Dat)(g:Nat)(i:Dat):Nat->Int->Option (Bool × (Int) × (Unit))
 | 0,_=>aw
 | f+1,o=>(cond (aq (o<(b:Int))) (cond (aq (0<=o/\o<↑b)) (cond (aq ((d.ss o.toNat 0)=p)) (ak (aj,o,ax)) (l38_0 p b d g i f (Z.wrap (o+1)))) aw) (ak (az,ax,())))
abbrev o38_0(p:BA)(b:Nat)(d:Dat)(g:Nat)(i:Dat)(o:Int):Option (Bool × (Int) × (Unit)):=l38_0 p b d g i (p.size+o.toNat+b+g+8) o
def e38_0(p:BA)(b:Nat)(d:Dat)(g:Nat)(i:Dat)(r:Bool × (Int) × (Unit))(K:XR):Prop:=cnd r.1 (K (XE.ret) [V Z r.2.1] [.cells 25 [.ro [.str,W Z,W Z] b d,.ro [.str,W Z,W Z,W Z] g i]]) (K (XE.exit 0) [.any] [.cells 25 [.ro [.str,W Z,W Z] b d,.ro [.str,W Z,W Z,W Z] g i]])
def g38_0:AX:=fun s k=>match czv 0 22 [1,2,5] 1 [] s with
 | ak ([.str p,.ptr 0 0,V Z o],[.cells 25 [.ro [.str,W Z,W Z] b d,.ro [.str,W Z,W Z,W Z] g i]])=>Ay [(o38_0 p b d g i o).isSome] (e38_0 p b d g i ((o38_0 p b d g i o).getD ax) fun e vs bs=>AL 0 k e (Aq 0 22 [4] vs 1 bs))
 | _=>False
theorem z38_0:LOk Tryz.prog g38_0 (.block 0 (Ad (Tryz.f38.body.getD .skip) 0)):=by
 refine lb (ι:=BA × Int × Nat × Dat × Nat × Dat) (fuel:=8) (na:=0) (nt:=22) (nx:=1) (Lh:=[1,2,5]) (Le:=[4]) (gl:=[]) tn A6 As rfl (fun f (p,o,b,d,g,i) K=>GG ax (e38_0 p b d g i) K (l38_0 p b d g i f o)) (fun (p,o,b,d,g,i)=>[.str p,.ptr 0 0,V Z o]) (fun (p,o,b,d,g,i)=>[.cells 25 [.ro [.str,W Z,W Z] b d,.ro [.str,W Z,W Z,W Z] g i]]) (fun (_,_,_,_,_,_) K=>Au) ?_ ?_
 .rintro f ⟨p,o,b,d,g,i⟩ K hG
  refine ro (fun R=>(cnd (aq (o<(b:Int)))
 (cnd (aq (0<=o/\o<↑b))
 (cnd (aq ((d.ss o.toNat 0)=p))
 (R (XE.ret) [V Z o] [.cells 25 [.ro [.str,W Z,W Z] b d,.ro [.str,W Z,W Z,W Z] g i]])
 (R (XE.normal) [.str p,.ptr 0 0,V Z (Z.wrap (o+1))] [.cells 25 [.ro [.str,W Z,W Z] b d,.ro [.str,W Z,W Z,W Z] g i]]))
  False)
 (R (XE.exit 0) [.any] [.cells 25 [.ro [.str,W Z,W Z] b d,.ro [.str,W Z,W Z,W Z] g i]]))) (fun R=>by kernel_rfl) ?_
  exact ch hG (fun h0=>cg h0 fun h1=>ch h1 (fun h2=>h2.2) (fun h2=>⟨(_,_,_,_,_,_),rfl,rfl,h2⟩)) (fun h0=>h0.2)
 .intro s k h
  unfold g38_0 at h
  split at h <;> try exact h.elim
  rename_i e1
  rw [Ac] at h
  exact ⟨_,e1,_,(_,_,_,_,_,_),rfl,rfl,h.1 _ (List.mem_singleton.2 rfl),h.2⟩
def m38(j:Nat)(l:Dat)(m:Nat)(n:Dat)(t:BA):Int :=
 (cond ((o38_0 t j l m n 0).getD ax).1 ((o38_0 t j l m n 0).getD ax).2.1 (-1))
def n38(j:Nat)(l:Dat)(m:Nat)(n:Dat)(t:BA):Bool :=
 (((o38_0 t j l m n 0).isSome)&&aj)
def q38(r:Int):SV × List Blk × List Blk:=(V Z r,[],[])
def g38:GF:=fun vs bs=>match vs,bs with
 | [.agg [.ro [.str,W Z,W Z] j l,.ro [.str,W Z,W Z,W Z] m n],.str t],[]=>ak (rs 0 (q38 (m38 j l m n t)) [n38 j l m n t])
 | _,_=>aw
def c38:Ctr:=AA [.a [.ro [.str,W Z,W Z],.ro [.str,W Z,W Z,W Z]],.k] g38
theorem k38:Ag Tryz.prog c38 38:=cx tn A6 8 (fn:=Tryz.f38) (c:=(Tryz.f38.body.getD .skip)) (grs:=[]) (rh:=.k) Tryz.func38 rfl (by kernel_rfl) (AD rfl (lc z38_0 ln)) fun vs bs q h hn=>by
 unfold g38 at h
 split at h <;> cases h
 rename_i j l m n t
 have hn:=n1 hn
 exact ⟨_,rfl,ca (fun R=>(cnd ((o38_0 t j l m n 0).isSome)
 (cnd ((o38_0 t j l m n 0).getD ax).1
 (R (V Z ((o38_0 t j l m n 0).getD ax).2.1) [] [])
 (R (V Z (-1)) [] []))
 False)) (fun R=>by kernel_rfl) (cn (al hn) (co (fun h0=>lf (cT h0 rfl) rfl) (fun h0=>lf (cF h0 rfl) rfl)))⟩
/-! ### shotline/shotlineref07.Rule -/
def l41_0(p:BA)(g:Nat)(i:Dat)(b:Nat)(d:Dat):Nat->Int->Option (Bool × (Int) × (Unit))
 | 0,_=>aw
 | f+1,o=>(cond (aq (o<(b:Int))) (cond (aq (0<=o/\o<↑b)) (cond (aq ((d.ss o.toNat 0)=p)) (ak (aj,o,ax)) (l41_0 p g i b d f (Z.wrap (o+1)))) aw) (ak (az,ax,())))
abbrev o41_0(p:BA)(g:Nat)(i:Dat)(b:Nat)(d:Dat)(o:Int):Option (Bool × (Int) × (Unit)):=l41_0 p g i b d (p.size+o.toNat+g+b+8) o
def e41_0(p:BA)(g:Nat)(i:Dat)(b:Nat)(d:Dat)(r:Bool × (Int) × (Unit))(K:XR):Prop:=cnd r.1 (K (XE.ret) [V Z r.2.1] [.cells 25 [.ro [.str,W Z,W Z] g i,.ro [.str,W Z,W Z,W Z] b d]]) (K (XE.exit 0) [.any] [.cells 25 [.ro [.str,W Z,W Z] g i,.ro [.str,W Z,W Z,W Z] b d]])
def g41_0:AX:=fun s k=>match czv 0 22 [1,2,5] 1 [] s with
 | ak ([.str p,.ptr 0 0,V Z o],[.cells 25 [.ro [.str,W Z,W Z] g i,.ro [.str,W Z,W Z,W Z] b d]])=>Ay [(o41_0 p g i b d o).isSome] (e41_0 p g i b d ((o41_0 p g i b d o).getD ax) fun e vs bs=>AL 0 k e (Aq 0 22 [4] vs 1 bs))
 | _=>False
theorem z41_0:LOk Tryz.prog g41_0 (.block 0 (Ad (Tryz.f41.body.getD .skip) 0)):=by
 refine lb (ι:=BA × Int × Nat × Dat × Nat × Dat) (fuel:=8) (na:=0) (nt:=22) (nx:=1) (Lh:=[1,2,5]) (Le:=[4]) (gl:=[]) tn A6 As rfl (fun f (p,o,g,i,b,d) K=>GG ax (e41_0 p g i b d) K (l41_0 p g i b d f o)) (fun (p,o,g,i,b,d)=>[.str p,.ptr 0 0,V Z o]) (fun (p,o,g,i,b,d)=>[.cells 25 [.ro [.str,W Z,W Z] g i,.ro [.str,W Z,W Z,W Z] b d]]) (fun (_,_,_,_,_,_) K=>Au) ?_ ?_
 .rintro f ⟨p,o,g,i,b,d⟩ K hG
  refine ro (fun R=>(cnd (aq (o<(b:Int)))
 (cnd (aq (0<=o/\o<↑b))
 (cnd (aq ((d.ss o.toNat 0)=p))
 (R (XE.ret) [V Z o] [.cells 25 [.ro [.str,W Z,W Z] g i,.ro [.str,W Z,W Z,W Z] b d]])
 (R (XE.normal) [.str p,.ptr 0 0,V Z (Z.wrap (o+1))] [.cells 25 [.ro [.str,W Z,W Z] g i,.ro [.str,W Z,W Z,W Z] b d]]))
  False)
 (R (XE.exit 0) [.any] [.cells 25 [.ro [.str,W Z,W Z] g i,.ro [.str,W Z,W Z,W Z] b d]]))) (fun R=>by kernel_rfl) ?_
  exact ch hG (fun h0=>cg h0 fun h1=>ch h1 (fun h2=>h2.2) (fun h2=>⟨(_,_,_,_,_,_),rfl,rfl,h2⟩)) (fun h0=>h0.2)
 .intro s k h
  unfold g41_0 at h
  split at h <;> try exact h.elim
  rename_i e1
  rw [Ac] at h
  exact ⟨_,e1,_,(_,_,_,_,_,_),rfl,rfl,h.1 _ (List.mem_singleton.2 rfl),h.2⟩
def m41(j:Nat)(l:Dat)(m:Nat)(n:Dat)(t:BA):Int :=
 (cond ((o41_0 t j l m n 0).getD ax).1 ((o41_0 t j l m n 0).getD ax).2.1 (-1))
def n41(j:Nat)(l:Dat)(m:Nat)(n:Dat)(t:BA):Bool :=
 (((o41_0 t j l m n 0).isSome)&&aj)
def q41(r:Int):SV × List Blk × List Blk:=(V Z r,[],[])
def g41:GF:=fun vs bs=>match vs,bs with
 | [.agg [.ro [.str,W Z,W Z] j l,.ro [.str,W Z,W Z,W Z] m n],.str t],[]=>ak (rs 0 (q41 (m41 j l m n t)) [n41 j l m n t])
 | _,_=>aw
def c41:Ctr:=AA [.a [.ro [.str,W Z,W Z],.ro [.str,W Z,W Z,W Z]],.k] g41
theorem k41:Ag Tryz.prog c41 41:=cx tn A6 8 (fn:=Tryz.f41) (c:=(Tryz.f41.body.getD .skip)) (grs:=[]) (rh:=.k) Tryz.func41 rfl (by kernel_rfl) (AD rfl (lc z41_0 ln)) fun vs bs q h hn=>by
 unfold g41 at h
 split at h <;> cases h
 rename_i j l m n t
 have hn:=n1 hn
 exact ⟨_,rfl,ca (fun R=>(cnd ((o41_0 t j l m n 0).isSome)
 (cnd ((o41_0 t j l m n 0).getD ax).1
 (R (V Z ((o41_0 t j l m n 0).getD ax).2.1) [] [])
 (R (V Z (-1)) [] []))
 False)) (fun R=>by kernel_rfl) (cn (al hn) (co (fun h0=>lf (cT h0 rfl) rfl) (fun h0=>lf (cF h0 rfl) rfl)))⟩
/-! ### cmp.Or[int] -/
def l87_0(i:Int)(b:Nat)(a:Dat)(j:Int):Nat->Int->Option (Bool × (Int) × (Unit))
 | 0,_=>aw
 | f+1,g=>(cond (aq (g<j)) (cond (aq (0<=g/\g<↑b)) (cond (cond (aq ((a.ii g.toNat 0)=i)) az aj) (ak (aj,(a.ii g.toNat 0),ax)) (l87_0 i b a j f (Z.wrap (g+1)))) aw) (ak (az,ax,())))
abbrev o87_0(i:Int)(b:Nat)(a:Dat)(j g:Int):Option (Bool × (Int) × (Unit)):=l87_0 i b a j (i.toNat+b+j.toNat+g.toNat+8) g
def e87_0(i:Int)(b:Nat)(a:Dat)(j:Int)(r:Bool × (Int) × (Unit))(K:XR):Prop:=cnd r.1 (K (XE.ret) [V Z r.2.1,V Z i] []) (K (XE.exit 0) [.any,V Z i] [])
def g87_0:AX:=fun s k=>match czv 0 18 [3,6,7,8] 0 [] s with
 | ak ([V Z i,.ro [W Z] b a,V Z j,V Z g],[])=>Ay [(o87_0 i b a j g).isSome] (e87_0 i b a j ((o87_0 i b a j g).getD ax) fun e vs bs=>AL 0 k e (Aq 0 18 [2,3] vs 0 bs))
 | _=>False
theorem z87_0:LOk Tryz.prog g87_0 (.block 0 (Ad (Tryz.f87.body.getD .skip) 0)):=by
 refine lb (ι:=Int × Nat × Dat × Int × Int) (fuel:=8) (na:=0) (nt:=18) (nx:=0) (Lh:=[3,6,7,8]) (Le:=[2,3]) (gl:=[]) tn A6 As rfl (fun f (i,b,a,j,g) K=>GG ax (e87_0 i b a j) K (l87_0 i b a j f g)) (fun (i,b,a,j,g)=>[V Z i,.ro [W Z] b a,V Z j,V Z g]) (fun (i,b,a,j,g)=>[]) (fun (_,_,_,_,_) K=>Au) ?_ ?_
 .rintro f ⟨i,b,a,j,g⟩ K hG
  refine ro (fun R=>(cnd (aq (g<j))
 (cnd (aq (0<=g/\g<↑b))
 (cnd (cond (aq ((a.ii g.toNat 0)=i)) az aj)
 (R (XE.ret) [V Z (a.ii g.toNat 0),V Z i] [])
 (R (XE.normal) [V Z i,.ro [W Z] b a,V Z j,V Z (Z.wrap (g+1))] []))
  False)
 (R (XE.exit 0) [.any,V Z i] []))) (fun R=>by kernel_rfl) ?_
  exact ch hG (fun h0=>cg h0 fun h1=>ch h1 (fun h2=>h2.2) (fun h2=>⟨(_,_,_,_,_),rfl,rfl,h2⟩)) (fun h0=>h0.2)
 .intro s k h
  unfold g87_0 at h
  split at h <;> try exact h.elim
  rename_i e1
  rw [Ac] at h
  exact ⟨_,e1,_,(_,_,_,_,_),rfl,rfl,h.1 _ (List.mem_singleton.2 rfl),h.2⟩
def m87(d:Nat)(l:Dat):Int :=
 (cond ((o87_0 0 d l (d:Int) 0).getD ax).1 ((o87_0 0 d l (d:Int) 0).getD ax).2.1 0)
def n87(d:Nat)(l:Dat):Bool :=
 (((o87_0 0 d l (d:Int) 0).isSome)&&aj)
def q87(r:Int):SV × List Blk × List Blk:=(V Z r,[],[])
def g87:GF:=fun vs bs=>match vs,bs with
 | [.ro [W Z] d l],[]=>ak (rs 0 (q87 (m87 d l)) [n87 d l])
 | _,_=>aw
def c87:Ctr:=AA [.ro [W Z]] g87
theorem k87:Ag Tryz.prog c87 87:=cx tn A6 8 (fn:=Tryz.f87) (c:=(Tryz.f87.body.getD .skip)) (grs:=[]) (rh:=.k) Tryz.func87 rfl (by kernel_rfl) (AD rfl (lc z87_0 ln)) fun vs bs q h hn=>by
 unfold g87 at h
 split at h <;> cases h
 rename_i d l
 have hn:=n1 hn
 exact ⟨_,rfl,ca (fun R=>(cnd ((o87_0 0 d l (d:Int) 0).isSome)
 (cnd ((o87_0 0 d l (d:Int) 0).getD ax).1
 (R (V Z ((o87_0 0 d l (d:Int) 0).getD ax).2.1) [] [])
 (R (V Z 0) [] []))
 False)) (fun R=>by kernel_rfl) (cn (al hn) (co (fun h0=>lf (cT h0 rfl) rfl) (fun h0=>lf (cF h0 rfl) rfl)))⟩

/-! ### shotline/kit.find[shotline/api.KitItem] -/
def m74c75(a:Nat)(b da1c0:Dat):Int :=
 (m101c75 a b da1c0)
def n74c75(a:Nat)(b da1c0:Dat):Bool :=
 ((n101c75 a b da1c0)&&aj)
def q74c75(r:Int):SV × List Blk × List Blk:=(V Z r,[],[])
def g74c75:GF:=fun vs bs=>match vs,bs with
 | [.ro [.str,W Z,W Z] a b,.fn 75 [.rp [.str] da1c0 0 0]],[]=>ak (rs 0 (q74c75 (m74c75 a b da1c0)) [n74c75 a b da1c0])
 | _,_=>aw
def c74c75:Ctr:=AA [.ro [.str,W Z,W Z],.f [.rp [.str]]] g74c75
theorem k74c75:Ag Tryz.prog c74c75 74:=cx (tc k75 (tc k101c75 tn)) A6 8 (fn:=Tryz.f74) (c:=(Tryz.f74.body.getD .skip)) (grs:=[]) (rh:=.k) Tryz.func74 rfl (by kernel_rfl) As fun vs bs q h hn=>by
 unfold g74c75 at h
 split at h <;> cases h
 rename_i a b da1c0
 have hn:=n1 hn
 exact ⟨_,rfl,ca (fun R=>(cnd (n101c75 a b da1c0)
 (R (V Z (m101c75 a b da1c0)) [] [])
 False)) (fun R=>by kernel_rfl) (cn (al hn) (lf rfl rfl))⟩
/-! ### shotline/kit.find[shotline/api.KitRule] -/
def m76c77(a:Nat)(b da1c0:Dat):Int :=
 (m102c77 a b da1c0)
def n76c77(a:Nat)(b da1c0:Dat):Bool :=
 ((n102c77 a b da1c0)&&aj)
def q76c77(r:Int):SV × List Blk × List Blk:=(V Z r,[],[])
def g76c77:GF:=fun vs bs=>match vs,bs with
 | [.ro [.str,W Z,W Z,W Z] a b,.fn 77 [.rp [.str] da1c0 0 0]],[]=>ak (rs 0 (q76c77 (m76c77 a b da1c0)) [n76c77 a b da1c0])
 | _,_=>aw
def c76c77:Ctr:=AA [.ro [.str,W Z,W Z,W Z],.f [.rp [.str]]] g76c77
theorem k76c77:Ag Tryz.prog c76c77 76:=cx (tc k77 (tc k102c77 tn)) A6 8 (fn:=Tryz.f76) (c:=(Tryz.f76.body.getD .skip)) (grs:=[]) (rh:=.k) Tryz.func76 rfl (by kernel_rfl) As fun vs bs q h hn=>by
 unfold g76c77 at h
 split at h <;> cases h
 rename_i a b da1c0
 have hn:=n1 hn
 exact ⟨_,rfl,ca (fun R=>(cnd (n102c77 a b da1c0)
 (R (V Z (m102c77 a b da1c0)) [] [])
 False)) (fun R=>by kernel_rfl) (cn (al hn) (lf rfl rfl))⟩
/-! ### shotline/shotlineref07.CheckSetup -/
def l12_0(g:Nat)(d:Dat)(i:Nat)(b:Dat):Nat->Int->Option (Bool × (Int) × (Unit))
 | 0,_=>aw
 | f+1,p=>(cond (aq (p<(g:Int))) (cond (aq (0<=p/\p<↑g)) (cond (n37 (d.ss p.toNat 0)) (cond (cond (m37 (d.ss p.toNat 0)) az aj) (ak (aj,4,ax)) (cond (n38 g d i b (d.ss p.toNat 0)) (cond (aq ((m38 g d i b (d.ss p.toNat 0))<p)) (ak (aj,5,ax)) (cond (cond (m39 (d.ii p.toNat 1)) az aj) (ak (aj,15,ax)) (cond (cond (m40 (d.ii p.toNat 2)) az aj) (ak (aj,2,ax)) (l12_0 g d i b f (Z.wrap (p+1)))))) aw)) aw) aw) (ak (az,ax,())))
abbrev o12_0(g:Nat)(d:Dat)(i:Nat)(b:Dat)(p:Int):Option (Bool × (Int) × (Unit)):=l12_0 g d i b (p.toNat+g+i+8) p
def e12_0(g:Nat)(d:Dat)(i:Nat)(b:Dat)(r:Bool × (Int) × (Unit))(K:XR):Prop:=cnd r.1 (K (XE.ret) [.ptr 0 0,V Z r.2.1] [.cells 25 [.ro [.str,W Z,W Z] g d,.ro [.str,W Z,W Z,W Z] i b]]) (K (XE.exit 0) [.ptr 0 0,.any] [.cells 25 [.ro [.str,W Z,W Z] g d,.ro [.str,W Z,W Z,W Z] i b]])
def g12_0:AX:=fun s k=>match czv 0 89 [1,3] 1 [] s with
 | ak ([.ptr 0 0,V Z p],[.cells 25 [.ro [.str,W Z,W Z] g d,.ro [.str,W Z,W Z,W Z] i b]])=>Ay [(o12_0 g d i b p).isSome] (e12_0 g d i b ((o12_0 g d i b p).getD ax) fun e vs bs=>AL 0 k e (Aq 0 89 [1,2] vs 1 bs))
 | _=>False
theorem z12_0:LOk Tryz.prog g12_0 (.block 0 (Ad (Tryz.f12.body.getD .skip) 0)):=by
 refine lb (ι:=Int × Nat × Dat × Nat × Dat) (fuel:=8) (na:=0) (nt:=89) (nx:=1) (Lh:=[1,3]) (Le:=[1,2]) (gl:=[]) (tc k38 (tc k40 (tc k42 (tc k37 (tc k39 (tc k41 tn)))))) A6 As rfl (fun f (p,g,d,i,b) K=>GG ax (e12_0 g d i b) K (l12_0 g d i b f p)) (fun (p,g,d,i,b)=>[.ptr 0 0,V Z p]) (fun (p,g,d,i,b)=>[.cells 25 [.ro [.str,W Z,W Z] g d,.ro [.str,W Z,W Z,W Z] i b]]) (fun (_,_,_,_,_) K=>Au) ?_ ?_
 .rintro f ⟨p,g,d,i,b⟩ K hG
  refine ro (fun R=>(cnd (aq (p<(g:Int)))
 (cnd (aq (0<=p/\p<↑g))
 (cnd (n37 (d.ss p.toNat 0))
 (cnd (cond (m37 (d.ss p.toNat 0)) az aj)
 (R (XE.ret) [.ptr 0 0,V Z 4] [.cells 25 [.ro [.str,W Z,W Z] g d,.ro [.str,W Z,W Z,W Z] i b]])
 (cnd (n38 g d i b (d.ss p.toNat 0))
 (cnd (aq ((m38 g d i b (d.ss p.toNat 0))<p))
 (R (XE.ret) [.ptr 0 0,V Z 5] [.cells 25 [.ro [.str,W Z,W Z] g d,.ro [.str,W Z,W Z,W Z] i b]])
 (cnd (cond (m39 (d.ii p.toNat 1)) az aj)
 (R (XE.ret) [.ptr 0 0,V Z 15] [.cells 25 [.ro [.str,W Z,W Z] g d,.ro [.str,W Z,W Z,W Z] i b]])
 (cnd (cond (m40 (d.ii p.toNat 2)) az aj)
 (R (XE.ret) [.ptr 0 0,V Z 2] [.cells 25 [.ro [.str,W Z,W Z] g d,.ro [.str,W Z,W Z,W Z] i b]])
 (R (XE.normal) [.ptr 0 0,V Z (Z.wrap (p+1))] [.cells 25 [.ro [.str,W Z,W Z] g d,.ro [.str,W Z,W Z,W Z] i b]]))))
   False))
  False)
  False)
 (R (XE.exit 0) [.ptr 0 0,.any] [.cells 25 [.ro [.str,W Z,W Z] g d,.ro [.str,W Z,W Z,W Z] i b]]))) (fun R=>by kernel_rfl) ?_
  exact ch hG (fun h0=>cg h0 fun h1=>cg h1 fun h2=>ch h2 (fun h3=>h3.2) (fun h3=>cg h3 fun h4=>ch h4 (fun h5=>h5.2) (fun h5=>ch h5 (fun h6=>h6.2) (fun h6=>ch h6 (fun h7=>h7.2) (fun h7=>⟨(_,_,_,_,_),rfl,rfl,h7⟩))))) (fun h0=>h0.2)
 .intro s k h
  unfold g12_0 at h
  split at h <;> try exact h.elim
  rename_i e1
  rw [Ac] at h
  exact ⟨_,e1,_,(_,_,_,_,_),rfl,rfl,h.1 _ (List.mem_singleton.2 rfl),h.2⟩
def l12_2(g:Nat)(d:Dat)(i:Nat)(b:Dat):Nat->Int->Option (Bool × (Int) × (Unit))
 | 0,_=>aw
 | f+1,o=>(cond (aq (o<(i:Int))) (cond (aq (0<=o/\o<↑i)) (cond (n37 (b.ss o.toNat 0)) (cond (cond (m37 (b.ss o.toNat 0)) az aj) (ak (aj,4,ax)) (cond (n41 g d i b (b.ss o.toNat 0)) (cond (aq ((m41 g d i b (b.ss o.toNat 0))<o)) (ak (aj,5,ax)) (cond (cond (m39 (b.ii o.toNat 1)) az aj) (ak (aj,15,ax)) (cond (bif (cond (m42 (b.ii o.toNat 2) 0 10000) az aj) then aj else (cond (m42 (b.ii o.toNat 3) 0 1000) az aj)) (ak (aj,2,ax)) (cond (bif (aq ((b.ii o.toNat 2)=0)) then (aq ((b.ii o.toNat 3)=0)) else az) (ak (aj,11,ax)) (l12_2 g d i b f (Z.wrap (o+1))))))) aw)) aw) aw) (ak (az,ax,())))
abbrev o12_2(g:Nat)(d:Dat)(i:Nat)(b:Dat)(o:Int):Option (Bool × (Int) × (Unit)):=l12_2 g d i b (o.toNat+g+i+8) o
def e12_2(g:Nat)(d:Dat)(i:Nat)(b:Dat)(r:Bool × (Int) × (Unit))(K:XR):Prop:=cnd r.1 (K (XE.ret) [V Z r.2.1] [.cells 25 [.ro [.str,W Z,W Z] g d,.ro [.str,W Z,W Z,W Z] i b]]) (K (XE.exit 2) [.any] [.cells 25 [.ro [.str,W Z,W Z] g d,.ro [.str,W Z,W Z,W Z] i b]])
def g12_2:AX:=fun s k=>match czv 0 89 [1,5] 1 [] s with
 | ak ([.ptr 0 0,V Z o],[.cells 25 [.ro [.str,W Z,W Z] g d,.ro [.str,W Z,W Z,W Z] i b]])=>Ay [(o12_2 g d i b o).isSome] (e12_2 g d i b ((o12_2 g d i b o).getD ax) fun e vs bs=>AL 2 k e (Aq 0 89 [2] vs 1 bs))
 | _=>False
theorem z12_2:LOk Tryz.prog g12_2 (.block 2 (Ad (Tryz.f12.body.getD .skip) 2)):=by
 refine lb (ι:=Int × Nat × Dat × Nat × Dat) (fuel:=8) (na:=0) (nt:=89) (nx:=1) (Lh:=[1,5]) (Le:=[2]) (gl:=[]) (tc k38 (tc k40 (tc k42 (tc k37 (tc k39 (tc k41 tn)))))) A6 (AD rfl (lc z12_0 ln)) rfl (fun f (o,g,d,i,b) K=>GG ax (e12_2 g d i b) K (l12_2 g d i b f o)) (fun (o,g,d,i,b)=>[.ptr 0 0,V Z o]) (fun (o,g,d,i,b)=>[.cells 25 [.ro [.str,W Z,W Z] g d,.ro [.str,W Z,W Z,W Z] i b]]) (fun (_,_,_,_,_) K=>Au) ?_ ?_
 .rintro f ⟨o,g,d,i,b⟩ K hG
  refine ro (fun R=>(cnd (aq (o<(i:Int)))
 (cnd (aq (0<=o/\o<↑i))
 (cnd (n37 (b.ss o.toNat 0))
 (cnd (cond (m37 (b.ss o.toNat 0)) az aj)
 (R (XE.ret) [V Z 4] [.cells 25 [.ro [.str,W Z,W Z] g d,.ro [.str,W Z,W Z,W Z] i b]])
 (cnd (n41 g d i b (b.ss o.toNat 0))
 (cnd (aq ((m41 g d i b (b.ss o.toNat 0))<o))
 (R (XE.ret) [V Z 5] [.cells 25 [.ro [.str,W Z,W Z] g d,.ro [.str,W Z,W Z,W Z] i b]])
 (cnd (cond (m39 (b.ii o.toNat 1)) az aj)
 (R (XE.ret) [V Z 15] [.cells 25 [.ro [.str,W Z,W Z] g d,.ro [.str,W Z,W Z,W Z] i b]])
 (cnd (bif (cond (m42 (b.ii o.toNat 2) 0 10000) az aj) then aj else (cond (m42 (b.ii o.toNat 3) 0 1000) az aj))
 (R (XE.ret) [V Z 2] [.cells 25 [.ro [.str,W Z,W Z] g d,.ro [.str,W Z,W Z,W Z] i b]])
 (cnd (bif (aq ((b.ii o.toNat 2)=0)) then (aq ((b.ii o.toNat 3)=0)) else az)
 (R (XE.ret) [V Z 11] [.cells 25 [.ro [.str,W Z,W Z] g d,.ro [.str,W Z,W Z,W Z] i b]])
 (R (XE.normal) [.ptr 0 0,V Z (Z.wrap (o+1))] [.cells 25 [.ro [.str,W Z,W Z] g d,.ro [.str,W Z,W Z,W Z] i b]])))))
   False))
  False)
  False)
 (R (XE.exit 2) [.any] [.cells 25 [.ro [.str,W Z,W Z] g d,.ro [.str,W Z,W Z,W Z] i b]]))) (fun R=>by kernel_rfl) ?_
  exact ch hG (fun h0=>cg h0 fun h1=>cg h1 fun h2=>ch h2 (fun h3=>h3.2) (fun h3=>cg h3 fun h4=>ch h4 (fun h5=>h5.2) (fun h5=>ch h5 (fun h6=>h6.2) (fun h6=>ch h6 (fun h7=>h7.2) (fun h7=>ch h7 (fun h8=>h8.2) (fun h8=>⟨(_,_,_,_,_),rfl,rfl,h8⟩)))))) (fun h0=>h0.2)
 .intro s k h
  unfold g12_2 at h
  split at h <;> try exact h.elim
  rename_i e1
  rw [Ac] at h
  exact ⟨_,e1,_,(_,_,_,_,_),rfl,rfl,h.1 _ (List.mem_singleton.2 rfl),h.2⟩
def m12(j:Nat)(m:Dat)(l:Nat)(n:Dat):Int :=
 (cond (aq ((30:Int)<(j:Int))) 8 (cond ((o12_0 j m l n 0).getD ax).1 ((o12_0 j m l n 0).getD ax).2.1 (cond (aq ((20:Int)<(l:Int))) 8 (cond ((o12_2 j m l n 0).getD ax).1 ((o12_2 j m l n 0).getD ax).2.1 0))))
def n12(j:Nat)(m:Dat)(l:Nat)(n:Dat):Bool :=
 (cond (aq ((30:Int)<(j:Int))) aj (((o12_0 j m l n 0).isSome)&&(cond ((o12_0 j m l n 0).getD ax).1 aj (cond (aq ((20:Int)<(l:Int))) aj (((o12_2 j m l n 0).isSome)&&aj)))))
def q12(r:Int):SV × List Blk × List Blk:=(V Z r,[],[])
def g12:GF:=fun vs bs=>match vs,bs with
 | [.agg [.ro [.str,W Z,W Z] j m,.ro [.str,W Z,W Z,W Z] l n]],[]=>ak (rs 0 (q12 (m12 j m l n)) [n12 j m l n])
 | _,_=>aw
def c12:Ctr:=AA [.a [.ro [.str,W Z,W Z],.ro [.str,W Z,W Z,W Z]]] g12
theorem k12:Ag Tryz.prog c12 12:=cx (tc k38 (tc k40 (tc k42 (tc k37 (tc k39 (tc k41 tn)))))) A6 8 (fn:=Tryz.f12) (c:=(Tryz.f12.body.getD .skip)) (grs:=[]) (rh:=.k) Tryz.func12 rfl (by kernel_rfl) (AD rfl (lc z12_0 (lc z12_2 ln))) fun vs bs q h hn=>by
 unfold g12 at h
 split at h <;> cases h
 rename_i j m l n
 have hn:=n1 hn
 exact ⟨_,rfl,ca (fun R=>(cnd (aq ((30:Int)<(j:Int)))
 (R (V Z 8) [] [])
 (cnd ((o12_0 j m l n 0).isSome)
 (cnd ((o12_0 j m l n 0).getD ax).1
 (R (V Z ((o12_0 j m l n 0).getD ax).2.1) [] [])
 (cnd (aq ((20:Int)<(l:Int)))
 (R (V Z 8) [] [])
 (cnd ((o12_2 j m l n 0).isSome)
 (cnd ((o12_2 j m l n 0).getD ax).1
 (R (V Z ((o12_2 j m l n 0).getD ax).2.1) [] [])
 (R (V Z 0) [] []))
   False)))
  False))) (fun R=>by kernel_rfl) (co (fun h0=>lf (cT h0 rfl) rfl) (fun h0=>cn (al (cf h0 hn)) (co (fun h1=>lf (cF h0 (cT h1 rfl)) rfl) (fun h1=>co (fun h2=>lf (cF h0 (cF h1 (cT h2 rfl))) rfl) (fun h2=>cn (al (cf h2 (cf h1 (ar (cf h0 hn))))) (co (fun h3=>lf (cF h0 (cF h1 (cF h2 (cT h3 rfl)))) rfl) (fun h3=>lf (cF h0 (cF h1 (cF h2 (cF h3 rfl)))) rfl)))))))⟩
/-! ### shotline/kit.item -/
def m46(b:Nat)(d:Dat)(e:Nat)(g:Dat)(i:BA):Int :=
 (m74c75 b d (C3 [SV.str i]))
def n46(b:Nat)(d:Dat)(e:Nat)(g:Dat)(i:BA):Bool :=
 ((n74c75 b d (C3 [SV.str i]))&&aj)
def q46(r:Int):SV × List Blk × List Blk:=(V Z r,[],[])
def g46:GF:=fun vs bs=>match vs,bs with
 | [.agg [.ro [.str,W Z,W Z] b d,.ro [.str,W Z,W Z,W Z] e g],.str i],[]=>ak (rs 0 (q46 (m46 b d e g i)) [n46 b d e g i])
 | _,_=>aw
def c46:Ctr:=AA [.a [.ro [.str,W Z,W Z],.ro [.str,W Z,W Z,W Z]],.k] g46
theorem k46:Ag Tryz.prog c46 46:=cx (tc k74c75 (tc k75 tn)) A6 8 (fn:=Tryz.f46) (c:=(Tryz.f46.body.getD .skip)) (grs:=[]) (rh:=.k) Tryz.func46 rfl (by kernel_rfl) As fun vs bs q h hn=>by
 unfold g46 at h
 split at h <;> cases h
 rename_i b d e g i
 have hn:=n1 hn
 exact ⟨_,rfl,ca (fun R=>(cnd (n74c75 b d (C3 [SV.str i]))
 (R (V Z (m74c75 b d (C3 [SV.str i]))) [] [])
 False)) (fun R=>by kernel_rfl) (cn (al hn) (lf rfl rfl))⟩
/-! ### shotline/kit.rule -/
def m49(e:Nat)(g:Dat)(b:Nat)(d:Dat)(i:BA):Int :=
 (m76c77 b d (C3 [SV.str i]))
def n49(e:Nat)(g:Dat)(b:Nat)(d:Dat)(i:BA):Bool :=
 ((n76c77 b d (C3 [SV.str i]))&&aj)
def q49(r:Int):SV × List Blk × List Blk:=(V Z r,[],[])
def g49:GF:=fun vs bs=>match vs,bs with
 | [.agg [.ro [.str,W Z,W Z] e g,.ro [.str,W Z,W Z,W Z] b d],.str i],[]=>ak (rs 0 (q49 (m49 e g b d i)) [n49 e g b d i])
 | _,_=>aw
def c49:Ctr:=AA [.a [.ro [.str,W Z,W Z],.ro [.str,W Z,W Z,W Z]],.k] g49
theorem k49:Ag Tryz.prog c49 49:=cx (tc k76c77 (tc k77 tn)) A6 8 (fn:=Tryz.f49) (c:=(Tryz.f49.body.getD .skip)) (grs:=[]) (rh:=.k) Tryz.func49 rfl (by kernel_rfl) As fun vs bs q h hn=>by
 unfold g49 at h
 split at h <;> cases h
 rename_i e g b d i
 have hn:=n1 hn
 exact ⟨_,rfl,ca (fun R=>(cnd (n76c77 b d (C3 [SV.str i]))
 (R (V Z (m76c77 b d (C3 [SV.str i]))) [] [])
 False)) (fun R=>by kernel_rfl) (cn (al hn) (lf rfl rfl))⟩
/-! ### (*shotline/kit.shop).isBad -/
def m60(d:Dat)(a b:Int):Bool :=
 (bif (aq (0<=b)) then ((((d.sub 0 2).sub a.toNat 0).sub 0 8).bb b.toNat 0) else az)
def n60(d:Dat)(a b:Int):Bool :=
 ((aq ((0:Int)<=a/\a<((d.sn (0:Nat) ((0:Nat)+(1:Nat)+(1:Nat))):Int)))&&aj)
def q60(r:Bool):SV × List Blk × List Blk:=(.bool r,[],[])
def g60:GF:=fun vs bs=>match vs,bs with
 | [.rp [.sl [.str,W Z,W Z],.sl [.str,W Z,W Z,W Z],.sl [.pt [.str,W Z,W Z,.mi [W Z,W Z,.bool],.mb,.mb,W Z,.bool,.m1]],W Z] d 0 0,.agg [V Z a,V Z b]],[]=>ak (rs 0 (q60 (m60 d a b)) [n60 d a b])
 | _,_=>aw
def c60:Ctr:=AA [.rp [.sl [.str,W Z,W Z],.sl [.str,W Z,W Z,W Z],.sl [.pt [.str,W Z,W Z,.mi [W Z,W Z,.bool],.mb,.mb,W Z,.bool,.m1]],W Z],.k] g60
theorem k60:Ag Tryz.prog c60 60:=cx tn A6 8 (fn:=Tryz.f60) (c:=(Tryz.f60.body.getD .skip)) (grs:=[]) (rh:=.k) Tryz.func60 rfl (by kernel_rfl) As fun vs bs q h hn=>by
 unfold g60 at h
 split at h <;> cases h
 rename_i d a b
 have hn:=n1 hn
 exact ⟨_,rfl,ca (fun R=>(cnd (aq ((0:Int)<=a/\a<((d.sn (0:Nat) ((0:Nat)+(1:Nat)+(1:Nat))):Int)))
 (R (.bool (bif (aq (0<=b)) then ((((d.sub 0 2).sub a.toNat 0).sub 0 8).bb b.toNat 0) else az)) [] [])
 False)) (fun R=>by kernel_rfl) (cn (al hn) (lf rfl rfl))⟩
/-! ### (*shotline/kit.shop).told -/
def m89(d:Dat)(a b:Int):BA × Int :=
 ((((d.sub 0 2).sub a.toNat 0).ss 0 0),b)
def n89(d:Dat)(a b:Int):Bool :=
 ((aq ((0:Int)<=a/\a<((d.sn (0:Nat) ((0:Nat)+(1:Nat)+(1:Nat))):Int)))&&aj)
def q89(r:BA × Int):SV × List Blk × List Blk:=(.agg [.str r.1,V Z r.2],[],[])
def g89:GF:=fun vs bs=>match vs,bs with
 | [.rp [.sl [.str,W Z,W Z],.sl [.str,W Z,W Z,W Z],.sl [.pt [.str,W Z,W Z,.mi [W Z,W Z,.bool],.mb,.mb,W Z,.bool,.m1]],W Z] d 0 0,.agg [V Z a,V Z b]],[]=>ak (rs 0 (q89 (m89 d a b)) [n89 d a b])
 | _,_=>aw
def c89:Ctr:=AA [.rp [.sl [.str,W Z,W Z],.sl [.str,W Z,W Z,W Z],.sl [.pt [.str,W Z,W Z,.mi [W Z,W Z,.bool],.mb,.mb,W Z,.bool,.m1]],W Z],.k] g89
theorem k89:Ag Tryz.prog c89 89:=cx tn A6 8 (fn:=Tryz.f89) (c:=(Tryz.f89.body.getD .skip)) (grs:=[]) (rh:=.k) Tryz.func89 rfl (by kernel_rfl) As fun vs bs q h hn=>by
 unfold g89 at h
 split at h <;> cases h
 rename_i d a b
 have hn:=n1 hn
 exact ⟨_,rfl,ca (fun R=>(cnd (aq ((0:Int)<=a/\a<((d.sn (0:Nat) ((0:Nat)+(1:Nat)+(1:Nat))):Int)))
 (R (.agg [.str (((d.sub 0 2).sub a.toNat 0).ss 0 0),V Z b]) [] [])
 False)) (fun R=>by kernel_rfl) (cn (al hn) (lf rfl rfl))⟩
/-! ### shotline/kit.sorted$1 -/
def m86(a b d e:Int):Int :=
 (m87 2 (Aw [V Z (m65 a d),V Z (m65 b e)] 1))
def n86(a b d e:Int):Bool :=
 ((n87 2 (Aw [V Z (m65 a d),V Z (m65 b e)] 1))&&aj)
def q86(r:Int):SV × List Blk × List Blk:=(V Z r,[],[])
def g86:GF:=fun vs bs=>match vs,bs with
 | [.agg [V Z a,V Z b],.agg [V Z d,V Z e]],[]=>ak (rs 0 (q86 (m86 a b d e)) [n86 a b d e])
 | _,_=>aw
def c86:Ctr:=AA [.k,.k] g86
theorem k86:Ag Tryz.prog c86 86:=cx (tc k65 (tc k87 tn)) A6 8 (fn:=Tryz.f86) (c:=(Tryz.f86.body.getD .skip)) (grs:=[]) (rh:=.k) Tryz.func86 rfl (by kernel_rfl) As fun vs bs q h hn=>by
 unfold g86 at h
 split at h <;> cases h
 rename_i a b d e
 have hn:=n1 hn
 exact ⟨_,rfl,ca (fun R=>(cnd (n87 2 (Aw [V Z (m65 a d),V Z (m65 b e)] 1))
 (R (V Z (m87 2 (Aw [V Z (m65 a d),V Z (m65 b e)] 1))) [] [])
 False)) (fun R=>by kernel_rfl) (cn (al hn) (lf rfl rfl))⟩

/-! ### (*shotline/kit.shop).find -/
def m61(a:Dat)(b:BA):Bool × Dat :=
 (cond (aq (0<=(m46 (a.sn 0 0) (a.sub 0 0) (a.sn 0 1) (a.sub 0 1) b))) (aj,((a.sub 0 2).sub ((m46 (a.sn 0 0) (a.sub 0 0) (a.sn 0 1) (a.sub 0 1) b).toNat) 0)) (az,A3))
def n61(a:Dat)(b:BA):Bool :=
 ((n46 (a.sn 0 0) (a.sub 0 0) (a.sn 0 1) (a.sub 0 1) b)&&(cond (aq (0<=(m46 (a.sn 0 0) (a.sub 0 0) (a.sn 0 1) (a.sub 0 1) b))) ((aq (0<=m46 (a.sn 0 0) (a.sub 0 0) (a.sn 0 (0+1)) (a.sub 0 (0+1)) b/\m46 (a.sn 0 0) (a.sub 0 0) (a.sn 0 (0+1)) (a.sub 0 (0+1)) b<((a.sn 0 (0+1+1)):Int)))&&aj) aj))
def q61(r:Bool × Dat):SV × List Blk × List Blk:=(.rq r.1 [.str,W Z,W Z,.mi [W Z,W Z,.bool],.mb,.mb,W Z,.bool,.m1] r.2 0 0,[],[])
def g61:GF:=fun vs bs=>match vs,bs with
 | [.rp [.sl [.str,W Z,W Z],.sl [.str,W Z,W Z,W Z],.sl [.pt [.str,W Z,W Z,.mi [W Z,W Z,.bool],.mb,.mb,W Z,.bool,.m1]],W Z] a 0 0,.str b],[]=>ak (rs 0 (q61 (m61 a b)) [n61 a b])
 | _,_=>aw
def c61:Ctr:=AA [.rp [.sl [.str,W Z,W Z],.sl [.str,W Z,W Z,W Z],.sl [.pt [.str,W Z,W Z,.mi [W Z,W Z,.bool],.mb,.mb,W Z,.bool,.m1]],W Z],.k] g61
theorem k61:Ag Tryz.prog c61 61:=cx (tc k46 tn) A6 8 (fn:=Tryz.f61) (c:=(Tryz.f61.body.getD .skip)) (grs:=[]) (rh:=.rq [.str,W Z,W Z,.mi [W Z,W Z,.bool],.mb,.mb,W Z,.bool,.m1]) Tryz.func61 rfl (by kernel_rfl) As fun vs bs q h hn=>by
 unfold g61 at h
 split at h <;> cases h
 rename_i a b
 have hn:=n1 hn
 exact ⟨_,rfl,ca (fun R => 
 let a0:=(m46 (a.sn 0 0) (a.sub 0 0) (a.sn 0 1) (a.sub 0 1) b)
 (cnd (n46 (a.sn 0 0) (a.sub 0 0) (a.sn 0 1) (a.sub 0 1) b)
 (cnd (aq (0<=a0))
 (cnd (aq (0<=m46 (a.sn 0 0) (a.sub 0 0) (a.sn 0 (0+1)) (a.sub 0 (0+1)) b/\m46 (a.sn 0 0) (a.sub 0 0) (a.sn 0 (0+1)) (a.sub 0 (0+1)) b<((a.sn 0 (0+1+1)):Int)))
 (R (.rq aj [.str,W Z,W Z,.mi [W Z,W Z,.bool],.mb,.mb,W Z,.bool,.m1] ((a.sub 0 2).sub (a0.toNat) 0) 0 0) [] [])
  False)
 (R (.rq az [.str,W Z,W Z,.mi [W Z,W Z,.bool],.mb,.mb,W Z,.bool,.m1] A3 0 0) [] []))
 False)) (fun R=>by kernel_rfl) (cn (al hn) (co (fun h0=>cn (al (ct h0 (ar hn))) (lf (cT h0 rfl) rfl)) (fun h0=>lf (cF h0 rfl) rfl)))⟩
/-! ### (*shotline/kit.shop).find -/
def m61rz(a:Dat)(b:BA):Bool × Nat × Dat :=
 (cond (aq (0<=(m46 (a.sn 0 0) (a.sub 0 0) (a.sn 0 1) (a.sub 0 1) b))) (aj,((a.sub 0 2).sn ((m46 (a.sn 0 0) (a.sub 0 0) (a.sn 0 1) (a.sub 0 1) b).toNat) 0),((a.sub 0 2).sub ((m46 (a.sn 0 0) (a.sub 0 0) (a.sn 0 1) (a.sub 0 1) b).toNat) 0)) (az,0,A3))
def n61rz(a:Dat)(b:BA):Bool :=
 ((n46 (a.sn 0 0) (a.sub 0 0) (a.sn 0 1) (a.sub 0 1) b)&&(cond (aq (0<=(m46 (a.sn 0 0) (a.sub 0 0) (a.sn 0 1) (a.sub 0 1) b))) ((aq (0<=m46 (a.sn 0 0) (a.sub 0 0) (a.sn 0 (0+1)) (a.sub 0 (0+1)) b/\m46 (a.sn 0 0) (a.sub 0 0) (a.sn 0 (0+1)) (a.sub 0 (0+1)) b<((a.sn 0 (0+1+1)):Int)))&&aj) aj))
def q61rz(r:Bool × Nat × Dat):SV × List Blk × List Blk:=(.rz r.1 r.2.1 [.str,W Z,W Z,.mi [W Z,W Z,.bool],.mb,.mb,W Z,.bool,.m1] r.2.2,[],[])
def g61rz:GF:=fun vs bs=>match vs,bs with
 | [.rp [.sl [.str,W Z,W Z],.sl [.str,W Z,W Z,W Z],.sl [.pz [.str,W Z,W Z,.mi [W Z,W Z,.bool],.mb,.mb,W Z,.bool,.m1]],W Z] a 0 0,.str b],[]=>ak (rs 0 (q61rz (m61rz a b)) [n61rz a b])
 | _,_=>aw
def c61rz:Ctr:=AA [.rp [.sl [.str,W Z,W Z],.sl [.str,W Z,W Z,W Z],.sl [.pz [.str,W Z,W Z,.mi [W Z,W Z,.bool],.mb,.mb,W Z,.bool,.m1]],W Z],.k] g61rz
theorem k61rz:Ag Tryz.prog c61rz 61:=cx (tc k46 tn) A6 8 (fn:=Tryz.f61) (c:=(Tryz.f61.body.getD .skip)) (grs:=[]) (rh:=.rz [.str,W Z,W Z,.mi [W Z,W Z,.bool],.mb,.mb,W Z,.bool,.m1]) Tryz.func61 rfl (by kernel_rfl) As fun vs bs q h hn=>by
 unfold g61rz at h
 split at h <;> cases h
 rename_i a b
 have hn:=n1 hn
 exact ⟨_,rfl,ca (fun R => 
 let a0:=(m46 (a.sn 0 0) (a.sub 0 0) (a.sn 0 1) (a.sub 0 1) b)
 (cnd (n46 (a.sn 0 0) (a.sub 0 0) (a.sn 0 1) (a.sub 0 1) b)
 (cnd (aq (0<=a0))
 (cnd (aq (0<=m46 (a.sn 0 0) (a.sub 0 0) (a.sn 0 (0+1)) (a.sub 0 (0+1)) b/\m46 (a.sn 0 0) (a.sub 0 0) (a.sn 0 (0+1)) (a.sub 0 (0+1)) b<((a.sn 0 (0+1+1)):Int)))
 (R (.rz aj ((a.sub 0 2).sn (a0.toNat) 0) [.str,W Z,W Z,.mi [W Z,W Z,.bool],.mb,.mb,W Z,.bool,.m1] ((a.sub 0 2).sub (a0.toNat) 0)) [] [])
  False)
 (R (.rz az 0 [.str,W Z,W Z,.mi [W Z,W Z,.bool],.mb,.mb,W Z,.bool,.m1] A3) [] []))
 False)) (fun R=>by kernel_rfl) (cn (al hn) (co (fun h0=>cn (al (ct h0 (ar hn))) (lf (cT h0 rfl) rfl)) (fun h0=>lf (cF h0 rfl) rfl)))⟩
/-! ### shotline/kit.CheckSetup -/
def l16_0(j:Nat)(n:Dat)(x:Int)(b:Dat)(u:Nat)(d:Dat):Nat->Int->Option (Bool × (Int) × (Unit))
 | 0,_=>aw
 | f+1,w=>(cond (aq (w<x)) (cond (aq (0<=w/\w<↑j)) (cond (n45 (n.ss w.toNat 0)) (cond (cond (m45 (n.ss w.toNat 0)) az aj) (ak (aj,4,ax)) (cond (n46 j b u d (n.ss w.toNat 0)) (cond (aq ((m46 j b u d (n.ss w.toNat 0))<w)) (ak (aj,5,ax)) (cond (cond (m47 (n.ii w.toNat 1)) az aj) (ak (aj,15,ax)) (cond (cond (m48 (n.ii w.toNat 2)) az aj) (ak (aj,2,ax)) (l16_0 j n x b u d f (Z.wrap (w+1)))))) aw)) aw) aw) (ak (az,ax,())))
abbrev o16_0(j:Nat)(n:Dat)(x:Int)(b:Dat)(u:Nat)(d:Dat)(w:Int):Option (Bool × (Int) × (Unit)):=l16_0 j n x b u d (j+x.toNat+w.toNat+u+8) w
def e16_0(j:Nat)(n:Dat)(x:Int)(b:Dat)(u:Nat)(d:Dat)(r:Bool × (Int) × (Unit))(K:XR):Prop:=cnd r.1 (K (XE.ret) [.ptr 0 0,V Z r.2.1] [.cells 25 [.ro [.str,W Z,W Z] j b,.ro [.str,W Z,W Z,W Z] u d]]) (K (XE.exit 0) [.ptr 0 0,.any] [.cells 25 [.ro [.str,W Z,W Z] j b,.ro [.str,W Z,W Z,W Z] u d]])
def g16_0:AX:=fun s k=>match czv 0 92 [1,12,13,14] 1 [] s with
 | ak ([.ptr 0 0,.ro [.str,W Z,W Z] j n,V Z x,V Z w],[.cells 25 [.ro [.str,W Z,W Z] p b,.ro [.str,W Z,W Z,W Z] u d]])=>Ay [decide (j=p),(o16_0 j n x b u d w).isSome] (e16_0 j n x b u d ((o16_0 j n x b u d w).getD ax) fun e vs bs=>AL 0 k e (Aq 0 92 [1,2] vs 1 bs))
 | _=>False
theorem z16_0:LOk Tryz.prog g16_0 (.block 0 (Ad (Tryz.f16.body.getD .skip) 0)):=by
 refine lb (ι:=Nat × Dat × Int × Int × Dat × Nat × Dat) (fuel:=8) (na:=0) (nt:=92) (nx:=1) (Lh:=[1,12,13,14]) (Le:=[1,2]) (gl:=[]) (tc k48 (tc k46 (tc k50 (tc k49 (tc k45 (tc k47 tn)))))) A6 As rfl (fun f (j,n,x,w,b,u,d) K=>GG ax (e16_0 j n x b u d) K (l16_0 j n x b u d f w)) (fun (j,n,x,w,b,u,d)=>[.ptr 0 0,.ro [.str,W Z,W Z] j n,V Z x,V Z w]) (fun (j,n,x,w,b,u,d)=>[.cells 25 [.ro [.str,W Z,W Z] j b,.ro [.str,W Z,W Z,W Z] u d]]) (fun (_,_,_,_,_,_,_) K=>Au) ?_ ?_
 .rintro f ⟨j,n,x,w,b,u,d⟩ K hG
  refine ro (fun R=>(cnd (aq (w<x))
 (cnd (aq (0<=w/\w<↑j))
 (cnd (n45 (n.ss w.toNat 0))
 (cnd (cond (m45 (n.ss w.toNat 0)) az aj)
 (R (XE.ret) [.ptr 0 0,V Z 4] [.cells 25 [.ro [.str,W Z,W Z] j b,.ro [.str,W Z,W Z,W Z] u d]])
 (cnd (n46 j b u d (n.ss w.toNat 0))
 (cnd (aq ((m46 j b u d (n.ss w.toNat 0))<w))
 (R (XE.ret) [.ptr 0 0,V Z 5] [.cells 25 [.ro [.str,W Z,W Z] j b,.ro [.str,W Z,W Z,W Z] u d]])
 (cnd (cond (m47 (n.ii w.toNat 1)) az aj)
 (R (XE.ret) [.ptr 0 0,V Z 15] [.cells 25 [.ro [.str,W Z,W Z] j b,.ro [.str,W Z,W Z,W Z] u d]])
 (cnd (cond (m48 (n.ii w.toNat 2)) az aj)
 (R (XE.ret) [.ptr 0 0,V Z 2] [.cells 25 [.ro [.str,W Z,W Z] j b,.ro [.str,W Z,W Z,W Z] u d]])
 (R (XE.normal) [.ptr 0 0,.ro [.str,W Z,W Z] j n,V Z x,V Z (Z.wrap (w+1))] [.cells 25 [.ro [.str,W Z,W Z] j b,.ro [.str,W Z,W Z,W Z] u d]]))))
   False))
  False)
  False)
 (R (XE.exit 0) [.ptr 0 0,.any] [.cells 25 [.ro [.str,W Z,W Z] j b,.ro [.str,W Z,W Z,W Z] u d]]))) (fun R=>by kernel_rfl) ?_
  exact ch hG (fun h0=>cg h0 fun h1=>cg h1 fun h2=>ch h2 (fun h3=>h3.2) (fun h3=>cg h3 fun h4=>ch h4 (fun h5=>h5.2) (fun h5=>ch h5 (fun h6=>h6.2) (fun h6=>ch h6 (fun h7=>h7.2) (fun h7=>⟨(_,_,_,_,_,_,_),rfl,rfl,h7⟩))))) (fun h0=>h0.2)
 .intro s k h
  unfold g16_0 at h
  split at h <;> try exact h.elim
  rename_i e1
  rw [Ac] at h
  have hq:=h.1
  simp only [List.mem_cons,forall_eq_or_imp,decide_eq_true_eq,List.not_mem_nil,false_imp_iff,implies_true,and_true] at hq
  obtain ⟨rfl,hq⟩:=hq
  exact ⟨_,e1,_,(_,_,_,_,_,_,_),rfl,rfl,hq,h.2⟩
def l16_3(g:Nat)(i:Dat)(y:Int)(p:Nat)(b d:Dat):Nat->Int->Option (Bool × (Int) × (Unit))
 | 0,_=>aw
 | f+1,v=>(cond (aq (v<y)) (cond (aq (0<=v/\v<↑g)) (cond (n45 (i.ss v.toNat 0)) (cond (cond (m45 (i.ss v.toNat 0)) az aj) (ak (aj,4,ax)) (cond (n49 p b g d (i.ss v.toNat 0)) (cond (aq ((m49 p b g d (i.ss v.toNat 0))<v)) (ak (aj,5,ax)) (cond (cond (m47 (i.ii v.toNat 1)) az aj) (ak (aj,15,ax)) (cond (bif (cond (m50 (i.ii v.toNat 2) 0 10000) az aj) then aj else (cond (m50 (i.ii v.toNat 3) 0 1000) az aj)) (ak (aj,2,ax)) (cond (bif (aq ((i.ii v.toNat 2)=0)) then (aq ((i.ii v.toNat 3)=0)) else az) (ak (aj,11,ax)) (l16_3 g i y p b d f (Z.wrap (v+1))))))) aw)) aw) aw) (ak (az,ax,())))
abbrev o16_3(g:Nat)(i:Dat)(y:Int)(p:Nat)(b d:Dat)(v:Int):Option (Bool × (Int) × (Unit)):=l16_3 g i y p b d (g+y.toNat+v.toNat+p+8) v
def e16_3(g:Nat)(i:Dat)(y:Int)(p:Nat)(b d:Dat)(r:Bool × (Int) × (Unit))(K:XR):Prop:=cnd r.1 (K (XE.ret) [V Z r.2.1] [.cells 25 [.ro [.str,W Z,W Z] p b,.ro [.str,W Z,W Z,W Z] g d]]) (K (XE.exit 3) [.any] [.cells 25 [.ro [.str,W Z,W Z] p b,.ro [.str,W Z,W Z,W Z] g d]])
def g16_3:AX:=fun s k=>match czv 0 92 [1,47,48,49] 1 [] s with
 | ak ([.ptr 0 0,.ro [.str,W Z,W Z,W Z] g i,V Z y,V Z v],[.cells 25 [.ro [.str,W Z,W Z] p b,.ro [.str,W Z,W Z,W Z] u d]])=>Ay [decide (g=u),(o16_3 g i y p b d v).isSome] (e16_3 g i y p b d ((o16_3 g i y p b d v).getD ax) fun e vs bs=>AL 3 k e (Aq 0 92 [2] vs 1 bs))
 | _=>False
theorem z16_3:LOk Tryz.prog g16_3 (.block 3 (Ad (Tryz.f16.body.getD .skip) 3)):=by
 refine lb (ι:=Nat × Dat × Int × Int × Nat × Dat × Dat) (fuel:=8) (na:=0) (nt:=92) (nx:=1) (Lh:=[1,47,48,49]) (Le:=[2]) (gl:=[]) (tc k48 (tc k46 (tc k50 (tc k49 (tc k45 (tc k47 tn)))))) A6 (AD rfl (lc z16_0 ln)) rfl (fun f (g,i,y,v,p,b,d) K=>GG ax (e16_3 g i y p b d) K (l16_3 g i y p b d f v)) (fun (g,i,y,v,p,b,d)=>[.ptr 0 0,.ro [.str,W Z,W Z,W Z] g i,V Z y,V Z v]) (fun (g,i,y,v,p,b,d)=>[.cells 25 [.ro [.str,W Z,W Z] p b,.ro [.str,W Z,W Z,W Z] g d]]) (fun (_,_,_,_,_,_,_) K=>Au) ?_ ?_
 .rintro f ⟨g,i,y,v,p,b,d⟩ K hG
  refine ro (fun R=>(cnd (aq (v<y))
 (cnd (aq (0<=v/\v<↑g))
 (cnd (n45 (i.ss v.toNat 0))
 (cnd (cond (m45 (i.ss v.toNat 0)) az aj)
 (R (XE.ret) [V Z 4] [.cells 25 [.ro [.str,W Z,W Z] p b,.ro [.str,W Z,W Z,W Z] g d]])
 (cnd (n49 p b g d (i.ss v.toNat 0))
 (cnd (aq ((m49 p b g d (i.ss v.toNat 0))<v))
 (R (XE.ret) [V Z 5] [.cells 25 [.ro [.str,W Z,W Z] p b,.ro [.str,W Z,W Z,W Z] g d]])
 (cnd (cond (m47 (i.ii v.toNat 1)) az aj)
 (R (XE.ret) [V Z 15] [.cells 25 [.ro [.str,W Z,W Z] p b,.ro [.str,W Z,W Z,W Z] g d]])
 (cnd (bif (cond (m50 (i.ii v.toNat 2) 0 10000) az aj) then aj else (cond (m50 (i.ii v.toNat 3) 0 1000) az aj))
 (R (XE.ret) [V Z 2] [.cells 25 [.ro [.str,W Z,W Z] p b,.ro [.str,W Z,W Z,W Z] g d]])
 (cnd (bif (aq ((i.ii v.toNat 2)=0)) then (aq ((i.ii v.toNat 3)=0)) else az)
 (R (XE.ret) [V Z 11] [.cells 25 [.ro [.str,W Z,W Z] p b,.ro [.str,W Z,W Z,W Z] g d]])
 (R (XE.normal) [.ptr 0 0,.ro [.str,W Z,W Z,W Z] g i,V Z y,V Z (Z.wrap (v+1))] [.cells 25 [.ro [.str,W Z,W Z] p b,.ro [.str,W Z,W Z,W Z] g d]])))))
   False))
  False)
  False)
 (R (XE.exit 3) [.any] [.cells 25 [.ro [.str,W Z,W Z] p b,.ro [.str,W Z,W Z,W Z] g d]]))) (fun R=>by kernel_rfl) ?_
  exact ch hG (fun h0=>cg h0 fun h1=>cg h1 fun h2=>ch h2 (fun h3=>h3.2) (fun h3=>cg h3 fun h4=>ch h4 (fun h5=>h5.2) (fun h5=>ch h5 (fun h6=>h6.2) (fun h6=>ch h6 (fun h7=>h7.2) (fun h7=>ch h7 (fun h8=>h8.2) (fun h8=>⟨(_,_,_,_,_,_,_),rfl,rfl,h8⟩)))))) (fun h0=>h0.2)
 .intro s k h
  unfold g16_3 at h
  split at h <;> try exact h.elim
  rename_i e1
  rw [Ac] at h
  have hq:=h.1
  simp only [List.mem_cons,forall_eq_or_imp,decide_eq_true_eq,List.not_mem_nil,false_imp_iff,implies_true,and_true] at hq
  obtain ⟨rfl,hq⟩:=hq
  exact ⟨_,e1,_,(_,_,_,_,_,_,_),rfl,rfl,hq,h.2⟩
def m16(l:Nat)(o:Dat)(m:Nat)(t:Dat):Int :=
 (cond (aq ((30:Int)<(l:Int))) 8 (cond ((o16_0 l o (l:Int) o m t 0).getD ax).1 ((o16_0 l o (l:Int) o m t 0).getD ax).2.1 (cond (aq ((20:Int)<(m:Int))) 8 (cond ((o16_3 m t (m:Int) l o t 0).getD ax).1 ((o16_3 m t (m:Int) l o t 0).getD ax).2.1 0))))
def n16(l:Nat)(o:Dat)(m:Nat)(t:Dat):Bool :=
 (cond (aq ((30:Int)<(l:Int))) aj (((o16_0 l o (l:Int) o m t 0).isSome)&&(cond ((o16_0 l o (l:Int) o m t 0).getD ax).1 aj (cond (aq ((20:Int)<(m:Int))) aj (((o16_3 m t (m:Int) l o t 0).isSome)&&aj)))))
def q16(r:Int):SV × List Blk × List Blk:=(V Z r,[],[])
def g16:GF:=fun vs bs=>match vs,bs with
 | [.agg [.ro [.str,W Z,W Z] l o,.ro [.str,W Z,W Z,W Z] m t]],[]=>ak (rs 0 (q16 (m16 l o m t)) [n16 l o m t])
 | _,_=>aw
def c16:Ctr:=AA [.a [.ro [.str,W Z,W Z],.ro [.str,W Z,W Z,W Z]]] g16
theorem k16:Ag Tryz.prog c16 16:=cx (tc k48 (tc k46 (tc k50 (tc k49 (tc k45 (tc k47 tn)))))) A6 8 (fn:=Tryz.f16) (c:=(Tryz.f16.body.getD .skip)) (grs:=[]) (rh:=.k) Tryz.func16 rfl (by kernel_rfl) (AD rfl (lc z16_0 (lc z16_3 ln))) fun vs bs q h hn=>by
 unfold g16 at h
 split at h <;> cases h
 rename_i l o m t
 have hn:=n1 hn
 exact ⟨_,rfl,ca (fun R => 
 let a0:=(o16_0 l o (l:Int) o m t 0)
 let b0:=(o16_3 m t (m:Int) l o t 0)
 (cnd (aq ((30:Int)<(l:Int)))
 (R (V Z 8) [] [])
 (cnd (aq (l=l))
 (cnd (a0.isSome)
 (cnd (a0.getD ax).1
 (R (V Z (a0.getD ax).2.1) [] [])
 (cnd (aq ((20:Int)<(m:Int)))
 (R (V Z 8) [] [])
 (cnd (aq (m=m))
 (cnd (b0.isSome)
 (cnd (b0.getD ax).1
 (R (V Z (b0.getD ax).2.1) [] [])
 (R (V Z 0) [] []))
    False)
    False)))
  False)
  False))) (fun R=>by kernel_rfl) (co (fun h0=>lf (cT h0 rfl) rfl) (fun h0=>cn (decide_eq_true rfl) (cn (al (cf h0 hn)) (co (fun h1=>lf (cF h0 (cT h1 rfl)) rfl) (fun h1=>co (fun h2=>lf (cF h0 (cF h1 (cT h2 rfl))) rfl) (fun h2=>cn (decide_eq_true rfl) (cn (al (cf h2 (cf h1 (ar (cf h0 hn))))) (co (fun h3=>lf (cF h0 (cF h1 (cF h2 (cT h3 rfl)))) rfl) (fun h3=>lf (cF h0 (cF h1 (cF h2 (cF h3 rfl)))) rfl)))))))))⟩

/-! ### (*shotline/kit.shop).alone -/
def m105rz(a:Dat)(d i:Int)(b g e:BA)(j:Bool):Int :=
 (cond (cond (m50 d 0 4) az aj) 15 (cond (cond (m48 i) az aj) 2 (cond (cond (m61rz a b).1 az aj) 6 (cond (bif (bif (bif (cond (aq (d=0)) az aj) then (cond (aq (g=({ data:=#[] }:BA))) az aj) else az) then aj else (bif (cond (aq (d=2)) az aj) then (cond (aq (e=({ data:=#[] }:BA))) az aj) else az)) then aj else (bif (bif (cond (aq (d=0)) az aj) then (cond (aq (d=4)) az aj) else az) then j else az)) 3 (cond (aq (d=0)) (cond (aq ((m49 (a.sn 0 0) (a.sub 0 0) (a.sn 0 1) (a.sub 0 1) g)<0)) 6 (cond (cond (aq (((a.sub 0 1).ii ((m49 (a.sn 0 0) (a.sub 0 0) (a.sn 0 1) (a.sub 0 1) g).toNat) 1)=((m61rz a b).2.2.ii 0 1))) az aj) 27 0)) (cond (aq (d=2)) (cond (cond (m61rz a e).1 az aj) 6 (cond (bif (cond (aq (((m61rz a b).2.2.ii 0 1)=1)) az aj) then aj else (bif (cond (aq (((m61rz a e).2.2.ii 0 1)=1)) az aj) then (cond (aq (((m61rz a e).2.2.ii 0 1)=3)) az aj) else az)) 27 (cond (bif (m61rz a e).1 then (bif (m61rz a b).1 then ((m61rz a e).2.1.beq (m61rz a b).2.1) else az) else (cond (m61rz a b).1 az aj)) 13 0))) (cond (aq (d=3)) (cond (cond (aq (((m61rz a b).2.2.ii 0 1)=1)) az aj) 27 0) (cond (aq (d=4)) (cond (cond (aq (((m61rz a b).2.2.ii 0 1)=3)) az aj) 27 0) 0))))))))
def n105rz(a:Dat)(d i:Int)(b g e:BA)(j:Bool):Bool :=
 ((n61rz a b)&&(cond (cond (m50 d 0 4) az aj) aj (cond (cond (m48 i) az aj) aj (cond (cond (m61rz a b).1 az aj) aj (cond (bif (bif (bif (cond (aq (d=0)) az aj) then (cond (aq (g=({ data:=#[] }:BA))) az aj) else az) then aj else (bif (cond (aq (d=2)) az aj) then (cond (aq (e=({ data:=#[] }:BA))) az aj) else az)) then aj else (bif (bif (cond (aq (d=0)) az aj) then (cond (aq (d=4)) az aj) else az) then j else az)) aj (cond (aq (d=0)) ((n49 (a.sn 0 0) (a.sub 0 0) (a.sn 0 1) (a.sub 0 1) g)&&(cond (aq ((m49 (a.sn 0 0) (a.sub 0 0) (a.sn 0 1) (a.sub 0 1) g)<0)) aj ((aq (0<=m49 (a.sn 0 0) (a.sub 0 0) (a.sn 0 (0+1)) (a.sub 0 (0+1)) g/\m49 (a.sn 0 0) (a.sub 0 0) (a.sn 0 (0+1)) (a.sub 0 (0+1)) g<((a.sn 0 (0+1)):Int)))&&((m61rz a b).1&&aj)))) (cond (aq (d=2)) ((n61rz a e)&&(cond (cond (m61rz a e).1 az aj) aj ((m61rz a b).1&&((bif (cond (cond (cond (aq (((m61rz a b).2.2.ii 0 1)=1)) az aj) az aj) az aj) then aj else (m61rz a e).1)&&((bif (cond (bif (cond (cond (aq (((m61rz a b).2.2.ii 0 1)=1)) az aj) az aj) then (cond (aq (((m61rz a e).2.2.ii 0 1)=1)) az aj) else az) az aj) then aj else (m61rz a e).1)&&aj))))) (cond (aq (d=3)) ((m61rz a b).1&&aj) (cond (aq (d=4)) ((m61rz a b).1&&aj) aj)))))))))
def q105rz(r:Int):SV × List Blk × List Blk:=(V Z r,[],[])
def g105rz:GF:=fun vs bs=>match vs,bs with
 | [.rp [.sl [.str,W Z,W Z],.sl [.str,W Z,W Z,W Z],.sl [.pz [.str,W Z,W Z,.mi [W Z,W Z,.bool],.mb,.mb,W Z,.bool,.m1]],W Z] a 0 0,.agg [V Z d,V Z i,.str b,.str g,.str e,.bool j]],[]=>ak (rs 0 (q105rz (m105rz a d i b g e j)) [n105rz a d i b g e j])
 | _,_=>aw
def c105rz:Ctr:=AA [.rp [.sl [.str,W Z,W Z],.sl [.str,W Z,W Z,W Z],.sl [.pz [.str,W Z,W Z,.mi [W Z,W Z,.bool],.mb,.mb,W Z,.bool,.m1]],W Z],.k] g105rz
theorem k105rz:Ag Tryz.prog c105rz 105:=cx (tc k61rz (tc k48 (tc k50 (tc k49 tn)))) A6 8 (fn:=Tryz.f105) (c:=(Tryz.f105.body.getD .skip)) (grs:=[]) (rh:=.k) Tryz.func105 rfl (by kernel_rfl) As fun vs bs q h hn=>by
 unfold g105rz at h
 split at h <;> cases h
 rename_i a d i b g e j
 have hn:=n1 hn
 exact ⟨_,rfl,ca (fun R => 
 let a0:=(cond (aq (((m61rz a b).2.2.ii 0 1)=1)) az aj)
 let b0:=(cond (aq (((m61rz a e).2.2.ii 0 1)=1)) az aj)
 let c0:=(m49 (a.sn 0 0) (a.sub 0 0) (a.sn 0 1) (a.sub 0 1) g)
 (cnd (n61rz a b)
 (cnd (cond (m50 d 0 4) az aj)
 (R (V Z 15) [] [])
 (cnd (cond (m48 i) az aj)
 (R (V Z 2) [] [])
 (cnd (cond (m61rz a b).1 az aj)
 (R (V Z 6) [] [])
 (cnd (bif (bif (bif (cond (aq (d=0)) az aj) then (cond (aq (g=({ data:=#[] }:BA))) az aj) else az) then aj else (bif (cond (aq (d=2)) az aj) then (cond (aq (e=({ data:=#[] }:BA))) az aj) else az)) then aj else (bif (bif (cond (aq (d=0)) az aj) then (cond (aq (d=4)) az aj) else az) then j else az))
 (R (V Z 3) [] [])
 (cnd (aq (d=0))
 (cnd (n49 (a.sn 0 0) (a.sub 0 0) (a.sn 0 1) (a.sub 0 1) g)
 (cnd (aq (c0<0))
 (R (V Z 6) [] [])
 (cnd (aq (0<=m49 (a.sn 0 0) (a.sub 0 0) (a.sn 0 (0+1)) (a.sub 0 (0+1)) g/\m49 (a.sn 0 0) (a.sub 0 0) (a.sn 0 (0+1)) (a.sub 0 (0+1)) g<((a.sn 0 (0+1)):Int)))
 (cnd (m61rz a b).1
 (cnd (cond (aq (((a.sub 0 1).ii (c0.toNat) 1)=((m61rz a b).2.2.ii 0 1))) az aj)
 (R (V Z 27) [] [])
 (R (V Z 0) [] []))
      False)
     False))
    False)
 (cnd (aq (d=2))
 (cnd (n61rz a e)
 (cnd (cond (m61rz a e).1 az aj)
 (R (V Z 6) [] [])
 (cnd (m61rz a b).1
 (cnd (bif (cond (cond a0 az aj) az aj) then aj else (m61rz a e).1)
 (cnd (bif (cond (bif (cond a0 az aj) then b0 else az) az aj) then aj else (m61rz a e).1)
 (cnd (bif a0 then aj else (bif b0 then (cond (aq (((m61rz a e).2.2.ii 0 1)=3)) az aj) else az))
 (R (V Z 27) [] [])
 (cnd (bif (m61rz a e).1 then (bif (m61rz a b).1 then ((m61rz a e).2.1.beq (m61rz a b).2.1) else az) else (cond (m61rz a b).1 az aj))
 (R (V Z 13) [] [])
 (R (V Z 0) [] [])))
       False)
      False)
      False))
     False)
 (cnd (aq (d=3))
 (cnd (m61rz a b).1
 (cnd a0
 (R (V Z 27) [] [])
 (R (V Z 0) [] []))
     False)
 (cnd (aq (d=4))
 (cnd (m61rz a b).1
 (cnd (cond (aq (((m61rz a b).2.2.ii 0 1)=3)) az aj)
 (R (V Z 27) [] [])
 (R (V Z 0) [] []))
      False)
 (R (V Z 0) [] [])))))))))
 False)) (fun R=>by kernel_rfl) (cn (al hn) (co (fun h0=>lf (cT h0 rfl) rfl) (fun h0=>co (fun h1=>lf (cF h0 (cT h1 rfl)) rfl) (fun h1=>co (fun h2=>lf (cF h0 (cF h1 (cT h2 rfl))) rfl) (fun h2=>co (fun h3=>lf (cF h0 (cF h1 (cF h2 (cT h3 rfl)))) rfl) (fun h3=>co (fun h4=>cn (al (ct h4 (cf h3 (cf h2 (cf h1 (cf h0 (ar hn))))))) (co (fun h5=>lf (cF h0 (cF h1 (cF h2 (cF h3 (cT h4 (cT h5 rfl)))))) rfl) (fun h5=>cn (al (cf h5 (ar (ct h4 (cf h3 (cf h2 (cf h1 (cf h0 (ar hn))))))))) (cn (al (ar (cf h5 (ar (ct h4 (cf h3 (cf h2 (cf h1 (cf h0 (ar hn)))))))))) (co (fun h6=>lf (cF h0 (cF h1 (cF h2 (cF h3 (cT h4 (cF h5 (cT h6 rfl))))))) rfl) (fun h6=>lf (cF h0 (cF h1 (cF h2 (cF h3 (cT h4 (cF h5 (cF h6 rfl))))))) rfl)))))) (fun h4=>co (fun h5=>cn (al (ct h5 (cf h4 (cf h3 (cf h2 (cf h1 (cf h0 (ar hn)))))))) (co (fun h6=>lf (cF h0 (cF h1 (cF h2 (cF h3 (cF h4 (cT h5 (cT h6 rfl))))))) rfl) (fun h6=>cn (al (cf h6 (ar (ct h5 (cf h4 (cf h3 (cf h2 (cf h1 (cf h0 (ar hn)))))))))) (cn (al (ar (cf h6 (ar (ct h5 (cf h4 (cf h3 (cf h2 (cf h1 (cf h0 (ar hn))))))))))) (cn (al (ar (ar (cf h6 (ar (ct h5 (cf h4 (cf h3 (cf h2 (cf h1 (cf h0 (ar hn)))))))))))) (co (fun h7=>lf (cF h0 (cF h1 (cF h2 (cF h3 (cF h4 (cT h5 (cF h6 (cT h7 rfl)))))))) rfl) (fun h7=>co (fun h8=>lf (cF h0 (cF h1 (cF h2 (cF h3 (cF h4 (cT h5 (cF h6 (cF h7 (cT h8 rfl))))))))) rfl) (fun h8=>lf (cF h0 (cF h1 (cF h2 (cF h3 (cF h4 (cT h5 (cF h6 (cF h7 (cF h8 rfl))))))))) rfl)))))))) (fun h5=>co (fun h6=>cn (al (ct h6 (cf h5 (cf h4 (cf h3 (cf h2 (cf h1 (cf h0 (ar hn))))))))) (co (fun h7=>lf (cF h0 (cF h1 (cF h2 (cF h3 (cF h4 (cF h5 (cT h6 (cT h7 rfl)))))))) rfl) (fun h7=>lf (cF h0 (cF h1 (cF h2 (cF h3 (cF h4 (cF h5 (cT h6 (cF h7 rfl)))))))) rfl))) (fun h6=>co (fun h7=>cn (al (ct h7 (cf h6 (cf h5 (cf h4 (cf h3 (cf h2 (cf h1 (cf h0 (ar hn)))))))))) (co (fun h8=>lf (cF h0 (cF h1 (cF h2 (cF h3 (cF h4 (cF h5 (cF h6 (cT h7 (cT h8 rfl))))))))) rfl) (fun h8=>lf (cF h0 (cF h1 (cF h2 (cF h3 (cF h4 (cF h5 (cF h6 (cT h7 (cF h8 rfl))))))))) rfl))) (fun h7=>lf (cF h0 (cF h1 (cF h2 (cF h3 (cF h4 (cF h5 (cF h6 (cF h7 rfl)))))))) rfl))))))))))⟩

/-! ### math/bits.Len32 -/
def m137(a:Int):Int :=
 (cond (aq (65536<=a)) (cond (aq (256<=(a.fdiv 65536))) (Z.wrap (24+(Z.wrap (An (bt19670_1) ((IntKind.u8.wrap ((a.fdiv 65536).fdiv 256)).toNat))))) (Z.wrap (16+(Z.wrap (An (bt19670_1) ((IntKind.u8.wrap (a.fdiv 65536)).toNat)))))) (cond (aq (256<=a)) (Z.wrap (8+(Z.wrap (An (bt19670_1) ((IntKind.u8.wrap (a.fdiv 256)).toNat))))) (Z.wrap (0+(Z.wrap (An (bt19670_1) ((IntKind.u8.wrap a).toNat)))))))
def n137(a:Int):Bool :=
 (cond (aq (65536<=a)) (cond (aq (256<=(a.fdiv 65536))) ((aq (0<=IntKind.u8.wrap ((a.fdiv (2 ^ min (Int.toNat 16) IntKind.u32.bits)).fdiv (2 ^ min (Int.toNat 8) IntKind.u32.bits))/\IntKind.u8.wrap ((a.fdiv (2 ^ min (Int.toNat 16) IntKind.u32.bits)).fdiv (2 ^ min (Int.toNat 8) IntKind.u32.bits))<(bt14413_0.size:Int)))&&aj) ((aq (0<=IntKind.u8.wrap (a.fdiv (2 ^ min (Int.toNat 16) IntKind.u32.bits))/\IntKind.u8.wrap (a.fdiv (2 ^ min (Int.toNat 16) IntKind.u32.bits))<(bt14413_0.size:Int)))&&aj)) (cond (aq (256<=a)) ((aq (0<=IntKind.u8.wrap (a.fdiv (2 ^ min (Int.toNat 8) IntKind.u32.bits))/\IntKind.u8.wrap (a.fdiv (2 ^ min (Int.toNat 8) IntKind.u32.bits))<(bt14413_0.size:Int)))&&aj) ((aq ((0:Int)<=IntKind.u8.wrap a/\IntKind.u8.wrap a<(bt48795_2.size:Int)))&&aj)))
def q137(r:Int):SV × List Blk × List Blk:=(V Z r,[],[])
def g137:GF:=fun vs bs=>match vs,bs with
 | [.int .u32 a],[]=>ak (rs 0 (q137 (m137 a)) [n137 a])
 | _,_=>aw
def c137:Ctr:=AA [.k] g137
theorem k137:Ag Tryz.prog c137 137:=cx tn A6 8 (fn:=Tryz.f137) (c:=(Tryz.f137.body.getD .skip)) (grs:=[]) (rh:=.k) Tryz.func137 rfl (by kernel_rfl) As fun vs bs q h hn=>by
 unfold g137 at h
 split at h <;> cases h
 rename_i a
 have hn:=n1 hn
 exact ⟨_,rfl,ca (fun R => 
 let a0:=(a.fdiv (2 ^ min (Int.toNat 16) IntKind.u32.bits))
 let b0:=(2 ^ min (Int.toNat 8) IntKind.u32.bits)
 (cnd (aq (65536<=a))
 (cnd (aq (256<=(a.fdiv 65536)))
 (cnd (aq (0<=IntKind.u8.wrap (a0.fdiv b0)/\IntKind.u8.wrap (a0.fdiv b0)<(bt14413_0.size:Int)))
 (R (V Z (Z.wrap (24+(Z.wrap (An (bt19670_1) ((IntKind.u8.wrap ((a.fdiv 65536).fdiv 256)).toNat)))))) [] [])
  False)
 (cnd (aq (0<=IntKind.u8.wrap a0/\IntKind.u8.wrap a0<(bt14413_0.size:Int)))
 (R (V Z (Z.wrap (16+(Z.wrap (An (bt19670_1) ((IntKind.u8.wrap (a.fdiv 65536)).toNat)))))) [] [])
  False))
 (cnd (aq (256<=a))
 (cnd (aq (0<=IntKind.u8.wrap (a.fdiv b0)/\IntKind.u8.wrap (a.fdiv b0)<(bt14413_0.size:Int)))
 (R (V Z (Z.wrap (8+(Z.wrap (An (bt19670_1) ((IntKind.u8.wrap (a.fdiv 256)).toNat)))))) [] [])
  False)
 (cnd (aq ((0:Int)<=IntKind.u8.wrap a/\IntKind.u8.wrap a<(bt48795_2.size:Int)))
 (R (V Z (Z.wrap (0+(Z.wrap (An (bt19670_1) ((IntKind.u8.wrap a).toNat)))))) [] [])
  False)))) (fun R=>by kernel_rfl) (co (fun h0=>co (fun h1=>cn (al (ct h1 (ct h0 hn))) (lf (cT h0 (cT h1 rfl)) rfl)) (fun h1=>cn (al (cf h1 (ct h0 hn))) (lf (cT h0 (cF h1 rfl)) rfl))) (fun h0=>co (fun h1=>cn (al (ct h1 (cf h0 hn))) (lf (cF h0 (cT h1 rfl)) rfl)) (fun h1=>cn (al (cf h1 (cf h0 hn))) (lf (cF h0 (cF h1 rfl)) rfl))))⟩
/-! ### math/bits.Len64 -/
def t138_0(a:Int):Int:=(a.fdiv 4294967296).fdiv 65536
def t138_1(a:Int):BA:=bt19670_1
def TF(a z0:Int)(z1:BA)(R:SV->List Blk->List Blk->Prop):Prop :=
 (cnd (aq (4294967296<=a))
 (cnd (aq (65536<=(a.fdiv 4294967296)))
 (cnd (aq (256<=z0))
 (cnd (aq (0<=IntKind.u8.wrap (((a.fdiv (2 ^ min (Int.toNat 32) IntKind.u64.bits)).fdiv (2 ^ min (Int.toNat 16) IntKind.u64.bits)).fdiv (2 ^ min (Int.toNat 8) IntKind.u64.bits))/\IntKind.u8.wrap (((a.fdiv (2 ^ min (Int.toNat 32) IntKind.u64.bits)).fdiv (2 ^ min (Int.toNat 16) IntKind.u64.bits)).fdiv (2 ^ min (Int.toNat 8) IntKind.u64.bits))<(bt14413_0.size:Int)))
 (R (V Z (Z.wrap (56+(Z.wrap (An z1 ((IntKind.u8.wrap (z0.fdiv 256)).toNat)))))) [] [])
   False)
 (cnd (aq (0<=IntKind.u8.wrap ((a.fdiv (2 ^ min (Int.toNat 32) IntKind.u64.bits)).fdiv (2 ^ min (Int.toNat 16) IntKind.u64.bits))/\IntKind.u8.wrap ((a.fdiv (2 ^ min (Int.toNat 32) IntKind.u64.bits)).fdiv (2 ^ min (Int.toNat 16) IntKind.u64.bits))<(bt14413_0.size:Int)))
 (R (V Z (Z.wrap (48+(Z.wrap (An z1 ((IntKind.u8.wrap z0).toNat)))))) [] [])
   False))
 (cnd (aq (256<=(a.fdiv 4294967296)))
 (cnd (aq (0<=IntKind.u8.wrap ((a.fdiv (2 ^ min (Int.toNat 32) IntKind.u64.bits)).fdiv (2 ^ min (Int.toNat 8) IntKind.u64.bits))/\IntKind.u8.wrap ((a.fdiv (2 ^ min (Int.toNat 32) IntKind.u64.bits)).fdiv (2 ^ min (Int.toNat 8) IntKind.u64.bits))<(bt14413_0.size:Int)))
 (R (V Z (Z.wrap (40+(Z.wrap (An z1 ((IntKind.u8.wrap ((a.fdiv 4294967296).fdiv 256)).toNat)))))) [] [])
   False)
 (cnd (aq (0<=IntKind.u8.wrap (a.fdiv (2 ^ min (Int.toNat 32) IntKind.u64.bits))/\IntKind.u8.wrap (a.fdiv (2 ^ min (Int.toNat 32) IntKind.u64.bits))<(bt14413_0.size:Int)))
 (R (V Z (Z.wrap (32+(Z.wrap (An z1 ((IntKind.u8.wrap (a.fdiv 4294967296)).toNat)))))) [] [])
   False)))
 (cnd (aq (65536<=a))
 (cnd (aq (256<=(a.fdiv 65536)))
 (cnd (aq (0<=IntKind.u8.wrap ((a.fdiv (2 ^ min (Int.toNat 16) IntKind.u64.bits)).fdiv (2 ^ min (Int.toNat 8) IntKind.u64.bits))/\IntKind.u8.wrap ((a.fdiv (2 ^ min (Int.toNat 16) IntKind.u64.bits)).fdiv (2 ^ min (Int.toNat 8) IntKind.u64.bits))<(bt14413_0.size:Int)))
 (R (V Z (Z.wrap (24+(Z.wrap (An z1 ((IntKind.u8.wrap ((a.fdiv 65536).fdiv 256)).toNat)))))) [] [])
   False)
 (cnd (aq (0<=IntKind.u8.wrap (a.fdiv (2 ^ min (Int.toNat 16) IntKind.u64.bits))/\IntKind.u8.wrap (a.fdiv (2 ^ min (Int.toNat 16) IntKind.u64.bits))<(bt14413_0.size:Int)))
 (R (V Z (Z.wrap (16+(Z.wrap (An z1 ((IntKind.u8.wrap (a.fdiv 65536)).toNat)))))) [] [])
   False))
 (cnd (aq (256<=a))
 (cnd (aq (0<=IntKind.u8.wrap (a.fdiv (2 ^ min (Int.toNat 8) IntKind.u64.bits))/\IntKind.u8.wrap (a.fdiv (2 ^ min (Int.toNat 8) IntKind.u64.bits))<(bt14413_0.size:Int)))
 (R (V Z (Z.wrap (8+(Z.wrap (An z1 ((IntKind.u8.wrap (a.fdiv 256)).toNat)))))) [] [])
   False)
 (cnd (aq ((0:Int)<=IntKind.u8.wrap a/\IntKind.u8.wrap a<(bt48795_2.size:Int)))
 (R (V Z (Z.wrap (0+(Z.wrap (An z1 ((IntKind.u8.wrap a).toNat)))))) [] [])
   False))))
def w138(a z0:Int)(z1:BA):Int :=
 (cond (aq (4294967296<=a)) (cond (aq (65536<=(a.fdiv 4294967296))) (cond (aq (256<=z0)) (Z.wrap (56+(Z.wrap (An z1 ((IntKind.u8.wrap (z0.fdiv 256)).toNat))))) (Z.wrap (48+(Z.wrap (An z1 ((IntKind.u8.wrap z0).toNat)))))) (cond (aq (256<=(a.fdiv 4294967296))) (Z.wrap (40+(Z.wrap (An z1 ((IntKind.u8.wrap ((a.fdiv 4294967296).fdiv 256)).toNat))))) (Z.wrap (32+(Z.wrap (An z1 ((IntKind.u8.wrap (a.fdiv 4294967296)).toNat))))))) (cond (aq (65536<=a)) (cond (aq (256<=(a.fdiv 65536))) (Z.wrap (24+(Z.wrap (An z1 ((IntKind.u8.wrap ((a.fdiv 65536).fdiv 256)).toNat))))) (Z.wrap (16+(Z.wrap (An z1 ((IntKind.u8.wrap (a.fdiv 65536)).toNat)))))) (cond (aq (256<=a)) (Z.wrap (8+(Z.wrap (An z1 ((IntKind.u8.wrap (a.fdiv 256)).toNat))))) (Z.wrap (0+(Z.wrap (An z1 ((IntKind.u8.wrap a).toNat))))))))
def v138(a z0:Int)(z1:BA):Bool :=
 (cond (aq (4294967296<=a)) (cond (aq (65536<=(a.fdiv 4294967296))) (cond (aq (256<=z0)) ((aq (0<=IntKind.u8.wrap (((a.fdiv (2 ^ min (Int.toNat 32) IntKind.u64.bits)).fdiv (2 ^ min (Int.toNat 16) IntKind.u64.bits)).fdiv (2 ^ min (Int.toNat 8) IntKind.u64.bits))/\IntKind.u8.wrap (((a.fdiv (2 ^ min (Int.toNat 32) IntKind.u64.bits)).fdiv (2 ^ min (Int.toNat 16) IntKind.u64.bits)).fdiv (2 ^ min (Int.toNat 8) IntKind.u64.bits))<(bt14413_0.size:Int)))&&aj) ((aq (0<=IntKind.u8.wrap ((a.fdiv (2 ^ min (Int.toNat 32) IntKind.u64.bits)).fdiv (2 ^ min (Int.toNat 16) IntKind.u64.bits))/\IntKind.u8.wrap ((a.fdiv (2 ^ min (Int.toNat 32) IntKind.u64.bits)).fdiv (2 ^ min (Int.toNat 16) IntKind.u64.bits))<(bt14413_0.size:Int)))&&aj)) (cond (aq (256<=(a.fdiv 4294967296))) ((aq (0<=IntKind.u8.wrap ((a.fdiv (2 ^ min (Int.toNat 32) IntKind.u64.bits)).fdiv (2 ^ min (Int.toNat 8) IntKind.u64.bits))/\IntKind.u8.wrap ((a.fdiv (2 ^ min (Int.toNat 32) IntKind.u64.bits)).fdiv (2 ^ min (Int.toNat 8) IntKind.u64.bits))<(bt14413_0.size:Int)))&&aj) ((aq (0<=IntKind.u8.wrap (a.fdiv (2 ^ min (Int.toNat 32) IntKind.u64.bits))/\IntKind.u8.wrap (a.fdiv (2 ^ min (Int.toNat 32) IntKind.u64.bits))<(bt14413_0.size:Int)))&&aj))) (cond (aq (65536<=a)) (cond (aq (256<=(a.fdiv 65536))) ((aq (0<=IntKind.u8.wrap ((a.fdiv (2 ^ min (Int.toNat 16) IntKind.u64.bits)).fdiv (2 ^ min (Int.toNat 8) IntKind.u64.bits))/\IntKind.u8.wrap ((a.fdiv (2 ^ min (Int.toNat 16) IntKind.u64.bits)).fdiv (2 ^ min (Int.toNat 8) IntKind.u64.bits))<(bt14413_0.size:Int)))&&aj) ((aq (0<=IntKind.u8.wrap (a.fdiv (2 ^ min (Int.toNat 16) IntKind.u64.bits))/\IntKind.u8.wrap (a.fdiv (2 ^ min (Int.toNat 16) IntKind.u64.bits))<(bt14413_0.size:Int)))&&aj)) (cond (aq (256<=a)) ((aq (0<=IntKind.u8.wrap (a.fdiv (2 ^ min (Int.toNat 8) IntKind.u64.bits))/\IntKind.u8.wrap (a.fdiv (2 ^ min (Int.toNat 8) IntKind.u64.bits))<(bt14413_0.size:Int)))&&aj) ((aq ((0:Int)<=IntKind.u8.wrap a/\IntKind.u8.wrap a<(bt48795_2.size:Int)))&&aj))))
def m138(a:Int):Int:=w138 a (t138_0 a) (t138_1 a)
def n138(a:Int):Bool:=v138 a (t138_0 a) (t138_1 a)
def q138(r:Int):SV × List Blk × List Blk:=(V Z r,[],[])
def g138:GF:=fun vs bs=>match vs,bs with
 | [.int .u64 a],[]=>ak (rs 0 (q138 (m138 a)) [n138 a])
 | _,_=>aw
def c138:Ctr:=AA [.k] g138
theorem u138(a z0:Int)(z1:BA)(hn:v138 a z0 z1=aj):TF a z0 z1 (fun v U N=>(v,U,N)=q138 (w138 a z0 z1)) :=
 co (fun h0=>co (fun h1=>co (fun h2=>cn (al (ct h2 (ct h1 (ct h0 hn)))) (lf (cT h0 (cT h1 (cT h2 rfl))) rfl)) (fun h2=>cn (al (cf h2 (ct h1 (ct h0 hn)))) (lf (cT h0 (cT h1 (cF h2 rfl))) rfl))) (fun h1=>co (fun h2=>cn (al (ct h2 (cf h1 (ct h0 hn)))) (lf (cT h0 (cF h1 (cT h2 rfl))) rfl)) (fun h2=>cn (al (cf h2 (cf h1 (ct h0 hn)))) (lf (cT h0 (cF h1 (cF h2 rfl))) rfl)))) (fun h0=>co (fun h1=>co (fun h2=>cn (al (ct h2 (ct h1 (cf h0 hn)))) (lf (cF h0 (cT h1 (cT h2 rfl))) rfl)) (fun h2=>cn (al (cf h2 (ct h1 (cf h0 hn)))) (lf (cF h0 (cT h1 (cF h2 rfl))) rfl))) (fun h1=>co (fun h2=>cn (al (ct h2 (cf h1 (cf h0 hn)))) (lf (cF h0 (cF h1 (cT h2 rfl))) rfl)) (fun h2=>cn (al (cf h2 (cf h1 (cf h0 hn)))) (lf (cF h0 (cF h1 (cF h2 rfl))) rfl))))
theorem k138:Ag Tryz.prog c138 138:=cx tn A6 8 (fn:=Tryz.f138) (c:=(Tryz.f138.body.getD .skip)) (grs:=[]) (rh:=.k) Tryz.func138 rfl (by kernel_rfl) As fun vs bs q h hn=>by
 unfold g138 at h
 split at h <;> cases h
 rename_i a
 have hn:=n1 hn
 exact ⟨_,rfl,ca (fun R=>TF a (t138_0 a) (t138_1 a) R) (fun R=>by kernel_rfl) (u138 a (t138_0 a) (t138_1 a) hn)⟩
/-! ### slices.insertionSortCmpFunc[shotline/kit.batch] -/
def l129c86_2(g:Nat)(i l j:Int)(b:Nat):Nat->Int->Dat->Option (Dat)
 | 0,_,_=>aw
 | f+1,d,a=>(cond (bif (cond (aq (i<d)) az aj) then aj else (aq (0<=d/\d<↑g))) (cond (bif (cond (aq (i<d)) az aj) then aj else (aq (d.toNat<b))) (cond (bif (cond (aq (i<d)) az aj) then aj else (aq (0<=Z.wrap (d - 1)/\Z.wrap (d - 1)<(g:Int)))) (cond (bif (cond (aq (i<d)) az aj) then aj else (aq (((Z.wrap (d - 1)).toNat)<b))) (cond (bif (cond (aq (i<d)) az aj) then aj else (n86 (a.ii d.toNat 0) (a.ii d.toNat 1) (a.ii ((Z.wrap (d - 1)).toNat) 0) (a.ii ((Z.wrap (d - 1)).toNat) 1))) (cond (bif (aq (i<d)) then (aq ((m86 (a.ii d.toNat 0) (a.ii d.toNat 1) (a.ii ((Z.wrap (d - 1)).toNat) 0) (a.ii ((Z.wrap (d - 1)).toNat) 1))<0)) else az) (cond (aq (0<=Z.wrap (d - 1)/\Z.wrap (d - 1)<(g:Int))) (cond (aq (((Z.wrap (d - 1)).toNat)<b)) (cond (aq (0<=d/\d<↑g)) (cond (aq (d.toNat<b)) (cond (aq (0<=d/\d<↑g)) (cond (aq (d.toNat<b)) (cond (aq (0<=Z.wrap (d - 1)/\Z.wrap (d - 1)<(g:Int))) (cond (aq (((Z.wrap (d - 1)).toNat)<b)) (l129c86_2 g i l j b f (Z.wrap (d - 1)) ((a.upd d.toNat 0 [V Z (a.ii ((Z.wrap (d - 1)).toNat) 0),V Z (a.ii ((Z.wrap (d - 1)).toNat) 1)]).upd ((Z.wrap (d - 1)).toNat) 0 [V Z (a.ii d.toNat 0),V Z (a.ii d.toNat 1)])) aw) aw) aw) aw) aw) aw) aw) aw) (ak a)) aw) aw) aw) aw) aw)
abbrev o129c86_2(g:Nat)(i l j:Int)(b:Nat)(d:Int)(a:Dat):Option (Dat):=l129c86_2 g i l j b (g+i.toNat+l.toNat+j.toNat+d.toNat+b+8) d a
def e129c86_2(g:Nat)(i l j:Int)(b:Nat)(r:Dat)(K:XR):Prop:=K (XE.exit 2) [.gr 0 2 g,V Z i,V Z l,.fn 86 [],V Z j] [.row 156 [W Z,W Z] b r]
def g129c86_2:AX:=fun s k=>match czv 1 53 [0,1,2,3,8,9] 1 [] s with
 | ak ([.gr 0 2 g,V Z i,V Z l,.fn 86 [],V Z j,V Z d],[.row 156 [W Z,W Z] b a])=>Ay [(o129c86_2 g i l j b d a).isSome] (e129c86_2 g i l j b ((o129c86_2 g i l j b d a).getD ax) fun e vs bs=>AL 2 k e (Aq 1 53 [0,1,2,3,8] vs 1 bs))
 | _=>False
theorem z129c86_2:LOk Tryz.prog g129c86_2 (.block 2 (Ad (Tryz.f129.body.getD .skip) 2)):=by
 refine lb (ι:=Nat × Int × Int × Int × Int × Nat × Dat) (fuel:=8) (na:=1) (nt:=53) (nx:=1) (Lh:=[0,1,2,3,8,9]) (Le:=[0,1,2,3,8]) (gl:=[]) (tc k86 tn) A6 As rfl (fun f (g,i,l,j,d,b,a) K=>GG ax (e129c86_2 g i l j b) K (l129c86_2 g i l j b f d a)) (fun (g,i,l,j,d,b,a)=>[.gr 0 2 g,V Z i,V Z l,.fn 86 [],V Z j,V Z d]) (fun (g,i,l,j,d,b,a)=>[.row 156 [W Z,W Z] b a]) (fun (_,_,_,_,_,_,_) K=>Au) ?_ ?_
 .rintro f ⟨g,i,l,j,d,b,a⟩ K hG
  refine ro (fun R => 
 let a0:=((Z.wrap (d - 1)).toNat)
 let b0:=(cond (aq (i<d)) az aj)
 let c0:=(aq (0<=Z.wrap (d - 1)/\Z.wrap (d - 1)<(g:Int)))
 let d0:=(aq (0<=d/\d<↑g))
 (cnd (bif b0 then aj else d0)
 (cnd (bif b0 then aj else (aq (d.toNat<b)))
 (cnd (bif b0 then aj else c0)
 (cnd (bif b0 then aj else (aq (a0<b)))
 (cnd (bif b0 then aj else (n86 (a.ii d.toNat 0) (a.ii d.toNat 1) (a.ii a0 0) (a.ii a0 1)))
 (cnd (bif (aq (i<d)) then (aq ((m86 (a.ii d.toNat 0) (a.ii d.toNat 1) (a.ii a0 0) (a.ii a0 1))<0)) else az)
 (cnd c0
 (cnd (aq (a0<b))
 (cnd d0
 (cnd (aq (d.toNat<b))
 (cnd d0
 (cnd (aq (d.toNat<b))
 (cnd c0
 (cnd (aq (a0<b))
 (R (XE.normal) [.gr 0 2 g,V Z i,V Z l,.fn 86 [],V Z j,V Z (Z.wrap (d - 1))] [.row 156 [W Z,W Z] b ((a.upd d.toNat 0 [V Z (a.ii a0 0),V Z (a.ii a0 1)]).upd a0 0 [V Z (a.ii d.toNat 0),V Z (a.ii d.toNat 1)])])
        False)
       False)
       False)
      False)
      False)
     False)
     False)
    False)
 (R (XE.exit 2) [.gr 0 2 g,V Z i,V Z l,.fn 86 [],V Z j] [.row 156 [W Z,W Z] b a]))
   False)
   False)
  False)
  False)
 False)) (fun R=>by kernel_rfl) ?_
  exact cg hG fun h0=>cg h0 fun h1=>cg h1 fun h2=>cg h2 fun h3=>cg h3 fun h4=>ch h4 (fun h5=>cg h5 fun h6=>cg h6 fun h7=>cg h7 fun h8=>cg h8 fun h9=>cg h9 fun h10=>cg h10 fun h11=>cg h11 fun h12=>cg h12 fun h13=>⟨(_,_,_,_,_,_,_),rfl,rfl,h13⟩) (fun h5=>h5.2)
 .intro s k h
  unfold g129c86_2 at h
  split at h <;> try exact h.elim
  rename_i e1
  rw [Ac] at h
  exact ⟨_,e1,_,(_,_,_,_,_,_,_),rfl,rfl,h.1 _ (List.mem_singleton.2 rfl),h.2⟩
def l129c86_0(g:Nat)(i l:Int)(b:Nat):Nat->Int->Dat->Option (Dat)
 | 0,_,_=>aw
 | f+1,j,a=>(cond (aq (j<l)) (cond ((o129c86_2 g i l j b j a).isSome) (l129c86_0 g i l b f (Z.wrap (j+1)) ((o129c86_2 g i l j b j a).getD ax)) aw) (ak a))
abbrev o129c86_0(g:Nat)(i l:Int)(b:Nat)(j:Int)(a:Dat):Option (Dat):=l129c86_0 g i l b (g+i.toNat+l.toNat+j.toNat+b+8) j a
def e129c86_0(g:Nat)(i l:Int)(b:Nat)(r:Dat)(K:XR):Prop:=K (XE.exit 0) [] [.row 156 [W Z,W Z] b r]
def g129c86_0:AX:=fun s k=>match czv 1 53 [0,1,2,3,8] 1 [] s with
 | ak ([.gr 0 2 g,V Z i,V Z l,.fn 86 [],V Z j],[.row 156 [W Z,W Z] b a])=>Ay [(o129c86_0 g i l b j a).isSome] (e129c86_0 g i l b ((o129c86_0 g i l b j a).getD ax) fun e vs bs=>AL 0 k e (Aq 1 53 [] vs 1 bs))
 | _=>False
theorem z129c86_0:LOk Tryz.prog g129c86_0 (.block 0 (Ad (Tryz.f129.body.getD .skip) 0)):=by
 refine lb (ι:=Nat × Int × Int × Int × Nat × Dat) (fuel:=8) (na:=1) (nt:=53) (nx:=1) (Lh:=[0,1,2,3,8]) (Le:=[]) (gl:=[]) (tc k86 tn) A6 (AD rfl (lc z129c86_2 ln)) rfl (fun f (g,i,l,j,b,a) K=>GG ax (e129c86_0 g i l b) K (l129c86_0 g i l b f j a)) (fun (g,i,l,j,b,a)=>[.gr 0 2 g,V Z i,V Z l,.fn 86 [],V Z j]) (fun (g,i,l,j,b,a)=>[.row 156 [W Z,W Z] b a]) (fun (_,_,_,_,_,_) K=>Au) ?_ ?_
 .rintro f ⟨g,i,l,j,b,a⟩ K hG
  refine ro (fun R=>(cnd (aq (j<l))
 (cnd ((o129c86_2 g i l j b j a).isSome)
 (R (XE.normal) [.gr 0 2 g,V Z i,V Z l,.fn 86 [],V Z (Z.wrap (j+1))] [.row 156 [W Z,W Z] b ((o129c86_2 g i l j b j a).getD ax)])
  False)
 (R (XE.exit 0) [] [.row 156 [W Z,W Z] b a]))) (fun R=>by kernel_rfl) ?_
  exact ch hG (fun h0=>cg h0 fun h1=>⟨(_,_,_,_,_,_),rfl,rfl,h1⟩) (fun h0=>h0.2)
 .intro s k h
  unfold g129c86_0 at h
  split at h <;> try exact h.elim
  rename_i e1
  rw [Ac] at h
  exact ⟨_,e1,_,(_,_,_,_,_,_),rfl,rfl,h.1 _ (List.mem_singleton.2 rfl),h.2⟩
def m129c86(m ma0:Nat)(n:Dat)(o p:Int):Nat × Dat :=
 (ma0,((o129c86_0 m o p ma0 (Z.wrap (o+1)) n).getD ax))
def n129c86(m ma0:Nat)(n:Dat)(o p:Int):Bool :=
 (((o129c86_0 m o p ma0 (Z.wrap (o+1)) n).isSome)&&aj)
def q129c86(r:Nat × Dat):SV × List Blk × List Blk:=(.tup [],[.row 156 [W Z,W Z] r.1 r.2],[])
def g129c86:GF:=fun vs bs=>match vs,bs with
 | [.gr 0 2 m,V Z o,V Z p,.fn 86 []],[.row 156 [W Z,W Z] ma0 n]=>ak (rs 1 (q129c86 (m129c86 m ma0 n o p)) [n129c86 m ma0 n o p])
 | _,_=>aw
def c129c86:Ctr:=AA [.gr 156 [W Z,W Z],.k,.k,.f []] g129c86
theorem k129c86:Ag Tryz.prog c129c86 129:=cx (tc k86 tn) A6 8 (fn:=Tryz.f129) (c:=(Tryz.f129.body.getD .skip)) (grs:=[]) (rh:=.k) Tryz.func129 rfl (by kernel_rfl) (AD rfl (lc z129c86_2 (lc z129c86_0 ln))) fun vs bs q h hn=>by
 unfold g129c86 at h
 split at h <;> cases h
 rename_i m o p ma0 n
 have hn:=n1 hn
 exact ⟨_,rfl,ca (fun R=>(cnd ((o129c86_0 m o p ma0 (Z.wrap (o+1)) n).isSome)
 (R (.tup []) [.row 156 [W Z,W Z] ma0 ((o129c86_0 m o p ma0 (Z.wrap (o+1)) n).getD ax)] [])
 False)) (fun R=>by kernel_rfl) (cn (al hn) (lf rfl rfl))⟩
/-! ### shotline/kit.Due$1 -/
def m64(d e:BA)(a:Int)(g i:BA)(b:Int):Int :=
 (m65 a b)
def q64(r:Int):SV × List Blk × List Blk:=(V Z r,[],[])
def g64:GF:=fun vs bs=>match vs,bs with
 | [.agg [.str d,.str e,V Z a],.agg [.str g,.str i,V Z b]],[]=>ak (rs 0 (q64 (m64 d e a g i b)) [])
 | _,_=>aw
def c64:Ctr:=AA [.k,.k] g64
theorem k64:Ag Tryz.prog c64 64:=cx (tc k65 tn) A6 8 (fn:=Tryz.f64) (c:=(Tryz.f64.body.getD .skip)) (grs:=[]) (rh:=.k) Tryz.func64 rfl (by kernel_rfl) As fun vs bs q h hn=>by
 unfold g64 at h
 split at h <;> cases h
 rename_i d e a g i b
 exact ⟨_,rfl,ca (fun R=>(R (V Z (m65 a b)) [] [])) (fun R=>by kernel_rfl) (lf rfl rfl)⟩

/-! ### math/bits.Len -/
def m110(a:Int):Int :=
 (m138 a)
def n110(a:Int):Bool :=
 ((n138 a)&&aj)
def q110(r:Int):SV × List Blk × List Blk:=(V Z r,[],[])
def g110:GF:=fun vs bs=>match vs,bs with
 | [.int .u64 a],[]=>ak (rs 0 (q110 (m110 a)) [n110 a])
 | _,_=>aw
def c110:Ctr:=AA [.k] g110
theorem k110:Ag Tryz.prog c110 110:=cx (tc k137 (tc k138 tn)) A6 8 (fn:=Tryz.f110) (c:=(Tryz.f110.body.getD .skip)) (grs:=[]) (rh:=.k) Tryz.func110 rfl (by kernel_rfl) As fun vs bs q h hn=>by
 unfold g110 at h
 split at h <;> cases h
 rename_i a
 have hn:=n1 hn
 exact ⟨_,rfl,ca (fun R=>(cnd (n138 a)
 (R (V Z (m138 a)) [] [])
 False)) (fun R=>by kernel_rfl) (cn (al hn) (lf rfl rfl))⟩
/-! ### slices.insertionSortCmpFunc[shotline/api.KitDue] -/
def l111c64_2(g:Nat)(i l j:Int)(b:Nat):Nat->Int->Dat->Option (Dat)
 | 0,_,_=>aw
 | f+1,d,a=>(cond (bif (cond (aq (i<d)) az aj) then aj else (aq (0<=d/\d<↑g))) (cond (bif (cond (aq (i<d)) az aj) then aj else (aq (d.toNat<b))) (cond (bif (cond (aq (i<d)) az aj) then aj else (aq (0<=Z.wrap (d - 1)/\Z.wrap (d - 1)<(g:Int)))) (cond (bif (cond (aq (i<d)) az aj) then aj else (aq (((Z.wrap (d - 1)).toNat)<b))) (cond (bif (aq (i<d)) then (aq ((m64 (a.ss d.toNat 0) (a.ss d.toNat 1) (a.ii d.toNat 2) (a.ss ((Z.wrap (d - 1)).toNat) 0) (a.ss ((Z.wrap (d - 1)).toNat) 1) (a.ii ((Z.wrap (d - 1)).toNat) 2))<0)) else az) (cond (aq (0<=Z.wrap (d - 1)/\Z.wrap (d - 1)<(g:Int))) (cond (aq (((Z.wrap (d - 1)).toNat)<b)) (cond (aq (0<=d/\d<↑g)) (cond (aq (d.toNat<b)) (cond (aq (0<=d/\d<↑g)) (cond (aq (d.toNat<b)) (cond (aq (0<=Z.wrap (d - 1)/\Z.wrap (d - 1)<(g:Int))) (cond (aq (((Z.wrap (d - 1)).toNat)<b)) (l111c64_2 g i l j b f (Z.wrap (d - 1)) ((a.upd d.toNat 0 [SV.str (a.ss ((Z.wrap (d - 1)).toNat) 0),SV.str (a.ss ((Z.wrap (d - 1)).toNat) 1),V Z (a.ii ((Z.wrap (d - 1)).toNat) 2)]).upd ((Z.wrap (d - 1)).toNat) 0 [SV.str (a.ss d.toNat 0),SV.str (a.ss d.toNat 1),V Z (a.ii d.toNat 2)])) aw) aw) aw) aw) aw) aw) aw) aw) (ak a)) aw) aw) aw) aw)
abbrev o111c64_2(g:Nat)(i l j:Int)(b:Nat)(d:Int)(a:Dat):Option (Dat):=l111c64_2 g i l j b (g+i.toNat+l.toNat+j.toNat+d.toNat+b+8) d a
def e111c64_2(g:Nat)(i l j:Int)(b:Nat)(r:Dat)(K:XR):Prop:=K (XE.exit 2) [.gr 0 3 g,V Z i,V Z l,.fn 64 [],V Z j] [.row 73 [.str,.str,W Z] b r]
def g111c64_2:AX:=fun s k=>match czv 1 53 [0,1,2,3,8,9] 1 [] s with
 | ak ([.gr 0 3 g,V Z i,V Z l,.fn 64 [],V Z j,V Z d],[.row 73 [.str,.str,W Z] b a])=>Ay [(o111c64_2 g i l j b d a).isSome] (e111c64_2 g i l j b ((o111c64_2 g i l j b d a).getD ax) fun e vs bs=>AL 2 k e (Aq 1 53 [0,1,2,3,8] vs 1 bs))
 | _=>False
theorem z111c64_2:LOk Tryz.prog g111c64_2 (.block 2 (Ad (Tryz.f111.body.getD .skip) 2)):=by
 refine lb (ι:=Nat × Int × Int × Int × Int × Nat × Dat) (fuel:=8) (na:=1) (nt:=53) (nx:=1) (Lh:=[0,1,2,3,8,9]) (Le:=[0,1,2,3,8]) (gl:=[]) (tc k64 tn) A6 As rfl (fun f (g,i,l,j,d,b,a) K=>GG ax (e111c64_2 g i l j b) K (l111c64_2 g i l j b f d a)) (fun (g,i,l,j,d,b,a)=>[.gr 0 3 g,V Z i,V Z l,.fn 64 [],V Z j,V Z d]) (fun (g,i,l,j,d,b,a)=>[.row 73 [.str,.str,W Z] b a]) (fun (_,_,_,_,_,_,_) K=>Au) ?_ ?_
 .rintro f ⟨g,i,l,j,d,b,a⟩ K hG
  refine ro (fun R => 
 let a0:=((Z.wrap (d - 1)).toNat)
 let b0:=(aq (0<=Z.wrap (d - 1)/\Z.wrap (d - 1)<(g:Int)))
 let c0:=(cond (aq (i<d)) az aj)
 let d0:=(aq (0<=d/\d<↑g))
 (cnd (bif c0 then aj else d0)
 (cnd (bif c0 then aj else (aq (d.toNat<b)))
 (cnd (bif c0 then aj else b0)
 (cnd (bif c0 then aj else (aq (a0<b)))
 (cnd (bif (aq (i<d)) then (aq ((m64 (a.ss d.toNat 0) (a.ss d.toNat 1) (a.ii d.toNat 2) (a.ss a0 0) (a.ss a0 1) (a.ii a0 2))<0)) else az)
 (cnd b0
 (cnd (aq (a0<b))
 (cnd d0
 (cnd (aq (d.toNat<b))
 (cnd d0
 (cnd (aq (d.toNat<b))
 (cnd b0
 (cnd (aq (a0<b))
 (R (XE.normal) [.gr 0 3 g,V Z i,V Z l,.fn 64 [],V Z j,V Z (Z.wrap (d - 1))] [.row 73 [.str,.str,W Z] b ((a.upd d.toNat 0 [SV.str (a.ss a0 0),SV.str (a.ss a0 1),V Z (a.ii a0 2)]).upd a0 0 [SV.str (a.ss d.toNat 0),SV.str (a.ss d.toNat 1),V Z (a.ii d.toNat 2)])])
       False)
       False)
      False)
      False)
     False)
     False)
    False)
    False)
 (R (XE.exit 2) [.gr 0 3 g,V Z i,V Z l,.fn 64 [],V Z j] [.row 73 [.str,.str,W Z] b a]))
   False)
  False)
  False)
 False)) (fun R=>by kernel_rfl) ?_
  exact cg hG fun h0=>cg h0 fun h1=>cg h1 fun h2=>cg h2 fun h3=>ch h3 (fun h4=>cg h4 fun h5=>cg h5 fun h6=>cg h6 fun h7=>cg h7 fun h8=>cg h8 fun h9=>cg h9 fun h10=>cg h10 fun h11=>cg h11 fun h12=>⟨(_,_,_,_,_,_,_),rfl,rfl,h12⟩) (fun h4=>h4.2)
 .intro s k h
  unfold g111c64_2 at h
  split at h <;> try exact h.elim
  rename_i e1
  rw [Ac] at h
  exact ⟨_,e1,_,(_,_,_,_,_,_,_),rfl,rfl,h.1 _ (List.mem_singleton.2 rfl),h.2⟩
def l111c64_0(g:Nat)(i l:Int)(b:Nat):Nat->Int->Dat->Option (Dat)
 | 0,_,_=>aw
 | f+1,j,a=>(cond (aq (j<l)) (cond ((o111c64_2 g i l j b j a).isSome) (l111c64_0 g i l b f (Z.wrap (j+1)) ((o111c64_2 g i l j b j a).getD ax)) aw) (ak a))
abbrev o111c64_0(g:Nat)(i l:Int)(b:Nat)(j:Int)(a:Dat):Option (Dat):=l111c64_0 g i l b (g+i.toNat+l.toNat+j.toNat+b+8) j a
def e111c64_0(g:Nat)(i l:Int)(b:Nat)(r:Dat)(K:XR):Prop:=K (XE.exit 0) [] [.row 73 [.str,.str,W Z] b r]
def g111c64_0:AX:=fun s k=>match czv 1 53 [0,1,2,3,8] 1 [] s with
 | ak ([.gr 0 3 g,V Z i,V Z l,.fn 64 [],V Z j],[.row 73 [.str,.str,W Z] b a])=>Ay [(o111c64_0 g i l b j a).isSome] (e111c64_0 g i l b ((o111c64_0 g i l b j a).getD ax) fun e vs bs=>AL 0 k e (Aq 1 53 [] vs 1 bs))
 | _=>False
theorem z111c64_0:LOk Tryz.prog g111c64_0 (.block 0 (Ad (Tryz.f111.body.getD .skip) 0)):=by
 refine lb (ι:=Nat × Int × Int × Int × Nat × Dat) (fuel:=8) (na:=1) (nt:=53) (nx:=1) (Lh:=[0,1,2,3,8]) (Le:=[]) (gl:=[]) (tc k64 tn) A6 (AD rfl (lc z111c64_2 ln)) rfl (fun f (g,i,l,j,b,a) K=>GG ax (e111c64_0 g i l b) K (l111c64_0 g i l b f j a)) (fun (g,i,l,j,b,a)=>[.gr 0 3 g,V Z i,V Z l,.fn 64 [],V Z j]) (fun (g,i,l,j,b,a)=>[.row 73 [.str,.str,W Z] b a]) (fun (_,_,_,_,_,_) K=>Au) ?_ ?_
 .rintro f ⟨g,i,l,j,b,a⟩ K hG
  refine ro (fun R=>(cnd (aq (j<l))
 (cnd ((o111c64_2 g i l j b j a).isSome)
 (R (XE.normal) [.gr 0 3 g,V Z i,V Z l,.fn 64 [],V Z (Z.wrap (j+1))] [.row 73 [.str,.str,W Z] b ((o111c64_2 g i l j b j a).getD ax)])
  False)
 (R (XE.exit 0) [] [.row 73 [.str,.str,W Z] b a]))) (fun R=>by kernel_rfl) ?_
  exact ch hG (fun h0=>cg h0 fun h1=>⟨(_,_,_,_,_,_),rfl,rfl,h1⟩) (fun h0=>h0.2)
 .intro s k h
  unfold g111c64_0 at h
  split at h <;> try exact h.elim
  rename_i e1
  rw [Ac] at h
  exact ⟨_,e1,_,(_,_,_,_,_,_),rfl,rfl,h.1 _ (List.mem_singleton.2 rfl),h.2⟩
def m111c64(m ma0:Nat)(n:Dat)(o p:Int):Nat × Dat :=
 (ma0,((o111c64_0 m o p ma0 (Z.wrap (o+1)) n).getD ax))
def n111c64(m ma0:Nat)(n:Dat)(o p:Int):Bool :=
 (((o111c64_0 m o p ma0 (Z.wrap (o+1)) n).isSome)&&aj)
def q111c64(r:Nat × Dat):SV × List Blk × List Blk:=(.tup [],[.row 73 [.str,.str,W Z] r.1 r.2],[])
def g111c64:GF:=fun vs bs=>match vs,bs with
 | [.gr 0 3 m,V Z o,V Z p,.fn 64 []],[.row 73 [.str,.str,W Z] ma0 n]=>ak (rs 1 (q111c64 (m111c64 m ma0 n o p)) [n111c64 m ma0 n o p])
 | _,_=>aw
def c111c64:Ctr:=AA [.gr 73 [.str,.str,W Z],.k,.k,.f []] g111c64
theorem k111c64:Ag Tryz.prog c111c64 111:=cx (tc k64 tn) A6 8 (fn:=Tryz.f111) (c:=(Tryz.f111.body.getD .skip)) (grs:=[]) (rh:=.k) Tryz.func111 rfl (by kernel_rfl) (AD rfl (lc z111c64_2 (lc z111c64_0 ln))) fun vs bs q h hn=>by
 unfold g111c64 at h
 split at h <;> cases h
 rename_i m o p ma0 n
 have hn:=n1 hn
 exact ⟨_,rfl,ca (fun R=>(cnd ((o111c64_0 m o p ma0 (Z.wrap (o+1)) n).isSome)
 (R (.tup []) [.row 73 [.str,.str,W Z] ma0 ((o111c64_0 m o p ma0 (Z.wrap (o+1)) n).getD ax)] [])
 False)) (fun R=>by kernel_rfl) (cn (al hn) (lf rfl rfl))⟩

/-! ### slices.pdqsortCmpFunc[shotline/kit.batch] -/
def m109c86(a ma0:Nat)(b:Dat)(d e g:Int):Nat × Dat :=
 ((m129c86 a ma0 b d e).1,(m129c86 a ma0 b d e).2)
def n109c86(a ma0:Nat)(b:Dat)(d e g:Int):Bool :=
 ((aq ((Z.wrap (e - d))<=12))&&((n129c86 a ma0 b d e)&&aj))
def q109c86(r:Nat × Dat):SV × List Blk × List Blk:=(.tup [],[.row 156 [W Z,W Z] r.1 r.2],[])
def g109c86:GF:=fun vs bs=>match vs,bs with
 | [.gr 0 2 a,V Z d,V Z e,V Z g,.fn 86 []],[.row 156 [W Z,W Z] ma0 b]=>ak (rs 1 (q109c86 (m109c86 a ma0 b d e g)) [n109c86 a ma0 b d e g])
 | _,_=>aw
def c109c86:Ctr:=AA [.gr 156 [W Z,W Z],.k,.k,.k,.f []] g109c86
theorem k109c86:Ag Tryz.prog c109c86 109:=cx (tc k86 (tc k129c86 tn)) A6 8 (fn:=Tryz.f109) (c:=(Tryz.f109.body.getD .skip)) (grs:=[]) (rh:=.k) Tryz.func109 rfl (by kernel_rfl) As fun vs bs q h hn=>by
 unfold g109c86 at h
 split at h <;> cases h
 rename_i a d e g ma0 b
 have hn:=n1 hn
 exact ⟨_,rfl,ca (fun R=>(cnd (aq ((Z.wrap (e - d))<=12))
 (cnd (n129c86 a ma0 b d e)
 (R (.tup []) [.row 156 [W Z,W Z] (m129c86 a ma0 b d e).1 (m129c86 a ma0 b d e).2] [])
  False)
 (cnd (aq (g=0))
  False
  False))) (fun R=>by kernel_rfl) (co (fun _=>cn (al (ar hn)) (lf rfl rfl)) (fun h0=>(Bool.false_ne_true (h0.symm.trans (al hn))).elim))⟩
/-! ### slices.stableCmpFunc[shotline/api.KitDue] -/
def l90c64_0(i:Nat)(g j:Int):Nat->Int->Int->Nat->Dat->Option (Int × Nat × Dat)
 | 0,_,_,_,_=>aw
 | f+1,o,n,a,b=>(cond (aq (n<=g)) (cond (n111c64 i a b o n) (l90c64_0 i g j f n (Z.wrap (n+j)) (m111c64 i a b o n).1 (m111c64 i a b o n).2) aw) (ak (o,a,b)))
abbrev o90c64_0(i:Nat)(g j o n:Int)(a:Nat)(b:Dat):Option (Int × Nat × Dat):=l90c64_0 i g j (i+g.toNat+j.toNat+o.toNat+n.toNat+a+8) o n a b
def e90c64_0(i:Nat)(g j:Int)(r:Int × Nat × Dat)(K:XR):Prop:=K (XE.exit 0) [.gr 0 3 i,V Z g,.fn 64 [],V Z j,V Z r.1] [.row 73 [.str,.str,W Z] r.2.1 r.2.2]
def g90c64_0:AX:=fun s k=>match czv 1 63 [0,1,2,6,7,8] 1 [] s with
 | ak ([.gr 0 3 i,V Z g,.fn 64 [],V Z j,V Z o,V Z n],[.row 73 [.str,.str,W Z] a b])=>Ay [(o90c64_0 i g j o n a b).isSome] (e90c64_0 i g j ((o90c64_0 i g j o n a b).getD ax) fun e vs bs=>AL 0 k e (Aq 1 63 [0,1,2,6,7] vs 1 bs))
 | _=>False
theorem z90c64_0:LOk Tryz.prog g90c64_0 (.block 0 (Ad (Tryz.f90.body.getD .skip) 0)):=by
 refine lb (ι:=Nat × Int × Int × Int × Int × Nat × Dat) (fuel:=8) (na:=1) (nt:=63) (nx:=1) (Lh:=[0,1,2,6,7,8]) (Le:=[0,1,2,6,7]) (gl:=[]) (tc k64 (tc k111c64 tn)) A6 As rfl (fun f (i,g,j,o,n,a,b) K=>GG ax (e90c64_0 i g j) K (l90c64_0 i g j f o n a b)) (fun (i,g,j,o,n,a,b)=>[.gr 0 3 i,V Z g,.fn 64 [],V Z j,V Z o,V Z n]) (fun (i,g,j,o,n,a,b)=>[.row 73 [.str,.str,W Z] a b]) (fun (_,_,_,_,_,_,_) K=>Au) ?_ ?_
 .rintro f ⟨i,g,j,o,n,a,b⟩ K hG
  refine ro (fun R=>(cnd (aq (n<=g))
 (cnd (n111c64 i a b o n)
 (R (XE.normal) [.gr 0 3 i,V Z g,.fn 64 [],V Z j,V Z n,V Z (Z.wrap (n+j))] [.row 73 [.str,.str,W Z] (m111c64 i a b o n).1 (m111c64 i a b o n).2])
  False)
 (R (XE.exit 0) [.gr 0 3 i,V Z g,.fn 64 [],V Z j,V Z o] [.row 73 [.str,.str,W Z] a b]))) (fun R=>by kernel_rfl) ?_
  exact ch hG (fun h0=>cg h0 fun h1=>⟨(_,_,_,_,_,_,_),rfl,rfl,h1⟩) (fun h0=>h0.2)
 .intro s k h
  unfold g90c64_0 at h
  split at h <;> try exact h.elim
  rename_i e1
  rw [Ac] at h
  exact ⟨_,e1,_,(_,_,_,_,_,_,_),rfl,rfl,h.1 _ (List.mem_singleton.2 rfl),h.2⟩
def l90c64_4(i:Nat)(g j o n:Int)(a:Nat)(b:Dat):Nat->Option (Unit)
 | 0=>aw
 | f+1=>(cond (aq (n<=g)) aw (ak ()))
abbrev o90c64_4(i:Nat)(g j o n:Int)(a:Nat)(b:Dat):Option (Unit):=l90c64_4 i g j o n a b (i+g.toNat+j.toNat+o.toNat+n.toNat+a+8) 
def e90c64_4(i:Nat)(g j o n:Int)(a:Nat)(b:Dat)(r:Unit)(K:XR):Prop:=K (XE.exit 4) [.gr 0 3 i,V Z g,.fn 64 [],V Z j,V Z o] [.row 73 [.str,.str,W Z] a b]
def g90c64_4:AX:=fun s k=>match czv 1 63 [0,1,2,6,7,8] 1 [] s with
 | ak ([.gr 0 3 i,V Z g,.fn 64 [],V Z j,V Z o,V Z n],[.row 73 [.str,.str,W Z] a b])=>Ay [(o90c64_4 i g j o n a b ).isSome] (e90c64_4 i g j o n a b ((o90c64_4 i g j o n a b ).getD ax) fun e vs bs=>AL 4 k e (Aq 1 63 [0,1,2,6,7] vs 1 bs))
 | _=>False
theorem z90c64_4:LOk Tryz.prog g90c64_4 (.block 4 (Ad (Tryz.f90.body.getD .skip) 4)):=by
 refine lb (ι:=Nat × Int × Int × Int × Int × Nat × Dat) (fuel:=8) (na:=1) (nt:=63) (nx:=1) (Lh:=[0,1,2,6,7,8]) (Le:=[0,1,2,6,7]) (gl:=[]) (tc k64 (tc k111c64 tn)) A6 (AD rfl (lc z90c64_0 ln)) rfl (fun f (i,g,j,o,n,a,b) K=>GG ax (e90c64_4 i g j o n a b) K (l90c64_4 i g j o n a b f )) (fun (i,g,j,o,n,a,b)=>[.gr 0 3 i,V Z g,.fn 64 [],V Z j,V Z o,V Z n]) (fun (i,g,j,o,n,a,b)=>[.row 73 [.str,.str,W Z] a b]) (fun (_,_,_,_,_,_,_) K=>Au) ?_ ?_
 .rintro f ⟨i,g,j,o,n,a,b⟩ K hG
  refine ro (fun R=>(cnd (aq (n<=g))
 False
 (R (XE.exit 4) [.gr 0 3 i,V Z g,.fn 64 [],V Z j,V Z o] [.row 73 [.str,.str,W Z] a b]))) (fun R=>by kernel_rfl) ?_
  exact ch hG (fun h0=>absurd h0 Au) (fun h0=>h0.2)
 .intro s k h
  unfold g90c64_4 at h
  split at h <;> try exact h.elim
  rename_i e1
  rw [Ac] at h
  exact ⟨_,e1,_,(_,_,_,_,_,_,_),rfl,rfl,h.1 _ (List.mem_singleton.2 rfl),h.2⟩
def l90c64_2(i:Nat)(g:Int)(a:Nat)(b:Dat):Nat->Int->Option (Unit)
 | 0,_=>aw
 | f+1,j=>(cond (aq (j<g)) (cond ((o90c64_4 i g j 0 (Z.wrap (2 * j)) a b).isSome) (cond (aq ((Z.wrap (0+j))<g)) aw (l90c64_2 i g a b f (Z.wrap (j * 2)))) aw) (ak ()))
abbrev o90c64_2(i:Nat)(g:Int)(a:Nat)(b:Dat)(j:Int):Option (Unit):=l90c64_2 i g a b (i+g.toNat+j.toNat+a+8) j
def e90c64_2(i:Nat)(g:Int)(a:Nat)(b:Dat)(r:Unit)(K:XR):Prop:=K (XE.exit 2) [] [.row 73 [.str,.str,W Z] a b]
def g90c64_2:AX:=fun s k=>match czv 1 63 [0,1,2,6] 1 [] s with
 | ak ([.gr 0 3 i,V Z g,.fn 64 [],V Z j],[.row 73 [.str,.str,W Z] a b])=>Ay [(o90c64_2 i g a b j).isSome] (e90c64_2 i g a b ((o90c64_2 i g a b j).getD ax) fun e vs bs=>AL 2 k e (Aq 1 63 [] vs 1 bs))
 | _=>False
theorem z90c64_2:LOk Tryz.prog g90c64_2 (.block 2 (Ad (Tryz.f90.body.getD .skip) 2)):=by
 refine lb (ι:=Nat × Int × Int × Nat × Dat) (fuel:=8) (na:=1) (nt:=63) (nx:=1) (Lh:=[0,1,2,6]) (Le:=[]) (gl:=[]) (tc k64 (tc k111c64 tn)) A6 (AD rfl (lc z90c64_0 (lc z90c64_4 ln))) rfl (fun f (i,g,j,a,b) K=>GG ax (e90c64_2 i g a b) K (l90c64_2 i g a b f j)) (fun (i,g,j,a,b)=>[.gr 0 3 i,V Z g,.fn 64 [],V Z j]) (fun (i,g,j,a,b)=>[.row 73 [.str,.str,W Z] a b]) (fun (_,_,_,_,_) K=>Au) ?_ ?_
 .rintro f ⟨i,g,j,a,b⟩ K hG
  refine ro (fun R=>(cnd (aq (j<g))
 (cnd ((o90c64_4 i g j 0 (Z.wrap (2 * j)) a b).isSome)
 (cnd (aq ((Z.wrap (0+j))<g))
  False
 (R (XE.normal) [.gr 0 3 i,V Z g,.fn 64 [],V Z (Z.wrap (j * 2))] [.row 73 [.str,.str,W Z] a b]))
  False)
 (R (XE.exit 2) [] [.row 73 [.str,.str,W Z] a b]))) (fun R=>by kernel_rfl) ?_
  exact ch hG (fun h0=>cg h0 fun h1=>ch h1 (fun h2=>absurd h2 Au) (fun h2=>⟨(_,_,_,_,_),rfl,rfl,h2⟩)) (fun h0=>h0.2)
 .intro s k h
  unfold g90c64_2 at h
  split at h <;> try exact h.elim
  rename_i e1
  rw [Ac] at h
  exact ⟨_,e1,_,(_,_,_,_,_),rfl,rfl,h.1 _ (List.mem_singleton.2 rfl),h.2⟩
def m90c64(d ma0:Nat)(l:Dat)(m:Int):Nat × Dat :=
 ((m111c64 d ((o90c64_0 d m 20 0 20 ma0 l).getD ax).2.1 ((o90c64_0 d m 20 0 20 ma0 l).getD ax).2.2 ((o90c64_0 d m 20 0 20 ma0 l).getD ax).1 m).1,(m111c64 d ((o90c64_0 d m 20 0 20 ma0 l).getD ax).2.1 ((o90c64_0 d m 20 0 20 ma0 l).getD ax).2.2 ((o90c64_0 d m 20 0 20 ma0 l).getD ax).1 m).2)
def n90c64(d ma0:Nat)(l:Dat)(m:Int):Bool :=
 (((o90c64_0 d m 20 0 20 ma0 l).isSome)&&((n111c64 d ((o90c64_0 d m 20 0 20 ma0 l).getD ax).2.1 ((o90c64_0 d m 20 0 20 ma0 l).getD ax).2.2 ((o90c64_0 d m 20 0 20 ma0 l).getD ax).1 m)&&(((o90c64_2 d m (m111c64 d ((o90c64_0 d m 20 0 20 ma0 l).getD ax).2.1 ((o90c64_0 d m 20 0 20 ma0 l).getD ax).2.2 ((o90c64_0 d m 20 0 20 ma0 l).getD ax).1 m).1 (m111c64 d ((o90c64_0 d m 20 0 20 ma0 l).getD ax).2.1 ((o90c64_0 d m 20 0 20 ma0 l).getD ax).2.2 ((o90c64_0 d m 20 0 20 ma0 l).getD ax).1 m).2 20).isSome)&&aj)))
def q90c64(r:Nat × Dat):SV × List Blk × List Blk:=(.tup [],[.row 73 [.str,.str,W Z] r.1 r.2],[])
def g90c64:GF:=fun vs bs=>match vs,bs with
 | [.gr 0 3 d,V Z m,.fn 64 []],[.row 73 [.str,.str,W Z] ma0 l]=>ak (rs 1 (q90c64 (m90c64 d ma0 l m)) [n90c64 d ma0 l m])
 | _,_=>aw
def c90c64:Ctr:=AA [.gr 73 [.str,.str,W Z],.k,.f []] g90c64
theorem k90c64:Ag Tryz.prog c90c64 90:=cx (tc k64 (tc k111c64 tn)) A6 8 (fn:=Tryz.f90) (c:=(Tryz.f90.body.getD .skip)) (grs:=[]) (rh:=.k) Tryz.func90 rfl (by kernel_rfl) (AD rfl (lc z90c64_0 (lc z90c64_4 (lc z90c64_2 ln)))) fun vs bs q h hn=>by
 unfold g90c64 at h
 split at h <;> cases h
 rename_i d m ma0 l
 have hn:=n1 hn
 exact ⟨_,rfl,ca (fun R => 
 let a0:=((o90c64_0 d m 20 0 20 ma0 l).getD ax)
 let b0:=(m111c64 d a0.2.1 a0.2.2 a0.1 m)
 (cnd ((o90c64_0 d m 20 0 20 ma0 l).isSome)
 (cnd (n111c64 d a0.2.1 a0.2.2 a0.1 m)
 (cnd ((o90c64_2 d m b0.1 b0.2 20).isSome)
 (R (.tup []) [.row 73 [.str,.str,W Z] b0.1 b0.2] [])
  False)
  False)
 False)) (fun R=>by kernel_rfl) (cn (al hn) (cn (al (ar hn)) (cn (al (ar (ar hn))) (lf rfl rfl))))⟩

/-! ### slices.SortFunc[[]shotline/kit.batch,shotline/kit.batch] -/
def m85c86(a ma0:Nat)(b:Dat):Nat × Dat :=
 ((m109c86 a ma0 b 0 (a:Int) (m110 (IntKind.u64.wrap (a:Int)))).1,(m109c86 a ma0 b 0 (a:Int) (m110 (IntKind.u64.wrap (a:Int)))).2)
def n85c86(a ma0:Nat)(b:Dat):Bool :=
 ((n110 (IntKind.u64.wrap (a:Int)))&&((n109c86 a ma0 b 0 (a:Int) (m110 (IntKind.u64.wrap (a:Int))))&&aj))
def q85c86(r:Nat × Dat):SV × List Blk × List Blk:=(.tup [],[.row 156 [W Z,W Z] r.1 r.2],[])
def g85c86:GF:=fun vs bs=>match vs,bs with
 | [.gr 0 2 a,.fn 86 []],[.row 156 [W Z,W Z] ma0 b]=>ak (rs 1 (q85c86 (m85c86 a ma0 b)) [n85c86 a ma0 b])
 | _,_=>aw
def c85c86:Ctr:=AA [.gr 156 [W Z,W Z],.f []] g85c86
theorem k85c86:Ag Tryz.prog c85c86 85:=cx (tc k86 (tc k109c86 (tc k110 tn))) A6 8 (fn:=Tryz.f85) (c:=(Tryz.f85.body.getD .skip)) (grs:=[]) (rh:=.k) Tryz.func85 rfl (by kernel_rfl) As fun vs bs q h hn=>by
 unfold g85c86 at h
 split at h <;> cases h
 rename_i a ma0 b
 have hn:=n1 hn
 exact ⟨_,rfl,ca (fun R=>(cnd (n110 (IntKind.u64.wrap (a:Int)))
 (cnd (n109c86 a ma0 b 0 (a:Int) (m110 (IntKind.u64.wrap (a:Int))))
 (R (.tup []) [.row 156 [W Z,W Z] (m109c86 a ma0 b 0 (a:Int) (m110 (IntKind.u64.wrap (a:Int)))).1 (m109c86 a ma0 b 0 (a:Int) (m110 (IntKind.u64.wrap (a:Int)))).2] [])
  False)
 False)) (fun R=>by kernel_rfl) (cn (al hn) (cn (al (ar hn)) (lf rfl rfl)))⟩
/-! ### slices.SortStableFunc[[]shotline/api.KitDue,shotline/api.KitDue] -/
def m63c64(a ma0:Nat)(b:Dat):Nat × Dat :=
 ((m90c64 a ma0 b (a:Int)).1,(m90c64 a ma0 b (a:Int)).2)
def n63c64(a ma0:Nat)(b:Dat):Bool :=
 ((n90c64 a ma0 b (a:Int))&&aj)
def q63c64(r:Nat × Dat):SV × List Blk × List Blk:=(.tup [],[.row 73 [.str,.str,W Z] r.1 r.2],[])
def g63c64:GF:=fun vs bs=>match vs,bs with
 | [.gr 0 3 a,.fn 64 []],[.row 73 [.str,.str,W Z] ma0 b]=>ak (rs 1 (q63c64 (m63c64 a ma0 b)) [n63c64 a ma0 b])
 | _,_=>aw
def c63c64:Ctr:=AA [.gr 73 [.str,.str,W Z],.f []] g63c64
theorem k63c64:Ag Tryz.prog c63c64 63:=cx (tc k64 (tc k90c64 tn)) A6 8 (fn:=Tryz.f63) (c:=(Tryz.f63.body.getD .skip)) (grs:=[]) (rh:=.k) Tryz.func63 rfl (by kernel_rfl) As fun vs bs q h hn=>by
 unfold g63c64 at h
 split at h <;> cases h
 rename_i a ma0 b
 have hn:=n1 hn
 exact ⟨_,rfl,ca (fun R=>(cnd (n90c64 a ma0 b (a:Int))
 (R (.tup []) [.row 73 [.str,.str,W Z] (m90c64 a ma0 b (a:Int)).1 (m90c64 a ma0 b (a:Int)).2] [])
 False)) (fun R=>by kernel_rfl) (cn (al hn) (lf rfl rfl))⟩

end
end Go.Proofs.YtdcdjjogieojhaaGreatDoor
