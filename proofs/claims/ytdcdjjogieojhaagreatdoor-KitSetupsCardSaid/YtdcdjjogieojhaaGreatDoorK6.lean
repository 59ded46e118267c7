/-
 Contracts of functions: models, equations by the kernel, contracts. Conditions: none.
-/
import Derived.Test.YtdcdjjogieojhaaGreatDoorK5
import Derived.KernelRfl
set_option linter.unusedVariables false
set_option linter.unusedSimpArgs false
set_option linter.unusedSectionVars false
namespace Go.Proofs.YtdcdjjogieojhaaGreatDoor
open Go Go.Sy
noncomputable section
set_option maxRecDepth 100000
set_option maxHeartbeats 2000000
attribute [local irreducible] Go.IntKind.wrap Int.tdiv Int.tmod Int.fdiv
attribute [local instance 2000] Go.Sy.G0
open Go.Sy renaming B8->tc,AM->tn,AH->cn,GV->lf,IA->cg,GA->ch,AC->cf,IB->ct,Df->co,Iw->ca,roundOf->ro,GB->nn,El->lc,Fk->ln,FY->cT,Cs->cF,J7->n1,Bl->rs,CE->al,Al->ar,M6->og,ID->cx,Fo->lb
open Go.IntKind renaming i64->Z
open Go.Sy.SV renaming int->V
open Go.Sy.Kd renaming int->W
open Decidable renaming decide->aq
open Inhabited renaming default->ax
open Bool renaming false->az,true->aj
open Option renaming none->ak
/-! ### shotline/kit.Usable -/
def m24(b:Nat)(d:Dat)(e:Nat)(g:Dat)(i:Nat)(j:Dat)(l:BA)(m:Int):Bool × Nat × Dat × Int :=
 (cond (cond (aq ((m56 b d e g i j).2.2.2=0)) az aj) (az,0,A3,(m56 b d e g i j).2.2.2) (cond (cond (m61 (m56 b d e g i j).2.1 l).1 az aj) (az,0,A3,6) (cond (cond (m48 m) az aj) (az,0,A3,2) (cond (aq (m<((m56 b d e g i j).2.1.ii 0 3))) (az,0,A3,19) ((aq ((((m62 (m56 b d e g i j).2.1 (m61 (m56 b d e g i j).2.1 l).2 m).1):Int)=0)),(m62 (m56 b d e g i j).2.1 (m61 (m56 b d e g i j).2.1 l).2 m).1,(m62 (m56 b d e g i j).2.1 (m61 (m56 b d e g i j).2.1 l).2 m).2,0)))))
def n24(b:Nat)(d:Dat)(e:Nat)(g:Dat)(i:Nat)(j:Dat)(l:BA)(m:Int):Bool :=
 ((n56 b d e g i j)&&(cond (cond (aq ((m56 b d e g i j).2.2.2=0)) az aj) aj ((m56 b d e g i j).1&&((n61 (m56 b d e g i j).2.1 l)&&(cond (cond (m61 (m56 b d e g i j).2.1 l).1 az aj) aj (cond (cond (m48 m) az aj) aj ((m56 b d e g i j).1&&(cond (aq (m<((m56 b d e g i j).2.1.ii 0 3))) aj ((m56 b d e g i j).1&&((m61 (m56 b d e g i j).2.1 l).1&&((n62 (m56 b d e g i j).2.1 (m61 (m56 b d e g i j).2.1 l).2 m)&&aj)))))))))))
def q24(r:Bool × Nat × Dat × Int):SV × List Blk × List Blk:=(.tup [.bool r.1,.ro [W Z,.str,.str,W Z] r.2.1 r.2.2.1,V Z r.2.2.2],[],[])
def g24:GF:=fun vs bs=>match vs,bs with
 | [.agg [.ro [.str,W Z,W Z] b d,.ro [.str,W Z,W Z,W Z] e g],.ro [W Z,W Z,.str,.str,.str,.bool] i j,.agg [.str l,V Z m]],[]=>some (rs 0 (q24 (m24 b d e g i j l m)) [n24 b d e g i j l m])
 | _,_=>ak
def c24:Ctr:=AA [.a [.ro [.str,W Z,W Z],.ro [.str,W Z,W Z,W Z]],.ro [W Z,W Z,.str,.str,.str,.bool],.k] g24
theorem k24:Ag Tryz.prog c24 24:=cx (tc k56 (tc k61 (tc k48 (tc k62 tn)))) A6 8 (fn:=Tryz.f24) (c:=(Tryz.f24.body.getD .skip)) (grs:=[]) (rh:=.t [.k,.ro [W Z,.str,.str,W Z],.k]) Tryz.func24 rfl (by kernel_rfl) As fun vs bs q h hn=>by
 unfold g24 at h
 split at h <;> cases h
 rename_i b d e g i j l m
 have hn:=n1 hn
 exact ⟨_,rfl,ca (fun R => 
 let a0:=(m61 (m56 b d e g i j).2.1 l)
 let b0:=(m62 (m56 b d e g i j).2.1 a0.2 m)
 (cnd (n56 b d e g i j)
 (cnd (cond (aq ((m56 b d e g i j).2.2.2=0)) az aj)
 (R (.tup [.bool az,.ro [W Z,.str,.str,W Z] 0 A3,V Z (m56 b d e g i j).2.2.2]) [] [])
 (cnd (m56 b d e g i j).1
 (cnd (n61 (m56 b d e g i j).2.1 l)
 (cnd (cond a0.1 az aj)
 (R (.tup [.bool az,.ro [W Z,.str,.str,W Z] 0 A3,V Z 6]) [] [])
 (cnd (cond (m48 m) az aj)
 (R (.tup [.bool az,.ro [W Z,.str,.str,W Z] 0 A3,V Z 2]) [] [])
 (cnd (m56 b d e g i j).1
 (cnd (aq (m<((m56 b d e g i j).2.1.ii 0 3)))
 (R (.tup [.bool az,.ro [W Z,.str,.str,W Z] 0 A3,V Z 19]) [] [])
 (cnd (m56 b d e g i j).1
 (cnd a0.1
 (cnd (n62 (m56 b d e g i j).2.1 a0.2 m)
 (R (.tup [.bool (aq (((b0.1):Int)=0)),.ro [W Z,.str,.str,W Z] b0.1 b0.2,V Z 0]) [] [])
      False)
      False)
     False))
    False)))
   False)
  False))
 False)) (fun R=>by kernel_rfl) (cn (al hn) (co (fun h0=>lf (cT h0 rfl) rfl) (fun h0=>cn (al (cf h0 (ar hn))) (cn (al (ar (cf h0 (ar hn)))) (co (fun h1=>lf (cF h0 (cT h1 rfl)) rfl) (fun h1=>co (fun h2=>lf (cF h0 (cF h1 (cT h2 rfl))) rfl) (fun h2=>cn (al (cf h2 (cf h1 (ar (ar (cf h0 (ar hn))))))) (co (fun h3=>lf (cF h0 (cF h1 (cF h2 (cT h3 rfl)))) rfl) (fun h3=>cn (al (cf h3 (ar (cf h2 (cf h1 (ar (ar (cf h0 (ar hn))))))))) (cn (al (ar (cf h3 (ar (cf h2 (cf h1 (ar (ar (cf h0 (ar hn)))))))))) (cn (al (ar (ar (cf h3 (ar (cf h2 (cf h1 (ar (ar (cf h0 (ar hn))))))))))) (lf (cF h0 (cF h1 (cF h2 (cF h3 rfl)))) rfl))))))))))))⟩
/-! ### shotline/kit.Quarantined -/
def m21(b:Nat)(d:Dat)(e:Nat)(g:Dat)(i:Nat)(j:Dat):Nat × Dat × Int :=
 (cond (cond (aq ((m56 b d e g i j).2.2.2=0)) az aj) (0,A3,(m56 b d e g i j).2.2.2) ((m57c58 (m56 b d e g i j).2.1 (C3 [SV.rp [Kd.sl [Kd.str,Kd.int Z,Kd.int Z],Kd.sl [Kd.str,Kd.int Z,Kd.int Z,Kd.int Z],Kd.sl [Kd.pt [Kd.str,Kd.int Z,Kd.int Z,Kd.mi [Kd.int Z,Kd.int Z,Kd.bool],Kd.mb,Kd.mb,Kd.int Z,Kd.bool,Kd.m1]],Kd.int Z] (m56 b d e g i j).2.1 0 0])).1,(m57c58 (m56 b d e g i j).2.1 (C3 [SV.rp [Kd.sl [Kd.str,Kd.int Z,Kd.int Z],Kd.sl [Kd.str,Kd.int Z,Kd.int Z,Kd.int Z],Kd.sl [Kd.pt [Kd.str,Kd.int Z,Kd.int Z,Kd.mi [Kd.int Z,Kd.int Z,Kd.bool],Kd.mb,Kd.mb,Kd.int Z,Kd.bool,Kd.m1]],Kd.int Z] (m56 b d e g i j).2.1 0 0])).2.2,0))
def n21(b:Nat)(d:Dat)(e:Nat)(g:Dat)(i:Nat)(j:Dat):Bool :=
 ((n56 b d e g i j)&&(cond (cond (aq ((m56 b d e g i j).2.2.2=0)) az aj) aj ((m56 b d e g i j).1&&((m56 b d e g i j).1&&((n57c58 (m56 b d e g i j).2.1 (C3 [SV.rp [Kd.sl [Kd.str,Kd.int Z,Kd.int Z],Kd.sl [Kd.str,Kd.int Z,Kd.int Z,Kd.int Z],Kd.sl [Kd.pt [Kd.str,Kd.int Z,Kd.int Z,Kd.mi [Kd.int Z,Kd.int Z,Kd.bool],Kd.mb,Kd.mb,Kd.int Z,Kd.bool,Kd.m1]],Kd.int Z] (m56 b d e g i j).2.1 0 0]))&&((aq ((0+(m57c58 (m56 b d e g i j).2.1 (C3 [SV.rp [Kd.sl [Kd.str,Kd.int Z,Kd.int Z],Kd.sl [Kd.str,Kd.int Z,Kd.int Z,Kd.int Z],Kd.sl [Kd.pt [Kd.str,Kd.int Z,Kd.int Z,Kd.mi [Kd.int Z,Kd.int Z,Kd.bool],Kd.mb,Kd.mb,Kd.int Z,Kd.bool,Kd.m1]],Kd.int Z] (m56 b d e g i j).2.1 0 0])).1)<=(m57c58 (m56 b d e g i j).2.1 (C3 [SV.rp [Kd.sl [Kd.str,Kd.int Z,Kd.int Z],Kd.sl [Kd.str,Kd.int Z,Kd.int Z,Kd.int Z],Kd.sl [Kd.pt [Kd.str,Kd.int Z,Kd.int Z,Kd.mi [Kd.int Z,Kd.int Z,Kd.bool],Kd.mb,Kd.mb,Kd.int Z,Kd.bool,Kd.m1]],Kd.int Z] (m56 b d e g i j).2.1 0 0])).2.1))&&aj))))))
def q21(r:Nat × Dat × Int):SV × List Blk × List Blk:=(.tup [.ro [.str] r.1 r.2.1,V Z r.2.2],[],[])
def g21:GF:=fun vs bs=>match vs,bs with
 | [.agg [.ro [.str,W Z,W Z] b d,.ro [.str,W Z,W Z,W Z] e g],.ro [W Z,W Z,.str,.str,.str,.bool] i j],[]=>some (rs 0 (q21 (m21 b d e g i j)) [n21 b d e g i j])
 | _,_=>ak
def c21:Ctr:=AA [.a [.ro [.str,W Z,W Z],.ro [.str,W Z,W Z,W Z]],.ro [W Z,W Z,.str,.str,.str,.bool]] g21
theorem k21:Ag Tryz.prog c21 21:=cx (tc k56 (tc k57c58 (tc k58 tn))) A6 8 (fn:=Tryz.f21) (c:=(Tryz.f21.body.getD .skip)) (grs:=[]) (rh:=.t [.ro [.str],.k]) Tryz.func21 rfl (by kernel_rfl) As fun vs bs q h hn=>by
 unfold g21 at h
 split at h <;> cases h
 rename_i b d e g i j
 have hn:=n1 hn
 exact ⟨_,rfl,ca (fun R => 
 let a0:=(C3 [SV.rp [Kd.sl [Kd.str,Kd.int Z,Kd.int Z],Kd.sl [Kd.str,Kd.int Z,Kd.int Z,Kd.int Z],Kd.sl [Kd.pt [Kd.str,Kd.int Z,Kd.int Z,Kd.mi [Kd.int Z,Kd.int Z,Kd.bool],Kd.mb,Kd.mb,Kd.int Z,Kd.bool,Kd.m1]],Kd.int Z] (m56 b d e g i j).2.1 0 0])
 let b0:=(m57c58 (m56 b d e g i j).2.1 a0)
 (cnd (n56 b d e g i j)
 (cnd (cond (aq ((m56 b d e g i j).2.2.2=0)) az aj)
 (R (.tup [.ro [.str] 0 A3,V Z (m56 b d e g i j).2.2.2]) [] [])
 (cnd (m56 b d e g i j).1
 (cnd (m56 b d e g i j).1
 (cnd (n57c58 (m56 b d e g i j).2.1 a0)
 (cnd (aq ((0+b0.1)<=b0.2.1))
 (R (.tup [.ro [.str] b0.1 b0.2.2,V Z 0]) [] [])
    False)
   False)
   False)
  False))
 False)) (fun R=>by kernel_rfl) (cn (al hn) (co (fun h0=>lf (cT h0 rfl) rfl) (fun h0=>cn (al (cf h0 (ar hn))) (cn (al (ar (cf h0 (ar hn)))) (cn (al (ar (ar (cf h0 (ar hn))))) (cn (al (ar (ar (ar (cf h0 (ar hn)))))) (lf (cF h0 rfl) rfl)))))))⟩

/-! ### shotline/kit.Due -/
def l25_3(G:Int)(F:Dat)(n:Nat)(j:Dat)(C w:Int)(E:Nat)(A:Dat)(I:Int)(u:Nat)(v o:Dat):Nat->Nat->Int->Nat->Dat->Option (Nat × Nat × Dat)
 | 0,_,_,_,_=>ak
 | f+1,D,p,x,y=>(cond (aq (p<I)) (cond (aq (0<=p/\p<↑E)) (cond (bif (cond (cond (bif (cond (bif (aq (0<=p)) then ((F.sub 0 3).bb p.toNat 0) else az) az aj) then aj else (aq ((A.ii p.toNat 2)=0))) az aj) az aj) then aj else (bif (aq (0<=p)) then ((F.sub 0 3).bb p.toNat 0) else az)) (cond (bif (cond (cond (bif (bif (cond (bif (aq (0<=p)) then ((F.sub 0 3).bb p.toNat 0) else az) az aj) then aj else (aq ((A.ii p.toNat 2)=0))) then aj else (cond (((F.sub 0 3).sub p.toNat 1).bb 0 2) az aj)) az aj) az aj) then aj else (bif (aq (0<=p)) then ((F.sub 0 3).bb p.toNat 0) else az)) (cond (bif (bif (bif (cond (bif (aq (0<=p)) then ((F.sub 0 3).bb p.toNat 0) else az) az aj) then aj else (aq ((A.ii p.toNat 2)=0))) then aj else (cond (((F.sub 0 3).sub p.toNat 1).bb 0 2) az aj)) then aj else (aq (G<(Z.wrap ((((F.sub 0 3).sub p.toNat 1).ii 0 0)+(A.ii p.toNat 2)))))) (l25_3 G F n j C w E A I u v o f D (Z.wrap (p+1)) x y) (cond (bif (aq (0<=p)) then ((F.sub 0 3).bb p.toNat 0) else az) (cond (aq (D<=x)) (cond (aq ((D+1)<=1073741824)) (l25_3 G F n j C w E A I u v o f (D+1) (Z.wrap (p+1)) (D+1) (y.app D (Aw [SV.str (F.ss 0 0),SV.str (A.ss p.toNat 0),V Z (Z.wrap ((((F.sub 0 3).sub p.toNat 1).ii 0 0)+(A.ii p.toNat 2)))] 3))) ak) ak) ak)) ak) ak) ak) (some (D,x,y)))
abbrev o25_3(G:Int)(F:Dat)(n:Nat)(j:Dat)(C w:Int)(E:Nat)(A:Dat)(I:Int)(u:Nat)(v o:Dat)(D:Nat)(p:Int)(x:Nat)(y:Dat):Option (Nat × Nat × Dat):=l25_3 G F n j C w E A I u v o (G.toNat+D+n+C.toNat+w.toNat+E+I.toNat+p.toNat+u+x+8) D p x y
def e25_3(G:Int)(F:Dat)(n:Nat)(j:Dat)(C w:Int)(E:Nat)(A:Dat)(I:Int)(u:Nat)(v o:Dat)(r:Nat × Nat × Dat)(K:XR):Prop:=K (XE.exit 3) [V Z G,.ptr 0 0,.gr 1 3 r.1,.ro [.pt [.str,W Z,W Z,.mi [W Z,W Z,.bool],.mb,.mb,W Z,.bool,.m1]] n j,V Z C,V Z w] [.cells 25 [.ro [.str,W Z,W Z] u v,.ro [.str,W Z,W Z,W Z] E o],.row 73 [.str,.str,W Z] r.2.1 r.2.2]
def g25_3:AX:=fun s k=>match czv 0 107 [2,3,11,13,36,37,38,43,44,45] 2 [⟨aj,11,0,1,73,[.str,.str,W Z]⟩] s with
 | some ([V Z G,.ptr 0 0,.gr 1 3 D,.rp [.str,W Z,W Z,.mi [W Z,W Z,.bool],.mb,.mb,W Z,.bool,.m1] F 0 0,.ro [.pt [.str,W Z,W Z,.mi [W Z,W Z,.bool],.mb,.mb,W Z,.bool,.m1]] n j,V Z C,V Z w,.ro [.str,W Z,W Z,W Z] E A,V Z I,V Z p],[.cells 25 [.ro [.str,W Z,W Z] u v,.ro [.str,W Z,W Z,W Z] z o],.row 73 [.str,.str,W Z] x y])=>Ay [decide (E=z),(o25_3 G F n j C w E A I u v o D p x y).isSome] (e25_3 G F n j C w E A I u v o ((o25_3 G F n j C w E A I u v o D p x y).getD ax) fun e vs bs=>AL 3 k e (Aq 0 107 [2,3,11,36,37,38] vs 2 bs))
 | _=>False
theorem z25_3:LOk Tryz.prog g25_3 (.block 3 (Ad (Tryz.f25.body.getD .skip) 3)):=by
 refine lb (ι:=Int × Nat × Dat × Nat × Dat × Int × Int × Nat × Dat × Int × Int × Nat × Dat × Dat × Nat × Dat) (fuel:=8) (na:=0) (nt:=107) (nx:=2) (Lh:=[2,3,11,13,36,37,38,43,44,45]) (Le:=[2,3,11,36,37,38]) (gl:=[⟨aj,11,0,1,73,[.str,.str,W Z]⟩]) (tc k56 (tc k48 (tc k63c64 (tc k64 tn)))) A6 As rfl (fun f (G,D,F,n,j,C,w,E,A,I,p,u,v,o,x,y) K=>GG ax (e25_3 G F n j C w E A I u v o) K (l25_3 G F n j C w E A I u v o f D p x y)) (fun (G,D,F,n,j,C,w,E,A,I,p,u,v,o,x,y)=>[V Z G,.ptr 0 0,.gr 1 3 D,.rp [.str,W Z,W Z,.mi [W Z,W Z,.bool],.mb,.mb,W Z,.bool,.m1] F 0 0,.ro [.pt [.str,W Z,W Z,.mi [W Z,W Z,.bool],.mb,.mb,W Z,.bool,.m1]] n j,V Z C,V Z w,.ro [.str,W Z,W Z,W Z] E A,V Z I,V Z p]) (fun (G,D,F,n,j,C,w,E,A,I,p,u,v,o,x,y)=>[.cells 25 [.ro [.str,W Z,W Z] u v,.ro [.str,W Z,W Z,W Z] E o],.row 73 [.str,.str,W Z] x y]) (fun (_,_,_,_,_,_,_,_,_,_,_,_,_,_,_,_) K=>Au) ?_ ?_
 .rintro f ⟨G,D,F,n,j,C,w,E,A,I,p,u,v,o,x,y⟩ K hG
  refine ro (fun R => 
 let a0:=(bif (aq (0<=p)) then ((F.sub 0 3).bb p.toNat 0) else az)
 let b0:=(bif (bif (cond a0 az aj) then aj else (aq ((A.ii p.toNat 2)=0))) then aj else (cond (((F.sub 0 3).sub p.toNat 1).bb 0 2) az aj))
 let c0:=(Z.wrap ((((F.sub 0 3).sub p.toNat 1).ii 0 0)+(A.ii p.toNat 2)))
 (cnd (aq (p<I))
 (cnd (aq (0<=p/\p<↑E))
 (cnd (bif (cond (cond (bif (cond a0 az aj) then aj else (aq ((A.ii p.toNat 2)=0))) az aj) az aj) then aj else a0)
 (cnd (bif (cond (cond b0 az aj) az aj) then aj else a0)
 (cnd (bif b0 then aj else (aq (G<c0)))
 (R (XE.normal) [V Z G,.ptr 0 0,.gr 1 3 D,.rp [.str,W Z,W Z,.mi [W Z,W Z,.bool],.mb,.mb,W Z,.bool,.m1] F 0 0,.ro [.pt [.str,W Z,W Z,.mi [W Z,W Z,.bool],.mb,.mb,W Z,.bool,.m1]] n j,V Z C,V Z w,.ro [.str,W Z,W Z,W Z] E A,V Z I,V Z (Z.wrap (p+1))] [.cells 25 [.ro [.str,W Z,W Z] u v,.ro [.str,W Z,W Z,W Z] E o],.row 73 [.str,.str,W Z] x y])
 (cnd a0
 (cnd (aq (D<=x))
 (cnd (aq ((D+1)<=1073741824))
 (R (XE.normal) [V Z G,.ptr 0 0,.gr 1 3 (D+1),.rp [.str,W Z,W Z,.mi [W Z,W Z,.bool],.mb,.mb,W Z,.bool,.m1] F 0 0,.ro [.pt [.str,W Z,W Z,.mi [W Z,W Z,.bool],.mb,.mb,W Z,.bool,.m1]] n j,V Z C,V Z w,.ro [.str,W Z,W Z,W Z] E A,V Z I,V Z (Z.wrap (p+1))] [.cells 25 [.ro [.str,W Z,W Z] u v,.ro [.str,W Z,W Z,W Z] E o],.row 73 [.str,.str,W Z] (D+1) (y.app D (Aw [SV.str (F.ss 0 0),SV.str (A.ss p.toNat 0),V Z c0] 3))])
     False)
    False)
    False))
   False)
  False)
  False)
 (R (XE.exit 3) [V Z G,.ptr 0 0,.gr 1 3 D,.ro [.pt [.str,W Z,W Z,.mi [W Z,W Z,.bool],.mb,.mb,W Z,.bool,.m1]] n j,V Z C,V Z w] [.cells 25 [.ro [.str,W Z,W Z] u v,.ro [.str,W Z,W Z,W Z] E o],.row 73 [.str,.str,W Z] x y]))) (fun R=>by kernel_rfl) ?_
  exact ch hG (fun h0=>cg h0 fun h1=>cg h1 fun h2=>cg h2 fun h3=>ch h3 (fun h4=>⟨(_,_,_,_,_,_,_,_,_,_,_,_,_,_,_,_),rfl,rfl,h4⟩) (fun h4=>cg h4 fun h5=>cg h5 fun h6=>cg h6 fun h7=>⟨(_,_,_,_,_,_,_,_,_,_,_,_,_,_,_,_),rfl,rfl,h7⟩)) (fun h0=>h0.2)
 .intro s k h
  unfold g25_3 at h
  split at h <;> try exact h.elim
  rename_i e1
  rw [Ac] at h
  have hq:=h.1
  simp only [List.mem_cons,forall_eq_or_imp,decide_eq_true_eq,List.not_mem_nil,false_imp_iff,implies_true,and_true] at hq
  obtain ⟨rfl,hq⟩:=hq
  exact ⟨_,e1,_,(_,_,_,_,_,_,_,_,_,_,_,_,_,_,_,_),rfl,rfl,hq,h.2⟩
def l25_1(G:Int)(n:Nat)(j:Dat)(C:Int)(u:Nat)(v:Dat)(z:Nat)(o:Dat):Nat->Nat->Int->Nat->Dat->Option (Nat × Nat × Dat)
 | 0,_,_,_,_=>ak
 | f+1,D,w,x,y=>(cond (aq (w<C)) (cond (aq (0<=w/\w<↑n)) (cond ((o25_3 G (j.sub w.toNat 0) n j C w z o (z:Int) u v o D 0 x y).isSome) (l25_1 G n j C u v z o f ((o25_3 G (j.sub w.toNat 0) n j C w z o (z:Int) u v o D 0 x y).getD ax).1 (Z.wrap (w+1)) ((o25_3 G (j.sub w.toNat 0) n j C w z o (z:Int) u v o D 0 x y).getD ax).2.1 ((o25_3 G (j.sub w.toNat 0) n j C w z o (z:Int) u v o D 0 x y).getD ax).2.2) ak) ak) (some (D,x,y)))
abbrev o25_1(G:Int)(n:Nat)(j:Dat)(C:Int)(u:Nat)(v:Dat)(z:Nat)(o:Dat)(D:Nat)(w:Int)(x:Nat)(y:Dat):Option (Nat × Nat × Dat):=l25_1 G n j C u v z o (G.toNat+D+n+C.toNat+w.toNat+u+z+x+8) D w x y
def e25_1(G:Int)(n:Nat)(j:Dat)(C:Int)(u:Nat)(v:Dat)(z:Nat)(o:Dat)(r:Nat × Nat × Dat)(K:XR):Prop:=K (XE.exit 1) [.gr 1 3 r.1] [.cells 25 [.ro [.str,W Z,W Z] u v,.ro [.str,W Z,W Z,W Z] z o],.row 73 [.str,.str,W Z] r.2.1 r.2.2]
def g25_1:AX:=fun s k=>match czv 0 107 [2,3,11,36,37,38] 2 [⟨aj,11,0,1,73,[.str,.str,W Z]⟩] s with
 | some ([V Z G,.ptr 0 0,.gr 1 3 D,.ro [.pt [.str,W Z,W Z,.mi [W Z,W Z,.bool],.mb,.mb,W Z,.bool,.m1]] n j,V Z C,V Z w],[.cells 25 [.ro [.str,W Z,W Z] u v,.ro [.str,W Z,W Z,W Z] z o],.row 73 [.str,.str,W Z] x y])=>Ay [(o25_1 G n j C u v z o D w x y).isSome] (e25_1 G n j C u v z o ((o25_1 G n j C u v z o D w x y).getD ax) fun e vs bs=>AL 1 k e (Aq 0 107 [11] vs 2 bs))
 | _=>False
theorem z25_1:LOk Tryz.prog g25_1 (.block 1 (Ad (Tryz.f25.body.getD .skip) 1)):=by
 refine lb (ι:=Int × Nat × Nat × Dat × Int × Int × Nat × Dat × Nat × Dat × Nat × Dat) (fuel:=8) (na:=0) (nt:=107) (nx:=2) (Lh:=[2,3,11,36,37,38]) (Le:=[11]) (gl:=[⟨aj,11,0,1,73,[.str,.str,W Z]⟩]) (tc k56 (tc k48 (tc k63c64 (tc k64 tn)))) A6 (AD rfl (lc z25_3 ln)) rfl (fun f (G,D,n,j,C,w,u,v,z,o,x,y) K=>GG ax (e25_1 G n j C u v z o) K (l25_1 G n j C u v z o f D w x y)) (fun (G,D,n,j,C,w,u,v,z,o,x,y)=>[V Z G,.ptr 0 0,.gr 1 3 D,.ro [.pt [.str,W Z,W Z,.mi [W Z,W Z,.bool],.mb,.mb,W Z,.bool,.m1]] n j,V Z C,V Z w]) (fun (G,D,n,j,C,w,u,v,z,o,x,y)=>[.cells 25 [.ro [.str,W Z,W Z] u v,.ro [.str,W Z,W Z,W Z] z o],.row 73 [.str,.str,W Z] x y]) (fun (_,_,_,_,_,_,_,_,_,_,_,_) K=>Au) ?_ ?_
 .rintro f ⟨G,D,n,j,C,w,u,v,z,o,x,y⟩ K hG
  refine ro (fun R => 
 let a0:=(o25_3 G (j.sub w.toNat 0) n j C w z o (z:Int) u v o D 0 x y)
 (cnd (aq (w<C))
 (cnd (aq (0<=w/\w<↑n))
 (cnd (aq (z=z))
 (cnd (a0.isSome)
 (R (XE.normal) [V Z G,.ptr 0 0,.gr 1 3 (a0.getD ax).1,.ro [.pt [.str,W Z,W Z,.mi [W Z,W Z,.bool],.mb,.mb,W Z,.bool,.m1]] n j,V Z C,V Z (Z.wrap (w+1))] [.cells 25 [.ro [.str,W Z,W Z] u v,.ro [.str,W Z,W Z,W Z] z o],.row 73 [.str,.str,W Z] (a0.getD ax).2.1 (a0.getD ax).2.2])
   False)
  False)
  False)
 (R (XE.exit 1) [.gr 1 3 D] [.cells 25 [.ro [.str,W Z,W Z] u v,.ro [.str,W Z,W Z,W Z] z o],.row 73 [.str,.str,W Z] x y]))) (fun R=>by kernel_rfl) ?_
  exact ch hG (fun h0=>cg h0 fun h1=>cn (decide_eq_true rfl) (cg h1 fun h2=>⟨(_,_,_,_,_,_,_,_,_,_,_,_),rfl,rfl,h2⟩)) (fun h0=>h0.2)
 .intro s k h
  unfold g25_1 at h
  split at h <;> try exact h.elim
  rename_i e1
  rw [Ac] at h
  exact ⟨_,e1,_,(_,_,_,_,_,_,_,_,_,_,_,_),rfl,rfl,h.1 _ (List.mem_singleton.2 rfl),h.2⟩
def m25(b:Nat)(d:Dat)(g:Nat)(i:Dat)(l:Nat)(m:Dat)(J:Int):Nat × Dat × Int :=
 (cond (cond (aq ((m56 b d g i l m).2.2.2=0)) az aj) (0,A3,(m56 b d g i l m).2.2.2) (cond (cond (m48 J) az aj) (0,A3,2) (((o25_1 J ((m56 b d g i l m).2.1.sn 0 2) ((m56 b d g i l m).2.1.sub 0 2) (((m56 b d g i l m).2.1.sn 0 2):Int) b d g i 0 0 0 A3).getD ax).1,(m63c64 ((o25_1 J ((m56 b d g i l m).2.1.sn 0 2) ((m56 b d g i l m).2.1.sub 0 2) (((m56 b d g i l m).2.1.sn 0 2):Int) b d g i 0 0 0 A3).getD ax).1 ((o25_1 J ((m56 b d g i l m).2.1.sn 0 2) ((m56 b d g i l m).2.1.sub 0 2) (((m56 b d g i l m).2.1.sn 0 2):Int) b d g i 0 0 0 A3).getD ax).2.1 ((o25_1 J ((m56 b d g i l m).2.1.sn 0 2) ((m56 b d g i l m).2.1.sub 0 2) (((m56 b d g i l m).2.1.sn 0 2):Int) b d g i 0 0 0 A3).getD ax).2.2).2,0)))
def n25(b:Nat)(d:Dat)(g:Nat)(i:Dat)(l:Nat)(m:Dat)(J:Int):Bool :=
 ((n56 b d g i l m)&&(cond (cond (aq ((m56 b d g i l m).2.2.2=0)) az aj) aj (cond (cond (m48 J) az aj) aj ((m56 b d g i l m).1&&(((o25_1 J ((m56 b d g i l m).2.1.sn 0 2) ((m56 b d g i l m).2.1.sub 0 2) (((m56 b d g i l m).2.1.sn 0 2):Int) b d g i 0 0 0 A3).isSome)&&((n63c64 ((o25_1 J ((m56 b d g i l m).2.1.sn 0 2) ((m56 b d g i l m).2.1.sub 0 2) (((m56 b d g i l m).2.1.sn 0 2):Int) b d g i 0 0 0 A3).getD ax).1 ((o25_1 J ((m56 b d g i l m).2.1.sn 0 2) ((m56 b d g i l m).2.1.sub 0 2) (((m56 b d g i l m).2.1.sn 0 2):Int) b d g i 0 0 0 A3).getD ax).2.1 ((o25_1 J ((m56 b d g i l m).2.1.sn 0 2) ((m56 b d g i l m).2.1.sub 0 2) (((m56 b d g i l m).2.1.sn 0 2):Int) b d g i 0 0 0 A3).getD ax).2.2)&&((aq ((0+((o25_1 J ((m56 b d g i l m).2.1.sn 0 2) ((m56 b d g i l m).2.1.sub 0 2) (((m56 b d g i l m).2.1.sn 0 2):Int) b d g i 0 0 0 A3).getD ax).1)<=(m63c64 ((o25_1 J ((m56 b d g i l m).2.1.sn 0 2) ((m56 b d g i l m).2.1.sub 0 2) (((m56 b d g i l m).2.1.sn 0 2):Int) b d g i 0 0 0 A3).getD ax).1 ((o25_1 J ((m56 b d g i l m).2.1.sn 0 2) ((m56 b d g i l m).2.1.sub 0 2) (((m56 b d g i l m).2.1.sn 0 2):Int) b d g i 0 0 0 A3).getD ax).2.1 ((o25_1 J ((m56 b d g i l m).2.1.sn 0 2) ((m56 b d g i l m).2.1.sub 0 2) (((m56 b d g i l m).2.1.sn 0 2):Int) b d g i 0 0 0 A3).getD ax).2.2).1))&&aj)))))))
def q25(r:Nat × Dat × Int):SV × List Blk × List Blk:=(.tup [.ro [.str,.str,W Z] r.1 r.2.1,V Z r.2.2],[],[])
def g25:GF:=fun vs bs=>match vs,bs with
 | [.agg [.ro [.str,W Z,W Z] b d,.ro [.str,W Z,W Z,W Z] g i],.ro [W Z,W Z,.str,.str,.str,.bool] l m,V Z J],[]=>some (rs 0 (q25 (m25 b d g i l m J)) [n25 b d g i l m J])
 | _,_=>ak
def c25:Ctr:=AA [.a [.ro [.str,W Z,W Z],.ro [.str,W Z,W Z,W Z]],.ro [W Z,W Z,.str,.str,.str,.bool],.k] g25
theorem k25:Ag Tryz.prog c25 25:=cx (tc k56 (tc k48 (tc k63c64 (tc k64 tn)))) A6 8 (fn:=Tryz.f25) (c:=(Tryz.f25.body.getD .skip)) (grs:=[]) (rh:=.t [.ro [.str,.str,W Z],.k]) Tryz.func25 rfl (by kernel_rfl) (AD rfl (lc z25_3 (lc z25_1 ln))) fun vs bs q h hn=>by
 unfold g25 at h
 split at h <;> cases h
 rename_i b d g i l m J
 have hn:=n1 hn
 exact ⟨_,rfl,ca (fun R => 
 let a0:=((o25_1 J ((m56 b d g i l m).2.1.sn 0 2) ((m56 b d g i l m).2.1.sub 0 2) (((m56 b d g i l m).2.1.sn 0 2):Int) b d g i 0 0 0 A3).getD ax)
 (cnd (n56 b d g i l m)
 (cnd (cond (aq ((m56 b d g i l m).2.2.2=0)) az aj)
 (R (.tup [.ro [.str,.str,W Z] 0 A3,V Z (m56 b d g i l m).2.2.2]) [] [])
 (cnd (cond (m48 J) az aj)
 (R (.tup [.ro [.str,.str,W Z] 0 A3,V Z 2]) [] [])
 (cnd (m56 b d g i l m).1
 (cnd ((o25_1 J ((m56 b d g i l m).2.1.sn 0 2) ((m56 b d g i l m).2.1.sub 0 2) (((m56 b d g i l m).2.1.sn 0 2):Int) b d g i 0 0 0 A3).isSome)
 (cnd (n63c64 a0.1 a0.2.1 a0.2.2)
 (cnd (aq ((0+a0.1)<=(m63c64 a0.1 a0.2.1 a0.2.2).1))
 (R (.tup [.ro [.str,.str,W Z] a0.1 (m63c64 a0.1 a0.2.1 a0.2.2).2,V Z 0]) [] [])
    False)
    False)
   False)
   False)))
 False)) (fun R=>by kernel_rfl) (cn (al hn) (co (fun h0=>lf (cT h0 rfl) rfl) (fun h0=>co (fun h1=>lf (cF h0 (cT h1 rfl)) rfl) (fun h1=>cn (al (cf h1 (cf h0 (ar hn)))) (cn (al (ar (cf h1 (cf h0 (ar hn))))) (cn (al (ar (ar (cf h1 (cf h0 (ar hn)))))) (cn (al (ar (ar (ar (cf h1 (cf h0 (ar hn))))))) (lf (cF h0 (cF h1 rfl)) rfl))))))))⟩

/-! ### shotline/shotlinelaw07.awake -/
theorem x5(R:SV->List Blk->List Blk->Prop):AT Tryz.prog [(3,O9),(24,c24),(27,c27),(21,c21),(26,c26),(25,c25),(28,c28),(22,c22),(23,c23)] (fun _=>ak) 8 (Tryz.f5.body.getD .skip) (Cb Tryz.f5.ntmps [] 0 (Ah [])) (EQ Tryz.prog Tryz.f5.results.toList (DT 0 (List.range 0) [] (.k) fun v U N=>R v U N)) =
 (cnd (n21 4 m22.1 2 m22.2 3 m23)
 (cnd (n24 4 m22.1 2 m22.2 3 m23 ({ data:=#[98] }:BA) 7)
 (cnd (n25 4 m22.1 2 m22.2 0 A3 600)
 (cnd (bif (cond (aq ((m21 4 m22.1 2 m22.2 3 m23).2.2=0)) az aj) then aj else (n26 (m21 4 m22.1 2 m22.2 3 m23).1 (m21 4 m22.1 2 m22.2 3 m23).2.1 2 (Aw [SV.str ({ data:=#[97] }:BA),SV.str ({ data:=#[98] }:BA)] 1)))
 (cnd (bif (cond (bif (bif (bif (aq ((m21 4 m22.1 2 m22.2 3 m23).2.2=0)) then (m26 (m21 4 m22.1 2 m22.2 3 m23).1 (m21 4 m22.1 2 m22.2 3 m23).2.1 2 (Aw [SV.str ({ data:=#[97] }:BA),SV.str ({ data:=#[98] }:BA)] 1)) else az) then (aq ((m24 4 m22.1 2 m22.2 3 m23 ({ data:=#[98] }:BA) 7).2.2.2=0)) else az) then (cond (m24 4 m22.1 2 m22.2 3 m23 ({ data:=#[98] }:BA) 7).1 az aj) else az) az aj) then aj else (n27 (m24 4 m22.1 2 m22.2 3 m23 ({ data:=#[98] }:BA) 7).2.1 (m24 4 m22.1 2 m22.2 3 m23 ({ data:=#[98] }:BA) 7).2.2.1 1 (Aw [V Z 3,SV.str ({ data:=#[] }:BA),SV.str ({ data:=#[99,49] }:BA),V Z 0] 4)))
 (cnd (bif (cond (bif (bif (bif (bif (bif (aq ((m21 4 m22.1 2 m22.2 3 m23).2.2=0)) then (m26 (m21 4 m22.1 2 m22.2 3 m23).1 (m21 4 m22.1 2 m22.2 3 m23).2.1 2 (Aw [SV.str ({ data:=#[97] }:BA),SV.str ({ data:=#[98] }:BA)] 1)) else az) then (aq ((m24 4 m22.1 2 m22.2 3 m23 ({ data:=#[98] }:BA) 7).2.2.2=0)) else az) then (cond (m24 4 m22.1 2 m22.2 3 m23 ({ data:=#[98] }:BA) 7).1 az aj) else az) then (m27 (m24 4 m22.1 2 m22.2 3 m23 ({ data:=#[98] }:BA) 7).2.1 (m24 4 m22.1 2 m22.2 3 m23 ({ data:=#[98] }:BA) 7).2.2.1 1 (Aw [V Z 3,SV.str ({ data:=#[] }:BA),SV.str ({ data:=#[99,49] }:BA),V Z 0] 4)) else az) then (aq ((m25 4 m22.1 2 m22.2 0 A3 600).2.2=0)) else az) az aj) then aj else (n28 (m25 4 m22.1 2 m22.2 0 A3 600).1 (m25 4 m22.1 2 m22.2 0 A3 600).2.1 1 (Aw [SV.str ({ data:=#[114] }:BA),SV.str ({ data:=#[115,101,114,118,105,99,101] }:BA),V Z 465] 3)))
 (R (.bool (bif (bif (bif (bif (bif (bif (aq ((m21 4 m22.1 2 m22.2 3 m23).2.2=0)) then (m26 (m21 4 m22.1 2 m22.2 3 m23).1 (m21 4 m22.1 2 m22.2 3 m23).2.1 2 (Aw [SV.str ({ data:=#[97] }:BA),SV.str ({ data:=#[98] }:BA)] 1)) else az) then (aq ((m24 4 m22.1 2 m22.2 3 m23 ({ data:=#[98] }:BA) 7).2.2.2=0)) else az) then (cond (m24 4 m22.1 2 m22.2 3 m23 ({ data:=#[98] }:BA) 7).1 az aj) else az) then (m27 (m24 4 m22.1 2 m22.2 3 m23 ({ data:=#[98] }:BA) 7).2.1 (m24 4 m22.1 2 m22.2 3 m23 ({ data:=#[98] }:BA) 7).2.2.1 1 (Aw [V Z 3,SV.str ({ data:=#[] }:BA),SV.str ({ data:=#[99,49] }:BA),V Z 0] 4)) else az) then (aq ((m25 4 m22.1 2 m22.2 0 A3 600).2.2=0)) else az) then (m28 (m25 4 m22.1 2 m22.2 0 A3 600).1 (m25 4 m22.1 2 m22.2 0 A3 600).2.1 1 (Aw [SV.str ({ data:=#[114] }:BA),SV.str ({ data:=#[115,101,114,118,105,99,101] }:BA),V Z 465] 3)) else az)) [] [])
    False)
   False)
   False)
  False)
  False)
 False):=by kernel_rfl
def m5 :Bool :=
 (bif (bif (bif (bif (bif (bif (aq ((m21 4 m22.1 2 m22.2 3 m23).2.2=0)) then (m26 (m21 4 m22.1 2 m22.2 3 m23).1 (m21 4 m22.1 2 m22.2 3 m23).2.1 2 (Aw [SV.str ({ data:=#[97] }:BA),SV.str ({ data:=#[98] }:BA)] 1)) else az) then (aq ((m24 4 m22.1 2 m22.2 3 m23 ({ data:=#[98] }:BA) 7).2.2.2=0)) else az) then (cond (m24 4 m22.1 2 m22.2 3 m23 ({ data:=#[98] }:BA) 7).1 az aj) else az) then (m27 (m24 4 m22.1 2 m22.2 3 m23 ({ data:=#[98] }:BA) 7).2.1 (m24 4 m22.1 2 m22.2 3 m23 ({ data:=#[98] }:BA) 7).2.2.1 1 (Aw [V Z 3,SV.str ({ data:=#[] }:BA),SV.str ({ data:=#[99,49] }:BA),V Z 0] 4)) else az) then (aq ((m25 4 m22.1 2 m22.2 0 A3 600).2.2=0)) else az) then (m28 (m25 4 m22.1 2 m22.2 0 A3 600).1 (m25 4 m22.1 2 m22.2 0 A3 600).2.1 1 (Aw [SV.str ({ data:=#[114] }:BA),SV.str ({ data:=#[115,101,114,118,105,99,101] }:BA),V Z 465] 3)) else az)
def n5 :Bool :=
 ((n21 4 m22.1 2 m22.2 3 m23)&&((n24 4 m22.1 2 m22.2 3 m23 ({ data:=#[98] }:BA) 7)&&((n25 4 m22.1 2 m22.2 0 A3 600)&&((bif (cond (aq ((m21 4 m22.1 2 m22.2 3 m23).2.2=0)) az aj) then aj else (n26 (m21 4 m22.1 2 m22.2 3 m23).1 (m21 4 m22.1 2 m22.2 3 m23).2.1 2 (Aw [SV.str ({ data:=#[97] }:BA),SV.str ({ data:=#[98] }:BA)] 1)))&&((bif (cond (bif (bif (bif (aq ((m21 4 m22.1 2 m22.2 3 m23).2.2=0)) then (m26 (m21 4 m22.1 2 m22.2 3 m23).1 (m21 4 m22.1 2 m22.2 3 m23).2.1 2 (Aw [SV.str ({ data:=#[97] }:BA),SV.str ({ data:=#[98] }:BA)] 1)) else az) then (aq ((m24 4 m22.1 2 m22.2 3 m23 ({ data:=#[98] }:BA) 7).2.2.2=0)) else az) then (cond (m24 4 m22.1 2 m22.2 3 m23 ({ data:=#[98] }:BA) 7).1 az aj) else az) az aj) then aj else (n27 (m24 4 m22.1 2 m22.2 3 m23 ({ data:=#[98] }:BA) 7).2.1 (m24 4 m22.1 2 m22.2 3 m23 ({ data:=#[98] }:BA) 7).2.2.1 1 (Aw [V Z 3,SV.str ({ data:=#[] }:BA),SV.str ({ data:=#[99,49] }:BA),V Z 0] 4)))&&((bif (cond (bif (bif (bif (bif (bif (aq ((m21 4 m22.1 2 m22.2 3 m23).2.2=0)) then (m26 (m21 4 m22.1 2 m22.2 3 m23).1 (m21 4 m22.1 2 m22.2 3 m23).2.1 2 (Aw [SV.str ({ data:=#[97] }:BA),SV.str ({ data:=#[98] }:BA)] 1)) else az) then (aq ((m24 4 m22.1 2 m22.2 3 m23 ({ data:=#[98] }:BA) 7).2.2.2=0)) else az) then (cond (m24 4 m22.1 2 m22.2 3 m23 ({ data:=#[98] }:BA) 7).1 az aj) else az) then (m27 (m24 4 m22.1 2 m22.2 3 m23 ({ data:=#[98] }:BA) 7).2.1 (m24 4 m22.1 2 m22.2 3 m23 ({ data:=#[98] }:BA) 7).2.2.1 1 (Aw [V Z 3,SV.str ({ data:=#[] }:BA),SV.str ({ data:=#[99,49] }:BA),V Z 0] 4)) else az) then (aq ((m25 4 m22.1 2 m22.2 0 A3 600).2.2=0)) else az) az aj) then aj else (n28 (m25 4 m22.1 2 m22.2 0 A3 600).1 (m25 4 m22.1 2 m22.2 0 A3 600).2.1 1 (Aw [SV.str ({ data:=#[114] }:BA),SV.str ({ data:=#[115,101,114,118,105,99,101] }:BA),V Z 465] 3)))&&aj))))))
def q5(r:Bool):SV × List Blk × List Blk:=(.bool r,[],[])
def g5:GF:=fun vs bs=>match vs,bs with
 | [],[]=>some (rs 0 (q5 (m5)) [n5 ])
 | _,_=>ak
def c5:Ctr:=AA [] g5
theorem p5(hn:n5 =aj):AT Tryz.prog [(3,O9),(24,c24),(27,c27),(21,c21),(26,c26),(25,c25),(28,c28),(22,c22),(23,c23)] (fun _=>ak) 8 (Tryz.f5.body.getD .skip) (Cb Tryz.f5.ntmps [] 0 (Ah [])) (EQ Tryz.prog Tryz.f5.results.toList (DT 0 (List.range 0) [] (.k) fun v U N=>(v,U,N)=(q5 (m5)))) :=
 Bu (x5  _) (cn (al hn) (cn (al (ar hn)) (cn (al (ar (ar hn))) (cn (al (ar (ar (ar hn)))) (cn (al (ar (ar (ar (ar hn))))) (cn (al (ar (ar (ar (ar (ar hn)))))) (lf rfl rfl)))))))
theorem k5:Ag Tryz.prog c5 5:=cx (tc TV (tc k24 (tc k27 (tc k21 (tc k26 (tc k25 (tc k28 (tc k22 (tc k23 tn))))))))) A6 8 (fn:=Tryz.f5) (c:=(Tryz.f5.body.getD .skip)) (grs:=[]) (rh:=.k) Tryz.func5 rfl (by kernel_rfl) As fun vs bs q h hn=>by
 unfold g5 at h
 split at h <;> cases h
 exact ⟨_,rfl,p5  (hn _ (List.mem_singleton.2 rfl))⟩

end
end Go.Proofs.YtdcdjjogieojhaaGreatDoor
