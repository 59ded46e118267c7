/-
 Contracts of functions: models, equations by the kernel, contracts. Conditions: none.
-/
import Derived.Test.YtdcdjjogieojhaaGreatDoorK10
import Derived.KernelRfl
set_option linter.unusedVariables false
set_option linter.unusedSimpArgs false
set_option linter.unusedSectionVars false
namespace Go.Proofs.YtdcdjjogieojhaaGreatDoor
open Go Go.Sy
noncomputable section
set_option maxRecDepth 100000
set_option maxHeartbeats 2000000
attribute [local irreducible] Go.IntKind.wrap Int.tdiv Int.tmod Int.fdiv
attribute [local instance 3000] Go.Sy.G2
open Go.Sy renaming B8->tc,AM->tn,AH->cn,GV->lf,IA->cg,GA->ch,AC->cf,IB->ct,Df->co,Iw->ca,roundOf->ro,GB->nn,El->lc,Fk->ln,FY->cT,Cs->cF,J7->n1,Bl->rs,CE->al,Al->ar,M6->og,ID->cx,Fo->lb
open Go.IntKind renaming i64->Z
open Go.Sy.SV renaming int->V
open Go.Sy.Kd renaming int->W
open Decidable renaming decide->aq
open Inhabited renaming default->ax
open Bool renaming false->az,true->aj
open Option renaming some->ak,none->aw
/-! ### shotline/kit.read -/
def m53(d ma0_0:Nat)(e:Dat)(b ma0_1:Nat)(g:Dat)(a:BA):Bool × Nat × Nat × Nat × Dat × Nat × Dat :=
 (cond (aq (((m30 a ({ data:=#[32] }:BA)).2.ss 0 0)=({ data:=#[105,116,101,109] }:BA))) (cond (bif (cond (m31i (((((m30 a ({ data:=#[32] }:BA)).1):Int) - 1).toNat) ((m30 a ({ data:=#[32] }:BA)).2.shift 1) ({ data:=#[] }:BA) 0 0 ({ data:=#[] }:BA)).1 az aj) then aj else (aq ((0:Int)<(b:Int)))) (az,d,b,ma0_0,e,ma0_1,g) ((aq ((0:Int)<(m81 5 A7 (m31i (((((m30 a ({ data:=#[32] }:BA)).1):Int) - 1).toNat) ((m30 a ({ data:=#[32] }:BA)).2.shift 1) ({ data:=#[] }:BA) 0 0 ({ data:=#[] }:BA)).2.2.2.2))),(d+1),b,(d+1),(e.app d (Aw [SV.str (m31i (((((m30 a ({ data:=#[32] }:BA)).1):Int) - 1).toNat) ((m30 a ({ data:=#[32] }:BA)).2.shift 1) ({ data:=#[] }:BA) 0 0 ({ data:=#[] }:BA)).2.1,V Z (m81 5 A7 (m31i (((((m30 a ({ data:=#[32] }:BA)).1):Int) - 1).toNat) ((m30 a ({ data:=#[32] }:BA)).2.shift 1) ({ data:=#[] }:BA) 0 0 ({ data:=#[] }:BA)).2.2.2.2),V Z (m31i (((((m30 a ({ data:=#[32] }:BA)).1):Int) - 1).toNat) ((m30 a ({ data:=#[32] }:BA)).2.shift 1) ({ data:=#[] }:BA) 0 0 ({ data:=#[] }:BA)).2.2.2.1] 3)),ma0_1,g)) (cond (aq (((m30 a ({ data:=#[32] }:BA)).2.ss 0 0)=({ data:=#[114,117,108,101] }:BA))) (cond (cond (m31r (((((m30 a ({ data:=#[32] }:BA)).1):Int) - 1).toNat) ((m30 a ({ data:=#[32] }:BA)).2.shift 1) ({ data:=#[] }:BA) 0 0 0 ({ data:=#[] }:BA)).1 az aj) (az,d,b,ma0_0,e,ma0_1,g) ((aq ((0:Int)<(m81 5 A7 (m31r (((((m30 a ({ data:=#[32] }:BA)).1):Int) - 1).toNat) ((m30 a ({ data:=#[32] }:BA)).2.shift 1) ({ data:=#[] }:BA) 0 0 0 ({ data:=#[] }:BA)).2.2.2.2.2))),d,(b+1),ma0_0,e,(b+1),(g.app b (Aw [SV.str (m31r (((((m30 a ({ data:=#[32] }:BA)).1):Int) - 1).toNat) ((m30 a ({ data:=#[32] }:BA)).2.shift 1) ({ data:=#[] }:BA) 0 0 0 ({ data:=#[] }:BA)).2.1,V Z (m81 5 A7 (m31r (((((m30 a ({ data:=#[32] }:BA)).1):Int) - 1).toNat) ((m30 a ({ data:=#[32] }:BA)).2.shift 1) ({ data:=#[] }:BA) 0 0 0 ({ data:=#[] }:BA)).2.2.2.2.2),V Z (m31r (((((m30 a ({ data:=#[32] }:BA)).1):Int) - 1).toNat) ((m30 a ({ data:=#[32] }:BA)).2.shift 1) ({ data:=#[] }:BA) 0 0 0 ({ data:=#[] }:BA)).2.2.2.1,V Z (m31r (((((m30 a ({ data:=#[32] }:BA)).1):Int) - 1).toNat) ((m30 a ({ data:=#[32] }:BA)).2.shift 1) ({ data:=#[] }:BA) 0 0 0 ({ data:=#[] }:BA)).2.2.2.2.1] 4)))) (az,d,b,ma0_0,e,ma0_1,g)))
def n53(d ma0_0:Nat)(e:Dat)(b ma0_1:Nat)(g:Dat)(a:BA):Bool :=
 ((n30 a ({ data:=#[32] }:BA))&&((aq ((0:Int)<=(0:Int)/\(0:Int)<(((m30 a ({ data:=#[32] }:BA)).1):Int)))&&(cond (aq (((m30 a ({ data:=#[32] }:BA)).2.ss 0 0)=({ data:=#[105,116,101,109] }:BA))) ((aq ((0:Int)<=(1:Int)/\(1:Int)<=(((m30 a ({ data:=#[32] }:BA)).1):Int)/\(((m30 a ({ data:=#[32] }:BA)).1):Int)<=(((m30 a ({ data:=#[32] }:BA)).1):Int)))&&((n31i (((((m30 a ({ data:=#[32] }:BA)).1):Int) - 1).toNat) ((m30 a ({ data:=#[32] }:BA)).2.shift 1) ({ data:=#[] }:BA) 0 0 ({ data:=#[] }:BA))&&(cond (bif (cond (m31i (((((m30 a ({ data:=#[32] }:BA)).1):Int) - 1).toNat) ((m30 a ({ data:=#[32] }:BA)).2.shift 1) ({ data:=#[] }:BA) 0 0 ({ data:=#[] }:BA)).1 az aj) then aj else (aq ((0:Int)<(b:Int)))) aj ((n81 5 A7 (m31i (((((m30 a ({ data:=#[32] }:BA)).1):Int) - 1).toNat) ((m30 a ({ data:=#[32] }:BA)).2.shift 1) ({ data:=#[] }:BA) 0 0 ({ data:=#[] }:BA)).2.2.2.2)&&((aq (d<=ma0_0))&&((aq ((d+1)<=1073741824))&&aj)))))) (cond (aq (((m30 a ({ data:=#[32] }:BA)).2.ss 0 0)=({ data:=#[114,117,108,101] }:BA))) ((aq ((0:Int)<=(1:Int)/\(1:Int)<=(((m30 a ({ data:=#[32] }:BA)).1):Int)/\(((m30 a ({ data:=#[32] }:BA)).1):Int)<=(((m30 a ({ data:=#[32] }:BA)).1):Int)))&&((n31r (((((m30 a ({ data:=#[32] }:BA)).1):Int) - 1).toNat) ((m30 a ({ data:=#[32] }:BA)).2.shift 1) ({ data:=#[] }:BA) 0 0 0 ({ data:=#[] }:BA))&&(cond (cond (m31r (((((m30 a ({ data:=#[32] }:BA)).1):Int) - 1).toNat) ((m30 a ({ data:=#[32] }:BA)).2.shift 1) ({ data:=#[] }:BA) 0 0 0 ({ data:=#[] }:BA)).1 az aj) aj ((n81 5 A7 (m31r (((((m30 a ({ data:=#[32] }:BA)).1):Int) - 1).toNat) ((m30 a ({ data:=#[32] }:BA)).2.shift 1) ({ data:=#[] }:BA) 0 0 0 ({ data:=#[] }:BA)).2.2.2.2.2)&&((aq (b<=ma0_1))&&((aq ((b+1)<=1073741824))&&aj)))))) aj))))
def q53(r:Bool × Nat × Nat × Nat × Dat × Nat × Dat):SV × List Blk × List Blk:=(.bool r.1,[.cells 25 [.gr 3 3 r.2.1,.gr 4 4 r.2.2.1],.unk,.unk],[.row 75 [.str,W Z,W Z] r.2.2.2.1 r.2.2.2.2.1,.row 77 [.str,W Z,W Z,W Z] r.2.2.2.2.2.1 r.2.2.2.2.2.2])
def g53:GF:=fun vs bs=>match vs,bs with
 | [.ptr 0 0,.str a],[.cells 25 [.gr 1 3 d,.gr 2 4 b],.row 75 [.str,W Z,W Z] ma0_0 e,.row 77 [.str,W Z,W Z,W Z] ma0_1 g]=>ak (rs 3 (q53 (m53 d ma0_0 e b ma0_1 g a)) [n53 d ma0_0 e b ma0_1 g a])
 | _,_=>aw
def c53:Ctr:=AA [.c [.gr 75 [.str,W Z,W Z],.gr 77 [.str,W Z,W Z,W Z]],.k] g53
theorem k53:Ag Tryz.prog c53 53:=cx (tc k30 (tc k31s (tc k81 tn))) A6 8 (fn:=Tryz.f53) (c:=(Tryz.f53.body.getD .skip)) (grs:=[1,2]) (rh:=.k) Tryz.func53 rfl (by kernel_rfl) As fun vs bs q h hn=>by
 unfold g53 at h
 split at h <;> cases h
 rename_i a d b ma0_0 e ma0_1 g
 have hn:=n1 hn
 exact ⟨_,rfl,ca (fun R => 
 let a0:=(m30 a ({ data:=#[32] }:BA))
 let b0:=({ data:=#[] }:BA)
 let c0:=((((a0.1):Int) - 1).toNat)
 let d0:=(m31r c0 (a0.2.shift 1) b0 0 0 0 b0)
 let e0:=(m31i c0 (a0.2.shift 1) b0 0 0 b0)
 let f0:=(aq ((0:Int)<=(1:Int)/\(1:Int)<=((a0.1):Int)/\((a0.1):Int)<=((a0.1):Int)))
 (cnd (n30 a ({ data:=#[32] }:BA))
 (cnd (aq ((0:Int)<=(0:Int)/\(0:Int)<((a0.1):Int)))
 (cnd (aq ((a0.2.ss 0 0)=({ data:=#[105,116,101,109] }:BA)))
 (cnd f0
 (cnd (n31i c0 (a0.2.shift 1) b0 0 0 b0)
 (cnd (bif (cond e0.1 az aj) then aj else (aq ((0:Int)<(b:Int))))
 (R (.bool az) [.cells 25 [.gr 3 3 d,.gr 4 4 b],.unk,.unk] [.row 75 [.str,W Z,W Z] ma0_0 e,.row 77 [.str,W Z,W Z,W Z] ma0_1 g])
 (cnd (n81 5 A7 e0.2.2.2.2)
 (cnd (aq (d<=ma0_0))
 (cnd (aq ((d+1)<=1073741824))
 (R (.bool (aq ((0:Int)<(m81 5 A7 e0.2.2.2.2)))) [.cells 25 [.gr 3 3 (d+1),.gr 4 4 b],.unk,.unk] [.row 75 [.str,W Z,W Z] (d+1) (e.app d (Aw [SV.str e0.2.1,V Z (m81 5 A7 e0.2.2.2.2),V Z e0.2.2.2.1] 3)),.row 77 [.str,W Z,W Z,W Z] ma0_1 g])
     False)
     False)
    False))
   False)
   False)
 (cnd (aq ((a0.2.ss 0 0)=({ data:=#[114,117,108,101] }:BA)))
 (cnd f0
 (cnd (n31r c0 (a0.2.shift 1) b0 0 0 0 b0)
 (cnd (cond d0.1 az aj)
 (R (.bool az) [.cells 25 [.gr 3 3 d,.gr 4 4 b],.unk,.unk] [.row 75 [.str,W Z,W Z] ma0_0 e,.row 77 [.str,W Z,W Z,W Z] ma0_1 g])
 (cnd (n81 5 A7 d0.2.2.2.2.2)
 (cnd (aq (b<=ma0_1))
 (cnd (aq ((b+1)<=1073741824))
 (R (.bool (aq ((0:Int)<(m81 5 A7 d0.2.2.2.2.2)))) [.cells 25 [.gr 3 3 d,.gr 4 4 (b+1)],.unk,.unk] [.row 75 [.str,W Z,W Z] ma0_0 e,.row 77 [.str,W Z,W Z,W Z] (b+1) (g.app b (Aw [SV.str d0.2.1,V Z (m81 5 A7 d0.2.2.2.2.2),V Z d0.2.2.2.1,V Z d0.2.2.2.2.1] 4))])
      False)
     False)
     False))
    False)
   False)
 (R (.bool az) [.cells 25 [.gr 3 3 d,.gr 4 4 b],.unk,.unk] [.row 75 [.str,W Z,W Z] ma0_0 e,.row 77 [.str,W Z,W Z,W Z] ma0_1 g])))
  False)
 False)) (fun R=>by kernel_rfl) (cn (al hn) (cn (al (ar hn)) (co (fun h0=>cn (al (ct h0 (ar (ar hn)))) (cn (al (ar (ct h0 (ar (ar hn))))) (co (fun h1=>lf (cT h0 (cT h1 rfl)) rfl) (fun h1=>cn (al (cf h1 (ar (ar (ct h0 (ar (ar hn))))))) (cn (al (ar (cf h1 (ar (ar (ct h0 (ar (ar hn)))))))) (cn (al (ar (ar (cf h1 (ar (ar (ct h0 (ar (ar hn))))))))) (lf (cT h0 (cF h1 rfl)) rfl))))))) (fun h0=>co (fun h1=>cn (al (ct h1 (cf h0 (ar (ar hn))))) (cn (al (ar (ct h1 (cf h0 (ar (ar hn)))))) (co (fun h2=>lf (cF h0 (cT h1 (cT h2 rfl))) rfl) (fun h2=>cn (al (cf h2 (ar (ar (ct h1 (cf h0 (ar (ar hn)))))))) (cn (al (ar (cf h2 (ar (ar (ct h1 (cf h0 (ar (ar hn))))))))) (cn (al (ar (ar (cf h2 (ar (ar (ct h1 (cf h0 (ar (ar hn)))))))))) (lf (cF h0 (cT h1 (cF h2 rfl))) rfl))))))) (fun h1=>lf (cF h0 (cF h1 rfl)) rfl)))))⟩
/-! ### shotline/kit.Print -/
def l14_0(w:Nat)(l:Dat)(A:Int)(u:Dat)(y:Nat)(v:Dat):Nat->Int->Nat->Nat->Dat->Option (Nat × Nat × Dat)
 | 0,_,_,_,_=>aw
 | f+1,n,o,p,t=>(cond (aq (n<A)) (cond (aq (0<=n/\n<(w:Int))) (cond (aq (0<=(l.ii n.toNat 1)/\(l.ii n.toNat 1)<5)) (cond (aq ((l.ii n.toNat 1)<5)) (cond (n29i ({ data:=#[105,116,101,109] }:BA) (l.ss n.toNat 0) (A7.ss ((l.ii n.toNat 1).toNat) 0) (l.ii n.toNat 2)) (cond (aq ((((m29i ({ data:=#[105,116,101,109] }:BA) (l.ss n.toNat 0) (A7.ss ((l.ii n.toNat 1).toNat) 0) (l.ii n.toNat 2)).1.size)+1)<=9223372036854775807)) (cond (n43u o p t ((m29i ({ data:=#[105,116,101,109] }:BA) (l.ss n.toNat 0) (A7.ss ((l.ii n.toNat 1).toNat) 0) (l.ii n.toNat 2)).1 ++ ({ data:=#[10] }:BA))) (l14_0 w l A u y v f (Z.wrap (n+1)) (m43u o p t ((m29i ({ data:=#[105,116,101,109] }:BA) (l.ss n.toNat 0) (A7.ss ((l.ii n.toNat 1).toNat) 0) (l.ii n.toNat 2)).1 ++ ({ data:=#[10] }:BA))).2.1 (m43u o p t ((m29i ({ data:=#[105,116,101,109] }:BA) (l.ss n.toNat 0) (A7.ss ((l.ii n.toNat 1).toNat) 0) (l.ii n.toNat 2)).1 ++ ({ data:=#[10] }:BA))).2.2.1 (m43u o p t ((m29i ({ data:=#[105,116,101,109] }:BA) (l.ss n.toNat 0) (A7.ss ((l.ii n.toNat 1).toNat) 0) (l.ii n.toNat 2)).1 ++ ({ data:=#[10] }:BA))).2.2.2) aw) aw) aw) aw) aw) aw) (ak (o,p,t)))
abbrev o14_0(w:Nat)(l:Dat)(A:Int)(u:Dat)(y:Nat)(v:Dat)(n:Int)(o p:Nat)(t:Dat):Option (Nat × Nat × Dat):=l14_0 w l A u y v (w+A.toNat+n.toNat+y+o+p+8) n o p t
def e14_0(w:Nat)(l:Dat)(A:Int)(u:Dat)(y:Nat)(v:Dat)(r:Nat × Nat × Dat)(K:XR):Prop:=K (XE.exit 0) [.ptr 0 0,.ptr 1 0] [.cells 25 [.ro [.str,W Z,W Z] w u,.ro [.str,W Z,W Z,W Z] y v],.cells 97 [.ptr 1 0,.gr 2 1 r.1],.row 5 [.int .u8] r.2.1 r.2.2]
def g14_0:AX:=fun s k=>match czv 0 67 [1,5,16,17,18] 3 [⟨az,1,1,2,5,[.int .u8]⟩] s with
 | ak ([.ptr 0 0,.ptr 1 0,.ro [.str,W Z,W Z] w l,V Z A,V Z n],[.cells 25 [.ro [.str,W Z,W Z] z u,.ro [.str,W Z,W Z,W Z] y v],.cells 97 [.ptr 1 0,.gr 2 1 o],.row 5 [.int .u8] p t])=>Ay [decide (w=z),(o14_0 w l A u y v n o p t).isSome] (e14_0 w l A u y v ((o14_0 w l A u y v n o p t).getD ax) fun e vs bs=>AL 0 k e (Aq 0 67 [1,5] vs 3 bs))
 | _=>False
theorem z14_0:Rx Tryz.prog g14_0 (AU (Ad (Tryz.f14.body.getD .skip) 0)) 0:=by
 refine Ka (ι:=Nat × Dat × Int × Int × Dat × Nat × Dat × Nat × Nat × Dat) (L:=[(16,c16),(29,c29s),(43,c43f),(43,c43u),(44,c44),(44,c44f)]) (Λ:=(fun _=>aw)) (fuel:=8) (na:=0) (nt:=67) (nx:=3) (Lh:=[1,5,16,17,18]) (Le:=[1,5]) (gl:=[⟨az,1,1,2,5,[.int .u8]⟩]) (tc k16 (tc k29s (tc k43f (tc k43u (tc k44 (tc k44f tn)))))) A6 As rfl (fun f (w,l,A,n,u,y,v,o,p,t) K=>GG ax (e14_0 w l A u y v) K (l14_0 w l A u y v f n o p t)) (fun (w,l,A,n,u,y,v,o,p,t)=>[.ptr 0 0,.ptr 1 0,.ro [.str,W Z,W Z] w l,V Z A,V Z n]) (fun (w,l,A,n,u,y,v,o,p,t)=>[.cells 25 [.ro [.str,W Z,W Z] w u,.ro [.str,W Z,W Z,W Z] y v],.cells 97 [.ptr 1 0,.gr 2 1 o],.row 5 [.int .u8] p t]) (fun (_,_,_,_,_,_,_,_,_,_) K=>Au) ?_ ?_
 .rintro f ⟨w,l,A,n,u,y,v,o,p,t⟩ K hG
  refine ro (fun R => 
 let a0:=(m29i ({ data:=#[105,116,101,109] }:BA) (l.ss n.toNat 0) (A7.ss ((l.ii n.toNat 1).toNat) 0) (l.ii n.toNat 2))
 let b0:=(a0.1 ++ ({ data:=#[10] }:BA))
 (cnd (aq (n<A))
 (cnd (aq (0<=n/\n<(w:Int)))
  (False \/
 (cnd (aq (0<=(l.ii n.toNat 1)/\(l.ii n.toNat 1)<5))
 (cnd (aq ((l.ii n.toNat 1)<5))
 (cnd (n29i ({ data:=#[105,116,101,109] }:BA) (l.ss n.toNat 0) (A7.ss ((l.ii n.toNat 1).toNat) 0) (l.ii n.toNat 2))
 (cnd (aq (((a0.1.size)+1)<=9223372036854775807))
 (cnd (n43u o p t b0)
 (R (XE.normal) [.ptr 0 0,.ptr 1 0,.ro [.str,W Z,W Z] w l,V Z A,V Z (Z.wrap (n+1))] [.cells 25 [.ro [.str,W Z,W Z] w u,.ro [.str,W Z,W Z,W Z] y v],.cells 97 [.ptr 1 0,.gr 2 1 (m43u o p t b0).2.1],.row 5 [.int .u8] (m43u o p t b0).2.2.1 (m43u o p t b0).2.2.2])
     False)
    False)
    False)
   False)
   False))
  False)
 (R (XE.exit 0) [.ptr 0 0,.ptr 1 0] [.cells 25 [.ro [.str,W Z,W Z] w u,.ro [.str,W Z,W Z,W Z] y v],.cells 97 [.ptr 1 0,.gr 2 1 o],.row 5 [.int .u8] p t]))) (fun R=>by kernel_rfl) ?_
  exact ch hG (fun h0=>cg h0 fun h1=>Or.inr (cg h1 fun h2=>cg h2 fun h3=>cg h3 fun h4=>cg h4 fun h5=>cg h5 fun h6=>⟨(_,_,_,_,_,_,_,_,_,_),rfl,rfl,h6⟩)) (fun h0=>h0.2)
 .intro s k h
  unfold g14_0 at h
  split at h <;> try exact h.elim
  rename_i e1
  rw [Ac] at h
  have hq:=h.1
  simp only [List.mem_cons,forall_eq_or_imp,decide_eq_true_eq,List.not_mem_nil,false_imp_iff,implies_true,and_true] at hq
  obtain ⟨rfl,hq⟩:=hq
  exact ⟨_,e1,_,(_,_,_,_,_,_,_,_,_,_),rfl,rfl,hq,h.2⟩
def h14_0:AX:=OC Tryz.prog [(16,c16),(29,c29s),(43,c43f),(43,c43u),(44,c44),(44,c44f)] (fun _=>aw) 8 0 (AU (Ad (Tryz.f14.body.getD .skip) 0)) (KG 1) g14_0
theorem zh14_0:LOk Tryz.prog h14_0 (.block 0 (Ad (Tryz.f14.body.getD .skip) 0)):=OD (tc k16 (tc k29s (tc k43f (tc k43u (tc k44 (tc k44f tn)))))) A6 As rfl (KG 1) z14_0
def l14_2(x:Nat)(j:Dat)(C:Int)(z:Nat)(u v:Dat):Nat->Int->Nat->Nat->Dat->Option (Nat × Nat × Dat)
 | 0,_,_,_,_=>aw
 | f+1,m,o,p,t=>(cond (aq (m<C)) (cond (aq (0<=m/\m<(x:Int))) (cond (aq (0<=(j.ii m.toNat 1)/\(j.ii m.toNat 1)<5)) (cond (aq ((j.ii m.toNat 1)<5)) (cond (n29r ({ data:=#[114,117,108,101] }:BA) (j.ss m.toNat 0) (A7.ss ((j.ii m.toNat 1).toNat) 0) (j.ii m.toNat 2) (j.ii m.toNat 3)) (cond (aq ((((m29r ({ data:=#[114,117,108,101] }:BA) (j.ss m.toNat 0) (A7.ss ((j.ii m.toNat 1).toNat) 0) (j.ii m.toNat 2) (j.ii m.toNat 3)).1.size)+1)<=9223372036854775807)) (cond (n43u o p t ((m29r ({ data:=#[114,117,108,101] }:BA) (j.ss m.toNat 0) (A7.ss ((j.ii m.toNat 1).toNat) 0) (j.ii m.toNat 2) (j.ii m.toNat 3)).1 ++ ({ data:=#[10] }:BA))) (l14_2 x j C z u v f (Z.wrap (m+1)) (m43u o p t ((m29r ({ data:=#[114,117,108,101] }:BA) (j.ss m.toNat 0) (A7.ss ((j.ii m.toNat 1).toNat) 0) (j.ii m.toNat 2) (j.ii m.toNat 3)).1 ++ ({ data:=#[10] }:BA))).2.1 (m43u o p t ((m29r ({ data:=#[114,117,108,101] }:BA) (j.ss m.toNat 0) (A7.ss ((j.ii m.toNat 1).toNat) 0) (j.ii m.toNat 2) (j.ii m.toNat 3)).1 ++ ({ data:=#[10] }:BA))).2.2.1 (m43u o p t ((m29r ({ data:=#[114,117,108,101] }:BA) (j.ss m.toNat 0) (A7.ss ((j.ii m.toNat 1).toNat) 0) (j.ii m.toNat 2) (j.ii m.toNat 3)).1 ++ ({ data:=#[10] }:BA))).2.2.2) aw) aw) aw) aw) aw) aw) (ak (o,p,t)))
abbrev o14_2(x:Nat)(j:Dat)(C:Int)(z:Nat)(u v:Dat)(m:Int)(o p:Nat)(t:Dat):Option (Nat × Nat × Dat):=l14_2 x j C z u v (x+C.toNat+m.toNat+z+o+p+8) m o p t
def e14_2(x:Nat)(j:Dat)(C:Int)(z:Nat)(u v:Dat)(r:Nat × Nat × Dat)(K:XR):Prop:=K (XE.exit 2) [.ptr 1 0] [.cells 25 [.ro [.str,W Z,W Z] z u,.ro [.str,W Z,W Z,W Z] x v],.cells 97 [.ptr 1 0,.gr 2 1 r.1],.row 5 [.int .u8] r.2.1 r.2.2]
def g14_2:AX:=fun s k=>match czv 0 67 [5,40,41,42] 3 [⟨az,1,1,2,5,[.int .u8]⟩] s with
 | ak ([.ptr 1 0,.ro [.str,W Z,W Z,W Z] x j,V Z C,V Z m],[.cells 25 [.ro [.str,W Z,W Z] z u,.ro [.str,W Z,W Z,W Z] y v],.cells 97 [.ptr 1 0,.gr 2 1 o],.row 5 [.int .u8] p t])=>Ay [decide (x=y),(o14_2 x j C z u v m o p t).isSome] (e14_2 x j C z u v ((o14_2 x j C z u v m o p t).getD ax) fun e vs bs=>AL 2 k e (Aq 0 67 [5] vs 3 bs))
 | _=>False
theorem z14_2:Rx Tryz.prog g14_2 (AU (Ad (Tryz.f14.body.getD .skip) 2)) 2:=by
 refine Ka (ι:=Nat × Dat × Int × Int × Nat × Dat × Dat × Nat × Nat × Dat) (L:=[(16,c16),(29,c29s),(43,c43f),(43,c43u),(44,c44),(44,c44f)]) (Λ:=(J0 [(0,h14_0)])) (fuel:=8) (na:=0) (nt:=67) (nx:=3) (Lh:=[5,40,41,42]) (Le:=[5]) (gl:=[⟨az,1,1,2,5,[.int .u8]⟩]) (tc k16 (tc k29s (tc k43f (tc k43u (tc k44 (tc k44f tn)))))) A6 (AD rfl (lc zh14_0 ln)) rfl (fun f (x,j,C,m,z,u,v,o,p,t) K=>GG ax (e14_2 x j C z u v) K (l14_2 x j C z u v f m o p t)) (fun (x,j,C,m,z,u,v,o,p,t)=>[.ptr 1 0,.ro [.str,W Z,W Z,W Z] x j,V Z C,V Z m]) (fun (x,j,C,m,z,u,v,o,p,t)=>[.cells 25 [.ro [.str,W Z,W Z] z u,.ro [.str,W Z,W Z,W Z] x v],.cells 97 [.ptr 1 0,.gr 2 1 o],.row 5 [.int .u8] p t]) (fun (_,_,_,_,_,_,_,_,_,_) K=>Au) ?_ ?_
 .rintro f ⟨x,j,C,m,z,u,v,o,p,t⟩ K hG
  refine ro (fun R => 
 let a0:=(m29r ({ data:=#[114,117,108,101] }:BA) (j.ss m.toNat 0) (A7.ss ((j.ii m.toNat 1).toNat) 0) (j.ii m.toNat 2) (j.ii m.toNat 3))
 let b0:=(a0.1 ++ ({ data:=#[10] }:BA))
 (cnd (aq (m<C))
 (cnd (aq (0<=m/\m<(x:Int)))
  (False \/
 (cnd (aq (0<=(j.ii m.toNat 1)/\(j.ii m.toNat 1)<5))
 (cnd (aq ((j.ii m.toNat 1)<5))
 (cnd (n29r ({ data:=#[114,117,108,101] }:BA) (j.ss m.toNat 0) (A7.ss ((j.ii m.toNat 1).toNat) 0) (j.ii m.toNat 2) (j.ii m.toNat 3))
 (cnd (aq (((a0.1.size)+1)<=9223372036854775807))
 (cnd (n43u o p t b0)
 (R (XE.normal) [.ptr 1 0,.ro [.str,W Z,W Z,W Z] x j,V Z C,V Z (Z.wrap (m+1))] [.cells 25 [.ro [.str,W Z,W Z] z u,.ro [.str,W Z,W Z,W Z] x v],.cells 97 [.ptr 1 0,.gr 2 1 (m43u o p t b0).2.1],.row 5 [.int .u8] (m43u o p t b0).2.2.1 (m43u o p t b0).2.2.2])
     False)
    False)
    False)
   False)
   False))
  False)
 (R (XE.exit 2) [.ptr 1 0] [.cells 25 [.ro [.str,W Z,W Z] z u,.ro [.str,W Z,W Z,W Z] x v],.cells 97 [.ptr 1 0,.gr 2 1 o],.row 5 [.int .u8] p t]))) (fun R=>by kernel_rfl) ?_
  exact ch hG (fun h0=>cg h0 fun h1=>Or.inr (cg h1 fun h2=>cg h2 fun h3=>cg h3 fun h4=>cg h4 fun h5=>cg h5 fun h6=>⟨(_,_,_,_,_,_,_,_,_,_),rfl,rfl,h6⟩)) (fun h0=>h0.2)
 .intro s k h
  unfold g14_2 at h
  split at h <;> try exact h.elim
  rename_i e1
  rw [Ac] at h
  have hq:=h.1
  simp only [List.mem_cons,forall_eq_or_imp,decide_eq_true_eq,List.not_mem_nil,false_imp_iff,implies_true,and_true] at hq
  obtain ⟨rfl,hq⟩:=hq
  exact ⟨_,e1,_,(_,_,_,_,_,_,_,_,_,_),rfl,rfl,hq,h.2⟩
def h14_2:AX:=OC Tryz.prog [(16,c16),(29,c29s),(43,c43f),(43,c43u),(44,c44),(44,c44f)] (J0 [(0,h14_0)]) 8 2 (AU (Ad (Tryz.f14.body.getD .skip) 2)) (KG 1) g14_2
theorem zh14_2:LOk Tryz.prog h14_2 (.block 2 (Ad (Tryz.f14.body.getD .skip) 2)):=OD (tc k16 (tc k29s (tc k43f (tc k43u (tc k44 (tc k44f tn)))))) A6 (AD rfl (lc zh14_0 ln)) rfl (KG 1) z14_2
def m14(g:Nat)(b:Dat)(i:Nat)(d:Dat):BA × Int :=
 (cond (cond (aq ((m16 g b i d)=0)) az aj) (({ data:=#[] }:BA),(m16 g b i d)) (cond (aq ((0:Int)<(g:Int))) ((m44 ((o14_2 i d (i:Int) g b d 0 ((o14_0 g b (g:Int) b i d 1 (m43f 0 0 A3 ((m29i ({ data:=#[105,116,101,109] }:BA) (b.ss 0 0) (A7.ss ((b.ii 0 1).toNat) 0) (b.ii 0 2)).1 ++ ({ data:=#[10] }:BA))).2.1 (m43f 0 0 A3 ((m29i ({ data:=#[105,116,101,109] }:BA) (b.ss 0 0) (A7.ss ((b.ii 0 1).toNat) 0) (b.ii 0 2)).1 ++ ({ data:=#[10] }:BA))).2.2.1 (m43f 0 0 A3 ((m29i ({ data:=#[105,116,101,109] }:BA) (b.ss 0 0) (A7.ss ((b.ii 0 1).toNat) 0) (b.ii 0 2)).1 ++ ({ data:=#[10] }:BA))).2.2.2).getD ax).1 ((o14_0 g b (g:Int) b i d 1 (m43f 0 0 A3 ((m29i ({ data:=#[105,116,101,109] }:BA) (b.ss 0 0) (A7.ss ((b.ii 0 1).toNat) 0) (b.ii 0 2)).1 ++ ({ data:=#[10] }:BA))).2.1 (m43f 0 0 A3 ((m29i ({ data:=#[105,116,101,109] }:BA) (b.ss 0 0) (A7.ss ((b.ii 0 1).toNat) 0) (b.ii 0 2)).1 ++ ({ data:=#[10] }:BA))).2.2.1 (m43f 0 0 A3 ((m29i ({ data:=#[105,116,101,109] }:BA) (b.ss 0 0) (A7.ss ((b.ii 0 1).toNat) 0) (b.ii 0 2)).1 ++ ({ data:=#[10] }:BA))).2.2.2).getD ax).2.1 ((o14_0 g b (g:Int) b i d 1 (m43f 0 0 A3 ((m29i ({ data:=#[105,116,101,109] }:BA) (b.ss 0 0) (A7.ss ((b.ii 0 1).toNat) 0) (b.ii 0 2)).1 ++ ({ data:=#[10] }:BA))).2.1 (m43f 0 0 A3 ((m29i ({ data:=#[105,116,101,109] }:BA) (b.ss 0 0) (A7.ss ((b.ii 0 1).toNat) 0) (b.ii 0 2)).1 ++ ({ data:=#[10] }:BA))).2.2.1 (m43f 0 0 A3 ((m29i ({ data:=#[105,116,101,109] }:BA) (b.ss 0 0) (A7.ss ((b.ii 0 1).toNat) 0) (b.ii 0 2)).1 ++ ({ data:=#[10] }:BA))).2.2.2).getD ax).2.2).getD ax).1 ((o14_2 i d (i:Int) g b d 0 ((o14_0 g b (g:Int) b i d 1 (m43f 0 0 A3 ((m29i ({ data:=#[105,116,101,109] }:BA) (b.ss 0 0) (A7.ss ((b.ii 0 1).toNat) 0) (b.ii 0 2)).1 ++ ({ data:=#[10] }:BA))).2.1 (m43f 0 0 A3 ((m29i ({ data:=#[105,116,101,109] }:BA) (b.ss 0 0) (A7.ss ((b.ii 0 1).toNat) 0) (b.ii 0 2)).1 ++ ({ data:=#[10] }:BA))).2.2.1 (m43f 0 0 A3 ((m29i ({ data:=#[105,116,101,109] }:BA) (b.ss 0 0) (A7.ss ((b.ii 0 1).toNat) 0) (b.ii 0 2)).1 ++ ({ data:=#[10] }:BA))).2.2.2).getD ax).1 ((o14_0 g b (g:Int) b i d 1 (m43f 0 0 A3 ((m29i ({ data:=#[105,116,101,109] }:BA) (b.ss 0 0) (A7.ss ((b.ii 0 1).toNat) 0) (b.ii 0 2)).1 ++ ({ data:=#[10] }:BA))).2.1 (m43f 0 0 A3 ((m29i ({ data:=#[105,116,101,109] }:BA) (b.ss 0 0) (A7.ss ((b.ii 0 1).toNat) 0) (b.ii 0 2)).1 ++ ({ data:=#[10] }:BA))).2.2.1 (m43f 0 0 A3 ((m29i ({ data:=#[105,116,101,109] }:BA) (b.ss 0 0) (A7.ss ((b.ii 0 1).toNat) 0) (b.ii 0 2)).1 ++ ({ data:=#[10] }:BA))).2.2.2).getD ax).2.1 ((o14_0 g b (g:Int) b i d 1 (m43f 0 0 A3 ((m29i ({ data:=#[105,116,101,109] }:BA) (b.ss 0 0) (A7.ss ((b.ii 0 1).toNat) 0) (b.ii 0 2)).1 ++ ({ data:=#[10] }:BA))).2.1 (m43f 0 0 A3 ((m29i ({ data:=#[105,116,101,109] }:BA) (b.ss 0 0) (A7.ss ((b.ii 0 1).toNat) 0) (b.ii 0 2)).1 ++ ({ data:=#[10] }:BA))).2.2.1 (m43f 0 0 A3 ((m29i ({ data:=#[105,116,101,109] }:BA) (b.ss 0 0) (A7.ss ((b.ii 0 1).toNat) 0) (b.ii 0 2)).1 ++ ({ data:=#[10] }:BA))).2.2.2).getD ax).2.2).getD ax).2.2),0) (cond (aq ((0:Int)<(i:Int))) ((m44 ((o14_2 i d (i:Int) g b d 1 (m43f 0 0 A3 ((m29r ({ data:=#[114,117,108,101] }:BA) (d.ss 0 0) (A7.ss ((d.ii 0 1).toNat) 0) (d.ii 0 2) (d.ii 0 3)).1 ++ ({ data:=#[10] }:BA))).2.1 (m43f 0 0 A3 ((m29r ({ data:=#[114,117,108,101] }:BA) (d.ss 0 0) (A7.ss ((d.ii 0 1).toNat) 0) (d.ii 0 2) (d.ii 0 3)).1 ++ ({ data:=#[10] }:BA))).2.2.1 (m43f 0 0 A3 ((m29r ({ data:=#[114,117,108,101] }:BA) (d.ss 0 0) (A7.ss ((d.ii 0 1).toNat) 0) (d.ii 0 2) (d.ii 0 3)).1 ++ ({ data:=#[10] }:BA))).2.2.2).getD ax).1 ((o14_2 i d (i:Int) g b d 1 (m43f 0 0 A3 ((m29r ({ data:=#[114,117,108,101] }:BA) (d.ss 0 0) (A7.ss ((d.ii 0 1).toNat) 0) (d.ii 0 2) (d.ii 0 3)).1 ++ ({ data:=#[10] }:BA))).2.1 (m43f 0 0 A3 ((m29r ({ data:=#[114,117,108,101] }:BA) (d.ss 0 0) (A7.ss ((d.ii 0 1).toNat) 0) (d.ii 0 2) (d.ii 0 3)).1 ++ ({ data:=#[10] }:BA))).2.2.1 (m43f 0 0 A3 ((m29r ({ data:=#[114,117,108,101] }:BA) (d.ss 0 0) (A7.ss ((d.ii 0 1).toNat) 0) (d.ii 0 2) (d.ii 0 3)).1 ++ ({ data:=#[10] }:BA))).2.2.2).getD ax).2.2),0) (m44f,0))))
def n14(g:Nat)(b:Dat)(i:Nat)(d:Dat):Bool :=
 ((n16 g b i d)&&(cond (cond (aq ((m16 g b i d)=0)) az aj) aj (cond (aq ((0:Int)<(g:Int))) ((aq ((0:Int)<=(0:Int)/\(0:Int)<(g:Int)))&&((aq (0<=(b.ii 0 1)/\(b.ii 0 1)<5))&&((aq ((b.ii 0 1)<5))&&((n29i ({ data:=#[105,116,101,109] }:BA) (b.ss 0 0) (A7.ss ((b.ii 0 1).toNat) 0) (b.ii 0 2))&&((aq ((((m29i ({ data:=#[105,116,101,109] }:BA) (b.ss 0 0) (A7.ss ((b.ii 0 1).toNat) 0) (b.ii 0 2)).1.size)+1)<=9223372036854775807))&&((n43f 0 0 A3 ((m29i ({ data:=#[105,116,101,109] }:BA) (b.ss 0 0) (A7.ss ((b.ii 0 1).toNat) 0) (b.ii 0 2)).1 ++ ({ data:=#[10] }:BA)))&&(((o14_0 g b (g:Int) b i d 1 (m43f 0 0 A3 ((m29i ({ data:=#[105,116,101,109] }:BA) (b.ss 0 0) (A7.ss ((b.ii 0 1).toNat) 0) (b.ii 0 2)).1 ++ ({ data:=#[10] }:BA))).2.1 (m43f 0 0 A3 ((m29i ({ data:=#[105,116,101,109] }:BA) (b.ss 0 0) (A7.ss ((b.ii 0 1).toNat) 0) (b.ii 0 2)).1 ++ ({ data:=#[10] }:BA))).2.2.1 (m43f 0 0 A3 ((m29i ({ data:=#[105,116,101,109] }:BA) (b.ss 0 0) (A7.ss ((b.ii 0 1).toNat) 0) (b.ii 0 2)).1 ++ ({ data:=#[10] }:BA))).2.2.2).isSome)&&(((o14_2 i d (i:Int) g b d 0 ((o14_0 g b (g:Int) b i d 1 (m43f 0 0 A3 ((m29i ({ data:=#[105,116,101,109] }:BA) (b.ss 0 0) (A7.ss ((b.ii 0 1).toNat) 0) (b.ii 0 2)).1 ++ ({ data:=#[10] }:BA))).2.1 (m43f 0 0 A3 ((m29i ({ data:=#[105,116,101,109] }:BA) (b.ss 0 0) (A7.ss ((b.ii 0 1).toNat) 0) (b.ii 0 2)).1 ++ ({ data:=#[10] }:BA))).2.2.1 (m43f 0 0 A3 ((m29i ({ data:=#[105,116,101,109] }:BA) (b.ss 0 0) (A7.ss ((b.ii 0 1).toNat) 0) (b.ii 0 2)).1 ++ ({ data:=#[10] }:BA))).2.2.2).getD ax).1 ((o14_0 g b (g:Int) b i d 1 (m43f 0 0 A3 ((m29i ({ data:=#[105,116,101,109] }:BA) (b.ss 0 0) (A7.ss ((b.ii 0 1).toNat) 0) (b.ii 0 2)).1 ++ ({ data:=#[10] }:BA))).2.1 (m43f 0 0 A3 ((m29i ({ data:=#[105,116,101,109] }:BA) (b.ss 0 0) (A7.ss ((b.ii 0 1).toNat) 0) (b.ii 0 2)).1 ++ ({ data:=#[10] }:BA))).2.2.1 (m43f 0 0 A3 ((m29i ({ data:=#[105,116,101,109] }:BA) (b.ss 0 0) (A7.ss ((b.ii 0 1).toNat) 0) (b.ii 0 2)).1 ++ ({ data:=#[10] }:BA))).2.2.2).getD ax).2.1 ((o14_0 g b (g:Int) b i d 1 (m43f 0 0 A3 ((m29i ({ data:=#[105,116,101,109] }:BA) (b.ss 0 0) (A7.ss ((b.ii 0 1).toNat) 0) (b.ii 0 2)).1 ++ ({ data:=#[10] }:BA))).2.1 (m43f 0 0 A3 ((m29i ({ data:=#[105,116,101,109] }:BA) (b.ss 0 0) (A7.ss ((b.ii 0 1).toNat) 0) (b.ii 0 2)).1 ++ ({ data:=#[10] }:BA))).2.2.1 (m43f 0 0 A3 ((m29i ({ data:=#[105,116,101,109] }:BA) (b.ss 0 0) (A7.ss ((b.ii 0 1).toNat) 0) (b.ii 0 2)).1 ++ ({ data:=#[10] }:BA))).2.2.2).getD ax).2.2).isSome)&&((n44 ((o14_2 i d (i:Int) g b d 0 ((o14_0 g b (g:Int) b i d 1 (m43f 0 0 A3 ((m29i ({ data:=#[105,116,101,109] }:BA) (b.ss 0 0) (A7.ss ((b.ii 0 1).toNat) 0) (b.ii 0 2)).1 ++ ({ data:=#[10] }:BA))).2.1 (m43f 0 0 A3 ((m29i ({ data:=#[105,116,101,109] }:BA) (b.ss 0 0) (A7.ss ((b.ii 0 1).toNat) 0) (b.ii 0 2)).1 ++ ({ data:=#[10] }:BA))).2.2.1 (m43f 0 0 A3 ((m29i ({ data:=#[105,116,101,109] }:BA) (b.ss 0 0) (A7.ss ((b.ii 0 1).toNat) 0) (b.ii 0 2)).1 ++ ({ data:=#[10] }:BA))).2.2.2).getD ax).1 ((o14_0 g b (g:Int) b i d 1 (m43f 0 0 A3 ((m29i ({ data:=#[105,116,101,109] }:BA) (b.ss 0 0) (A7.ss ((b.ii 0 1).toNat) 0) (b.ii 0 2)).1 ++ ({ data:=#[10] }:BA))).2.1 (m43f 0 0 A3 ((m29i ({ data:=#[105,116,101,109] }:BA) (b.ss 0 0) (A7.ss ((b.ii 0 1).toNat) 0) (b.ii 0 2)).1 ++ ({ data:=#[10] }:BA))).2.2.1 (m43f 0 0 A3 ((m29i ({ data:=#[105,116,101,109] }:BA) (b.ss 0 0) (A7.ss ((b.ii 0 1).toNat) 0) (b.ii 0 2)).1 ++ ({ data:=#[10] }:BA))).2.2.2).getD ax).2.1 ((o14_0 g b (g:Int) b i d 1 (m43f 0 0 A3 ((m29i ({ data:=#[105,116,101,109] }:BA) (b.ss 0 0) (A7.ss ((b.ii 0 1).toNat) 0) (b.ii 0 2)).1 ++ ({ data:=#[10] }:BA))).2.1 (m43f 0 0 A3 ((m29i ({ data:=#[105,116,101,109] }:BA) (b.ss 0 0) (A7.ss ((b.ii 0 1).toNat) 0) (b.ii 0 2)).1 ++ ({ data:=#[10] }:BA))).2.2.1 (m43f 0 0 A3 ((m29i ({ data:=#[105,116,101,109] }:BA) (b.ss 0 0) (A7.ss ((b.ii 0 1).toNat) 0) (b.ii 0 2)).1 ++ ({ data:=#[10] }:BA))).2.2.2).getD ax).2.2).getD ax).1 ((o14_2 i d (i:Int) g b d 0 ((o14_0 g b (g:Int) b i d 1 (m43f 0 0 A3 ((m29i ({ data:=#[105,116,101,109] }:BA) (b.ss 0 0) (A7.ss ((b.ii 0 1).toNat) 0) (b.ii 0 2)).1 ++ ({ data:=#[10] }:BA))).2.1 (m43f 0 0 A3 ((m29i ({ data:=#[105,116,101,109] }:BA) (b.ss 0 0) (A7.ss ((b.ii 0 1).toNat) 0) (b.ii 0 2)).1 ++ ({ data:=#[10] }:BA))).2.2.1 (m43f 0 0 A3 ((m29i ({ data:=#[105,116,101,109] }:BA) (b.ss 0 0) (A7.ss ((b.ii 0 1).toNat) 0) (b.ii 0 2)).1 ++ ({ data:=#[10] }:BA))).2.2.2).getD ax).1 ((o14_0 g b (g:Int) b i d 1 (m43f 0 0 A3 ((m29i ({ data:=#[105,116,101,109] }:BA) (b.ss 0 0) (A7.ss ((b.ii 0 1).toNat) 0) (b.ii 0 2)).1 ++ ({ data:=#[10] }:BA))).2.1 (m43f 0 0 A3 ((m29i ({ data:=#[105,116,101,109] }:BA) (b.ss 0 0) (A7.ss ((b.ii 0 1).toNat) 0) (b.ii 0 2)).1 ++ ({ data:=#[10] }:BA))).2.2.1 (m43f 0 0 A3 ((m29i ({ data:=#[105,116,101,109] }:BA) (b.ss 0 0) (A7.ss ((b.ii 0 1).toNat) 0) (b.ii 0 2)).1 ++ ({ data:=#[10] }:BA))).2.2.2).getD ax).2.1 ((o14_0 g b (g:Int) b i d 1 (m43f 0 0 A3 ((m29i ({ data:=#[105,116,101,109] }:BA) (b.ss 0 0) (A7.ss ((b.ii 0 1).toNat) 0) (b.ii 0 2)).1 ++ ({ data:=#[10] }:BA))).2.1 (m43f 0 0 A3 ((m29i ({ data:=#[105,116,101,109] }:BA) (b.ss 0 0) (A7.ss ((b.ii 0 1).toNat) 0) (b.ii 0 2)).1 ++ ({ data:=#[10] }:BA))).2.2.1 (m43f 0 0 A3 ((m29i ({ data:=#[105,116,101,109] }:BA) (b.ss 0 0) (A7.ss ((b.ii 0 1).toNat) 0) (b.ii 0 2)).1 ++ ({ data:=#[10] }:BA))).2.2.2).getD ax).2.2).getD ax).2.1 ((o14_2 i d (i:Int) g b d 0 ((o14_0 g b (g:Int) b i d 1 (m43f 0 0 A3 ((m29i ({ data:=#[105,116,101,109] }:BA) (b.ss 0 0) (A7.ss ((b.ii 0 1).toNat) 0) (b.ii 0 2)).1 ++ ({ data:=#[10] }:BA))).2.1 (m43f 0 0 A3 ((m29i ({ data:=#[105,116,101,109] }:BA) (b.ss 0 0) (A7.ss ((b.ii 0 1).toNat) 0) (b.ii 0 2)).1 ++ ({ data:=#[10] }:BA))).2.2.1 (m43f 0 0 A3 ((m29i ({ data:=#[105,116,101,109] }:BA) (b.ss 0 0) (A7.ss ((b.ii 0 1).toNat) 0) (b.ii 0 2)).1 ++ ({ data:=#[10] }:BA))).2.2.2).getD ax).1 ((o14_0 g b (g:Int) b i d 1 (m43f 0 0 A3 ((m29i ({ data:=#[105,116,101,109] }:BA) (b.ss 0 0) (A7.ss ((b.ii 0 1).toNat) 0) (b.ii 0 2)).1 ++ ({ data:=#[10] }:BA))).2.1 (m43f 0 0 A3 ((m29i ({ data:=#[105,116,101,109] }:BA) (b.ss 0 0) (A7.ss ((b.ii 0 1).toNat) 0) (b.ii 0 2)).1 ++ ({ data:=#[10] }:BA))).2.2.1 (m43f 0 0 A3 ((m29i ({ data:=#[105,116,101,109] }:BA) (b.ss 0 0) (A7.ss ((b.ii 0 1).toNat) 0) (b.ii 0 2)).1 ++ ({ data:=#[10] }:BA))).2.2.2).getD ax).2.1 ((o14_0 g b (g:Int) b i d 1 (m43f 0 0 A3 ((m29i ({ data:=#[105,116,101,109] }:BA) (b.ss 0 0) (A7.ss ((b.ii 0 1).toNat) 0) (b.ii 0 2)).1 ++ ({ data:=#[10] }:BA))).2.1 (m43f 0 0 A3 ((m29i ({ data:=#[105,116,101,109] }:BA) (b.ss 0 0) (A7.ss ((b.ii 0 1).toNat) 0) (b.ii 0 2)).1 ++ ({ data:=#[10] }:BA))).2.2.1 (m43f 0 0 A3 ((m29i ({ data:=#[105,116,101,109] }:BA) (b.ss 0 0) (A7.ss ((b.ii 0 1).toNat) 0) (b.ii 0 2)).1 ++ ({ data:=#[10] }:BA))).2.2.2).getD ax).2.2).getD ax).2.2)&&aj))))))))) (cond (aq ((0:Int)<(i:Int))) ((aq ((0:Int)<=(0:Int)/\(0:Int)<(i:Int)))&&((aq (0<=(d.ii 0 1)/\(d.ii 0 1)<5))&&((aq ((d.ii 0 1)<5))&&((n29r ({ data:=#[114,117,108,101] }:BA) (d.ss 0 0) (A7.ss ((d.ii 0 1).toNat) 0) (d.ii 0 2) (d.ii 0 3))&&((aq ((((m29r ({ data:=#[114,117,108,101] }:BA) (d.ss 0 0) (A7.ss ((d.ii 0 1).toNat) 0) (d.ii 0 2) (d.ii 0 3)).1.size)+1)<=9223372036854775807))&&((n43f 0 0 A3 ((m29r ({ data:=#[114,117,108,101] }:BA) (d.ss 0 0) (A7.ss ((d.ii 0 1).toNat) 0) (d.ii 0 2) (d.ii 0 3)).1 ++ ({ data:=#[10] }:BA)))&&(((o14_2 i d (i:Int) g b d 1 (m43f 0 0 A3 ((m29r ({ data:=#[114,117,108,101] }:BA) (d.ss 0 0) (A7.ss ((d.ii 0 1).toNat) 0) (d.ii 0 2) (d.ii 0 3)).1 ++ ({ data:=#[10] }:BA))).2.1 (m43f 0 0 A3 ((m29r ({ data:=#[114,117,108,101] }:BA) (d.ss 0 0) (A7.ss ((d.ii 0 1).toNat) 0) (d.ii 0 2) (d.ii 0 3)).1 ++ ({ data:=#[10] }:BA))).2.2.1 (m43f 0 0 A3 ((m29r ({ data:=#[114,117,108,101] }:BA) (d.ss 0 0) (A7.ss ((d.ii 0 1).toNat) 0) (d.ii 0 2) (d.ii 0 3)).1 ++ ({ data:=#[10] }:BA))).2.2.2).isSome)&&((n44 ((o14_2 i d (i:Int) g b d 1 (m43f 0 0 A3 ((m29r ({ data:=#[114,117,108,101] }:BA) (d.ss 0 0) (A7.ss ((d.ii 0 1).toNat) 0) (d.ii 0 2) (d.ii 0 3)).1 ++ ({ data:=#[10] }:BA))).2.1 (m43f 0 0 A3 ((m29r ({ data:=#[114,117,108,101] }:BA) (d.ss 0 0) (A7.ss ((d.ii 0 1).toNat) 0) (d.ii 0 2) (d.ii 0 3)).1 ++ ({ data:=#[10] }:BA))).2.2.1 (m43f 0 0 A3 ((m29r ({ data:=#[114,117,108,101] }:BA) (d.ss 0 0) (A7.ss ((d.ii 0 1).toNat) 0) (d.ii 0 2) (d.ii 0 3)).1 ++ ({ data:=#[10] }:BA))).2.2.2).getD ax).1 ((o14_2 i d (i:Int) g b d 1 (m43f 0 0 A3 ((m29r ({ data:=#[114,117,108,101] }:BA) (d.ss 0 0) (A7.ss ((d.ii 0 1).toNat) 0) (d.ii 0 2) (d.ii 0 3)).1 ++ ({ data:=#[10] }:BA))).2.1 (m43f 0 0 A3 ((m29r ({ data:=#[114,117,108,101] }:BA) (d.ss 0 0) (A7.ss ((d.ii 0 1).toNat) 0) (d.ii 0 2) (d.ii 0 3)).1 ++ ({ data:=#[10] }:BA))).2.2.1 (m43f 0 0 A3 ((m29r ({ data:=#[114,117,108,101] }:BA) (d.ss 0 0) (A7.ss ((d.ii 0 1).toNat) 0) (d.ii 0 2) (d.ii 0 3)).1 ++ ({ data:=#[10] }:BA))).2.2.2).getD ax).2.1 ((o14_2 i d (i:Int) g b d 1 (m43f 0 0 A3 ((m29r ({ data:=#[114,117,108,101] }:BA) (d.ss 0 0) (A7.ss ((d.ii 0 1).toNat) 0) (d.ii 0 2) (d.ii 0 3)).1 ++ ({ data:=#[10] }:BA))).2.1 (m43f 0 0 A3 ((m29r ({ data:=#[114,117,108,101] }:BA) (d.ss 0 0) (A7.ss ((d.ii 0 1).toNat) 0) (d.ii 0 2) (d.ii 0 3)).1 ++ ({ data:=#[10] }:BA))).2.2.1 (m43f 0 0 A3 ((m29r ({ data:=#[114,117,108,101] }:BA) (d.ss 0 0) (A7.ss ((d.ii 0 1).toNat) 0) (d.ii 0 2) (d.ii 0 3)).1 ++ ({ data:=#[10] }:BA))).2.2.2).getD ax).2.2)&&aj)))))))) aj))))
def q14(r:BA × Int):SV × List Blk × List Blk:=(.tup [.str r.1,V Z r.2],[],[])
def g14:GF:=fun vs bs=>match vs,bs with
 | [.agg [.ro [.str,W Z,W Z] g b,.ro [.str,W Z,W Z,W Z] i d]],[]=>ak (rs 0 (q14 (m14 g b i d)) [n14 g b i d])
 | _,_=>aw
def c14:Ctr:=AA [.a [.ro [.str,W Z,W Z],.ro [.str,W Z,W Z,W Z]]] g14
theorem k14:Ag Tryz.prog c14 14:=cx (tc k16 (tc k29s (tc k43f (tc k43u (tc k44 (tc k44f tn)))))) A6 8 (fn:=Tryz.f14) (c:=(Tryz.f14.body.getD .skip)) (grs:=[]) (rh:=.k) Tryz.func14 rfl (by kernel_rfl) (AD rfl (lc zh14_0 (lc zh14_2 ln))) fun vs bs q h hn=>by
 unfold g14 at h
 split at h <;> cases h
 rename_i g b i d
 have hn:=n1 hn
 exact ⟨_,rfl,ca (fun R => 
 let e0:=({ data:=#[105,116,101,109] }:BA)
 let h0:=(m29i e0 (b.ss 0 0) (A7.ss ((b.ii 0 1).toNat) 0) (b.ii 0 2))
 let a0:=(o14_0 g b (g:Int) b i d 1 (m43f 0 0 A3 (h0.1 ++ ({ data:=#[10] }:BA))).2.1 (m43f 0 0 A3 (h0.1 ++ ({ data:=#[10] }:BA))).2.2.1 (m43f 0 0 A3 (h0.1 ++ ({ data:=#[10] }:BA))).2.2.2)
 let f0:=({ data:=#[114,117,108,101] }:BA)
 let g0:=(m29r f0 (d.ss 0 0) (A7.ss ((d.ii 0 1).toNat) 0) (d.ii 0 2) (d.ii 0 3))
 let b0:=(m43f 0 0 A3 (g0.1 ++ ({ data:=#[10] }:BA)))
 let c0:=(o14_2 i d (i:Int) g b d 0 (a0.getD ax).1 (a0.getD ax).2.1 (a0.getD ax).2.2)
 let d0:=((o14_2 i d (i:Int) g b d 1 b0.2.1 b0.2.2.1 b0.2.2.2).getD ax)
 (cnd (n16 g b i d)
 (cnd (cond (aq ((m16 g b i d)=0)) az aj)
 (R (.tup [.str ({ data:=#[] }:BA),V Z (m16 g b i d)]) [] [])
 (cnd (aq ((0:Int)<(g:Int)))
 (cnd (aq ((0:Int)<=(0:Int)/\(0:Int)<(g:Int)))
   ((cnd (aq (0<=(b.ii 0 1)/\(b.ii 0 1)<5))
 (cnd (aq ((b.ii 0 1)<5))
 (cnd (n29i e0 (b.ss 0 0) (A7.ss ((b.ii 0 1).toNat) 0) (b.ii 0 2))
 (cnd (aq (((h0.1.size)+1)<=9223372036854775807))
 (cnd (n43f 0 0 A3 (h0.1 ++ ({ data:=#[10] }:BA)))
 (cnd (aq (g=g))
 (cnd (a0.isSome)
 (cnd (aq (i=i))
 (cnd (c0.isSome)
        ((cnd (n44 (c0.getD ax).1 (c0.getD ax).2.1 (c0.getD ax).2.2)
 (R (.tup [.str (m44 (c0.getD ax).1 (c0.getD ax).2.2),V Z 0]) [] [])
         False) \/
        False)
        False)
       False)
       False)
      False)
      False)
     False)
     False)
    False)
    False) \/
   False)
   False)
 (cnd (aq ((0:Int)<(i:Int)))
 (cnd (aq ((0:Int)<=(0:Int)/\(0:Int)<(i:Int)))
   ((cnd (aq (0<=(d.ii 0 1)/\(d.ii 0 1)<5))
 (cnd (aq ((d.ii 0 1)<5))
 (cnd (n29r f0 (d.ss 0 0) (A7.ss ((d.ii 0 1).toNat) 0) (d.ii 0 2) (d.ii 0 3))
 (cnd (aq (((g0.1.size)+1)<=9223372036854775807))
 (cnd (n43f 0 0 A3 (g0.1 ++ ({ data:=#[10] }:BA)))
 (cnd (aq (i=i))
 (cnd ((o14_2 i d (i:Int) g b d 1 b0.2.1 b0.2.2.1 b0.2.2.2).isSome)
       ((cnd (n44 d0.1 d0.2.1 d0.2.2)
 (R (.tup [.str (m44 d0.1 d0.2.2),V Z 0]) [] [])
        False) \/
        False)
       False)
       False)
      False)
      False)
     False)
     False)
    False) \/
    False)
   False)
   (False \/
 (R (.tup [.str m44f,V Z 0]) [] [])))))
 False)) (fun R=>by kernel_rfl) (cn (al hn) (co (fun h0=>lf (cT h0 rfl) rfl) (fun h0=>co (fun h1=>cn (al (ct h1 (cf h0 (ar hn)))) (Or.inl (cn (al (ar (ct h1 (cf h0 (ar hn))))) (cn (al (ar (ar (ct h1 (cf h0 (ar hn)))))) (cn (al (ar (ar (ar (ct h1 (cf h0 (ar hn))))))) (cn (al (ar (ar (ar (ar (ct h1 (cf h0 (ar hn)))))))) (cn (al (ar (ar (ar (ar (ar (ct h1 (cf h0 (ar hn))))))))) (cn (decide_eq_true rfl) (cn (al (ar (ar (ar (ar (ar (ar (ct h1 (cf h0 (ar hn)))))))))) (cn (decide_eq_true rfl) (cn (al (ar (ar (ar (ar (ar (ar (ar (ct h1 (cf h0 (ar hn))))))))))) (Or.inl (cn (al (ar (ar (ar (ar (ar (ar (ar (ar (ct h1 (cf h0 (ar hn)))))))))))) (lf (cF h0 (cT h1 rfl)) rfl)))))))))))))) (fun h1=>co (fun h2=>cn (al (ct h2 (cf h1 (cf h0 (ar hn))))) (Or.inl (cn (al (ar (ct h2 (cf h1 (cf h0 (ar hn)))))) (cn (al (ar (ar (ct h2 (cf h1 (cf h0 (ar hn))))))) (cn (al (ar (ar (ar (ct h2 (cf h1 (cf h0 (ar hn)))))))) (cn (al (ar (ar (ar (ar (ct h2 (cf h1 (cf h0 (ar hn))))))))) (cn (al (ar (ar (ar (ar (ar (ct h2 (cf h1 (cf h0 (ar hn)))))))))) (cn (decide_eq_true rfl) (cn (al (ar (ar (ar (ar (ar (ar (ct h2 (cf h1 (cf h0 (ar hn))))))))))) (Or.inl (cn (al (ar (ar (ar (ar (ar (ar (ar (ct h2 (cf h1 (cf h0 (ar hn)))))))))))) (lf (cF h0 (cF h1 (cT h2 rfl))) rfl)))))))))))) (fun h2=>Or.inr (lf (cF h0 (cF h1 (cF h2 rfl))) rfl))))))⟩
/-! ### shotline/kit.Parse -/
def l17_0(o p:Int)(Y:Dat):Nat->Nat->Nat->Nat->Int->Nat->Dat->Nat->Dat->Option (Bool × (Nat × Nat × Int × Nat × Dat × Nat × Dat) × (Int × Int × Nat × Nat × Int × Nat × Dat × Nat × Dat))
 | 0,kk,a,b,n,d,g,i,l=>ak (aj,(a,b,n,d,g,i,l),ax)
 | f+1,kk,a,b,n,d,g,i,l=>(cond (n52 (Y.ss kk 0)) (cond (cond (m52 (Y.ss kk 0) ({ data:=#[10] }:BA)).2 az aj) (cond (cond (m52 (Y.ss kk 0) ({ data:=#[10] }:BA)).2 az aj) (cond (cond (m52 (Y.ss kk 0) ({ data:=#[10] }:BA)).2 az aj) (cond (bif (cond (m52 (Y.ss kk 0) ({ data:=#[10] }:BA)).2 az aj) then aj else aj) (ak (az,ax,((Z.wrap (n+1)),7,a,b,(Z.wrap (n+1)),d,g,i,l))) (l17_0 o p Y f (kk+1) a b (Z.wrap (n+1)) d g i l)) aw) aw) (cond (cond (cond (m52 (Y.ss kk 0) ({ data:=#[10] }:BA)).2 az aj) az aj) (cond (n53 a d g b i l (m52 (Y.ss kk 0) ({ data:=#[10] }:BA)).1) (cond (cond (cond (m52 (Y.ss kk 0) ({ data:=#[10] }:BA)).2 az aj) az aj) (cond (bif (cond (m52 (Y.ss kk 0) ({ data:=#[10] }:BA)).2 az aj) then aj else (cond (m53 a d g b i l (m52 (Y.ss kk 0) ({ data:=#[10] }:BA)).1).1 az aj)) (ak (az,ax,((Z.wrap (n+1)),7,(m53 a d g b i l (m52 (Y.ss kk 0) ({ data:=#[10] }:BA)).1).2.1,(m53 a d g b i l (m52 (Y.ss kk 0) ({ data:=#[10] }:BA)).1).2.2.1,(Z.wrap (n+1)),(m53 a d g b i l (m52 (Y.ss kk 0) ({ data:=#[10] }:BA)).1).2.2.2.1,(m53 a d g b i l (m52 (Y.ss kk 0) ({ data:=#[10] }:BA)).1).2.2.2.2.1,(m53 a d g b i l (m52 (Y.ss kk 0) ({ data:=#[10] }:BA)).1).2.2.2.2.2.1,(m53 a d g b i l (m52 (Y.ss kk 0) ({ data:=#[10] }:BA)).1).2.2.2.2.2.2))) (l17_0 o p Y f (kk+1) (m53 a d g b i l (m52 (Y.ss kk 0) ({ data:=#[10] }:BA)).1).2.1 (m53 a d g b i l (m52 (Y.ss kk 0) ({ data:=#[10] }:BA)).1).2.2.1 (Z.wrap (n+1)) (m53 a d g b i l (m52 (Y.ss kk 0) ({ data:=#[10] }:BA)).1).2.2.2.1 (m53 a d g b i l (m52 (Y.ss kk 0) ({ data:=#[10] }:BA)).1).2.2.2.2.1 (m53 a d g b i l (m52 (Y.ss kk 0) ({ data:=#[10] }:BA)).1).2.2.2.2.2.1 (m53 a d g b i l (m52 (Y.ss kk 0) ({ data:=#[10] }:BA)).1).2.2.2.2.2.2)) aw) aw) aw)) aw)
abbrev o17_0(o p:Int)(o5_0:BA)(a b:Nat)(n:Int)(d:Nat)(g:Dat)(i:Nat)(l:Dat):Option (Bool × (Nat × Nat × Int × Nat × Dat × Nat × Dat) × (Int × Int × Nat × Nat × Int × Nat × Dat × Nat × Dat)):=l17_0 o p (Y78 o5_0) (N78 o5_0) 0 a b n d g i l
def e17_0(o p:Int)(r:Bool × (Nat × Nat × Int × Nat × Dat × Nat × Dat) × (Int × Int × Nat × Nat × Int × Nat × Dat × Nat × Dat))(K:XR):Prop:=cnd r.1 (K (XE.normal) [] [.cells 25 [.nsl,.nsl],.cells 3 [V Z o],.cells 32 [V Z p],.cells 25 [.gr 6 3 r.2.1.1,.gr 7 4 r.2.1.2.1],.cells 3 [V Z r.2.1.2.2.1],.unk,.row 75 [.str,W Z,W Z] r.2.1.2.2.2.1 r.2.1.2.2.2.2.1,.row 77 [.str,W Z,W Z,W Z] r.2.1.2.2.2.2.2.1 r.2.1.2.2.2.2.2.2]) (K (XE.ret) [] [.cells 25 [.nsl,.nsl],.cells 3 [V Z r.2.2.1],.cells 32 [V Z r.2.2.2.1],.cells 25 [.gr 6 3 r.2.2.2.2.1,.gr 7 4 r.2.2.2.2.2.1],.cells 3 [V Z r.2.2.2.2.2.2.1],.unk,.row 75 [.str,W Z,W Z] r.2.2.2.2.2.2.2.1 r.2.2.2.2.2.2.2.2.1,.row 77 [.str,W Z,W Z,W Z] r.2.2.2.2.2.2.2.2.2.1 r.2.2.2.2.2.2.2.2.2.2])
def g17_0:AX:=fun s k=>match czv 0 41 [2,3,4,5,6,16] 8 [⟨az,3,0,6,75,[.str,W Z,W Z]⟩,⟨az,3,1,7,77,[.str,W Z,W Z,W Z]⟩] s with
 | ak ([.ptr 0 0,.ptr 1 0,.ptr 2 0,.ptr 3 0,.ptr 4 0,.fn 78 [.ptr 5 0]],[.cells 25 [.nsl,.nsl],.cells 3 [V Z o],.cells 32 [V Z p],.cells 25 [.gr 6 3 a,.gr 7 4 b],.cells 3 [V Z n],.cells 9 [.str o5_0],.row 75 [.str,W Z,W Z] d g,.row 77 [.str,W Z,W Z,W Z] i l])=>Ay [(o17_0 o p o5_0 a b n d g i l).isSome,(ok78 o5_0)] (e17_0 o p ((o17_0 o p o5_0 a b n d g i l).getD ax) fun e _ bs=>AL 0 k e (Aq 0 41 [2,3,4,5,6,16] [.ptr 0 0,.ptr 1 0,.ptr 2 0,.ptr 3 0,.ptr 4 0,.fn 78 [.ptr 5 0]] 8 bs))
 | _=>False
theorem y17_0(o p:Int)(a b:Nat)(n:Int)(d:Nat)(g:Dat)(i:Nat)(l Y:Dat)(kk:Nat)(R:XR):KS Tryz.prog [(16,c16),(51,c51),(52,c52),(53,c53)] (fun _=>aw) 8 (Ip (Ad (Tryz.f17.body.getD .skip) 0)) (AU (Ad (Tryz.f17.body.getD .skip) 0)) (CZ (Aq 6 41 [2,3,4,5,6,16] [.ptr 0 0,.ptr 1 0,.ptr 2 0,.ptr 3 0,.ptr 4 0,.fn 78 [.ptr 5 0]] 8 [.cells 25 [.nsl,.nsl],.cells 3 [V Z o],.cells 32 [V Z p],.cells 25 [.gr 6 3 a,.gr 7 4 b],.cells 3 [V Z n],.unk,.row 75 [.str,W Z,W Z] d g,.row 77 [.str,W Z,W Z,W Z] i l]) [17] [.str (Y.ss kk 0)]) (AJ 6 41 [] [] 8 [⟨az,3,0,6,75,[.str,W Z,W Z]⟩,⟨az,3,1,7,77,[.str,W Z,W Z,W Z]⟩] R) =
 (cnd (n52 (Y.ss kk 0))
 (cnd (cond (m52 (Y.ss kk 0) ({ data:=#[10] }:BA)).2 az aj)
 (cnd (cond (m52 (Y.ss kk 0) ({ data:=#[10] }:BA)).2 az aj)
 (cnd (cond (m52 (Y.ss kk 0) ({ data:=#[10] }:BA)).2 az aj)
 (cnd (bif (cond (m52 (Y.ss kk 0) ({ data:=#[10] }:BA)).2 az aj) then aj else aj)
 (R (XE.ret) [] [.cells 25 [.nsl,.nsl],.cells 3 [V Z (Z.wrap (n+1))],.cells 32 [V Z 7],.cells 25 [.gr 6 3 a,.gr 7 4 b],.cells 3 [V Z (Z.wrap (n+1))],.unk,.row 75 [.str,W Z,W Z] d g,.row 77 [.str,W Z,W Z,W Z] i l])
 (R (XE.normal) [] [.cells 25 [.nsl,.nsl],.cells 3 [V Z o],.cells 32 [V Z p],.cells 25 [.gr 6 3 a,.gr 7 4 b],.cells 3 [V Z (Z.wrap (n+1))],.unk,.row 75 [.str,W Z,W Z] d g,.row 77 [.str,W Z,W Z,W Z] i l]))
   False)
  False)
 (cnd (cond (cond (m52 (Y.ss kk 0) ({ data:=#[10] }:BA)).2 az aj) az aj)
 (cnd (n53 a d g b i l (m52 (Y.ss kk 0) ({ data:=#[10] }:BA)).1)
 (cnd (cond (cond (m52 (Y.ss kk 0) ({ data:=#[10] }:BA)).2 az aj) az aj)
 (cnd (bif (cond (m52 (Y.ss kk 0) ({ data:=#[10] }:BA)).2 az aj) then aj else (cond (m53 a d g b i l (m52 (Y.ss kk 0) ({ data:=#[10] }:BA)).1).1 az aj))
 (R (XE.ret) [] [.cells 25 [.nsl,.nsl],.cells 3 [V Z (Z.wrap (n+1))],.cells 32 [V Z 7],.cells 25 [.gr 6 3 (m53 a d g b i l (m52 (Y.ss kk 0) ({ data:=#[10] }:BA)).1).2.1,.gr 7 4 (m53 a d g b i l (m52 (Y.ss kk 0) ({ data:=#[10] }:BA)).1).2.2.1],.cells 3 [V Z (Z.wrap (n+1))],.unk,.row 75 [.str,W Z,W Z] (m53 a d g b i l (m52 (Y.ss kk 0) ({ data:=#[10] }:BA)).1).2.2.2.1 (m53 a d g b i l (m52 (Y.ss kk 0) ({ data:=#[10] }:BA)).1).2.2.2.2.1,.row 77 [.str,W Z,W Z,W Z] (m53 a d g b i l (m52 (Y.ss kk 0) ({ data:=#[10] }:BA)).1).2.2.2.2.2.1 (m53 a d g b i l (m52 (Y.ss kk 0) ({ data:=#[10] }:BA)).1).2.2.2.2.2.2])
 (R (XE.normal) [] [.cells 25 [.nsl,.nsl],.cells 3 [V Z o],.cells 32 [V Z p],.cells 25 [.gr 6 3 (m53 a d g b i l (m52 (Y.ss kk 0) ({ data:=#[10] }:BA)).1).2.1,.gr 7 4 (m53 a d g b i l (m52 (Y.ss kk 0) ({ data:=#[10] }:BA)).1).2.2.1],.cells 3 [V Z (Z.wrap (n+1))],.unk,.row 75 [.str,W Z,W Z] (m53 a d g b i l (m52 (Y.ss kk 0) ({ data:=#[10] }:BA)).1).2.2.2.1 (m53 a d g b i l (m52 (Y.ss kk 0) ({ data:=#[10] }:BA)).1).2.2.2.2.1,.row 77 [.str,W Z,W Z,W Z] (m53 a d g b i l (m52 (Y.ss kk 0) ({ data:=#[10] }:BA)).1).2.2.2.2.2.1 (m53 a d g b i l (m52 (Y.ss kk 0) ({ data:=#[10] }:BA)).1).2.2.2.2.2.2]))
   False)
   False)
  False))
 False):=by kernel_rfl
theorem z17_0:LOk Tryz.prog g17_0 (.block 0 (Ad (Tryz.f17.body.getD .skip) 0)):=by
 refine Tn (ι:=Nat × Nat × Int × Nat × Dat × Nat × Dat) (τ:=Int × Int × BA × Nat × Nat × Int × Nat × Dat × Nat × Dat) (L:=[(16,c16),(51,c51),(52,c52),(53,c53)]) (Λ:=(fun _=>aw)) (fuel:=8) (na:=0) (ns:=6) (nt:=41) (nx:=8) (Lh:=[2,3,4,5,6,16]) (gl:=[⟨az,3,0,6,75,[.str,W Z,W Z]⟩,⟨az,3,1,7,77,[.str,W Z,W Z,W Z]⟩]) (gf:=78) (tc k16 (tc k51 (tc k52 (tc k53 tn)))) A6 As rfl rfl rfl rfl rfl rfl (P0 Tryz.func78 (by kernel_rfl) (by kernel_rfl)) [5] rfl
  (fun t=>[.ptr 0 0,.ptr 1 0,.ptr 2 0,.ptr 3 0,.ptr 4 0,.fn 78 [.ptr 5 0]]) (fun t=>[.ptr 5 0]) (fun t=>[.ptr 0 0]) (fun t=>[.cells 25 [.nsl,.nsl],.cells 3 [V Z t.1],.cells 32 [V Z t.2.1],.cells 25 [.gr 6 3 t.2.2.2.1,.gr 7 4 t.2.2.2.2.1],.cells 3 [V Z t.2.2.2.2.2.1],.cells 9 [.str t.2.2.1],.row 75 [.str,W Z,W Z] t.2.2.2.2.2.2.1 t.2.2.2.2.2.2.2.1,.row 77 [.str,W Z,W Z,W Z] t.2.2.2.2.2.2.2.2.1 t.2.2.2.2.2.2.2.2.2]) (fun t=>(N78 t.2.2.1)) (fun t k=>[.str ((Y78 t.2.2.1).ss k 0)]) (fun t x=>[.cells 25 [.nsl,.nsl],.cells 3 [V Z t.1],.cells 32 [V Z t.2.1],.cells 25 [.gr 6 3 x.1,.gr 7 4 x.2.1],.cells 3 [V Z x.2.2.1],.unk,.row 75 [.str,W Z,W Z] x.2.2.2.1 x.2.2.2.2.1,.row 77 [.str,W Z,W Z,W Z] x.2.2.2.2.2.1 x.2.2.2.2.2.2])
  (fun t k x K=>GG ax (e17_0 t.1 t.2.1) K (l17_0 t.1 t.2.1 (Y78 t.2.2.1) ((N78 t.2.2.1) - k) k x.1 x.2.1 x.2.2.1 x.2.2.2.1 x.2.2.2.2.1 x.2.2.2.2.2.1 x.2.2.2.2.2.2)) (fun t=>(ok78 t.2.2.1))
  (fun t=>rfl) (fun t=>rfl) (fun t=>rfl) (fun t hok=>(Tc t.2.2.1 hok)) (fun t j hj=>by simp at hj;subst hj;exact ⟨rfl,fun _ _ _ h=>h⟩) (fun t j hj=>by simp at hj;subst hj;rfl) (fun t k=>rfl) ?_ ?_ ?_
 .rintro ⟨o,p,o5_0,ub3_0,ub3_1,ub4_0,ub6_0,ub6_1,ub7_0,ub7_1⟩ kk ⟨a,b,n,d,g,i,l⟩ K hk hG
  obtain ⟨r,hr⟩:∃ r,(N78 o5_0) - kk=r+1:=⟨(N78 o5_0) - kk - 1,by have hk':kk<(N78 o5_0):=hk;omega⟩
  have hr':(N78 o5_0) - (kk+1)=r:=by omega
  have hG:GG ax (e17_0 o p) K (l17_0 o p (Y78 o5_0) ((N78 o5_0) - kk) kk a b n d g i l):=hG
  rw [hr] at hG
  have key:∀ x:Nat × Nat × Int × Nat × Dat × Nat × Dat,GG ax (e17_0 o p) K (l17_0 o p (Y78 o5_0) r (kk+1) x.1 x.2.1 x.2.2.1 x.2.2.2.1 x.2.2.2.2.1 x.2.2.2.2.2.1 x.2.2.2.2.2.2)->GG ax (e17_0 o p) K (l17_0 o p (Y78 o5_0) ((N78 o5_0) - (kk+1)) (kk+1) x.1 x.2.1 x.2.2.1 x.2.2.2.1 x.2.2.2.2.1 x.2.2.2.2.2.1 x.2.2.2.2.2.2):=fun x h=>by rw [hr'];exact h
  refine Bu (y17_0 o p a b n d g i l (Y78 o5_0) kk _) ?_
  exact cg hG fun h0=>ch h0 (fun h1=>cg h1 fun h2=>cg h2 fun h3=>ch h3 (fun h4=>h4.2) (fun h4=>⟨(_,_,_,_,_,_,_),rfl,key (_,_,_,_,_,_,_) h4⟩)) (fun h1=>cg h1 fun h2=>cg h2 fun h3=>cg h3 fun h4=>ch h4 (fun h5=>h5.2) (fun h5=>⟨(_,_,_,_,_,_,_),rfl,key (_,_,_,_,_,_,_) h5⟩))
 .rintro ⟨o,p,o5_0,ub3_0,ub3_1,ub4_0,ub6_0,ub6_1,ub7_0,ub7_1⟩ ⟨a,b,n,d,g,i,l⟩ K h
  have h:GG ax (e17_0 o p) K (l17_0 o p (Y78 o5_0) ((N78 o5_0) - (N78 o5_0)) (N78 o5_0) a b n d g i l):=h
  rw [Nat.sub_self] at h
  exact h.2
 .intro s k h
  unfold g17_0 at h
  split at h <;> try exact h.elim
  rename_i e1
  rw [Ac] at h
  exact ⟨(_,_,_,_,_,_,_,_,_,_),(_,_,_,_,_,_,_),e1,rfl,h.1 _ (List.mem_cons_of_mem _ (List.mem_singleton.2 rfl)),h.1 _ (List.mem_cons_self ..),h.2⟩
def m17(m:BA):Nat × Dat × Nat × Dat × Int × Int :=
 (cond (aq ((60000:Int)<(m.size:Int))) (0,A3,0,A3,0,8) (cond ((o17_0 0 0 (m51 m) 0 0 0 0 A3 0 A3).getD ax).1 (cond (cond (aq ((m16 ((o17_0 0 0 (m51 m) 0 0 0 0 A3 0 A3).getD ax).2.1.1 ((o17_0 0 0 (m51 m) 0 0 0 0 A3 0 A3).getD ax).2.1.2.2.2.2.1 ((o17_0 0 0 (m51 m) 0 0 0 0 A3 0 A3).getD ax).2.1.2.1 ((o17_0 0 0 (m51 m) 0 0 0 0 A3 0 A3).getD ax).2.1.2.2.2.2.2.2)=0)) az aj) (0,A3,0,A3,0,(m16 ((o17_0 0 0 (m51 m) 0 0 0 0 A3 0 A3).getD ax).2.1.1 ((o17_0 0 0 (m51 m) 0 0 0 0 A3 0 A3).getD ax).2.1.2.2.2.2.1 ((o17_0 0 0 (m51 m) 0 0 0 0 A3 0 A3).getD ax).2.1.2.1 ((o17_0 0 0 (m51 m) 0 0 0 0 A3 0 A3).getD ax).2.1.2.2.2.2.2.2)) (((o17_0 0 0 (m51 m) 0 0 0 0 A3 0 A3).getD ax).2.1.1,((o17_0 0 0 (m51 m) 0 0 0 0 A3 0 A3).getD ax).2.1.2.2.2.2.1,((o17_0 0 0 (m51 m) 0 0 0 0 A3 0 A3).getD ax).2.1.2.1,((o17_0 0 0 (m51 m) 0 0 0 0 A3 0 A3).getD ax).2.1.2.2.2.2.2.2,0,0)) (0,A3,0,A3,((o17_0 0 0 (m51 m) 0 0 0 0 A3 0 A3).getD ax).2.2.1,((o17_0 0 0 (m51 m) 0 0 0 0 A3 0 A3).getD ax).2.2.2.1)))
def n17(m:BA):Bool :=
 (cond (aq ((60000:Int)<(m.size:Int))) aj (((o17_0 0 0 (m51 m) 0 0 0 0 A3 0 A3).isSome)&&((ok78 (m51 m))&&(cond ((o17_0 0 0 (m51 m) 0 0 0 0 A3 0 A3).getD ax).1 ((aq ((0+((o17_0 0 0 (m51 m) 0 0 0 0 A3 0 A3).getD ax).2.1.1)<=((o17_0 0 0 (m51 m) 0 0 0 0 A3 0 A3).getD ax).2.1.2.2.2.1))&&((aq ((0+((o17_0 0 0 (m51 m) 0 0 0 0 A3 0 A3).getD ax).2.1.2.1)<=((o17_0 0 0 (m51 m) 0 0 0 0 A3 0 A3).getD ax).2.1.2.2.2.2.2.1))&&((n16 ((o17_0 0 0 (m51 m) 0 0 0 0 A3 0 A3).getD ax).2.1.1 ((o17_0 0 0 (m51 m) 0 0 0 0 A3 0 A3).getD ax).2.1.2.2.2.2.1 ((o17_0 0 0 (m51 m) 0 0 0 0 A3 0 A3).getD ax).2.1.2.1 ((o17_0 0 0 (m51 m) 0 0 0 0 A3 0 A3).getD ax).2.1.2.2.2.2.2.2)&&(cond (cond (aq ((m16 ((o17_0 0 0 (m51 m) 0 0 0 0 A3 0 A3).getD ax).2.1.1 ((o17_0 0 0 (m51 m) 0 0 0 0 A3 0 A3).getD ax).2.1.2.2.2.2.1 ((o17_0 0 0 (m51 m) 0 0 0 0 A3 0 A3).getD ax).2.1.2.1 ((o17_0 0 0 (m51 m) 0 0 0 0 A3 0 A3).getD ax).2.1.2.2.2.2.2.2)=0)) az aj) aj ((aq ((0+((o17_0 0 0 (m51 m) 0 0 0 0 A3 0 A3).getD ax).2.1.1)<=((o17_0 0 0 (m51 m) 0 0 0 0 A3 0 A3).getD ax).2.1.2.2.2.1))&&((aq ((0+((o17_0 0 0 (m51 m) 0 0 0 0 A3 0 A3).getD ax).2.1.2.1)<=((o17_0 0 0 (m51 m) 0 0 0 0 A3 0 A3).getD ax).2.1.2.2.2.2.2.1))&&aj)))))) aj))))
def q17(r:Nat × Dat × Nat × Dat × Int × Int):SV × List Blk × List Blk:=(.tup [.agg [.ro [.str,W Z,W Z] r.1 r.2.1,.ro [.str,W Z,W Z,W Z] r.2.2.1 r.2.2.2.1],V Z r.2.2.2.2.1,V Z r.2.2.2.2.2],[],[])
def g17:GF:=fun vs bs=>match vs,bs with
 | [.str m],[]=>ak (rs 0 (q17 (m17 m)) [n17 m])
 | _,_=>aw
def c17:Ctr:=AA [.k] g17
theorem k17:Ag Tryz.prog c17 17:=cx (tc k16 (tc k51 (tc k52 (tc k53 tn)))) A6 8 (fn:=Tryz.f17) (c:=(Tryz.f17.body.getD .skip)) (grs:=[]) (rh:=.t [.t [.ro [.str,W Z,W Z],.ro [.str,W Z,W Z,W Z]],.k,.k]) Tryz.func17 rfl (by kernel_rfl) (AD rfl (lc z17_0 ln)) fun vs bs q h hn=>by
 unfold g17 at h
 split at h <;> cases h
 rename_i m
 have hn:=n1 hn
 exact ⟨_,rfl,ca (fun R => 
 let a0:=((o17_0 0 0 (m51 m) 0 0 0 0 A3 0 A3).getD ax)
 let b0:=(m16 a0.2.1.1 a0.2.1.2.2.2.2.1 a0.2.1.2.1 a0.2.1.2.2.2.2.2.2)
 let c0:=(aq ((0+a0.2.1.2.1)<=a0.2.1.2.2.2.2.2.1))
 (cnd (aq ((60000:Int)<(m.size:Int)))
 (R (.tup [.agg [.ro [.str,W Z,W Z] 0 A3,.ro [.str,W Z,W Z,W Z] 0 A3],V Z 0,V Z 8]) [] [])
 (cnd ((o17_0 0 0 (m51 m) 0 0 0 0 A3 0 A3).isSome)
 (cnd (ok78 (m51 m))
 (cnd a0.1
 (cnd (aq ((0+a0.2.1.1)<=a0.2.1.2.2.2.1))
 (cnd c0
 (cnd (n16 a0.2.1.1 a0.2.1.2.2.2.2.1 a0.2.1.2.1 a0.2.1.2.2.2.2.2.2)
 (cnd (cond (aq (b0=0)) az aj)
 (R (.tup [.agg [.ro [.str,W Z,W Z] 0 A3,.ro [.str,W Z,W Z,W Z] 0 A3],V Z 0,V Z b0]) [] [])
 (cnd (aq ((0+a0.2.1.1)<=a0.2.1.2.2.2.1))
 (cnd c0
 (R (.tup [.agg [.ro [.str,W Z,W Z] a0.2.1.1 a0.2.1.2.2.2.2.1,.ro [.str,W Z,W Z,W Z] a0.2.1.2.1 a0.2.1.2.2.2.2.2.2],V Z 0,V Z 0]) [] [])
      False)
     False))
    False)
    False)
   False)
 (R (.tup [.agg [.ro [.str,W Z,W Z] 0 A3,.ro [.str,W Z,W Z,W Z] 0 A3],V Z a0.2.2.1,V Z a0.2.2.2.1]) [] []))
  False)
  False))) (fun R=>by kernel_rfl) (co (fun h0=>lf (cT h0 rfl) rfl) (fun h0=>cn (al (cf h0 hn)) (cn (al (ar (cf h0 hn))) (co (fun h1=>cn (al (ct h1 (ar (ar (cf h0 hn))))) (cn (al (ar (ct h1 (ar (ar (cf h0 hn)))))) (cn (al (ar (ar (ct h1 (ar (ar (cf h0 hn))))))) (co (fun h2=>lf (cF h0 (cT h1 (cT h2 rfl))) rfl) (fun h2=>cn (al (cf h2 (ar (ar (ar (ct h1 (ar (ar (cf h0 hn))))))))) (cn (al (ar (cf h2 (ar (ar (ar (ct h1 (ar (ar (cf h0 hn)))))))))) (lf (cF h0 (cT h1 (cF h2 rfl))) rfl))))))) (fun h1=>lf (cF h0 (cF h1 rfl)) rfl)))))⟩
/-! ### shotline/shotlinelaw07.KitSetups -/
theorem x4(b:Nat)(d:Dat)(e:Nat)(g:Dat)(i:BA)(R:SV->List Blk->List Blk->Prop):AT Tryz.prog [(5,c5g),(6,c6),(12,c12),(14,c14),(15,c15),(16,c16),(17,c17),(18,c18),(19,c19),(20,c20)] (fun _=>aw) 8 (Tryz.f4.body.getD .skip) (Cb Tryz.f4.ntmps [.agg [.ro [.str,W Z,W Z] b d,.ro [.str,W Z,W Z,W Z] e g],.str i] 0 (Ah [])) (EQ Tryz.prog Tryz.f4.results.toList (DT 0 (List.range 0) [] (.k) fun v U N=>R v U N)) =
 (cnd (cond m5g az aj)
 (R (.bool az) [] [])
 (cnd (n6 b d e g 0 A3)
 (cnd (bif (bif (cond (m6 b d e g 0 A3) az aj) then aj else (bif (aq ((400:Int)<(i.size:Int))) then (aq ((i.size:Int)<=60000)) else az)) then aj else (aq (60005<(i.size:Int))))
 (R (.bool aj) [] [])
 (cnd (n15 b d e g)
 (cnd (n14 (m15 b d e g).1 (m15 b d e g).2.1 (m15 b d e g).2.2.1 (m15 b d e g).2.2.2)
 (cnd (n12 b d e g)
 (cnd (n15 b d e g)
 (cnd (n16 (m15 b d e g).1 (m15 b d e g).2.1 (m15 b d e g).2.2.1 (m15 b d e g).2.2.2)
 (cnd (cond (aq ((m16 (m15 b d e g).1 (m15 b d e g).2.1 (m15 b d e g).2.2.1 (m15 b d e g).2.2.2)=(m12 b d e g))) az aj)
 (R (.bool az) [] [])
 (cnd (cond (aq ((m12 b d e g)=0)) az aj)
 (cnd (bif (cond (aq ((m14 (m15 b d e g).1 (m15 b d e g).2.1 (m15 b d e g).2.2.1 (m15 b d e g).2.2.2).2=(m12 b d e g))) az aj) then aj else (cond (aq ((m14 (m15 b d e g).1 (m15 b d e g).2.1 (m15 b d e g).2.2.1 (m15 b d e g).2.2.2).1=({ data:=#[] }:BA))) az aj))
 (R (.bool az) [] [])
 (cnd (n17 i)
 (cnd (n20 i)
 (cnd (bif (cond (bif (aq ((m17 i).2.2.2.2.2=(m20 i).2.2.2.2.2)) then (aq ((m17 i).2.2.2.2.1=(m20 i).2.2.2.2.1)) else az) az aj) then aj else (n19 (m17 i).1 (m17 i).2.1 (m17 i).2.2.1 (m17 i).2.2.2.1 (m20 i).1 (m20 i).2.1 (m20 i).2.2.1 (m20 i).2.2.2.1))
 (R (.bool (bif (bif (aq ((m17 i).2.2.2.2.2=(m20 i).2.2.2.2.2)) then (aq ((m17 i).2.2.2.2.1=(m20 i).2.2.2.2.1)) else az) then (m19 (m17 i).1 (m17 i).2.1 (m17 i).2.2.1 (m17 i).2.2.2.1 (m20 i).1 (m20 i).2.1 (m20 i).2.2.1 (m20 i).2.2.2.1) else az)) [] [])
        False)
       False)
       False))
 (cnd (n17 (m14 (m15 b d e g).1 (m15 b d e g).2.1 (m15 b d e g).2.2.1 (m15 b d e g).2.2.2).1)
 (cnd (bif (cond (cond (cond (aq ((m14 (m15 b d e g).1 (m15 b d e g).2.1 (m15 b d e g).2.2.1 (m15 b d e g).2.2.2).2=0)) az aj) az aj) az aj) then aj else (n18 b d e g))
 (cnd (bif (cond (cond (bif (bif (bif (cond (aq ((m14 (m15 b d e g).1 (m15 b d e g).2.1 (m15 b d e g).2.2.1 (m15 b d e g).2.2.2).2=0)) az aj) then aj else (cond (aq ((m14 (m15 b d e g).1 (m15 b d e g).2.1 (m15 b d e g).2.2.1 (m15 b d e g).2.2.2).1=(m18 b d e g))) az aj)) then aj else (cond (aq ((m17 (m14 (m15 b d e g).1 (m15 b d e g).2.1 (m15 b d e g).2.2.1 (m15 b d e g).2.2.2).1).2.2.2.2.2=0)) az aj)) then aj else (cond (aq ((m17 (m14 (m15 b d e g).1 (m15 b d e g).2.1 (m15 b d e g).2.2.1 (m15 b d e g).2.2.2).1).2.2.2.2.1=0)) az aj)) az aj) az aj) then aj else (n19 (m17 (m14 (m15 b d e g).1 (m15 b d e g).2.1 (m15 b d e g).2.2.1 (m15 b d e g).2.2.2).1).1 (m17 (m14 (m15 b d e g).1 (m15 b d e g).2.1 (m15 b d e g).2.2.1 (m15 b d e g).2.2.2).1).2.1 (m17 (m14 (m15 b d e g).1 (m15 b d e g).2.1 (m15 b d e g).2.2.1 (m15 b d e g).2.2.2).1).2.2.1 (m17 (m14 (m15 b d e g).1 (m15 b d e g).2.1 (m15 b d e g).2.2.1 (m15 b d e g).2.2.2).1).2.2.2.1 b d e g))
 (cnd (bif (bif (bif (bif (cond (aq ((m14 (m15 b d e g).1 (m15 b d e g).2.1 (m15 b d e g).2.2.1 (m15 b d e g).2.2.2).2=0)) az aj) then aj else (cond (aq ((m14 (m15 b d e g).1 (m15 b d e g).2.1 (m15 b d e g).2.2.1 (m15 b d e g).2.2.2).1=(m18 b d e g))) az aj)) then aj else (cond (aq ((m17 (m14 (m15 b d e g).1 (m15 b d e g).2.1 (m15 b d e g).2.2.1 (m15 b d e g).2.2.2).1).2.2.2.2.2=0)) az aj)) then aj else (cond (aq ((m17 (m14 (m15 b d e g).1 (m15 b d e g).2.1 (m15 b d e g).2.2.1 (m15 b d e g).2.2.2).1).2.2.2.2.1=0)) az aj)) then aj else (cond (m19 (m17 (m14 (m15 b d e g).1 (m15 b d e g).2.1 (m15 b d e g).2.2.1 (m15 b d e g).2.2.2).1).1 (m17 (m14 (m15 b d e g).1 (m15 b d e g).2.1 (m15 b d e g).2.2.1 (m15 b d e g).2.2.2).1).2.1 (m17 (m14 (m15 b d e g).1 (m15 b d e g).2.1 (m15 b d e g).2.2.1 (m15 b d e g).2.2.2).1).2.2.1 (m17 (m14 (m15 b d e g).1 (m15 b d e g).2.1 (m15 b d e g).2.2.1 (m15 b d e g).2.2.2).1).2.2.2.1 b d e g) az aj))
 (R (.bool az) [] [])
 (cnd (n17 i)
 (cnd (n20 i)
 (cnd (bif (cond (bif (aq ((m17 i).2.2.2.2.2=(m20 i).2.2.2.2.2)) then (aq ((m17 i).2.2.2.2.1=(m20 i).2.2.2.2.1)) else az) az aj) then aj else (n19 (m17 i).1 (m17 i).2.1 (m17 i).2.2.1 (m17 i).2.2.2.1 (m20 i).1 (m20 i).2.1 (m20 i).2.2.1 (m20 i).2.2.2.1))
 (R (.bool (bif (bif (aq ((m17 i).2.2.2.2.2=(m20 i).2.2.2.2.2)) then (aq ((m17 i).2.2.2.2.1=(m20 i).2.2.2.2.1)) else az) then (m19 (m17 i).1 (m17 i).2.1 (m17 i).2.2.1 (m17 i).2.2.2.1 (m20 i).1 (m20 i).2.1 (m20 i).2.2.1 (m20 i).2.2.2.1) else az)) [] [])
         False)
         False)
        False))
       False)
       False)
      False)))
     False)
    False)
    False)
   False)
   False))
  False)):=by kernel_rfl
def m4(b:Nat)(d:Dat)(e:Nat)(g:Dat)(i:BA):Bool :=
 (cond (cond m5g az aj) az (cond (bif (bif (cond (m6 b d e g 0 A3) az aj) then aj else (bif (aq ((400:Int)<(i.size:Int))) then (aq ((i.size:Int)<=60000)) else az)) then aj else (aq (60005<(i.size:Int)))) aj (cond (cond (aq ((m16 (m15 b d e g).1 (m15 b d e g).2.1 (m15 b d e g).2.2.1 (m15 b d e g).2.2.2)=(m12 b d e g))) az aj) az (cond (cond (aq ((m12 b d e g)=0)) az aj) (cond (bif (cond (aq ((m14 (m15 b d e g).1 (m15 b d e g).2.1 (m15 b d e g).2.2.1 (m15 b d e g).2.2.2).2=(m12 b d e g))) az aj) then aj else (cond (aq ((m14 (m15 b d e g).1 (m15 b d e g).2.1 (m15 b d e g).2.2.1 (m15 b d e g).2.2.2).1=({ data:=#[] }:BA))) az aj)) az (bif (bif (aq ((m17 i).2.2.2.2.2=(m20 i).2.2.2.2.2)) then (aq ((m17 i).2.2.2.2.1=(m20 i).2.2.2.2.1)) else az) then (m19 (m17 i).1 (m17 i).2.1 (m17 i).2.2.1 (m17 i).2.2.2.1 (m20 i).1 (m20 i).2.1 (m20 i).2.2.1 (m20 i).2.2.2.1) else az)) (cond (bif (bif (bif (bif (cond (aq ((m14 (m15 b d e g).1 (m15 b d e g).2.1 (m15 b d e g).2.2.1 (m15 b d e g).2.2.2).2=0)) az aj) then aj else (cond (aq ((m14 (m15 b d e g).1 (m15 b d e g).2.1 (m15 b d e g).2.2.1 (m15 b d e g).2.2.2).1=(m18 b d e g))) az aj)) then aj else (cond (aq ((m17 (m14 (m15 b d e g).1 (m15 b d e g).2.1 (m15 b d e g).2.2.1 (m15 b d e g).2.2.2).1).2.2.2.2.2=0)) az aj)) then aj else (cond (aq ((m17 (m14 (m15 b d e g).1 (m15 b d e g).2.1 (m15 b d e g).2.2.1 (m15 b d e g).2.2.2).1).2.2.2.2.1=0)) az aj)) then aj else (cond (m19 (m17 (m14 (m15 b d e g).1 (m15 b d e g).2.1 (m15 b d e g).2.2.1 (m15 b d e g).2.2.2).1).1 (m17 (m14 (m15 b d e g).1 (m15 b d e g).2.1 (m15 b d e g).2.2.1 (m15 b d e g).2.2.2).1).2.1 (m17 (m14 (m15 b d e g).1 (m15 b d e g).2.1 (m15 b d e g).2.2.1 (m15 b d e g).2.2.2).1).2.2.1 (m17 (m14 (m15 b d e g).1 (m15 b d e g).2.1 (m15 b d e g).2.2.1 (m15 b d e g).2.2.2).1).2.2.2.1 b d e g) az aj)) az (bif (bif (aq ((m17 i).2.2.2.2.2=(m20 i).2.2.2.2.2)) then (aq ((m17 i).2.2.2.2.1=(m20 i).2.2.2.2.1)) else az) then (m19 (m17 i).1 (m17 i).2.1 (m17 i).2.2.1 (m17 i).2.2.2.1 (m20 i).1 (m20 i).2.1 (m20 i).2.2.1 (m20 i).2.2.2.1) else az))))))
def n4(b:Nat)(d:Dat)(e:Nat)(g:Dat)(i:BA):Bool :=
 (cond (cond m5g az aj) aj ((n6 b d e g 0 A3)&&(cond (bif (bif (cond (m6 b d e g 0 A3) az aj) then aj else (bif (aq ((400:Int)<(i.size:Int))) then (aq ((i.size:Int)<=60000)) else az)) then aj else (aq (60005<(i.size:Int)))) aj ((n15 b d e g)&&((n14 (m15 b d e g).1 (m15 b d e g).2.1 (m15 b d e g).2.2.1 (m15 b d e g).2.2.2)&&((n12 b d e g)&&((n15 b d e g)&&((n16 (m15 b d e g).1 (m15 b d e g).2.1 (m15 b d e g).2.2.1 (m15 b d e g).2.2.2)&&(cond (cond (aq ((m16 (m15 b d e g).1 (m15 b d e g).2.1 (m15 b d e g).2.2.1 (m15 b d e g).2.2.2)=(m12 b d e g))) az aj) aj (cond (cond (aq ((m12 b d e g)=0)) az aj) (cond (bif (cond (aq ((m14 (m15 b d e g).1 (m15 b d e g).2.1 (m15 b d e g).2.2.1 (m15 b d e g).2.2.2).2=(m12 b d e g))) az aj) then aj else (cond (aq ((m14 (m15 b d e g).1 (m15 b d e g).2.1 (m15 b d e g).2.2.1 (m15 b d e g).2.2.2).1=({ data:=#[] }:BA))) az aj)) aj ((n17 i)&&((n20 i)&&((bif (cond (bif (aq ((m17 i).2.2.2.2.2=(m20 i).2.2.2.2.2)) then (aq ((m17 i).2.2.2.2.1=(m20 i).2.2.2.2.1)) else az) az aj) then aj else (n19 (m17 i).1 (m17 i).2.1 (m17 i).2.2.1 (m17 i).2.2.2.1 (m20 i).1 (m20 i).2.1 (m20 i).2.2.1 (m20 i).2.2.2.1))&&aj)))) ((n17 (m14 (m15 b d e g).1 (m15 b d e g).2.1 (m15 b d e g).2.2.1 (m15 b d e g).2.2.2).1)&&((bif (cond (cond (cond (aq ((m14 (m15 b d e g).1 (m15 b d e g).2.1 (m15 b d e g).2.2.1 (m15 b d e g).2.2.2).2=0)) az aj) az aj) az aj) then aj else (n18 b d e g))&&((bif (cond (cond (bif (bif (bif (cond (aq ((m14 (m15 b d e g).1 (m15 b d e g).2.1 (m15 b d e g).2.2.1 (m15 b d e g).2.2.2).2=0)) az aj) then aj else (cond (aq ((m14 (m15 b d e g).1 (m15 b d e g).2.1 (m15 b d e g).2.2.1 (m15 b d e g).2.2.2).1=(m18 b d e g))) az aj)) then aj else (cond (aq ((m17 (m14 (m15 b d e g).1 (m15 b d e g).2.1 (m15 b d e g).2.2.1 (m15 b d e g).2.2.2).1).2.2.2.2.2=0)) az aj)) then aj else (cond (aq ((m17 (m14 (m15 b d e g).1 (m15 b d e g).2.1 (m15 b d e g).2.2.1 (m15 b d e g).2.2.2).1).2.2.2.2.1=0)) az aj)) az aj) az aj) then aj else (n19 (m17 (m14 (m15 b d e g).1 (m15 b d e g).2.1 (m15 b d e g).2.2.1 (m15 b d e g).2.2.2).1).1 (m17 (m14 (m15 b d e g).1 (m15 b d e g).2.1 (m15 b d e g).2.2.1 (m15 b d e g).2.2.2).1).2.1 (m17 (m14 (m15 b d e g).1 (m15 b d e g).2.1 (m15 b d e g).2.2.1 (m15 b d e g).2.2.2).1).2.2.1 (m17 (m14 (m15 b d e g).1 (m15 b d e g).2.1 (m15 b d e g).2.2.1 (m15 b d e g).2.2.2).1).2.2.2.1 b d e g))&&(cond (bif (bif (bif (bif (cond (aq ((m14 (m15 b d e g).1 (m15 b d e g).2.1 (m15 b d e g).2.2.1 (m15 b d e g).2.2.2).2=0)) az aj) then aj else (cond (aq ((m14 (m15 b d e g).1 (m15 b d e g).2.1 (m15 b d e g).2.2.1 (m15 b d e g).2.2.2).1=(m18 b d e g))) az aj)) then aj else (cond (aq ((m17 (m14 (m15 b d e g).1 (m15 b d e g).2.1 (m15 b d e g).2.2.1 (m15 b d e g).2.2.2).1).2.2.2.2.2=0)) az aj)) then aj else (cond (aq ((m17 (m14 (m15 b d e g).1 (m15 b d e g).2.1 (m15 b d e g).2.2.1 (m15 b d e g).2.2.2).1).2.2.2.2.1=0)) az aj)) then aj else (cond (m19 (m17 (m14 (m15 b d e g).1 (m15 b d e g).2.1 (m15 b d e g).2.2.1 (m15 b d e g).2.2.2).1).1 (m17 (m14 (m15 b d e g).1 (m15 b d e g).2.1 (m15 b d e g).2.2.1 (m15 b d e g).2.2.2).1).2.1 (m17 (m14 (m15 b d e g).1 (m15 b d e g).2.1 (m15 b d e g).2.2.1 (m15 b d e g).2.2.2).1).2.2.1 (m17 (m14 (m15 b d e g).1 (m15 b d e g).2.1 (m15 b d e g).2.2.1 (m15 b d e g).2.2.2).1).2.2.2.1 b d e g) az aj)) aj ((n17 i)&&((n20 i)&&((bif (cond (bif (aq ((m17 i).2.2.2.2.2=(m20 i).2.2.2.2.2)) then (aq ((m17 i).2.2.2.2.1=(m20 i).2.2.2.2.1)) else az) az aj) then aj else (n19 (m17 i).1 (m17 i).2.1 (m17 i).2.2.1 (m17 i).2.2.2.1 (m20 i).1 (m20 i).2.1 (m20 i).2.2.1 (m20 i).2.2.2.1))&&aj)))))))))))))))))
def q4(r:Bool):SV × List Blk × List Blk:=(.bool r,[],[])
def g4:GF:=fun vs bs=>match vs,bs with
 | [.agg [.ro [.str,W Z,W Z] b d,.ro [.str,W Z,W Z,W Z] e g],.str i],[]=>ak (rs 0 (q4 (m4 b d e g i)) [n4 b d e g i])
 | _,_=>aw
def c4:Ctr:=AA [.a [.ro [.str,W Z,W Z],.ro [.str,W Z,W Z,W Z]],.k] g4
theorem p4(b:Nat)(d:Dat)(e:Nat)(g:Dat)(i:BA)(hn:n4 b d e g i=aj):AT Tryz.prog [(5,c5g),(6,c6),(12,c12),(14,c14),(15,c15),(16,c16),(17,c17),(18,c18),(19,c19),(20,c20)] (fun _=>aw) 8 (Tryz.f4.body.getD .skip) (Cb Tryz.f4.ntmps [.agg [.ro [.str,W Z,W Z] b d,.ro [.str,W Z,W Z,W Z] e g],.str i] 0 (Ah [])) (EQ Tryz.prog Tryz.f4.results.toList (DT 0 (List.range 0) [] (.k) fun v U N=>(v,U,N)=(q4 (m4 b d e g i)))) :=
 Bu (x4 b d e g i _) (co (fun h0=>lf (cT h0 rfl) rfl) (fun h0=>cn (al (cf h0 hn)) (co (fun h1=>lf (cF h0 (cT h1 rfl)) rfl) (fun h1=>cn (al (cf h1 (ar (cf h0 hn)))) (cn (al (ar (cf h1 (ar (cf h0 hn))))) (cn (al (ar (ar (cf h1 (ar (cf h0 hn)))))) (cn (al (ar (ar (ar (cf h1 (ar (cf h0 hn))))))) (cn (al (ar (ar (ar (ar (cf h1 (ar (cf h0 hn)))))))) (co (fun h2=>lf (cF h0 (cF h1 (cT h2 rfl))) rfl) (fun h2=>co (fun h3=>co (fun h4=>lf (cF h0 (cF h1 (cF h2 (cT h3 (cT h4 rfl))))) rfl) (fun h4=>cn (al (cf h4 (ct h3 (cf h2 (ar (ar (ar (ar (ar (cf h1 (ar (cf h0 hn)))))))))))) (cn (al (ar (cf h4 (ct h3 (cf h2 (ar (ar (ar (ar (ar (cf h1 (ar (cf h0 hn))))))))))))) (cn (al (ar (ar (cf h4 (ct h3 (cf h2 (ar (ar (ar (ar (ar (cf h1 (ar (cf h0 hn)))))))))))))) (lf (cF h0 (cF h1 (cF h2 (cT h3 (cF h4 rfl))))) rfl))))) (fun h3=>cn (al (cf h3 (cf h2 (ar (ar (ar (ar (ar (cf h1 (ar (cf h0 hn))))))))))) (cn (al (ar (cf h3 (cf h2 (ar (ar (ar (ar (ar (cf h1 (ar (cf h0 hn)))))))))))) (cn (al (ar (ar (cf h3 (cf h2 (ar (ar (ar (ar (ar (cf h1 (ar (cf h0 hn))))))))))))) (co (fun h4=>lf (cF h0 (cF h1 (cF h2 (cF h3 (cT h4 rfl))))) rfl) (fun h4=>cn (al (cf h4 (ar (ar (ar (cf h3 (cf h2 (ar (ar (ar (ar (ar (cf h1 (ar (cf h0 hn))))))))))))))) (cn (al (ar (cf h4 (ar (ar (ar (cf h3 (cf h2 (ar (ar (ar (ar (ar (cf h1 (ar (cf h0 hn)))))))))))))))) (cn (al (ar (ar (cf h4 (ar (ar (ar (cf h3 (cf h2 (ar (ar (ar (ar (ar (cf h1 (ar (cf h0 hn))))))))))))))))) (lf (cF h0 (cF h1 (cF h2 (cF h3 (cF h4 rfl))))) rfl))))))))))))))))))
theorem k4:Ag Tryz.prog c4 4:=cx (tc k5g (tc k6 (tc k12 (tc k14 (tc k15 (tc k16 (tc k17 (tc k18 (tc k19 (tc k20 tn)))))))))) A6 8 (fn:=Tryz.f4) (c:=(Tryz.f4.body.getD .skip)) (grs:=[]) (rh:=.k) Tryz.func4 rfl (by kernel_rfl) As fun vs bs q h hn=>by
 unfold g4 at h
 split at h <;> cases h
 exact ⟨_,rfl,p4 _ _ _ _ _ (hn _ (List.mem_singleton.2 rfl))⟩
end
end Go.Proofs.YtdcdjjogieojhaaGreatDoor
