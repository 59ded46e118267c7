/-
 Contracts of functions: models, equations by the kernel, contracts. Conditions: none.
-/
import Derived.Test.YtdcdjjogieojhaaGreatDoorK8
import Derived.KernelRfl
set_option linter.unusedVariables false
set_option linter.unusedSimpArgs false
set_option linter.unusedSectionVars false
namespace Go.Proofs.YtdcdjjogieojhaaGreatDoor
open Go Go.Sy
noncomputable section
set_option maxRecDepth 100000
set_option maxHeartbeats 2000000
attribute [local irreducible] Go.IntKind.wrap Int.tdiv Int.tmod Int.fdiv
attribute [local instance 3000] Go.Sy.G2
open Go.Sy renaming B8->tc,AM->tn,AH->cn,GV->lf,IA->cg,GA->ch,AC->cf,IB->ct,Df->co,Iw->ca,roundOf->ro,GB->nn,El->lc,Fk->ln,FY->cT,Cs->cF,J7->n1,Bl->rs,CE->al,Al->ar,M6->og,ID->cx,Fo->lb
open Go.IntKind renaming i64->Z
open Go.Sy.SV renaming int->V
open Go.Sy.Kd renaming int->W
open Decidable renaming decide->aq
open Inhabited renaming default->ax
open Bool renaming false->az,true->aj
open Option renaming some->ak,none->aw
/-! ### (*strings.Builder).WriteString -/
def m43u(a ma0_1:Nat)(b:Dat)(d:BA):Int × Nat × Nat × Dat :=
 ((d.size:Int),(a+d.size),(a+d.size),(b.app a ({ ii:=fun q x=>((d.data.toList.getD q 0).toNat:Int),ss:=A3.ss,bb:=A3.bb,sn:=A3.sn,sd:=A3.sd })))
def n43u(a ma0_1:Nat)(b:Dat)(d:BA):Bool :=
 ((aq ((0:Nat)<d.size))&&((aq (a<=ma0_1))&&((aq ((a+d.size)<=1073741824))&&aj)))
def q43u(r:Int × Nat × Nat × Dat):SV × List Blk × List Blk:=(.tup [V Z r.1,.val Value.nilIface],[.cells 97 [.ptr 0 0,.gr 2 1 r.2.1],.unk],[.row 5 [.int .u8] r.2.2.1 r.2.2.2])
def g43u:GF:=fun vs bs=>match vs,bs with
 | [.ptr 0 0,.str d],[.cells 97 [.ptr 0 0,.gr 1 1 a],.row 5 [.int .u8] ma0_1 b]=>ak (rs 2 (q43u (m43u a ma0_1 b d)) [n43u a ma0_1 b d])
 | _,_=>aw
def c43u:Ctr:=AA [.s [.gr 5 [.int .u8]],.k] g43u
theorem k43u:Ag Tryz.prog c43u 43:=cx (tc k73u tn) A6 8 (fn:=Tryz.f43) (c:=(Tryz.f43.body.getD .skip)) (grs:=[1]) (rh:=.k) Tryz.func43 rfl (by kernel_rfl) As fun vs bs q h hn=>by
 unfold g43u at h
 split at h <;> cases h
 rename_i d a ma0_1 b
 have hn:=n1 hn
 exact ⟨_,rfl,ca (fun R=>(cnd (aq ((0:Nat)<d.size))
 (cnd (aq (a<=ma0_1))
 (cnd (aq ((a+d.size)<=1073741824))
 (R (.tup [V Z (d.size:Int),.val (Value.nilIface)]) [.cells 97 [.ptr 0 0,.gr 2 1 (a+d.size)],.unk] [.row 5 [.int .u8] (a+d.size) (b.app a ({ ii:=fun q x=>((d.data.toList.getD q 0).toNat:Int),ss:=A3.ss,bb:=A3.bb,sn:=A3.sn,sd:=A3.sd }))])
  False)
  False)
 False)) (fun R=>by kernel_rfl) (cn (al hn) (cn (al (ar hn)) (cn (al (ar (ar hn))) (lf rfl rfl))))⟩
/-! ### (*strings.Builder).WriteString -/
def m43f(a ma0_1:Nat)(b:Dat)(d:BA):Int × Nat × Nat × Dat :=
 ((d.size:Int),(a+d.size),(a+d.size),(b.app a ({ ii:=fun q x=>((d.data.toList.getD q 0).toNat:Int),ss:=A3.ss,bb:=A3.bb,sn:=A3.sn,sd:=A3.sd })))
def n43f(a ma0_1:Nat)(b:Dat)(d:BA):Bool :=
 ((aq ((0:Nat)<d.size))&&((aq (a<=ma0_1))&&((aq ((a+d.size)<=1073741824))&&aj)))
def q43f(r:Int × Nat × Nat × Dat):SV × List Blk × List Blk:=(.tup [V Z r.1,.val Value.nilIface],[.cells 97 [.ptr 0 0,.gr 2 1 r.2.1],.unk],[.row 5 [.int .u8] r.2.2.1 r.2.2.2])
def g43f:GF:=fun vs bs=>match vs,bs with
 | [.ptr 0 0,.str d],[.cells 97 [.val (.pointer aw),.gr 1 1 a],.row 5 [.int .u8] ma0_1 b]=>ak (rs 2 (q43f (m43f a ma0_1 b d)) [n43f a ma0_1 b d])
 | _,_=>aw
def c43f:Ctr:=AA [.c [.k,.gr 5 [.int .u8]],.k] g43f
theorem k43f:Ag Tryz.prog c43f 43:=cx (tc k73f tn) A6 8 (fn:=Tryz.f43) (c:=(Tryz.f43.body.getD .skip)) (grs:=[1]) (rh:=.k) Tryz.func43 rfl (by kernel_rfl) As fun vs bs q h hn=>by
 unfold g43f at h
 split at h <;> cases h
 rename_i d a ma0_1 b
 have hn:=n1 hn
 exact ⟨_,rfl,ca (fun R=>(cnd (aq ((0:Nat)<d.size))
 (cnd (aq (a<=ma0_1))
 (cnd (aq ((a+d.size)<=1073741824))
 (R (.tup [V Z (d.size:Int),.val (Value.nilIface)]) [.cells 97 [.ptr 0 0,.gr 2 1 (a+d.size)],.unk] [.row 5 [.int .u8] (a+d.size) (b.app a ({ ii:=fun q x=>((d.data.toList.getD q 0).toNat:Int),ss:=A3.ss,bb:=A3.bb,sn:=A3.sn,sd:=A3.sd }))])
  False)
  False)
 False)) (fun R=>by kernel_rfl) (cn (al hn) (cn (al (ar hn)) (cn (al (ar (ar hn))) (lf rfl rfl))))⟩

/-! ### strings.Lines -/
def m51(a:BA):BA :=
 a
def q51(r:BA):SV × List Blk × List Blk:=(.fn 78 [.ptr 0 0],[],[.cells 9 [.str r]])
def g51:GF:=fun vs bs=>match vs,bs with
 | [.str a],[]=>ak (rs 0 (q51 (m51 a)) [])
 | _,_=>aw
def c51:Ctr:=AA [.k] g51
theorem k51:Ag Tryz.prog c51 51:=cx tn A6 8 (fn:=Tryz.f51) (c:=(Tryz.f51.body.getD .skip)) (grs:=[]) (rh:=.k) Tryz.func51 rfl (by kernel_rfl) As fun vs bs q h hn=>by
 unfold g51 at h
 split at h <;> cases h
 rename_i a
 exact ⟨_,rfl,ca (fun R=>(R (.fn 78 [.ptr 0 0]) [] [.cells 9 [.str a]])) (fun R=>by kernel_rfl) (lf rfl rfl)⟩

/-! ### strings.Lines$1 -/
def l78_0(l N:Nat)(Y:Dat):Nat->Nat->BA->Option (Nat × BA)
 | 0,_,_=>aw
 | f+1,k,a=>(cond (aq ((0:Int)<(a.size:Int))) (cond (aq (0<=(m79 a 10))) (cond (aq ((0:Int)<=(0:Int)/\(0:Int)<=Z.wrap (m79 a (10:Int)+(1:Int))/\Z.wrap (m79 a (10:Int)+(1:Int))<=(a.size:Int))) (cond (aq (0<=Z.wrap (m79 a 10+1)/\Z.wrap (m79 a 10+1)<=(a.size:Int)/\(a.size:Int)<=(a.size:Int))) (cond (aq (k<N)) (cond (aq ((a.extract 0 ((Z.wrap ((m79 a 10)+1)).toNat))=(Y.ss k 0))) (l78_0 l N Y f (k+1) (a.extract ((Z.wrap ((m79 a 10)+1)).toNat) ((a.size:Int).toNat))) aw) aw) aw) aw) (cond (aq (k<N)) (cond (aq (a=(Y.ss k 0))) (l78_0 l N Y f (k+1) ({ data:=#[] }:BA)) aw) aw)) (ak ((k),a)))
abbrev o78_0(l N:Nat)(Y:Dat)(k:Nat)(a:BA):Option (Nat × BA):=l78_0 l N Y (a.size+8) k a
def e78_0(l N:Nat)(Y:Dat)(r:Nat × BA)(K:XRY):Prop:=K (XE.exit 0) r.1 [] [.cells 9 [.str r.2]]
def g78_0(l N:Nat)(Y:Dat):Ij:=fun k s κ=>match k,czv 1 25 [0,1] 1 [] s with
 | ak k,ak ([.val vq,.ptr 0 0],[.cells 9 [.str a]])=>Ay [(o78_0 l N Y k a).isSome,Tb vq l] (e78_0 l N Y ((o78_0 l N Y k a).getD ax) fun e k vs bs=>KH 0 κ e (ak k) (Aq 1 25 [] vs 1 bs))
 | _,_=>False
theorem y78_0(a:BA)(l N:Nat)(Y:Dat)(k:Nat)(R:XRY):Eh Tryz.prog [(79,c79)] (fun _=>aw) l N (fun k=>[.str (Y.ss k 0)]) (LV []) 8 (AU (Ad (Tryz.f78.body.getD .skip) 0)) (ak k) (Aq 1 25 [0,1] [.val (Value.func (Fn.yield l) #[] #[]),.ptr 0 0] 1 [.cells 9 [.str a]]) (FE 1 25 [0,1] [] 1 [] R) =
 (cnd (aq ((0:Int)<(a.size:Int)))
 (cnd (aq (0<=(m79 a 10)))
 (cnd (aq ((0:Int)<=(0:Int)/\(0:Int)<=Z.wrap (m79 a (10:Int)+(1:Int))/\Z.wrap (m79 a (10:Int)+(1:Int))<=(a.size:Int)))
 (cnd (aq (0<=Z.wrap (m79 a 10+1)/\Z.wrap (m79 a 10+1)<=(a.size:Int)/\(a.size:Int)<=(a.size:Int)))
 (cnd (aq (l=l))
 (cnd (aq (k<N))
 (cnd (aq ((a.extract 0 ((Z.wrap ((m79 a 10)+1)).toNat))=(Y.ss k 0)))
    ((R (XE.normal) (k+1) [.val (Value.func (Fn.yield l) #[] #[]),.ptr 0 0] [.cells 9 [.str (a.extract ((Z.wrap ((m79 a 10)+1)).toNat) ((a.size:Int).toNat))]]) /\
     True)
    False)
    False)
   False)
   False)
  False)
 (cnd (aq (l=l))
 (cnd (aq (k<N))
 (cnd (aq (a=(Y.ss k 0)))
   ((R (XE.normal) (k+1) [.val (Value.func (Fn.yield l) #[] #[]),.ptr 0 0] [.cells 9 [.str ({ data:=#[] }:BA)]]) /\
    True)
   False)
   False)
  False))
 (R (XE.exit 0) (k) [] [.cells 9 [.str a]])):=by kernel_rfl
theorem z78_0{C:YC Tryz.prog}{N:Nat}{Y:Dat}(hN:C.N=N)(hy:C.y=fun k=>[.str (Y.ss k 0)]):Gp C (g78_0 C.l N Y) (.block 0 (Ad (Tryz.f78.body.getD .skip) 0)):=by
 refine Pe (ι:=Nat × BA) (L:=[(79,c79)]) (Λ:=(fun _=>aw)) (ΛY:=(LV [])) (fuel:=8) (na:=1) (nt:=25) (nx:=1) (Lh:=[0,1]) (Le:=[]) (gl:=[]) (tc k79 tn) A6 As Tk rfl (fun f x K=>GG ax (e78_0 C.l N Y) K (l78_0 C.l N Y f x.1 x.2)) (fun x=>x.1) (fun x=>[.val (Value.func (Fn.yield C.l) #[] #[]),.ptr 0 0]) (fun x=>[.cells 9 [.str x.2]]) (fun x K=>Au) ?_ ?_
 .rintro f ⟨k,a⟩ K hG
  rw [hN,hy]
  refine Bu (y78_0 a C.l N Y k _) ?_
  exact ch hG (fun h0=>ch h0 (fun h1=>cg h1 fun h2=>cg h2 fun h3=>cn (decide_eq_true rfl) (cg h3 fun h4=>cg h4 fun h5=>⟨⟨((k+1),(a.extract ((Z.wrap ((m79 a 10)+1)).toNat) ((a.size:Int).toNat))),rfl,rfl,rfl,h5⟩,trivial⟩)) (fun h1=>cn (decide_eq_true rfl) (cg h1 fun h2=>cg h2 fun h3=>⟨⟨((k+1),({ data:=#[] }:BA)),rfl,rfl,rfl,h3⟩,trivial⟩))) (fun h0=>h0.2)
 .intro k s κ h
  unfold g78_0 at h
  split at h <;> try exact h.elim
  rename_i e1
  rw [Ac] at h
  have hl:=h.1 _ (List.mem_cons_of_mem _ (List.mem_singleton.2 rfl))
  obtain rfl:=RT hl
  exact ⟨_,(_,_),rfl,e1,h.1 _ (List.mem_cons_self ..),h.2⟩
theorem x78(b:BA)(l N:Nat)(Y:Dat)(R:XE->Option Nat->Prop):Eh Tryz.prog [(79,c79)] (fun _=>aw) l N (fun k=>[.str (Y.ss k 0)]) (LV [(0,(g78_0 l N Y))]) 8 (Tryz.f78.body.getD .skip) (ak 0) (Cb Tryz.f78.ntmps ([.val (.func (.yield l) #[] #[]),.ptr 0 0]) 1 (Ah [.cells 9 [.str b]])) (fun e k s=>R e k) =
 (cnd ((o78_0 l N Y 0 b).isSome)
 (cnd (aq (l=l))
 (R (XE.normal) (.some ((o78_0 l N Y 0 b).getD ax).1))
  False)
 False):=by kernel_rfl
def n78(b:BA)(l N:Nat)(Y:Dat):Bool :=
 (((o78_0 l N Y 0 b).isSome)&&(aq (((o78_0 l N Y 0 b).getD ax).1=N)))
theorem it78(b:BA)(N:Nat)(Y:Dat)(hn:∀ l,n78 b l N Y=aj):Lm Tryz.prog 78 [.ptr 0 0] [.cells 9 [.str b]] N (fun k=>[.str (Y.ss k 0)]):=RV (tc k79 tn) A6 8 (fn:=Tryz.f78) (c:=(Tryz.f78.body.getD .skip)) (Λ:=(fun _=>aw)) (ΛY:=fun l=>(LV [(0,(g78_0 l N Y))])) Tryz.func78 rfl As rfl (fun k _=>rfl) (fun C hN hy=>(S0 rfl (Nk (z78_0 hN hy) Pa))) fun l=>by
 refine Bu (x78 b l N Y fun e k=>match e with | .exit _=>False | _=>k=ak N) ?_
 exact cn (al (hn l)) (cn (decide_eq_true rfl) (congrArg ak (of_decide_eq_true (ar (hn l)))))

/-! ### shotline/shotlinebase.Cut -/
def l33_0(g:BA)(m:Int):Nat->Nat->Int->Int->Dat->Option (Nat × Int × Nat × Dat)
 | 0,_,_,_,_=>aw
 | f+1,i,l,d,b=>(cond (aq (d<(g.size:Int))) (cond (aq (0<=d/\d<(g.size:Int))) (cond (aq ((An g d.toNat)=m)) (cond (aq (0<=l/\l<=d/\d<=(g.size:Int))) (cond (aq ((i+1)<=1073741824)) (l33_0 g m f (i+1) (Z.wrap (d+1)) (Z.wrap (d+1)) (b.app i (Aw [SV.str (g.extract l.toNat d.toNat)] 1))) aw) aw) (l33_0 g m f i l (Z.wrap (d+1)) b)) aw) (ak (i,l,i,b)))
abbrev o33_0(g:BA)(m:Int)(i:Nat)(l d:Int)(b:Dat):Option (Nat × Int × Nat × Dat):=l33_0 g m (g.size+m.toNat+i+l.toNat+d.toNat+8) i l d b
def e33_0(g:BA)(m:Int)(r:Nat × Int × Nat × Dat)(K:XR):Prop:=K (XE.exit 0) [.str g,.gr 0 1 r.1,V Z r.2.1] [.row 9 [.str] r.2.2.1 r.2.2.2]
def g33_0:AX:=fun s k=>match czv 0 34 [0,1,5,6,7] 1 [⟨aj,5,0,0,9,[.str]⟩] s with
 | ak ([.str g,.int .u8 m,.gr 0 1 i,V Z l,V Z d],[.row 9 [.str] b0_0 b])=>Ay [decide (i=b0_0),(o33_0 g m i l d b).isSome] (e33_0 g m ((o33_0 g m i l d b).getD ax) fun e vs bs=>AL 0 k e (Aq 0 34 [0,5,6] vs 1 bs))
 | _=>False
theorem z33_0:LOk Tryz.prog g33_0 (.block 0 (Ad (Tryz.f33.body.getD .skip) 0)):=by
 refine lb (ι:=BA × Int × Nat × Int × Int × Dat) (fuel:=8) (na:=0) (nt:=34) (nx:=1) (Lh:=[0,1,5,6,7]) (Le:=[0,5,6]) (gl:=[⟨aj,5,0,0,9,[.str]⟩]) tn A6 As rfl (fun f (g,m,i,l,d,b) K=>GG ax (e33_0 g m) K (l33_0 g m f i l d b)) (fun (g,m,i,l,d,b)=>[.str g,.int .u8 m,.gr 0 1 i,V Z l,V Z d]) (fun (g,m,i,l,d,b)=>[.row 9 [.str] i b]) (fun (_,_,_,_,_,_) K=>Au) ?_ ?_
 .rintro f ⟨g,m,i,l,d,b⟩ K hG
  refine ro (fun R=>(cnd (aq (d<(g.size:Int)))
 (cnd (aq (0<=d/\d<(g.size:Int)))
 (cnd (aq ((An g d.toNat)=m))
 (cnd (aq (0<=l/\l<=d/\d<=(g.size:Int)))
 (cnd (aq (i<=i))
 (cnd (aq ((i+1)<=1073741824))
 (R (XE.normal) [.str g,.int .u8 m,.gr 0 1 (i+1),V Z (Z.wrap (d+1)),V Z (Z.wrap (d+1))] [.row 9 [.str] (i+1) (b.app i (Aw [SV.str (g.extract l.toNat d.toNat)] 1))])
    False)
   False)
   False)
 (R (XE.normal) [.str g,.int .u8 m,.gr 0 1 i,V Z l,V Z (Z.wrap (d+1))] [.row 9 [.str] i b]))
  False)
 (R (XE.exit 0) [.str g,.gr 0 1 i,V Z l] [.row 9 [.str] i b]))) (fun R=>by kernel_rfl) ?_
  exact ch hG (fun h0=>cg h0 fun h1=>ch h1 (fun h2=>cg h2 fun h3=>cn (decide_eq_true (Nat.le_refl _)) (cg h3 fun h4=>⟨(_,_,_,_,_,_),rfl,rfl,h4⟩)) (fun h2=>⟨(_,_,_,_,_,_),rfl,rfl,h2⟩)) (fun h0=>h0.2)
 .intro s k h
  unfold g33_0 at h
  split at h <;> try exact h.elim
  rename_i e1
  rw [Ac] at h
  have hq:=h.1
  simp only [List.mem_cons,forall_eq_or_imp,decide_eq_true_eq,List.not_mem_nil,false_imp_iff,implies_true,and_true] at hq
  obtain ⟨rfl,hq⟩:=hq
  exact ⟨_,e1,_,(_,_,_,_,_,_),rfl,rfl,hq,h.2⟩
def m33(a:BA)(j:Int):Nat × Dat :=
 ((((o33_0 a j 0 0 0 A3).getD ax).1+1),(((o33_0 a j 0 0 0 A3).getD ax).2.2.2.app ((o33_0 a j 0 0 0 A3).getD ax).1 (Aw [SV.str (a.extract (((o33_0 a j 0 0 0 A3).getD ax).2.1.toNat) ((a.size:Int).toNat))] 1)))
def n33(a:BA)(j:Int):Bool :=
 (((o33_0 a j 0 0 0 A3).isSome)&&((aq (0<=((o33_0 a j 0 0 0 A3).getD ax).2.1/\((o33_0 a j 0 0 0 A3).getD ax).2.1<=(a.size:Int)/\(a.size:Int)<=(a.size:Int)))&&((aq (((o33_0 a j 0 0 0 A3).getD ax).1<=((o33_0 a j 0 0 0 A3).getD ax).2.2.1))&&((aq ((((o33_0 a j 0 0 0 A3).getD ax).1+1)<=1073741824))&&((aq ((0+(((o33_0 a j 0 0 0 A3).getD ax).1+1))<=(((o33_0 a j 0 0 0 A3).getD ax).1+1)))&&aj)))))
def q33(r:Nat × Dat):SV × List Blk × List Blk:=(.ro [.str] r.1 r.2,[],[])
def g33:GF:=fun vs bs=>match vs,bs with
 | [.str a,.int .u8 j],[]=>ak (rs 0 (q33 (m33 a j)) [n33 a j])
 | _,_=>aw
def c33:Ctr:=AA [.k,.k] g33
theorem k33:Ag Tryz.prog c33 33:=cx tn A6 8 (fn:=Tryz.f33) (c:=(Tryz.f33.body.getD .skip)) (grs:=[]) (rh:=.ro [.str]) Tryz.func33 rfl (by kernel_rfl) (AD rfl (lc z33_0 ln)) fun vs bs q h hn=>by
 unfold g33 at h
 split at h <;> cases h
 rename_i a j
 have hn:=n1 hn
 exact ⟨_,rfl,ca (fun R => 
 let a0:=((o33_0 a j 0 0 0 A3).getD ax)
 (cnd ((o33_0 a j 0 0 0 A3).isSome)
 (cnd (aq (0<=a0.2.1/\a0.2.1<=(a.size:Int)/\(a.size:Int)<=(a.size:Int)))
 (cnd (aq (a0.1<=a0.2.2.1))
 (cnd (aq ((a0.1+1)<=1073741824))
 (cnd (aq ((0+(a0.1+1))<=(a0.1+1)))
 (R (.ro [.str] (a0.1+1) (a0.2.2.2.app a0.1 (Aw [SV.str (a.extract (a0.2.1.toNat) ((a.size:Int).toNat))] 1))) [] [])
   False)
   False)
  False)
  False)
 False)) (fun R=>by kernel_rfl) (cn (al hn) (cn (al (ar hn)) (cn (al (ar (ar hn))) (cn (al (ar (ar (ar hn)))) (cn (al (ar (ar (ar (ar hn))))) (lf rfl rfl))))))⟩
/-! ### shotline/shotlinebase.Size -/
def m72(a:Int):Int :=
 (P6 a (Z.wrap (0 - a)))
def q72(r:Int):SV × List Blk × List Blk:=(V Z r,[],[])
def g72:GF:=fun vs bs=>match vs,bs with
 | [V Z a],[]=>ak (rs 0 (q72 (m72 a)) [])
 | _,_=>aw
def c72:Ctr:=AA [.k] g72
theorem k72:Ag Tryz.prog c72 72:=cx tn A6 8 (fn:=Tryz.f72) (c:=(Tryz.f72.body.getD .skip)) (grs:=[]) (rh:=.k) Tryz.func72 rfl (by kernel_rfl) As fun vs bs q h hn=>by
 unfold g72 at h
 split at h <;> cases h
 rename_i a
 exact ⟨_,rfl,ca (fun R=>(R (V Z (P6 a (Z.wrap (0 - a)))) [] [])) (fun R=>by kernel_rfl) (lf rfl rfl)⟩
/-! ### shotline/shotlineref07.Words -/
def m54 :Dat :=
 (Aw [SV.str ({ data:=#[99,121,108,105,110,100,101,114] }:BA),SV.str ({ data:=#[114,101,103,117,108,97,116,111,114] }:BA),SV.str ({ data:=#[99,111,109,112,114,101,115,115,111,114] }:BA),SV.str ({ data:=#[111,116,104,101,114] }:BA)] 1)
def q54(r:Dat):SV × List Blk × List Blk:=(.ro [.str] 4 r,[],[])
def g54:GF:=fun vs bs=>match vs,bs with
 | [],[]=>ak (rs 0 (q54 (m54)) [])
 | _,_=>aw
def c54:Ctr:=AA [] g54
theorem k54:Ag Tryz.prog c54 54:=cx tn A6 8 (fn:=Tryz.f54) (c:=(Tryz.f54.body.getD .skip)) (grs:=[]) (rh:=.ro [.str]) Tryz.func54 rfl (by kernel_rfl) As fun vs bs q h hn=>by
 unfold g54 at h
 split at h <;> cases h
 exact ⟨_,rfl,ca (fun R=>(R (.ro [.str] 4 (Aw [SV.str ({ data:=#[99,121,108,105,110,100,101,114] }:BA),SV.str ({ data:=#[114,101,103,117,108,97,116,111,114] }:BA),SV.str ({ data:=#[99,111,109,112,114,101,115,115,111,114] }:BA),SV.str ({ data:=#[111,116,104,101,114] }:BA)] 1)) [] [])) (fun R=>by kernel_rfl) (lf rfl rfl)⟩
/-! ### shotline/shotlinebase.Number -/
def l34_0(d:BA)(g:Int):Nat->Int->Int->Option (Bool × (Int × Bool × Int) × (Int))
 | 0,_,_=>aw
 | f+1,i,b=>(cond (aq (b<(d.size:Int))) (cond (aq (0<=b/\b<(d.size:Int))) (cond (bif (cond (cond (aq ((An d b.toNat)<48)) az aj) az aj) then aj else (aq (0<=b/\b<(d.size:Int)))) (cond (bif (aq ((An d b.toNat)<48)) then aj else (aq (57<(An d b.toNat)))) (ak (aj,(0,az,i),ax)) (cond (aq (0<=b/\b<(d.size:Int))) (l34_0 d g f (Z.wrap ((Z.wrap (10 * i))+(Z.wrap (IntKind.u8.wrap ((An d b.toNat) - 48))))) (Z.wrap (b+1))) aw)) aw) aw) (ak (az,ax,i)))
abbrev o34_0(d:BA)(g i b:Int):Option (Bool × (Int × Bool × Int) × (Int)):=l34_0 d g (d.size+g.toNat+i.toNat+b.toNat+8) i b
def e34_0(d:BA)(g:Int)(r:Bool × (Int × Bool × Int) × (Int))(K:XR):Prop:=cnd r.1 (K (XE.ret) [V Z r.2.1.1,.bool r.2.1.2.1,V Z g,V Z r.2.1.2.2] []) (K (XE.exit 0) [.any,.any,V Z g,V Z r.2.2] [])
def g34_0:AX:=fun s k=>match czv 0 70 [0,6,7,8] 0 [] s with
 | ak ([.str d,V Z g,V Z i,V Z b],[])=>Ay [(o34_0 d g i b).isSome] (e34_0 d g ((o34_0 d g i b).getD ax) fun e vs bs=>AL 0 k e (Aq 0 70 [4,5,6,7] vs 0 bs))
 | _=>False
theorem z34_0:LOk Tryz.prog g34_0 (.block 0 (Ad (Tryz.f34.body.getD .skip) 0)):=by
 refine lb (ι:=BA × Int × Int × Int) (fuel:=8) (na:=0) (nt:=70) (nx:=0) (Lh:=[0,6,7,8]) (Le:=[4,5,6,7]) (gl:=[]) tn A6 As rfl (fun f (d,g,i,b) K=>GG ax (e34_0 d g) K (l34_0 d g f i b)) (fun (d,g,i,b)=>[.str d,V Z g,V Z i,V Z b]) (fun (d,g,i,b)=>[]) (fun (_,_,_,_) K=>Au) ?_ ?_
 .rintro f ⟨d,g,i,b⟩ K hG
  refine ro (fun R => 
 let a0:=(aq (0<=b/\b<(d.size:Int)))
 (cnd (aq (b<(d.size:Int)))
 (cnd a0
 (cnd (bif (cond (cond (aq ((An d b.toNat)<48)) az aj) az aj) then aj else a0)
 (cnd (bif (aq ((An d b.toNat)<48)) then aj else (aq (57<(An d b.toNat))))
 (R (XE.ret) [V Z 0,.bool az,V Z g,V Z i] [])
 (cnd a0
 (R (XE.normal) [.str d,V Z g,V Z (Z.wrap ((Z.wrap (10 * i))+(Z.wrap (IntKind.u8.wrap ((An d b.toNat) - 48))))),V Z (Z.wrap (b+1))] [])
   False))
  False)
  False)
 (R (XE.exit 0) [.any,.any,V Z g,V Z i] []))) (fun R=>by kernel_rfl) ?_
  exact ch hG (fun h0=>cg h0 fun h1=>cg h1 fun h2=>ch h2 (fun h3=>h3.2) (fun h3=>cg h3 fun h4=>⟨(_,_,_,_),rfl,rfl,h4⟩)) (fun h0=>h0.2)
 .intro s k h
  unfold g34_0 at h
  split at h <;> try exact h.elim
  rename_i e1
  rw [Ac] at h
  exact ⟨_,e1,_,(_,_,_,_),rfl,rfl,h.1 _ (List.mem_singleton.2 rfl),h.2⟩
def m34(a:BA)(j:Int):Int × Bool :=
 (cond (bif (aq ((0:Int)<(a.size:Int))) then (aq ((An a 0)=45)) else az) (cond (bif (bif (aq ((a.size:Int)=1)) then aj else (aq (j<(Z.wrap ((a.size:Int) - 1))))) then aj else (bif (aq ((An a 1)=48)) then (aq (1<(a.size:Int))) else az)) (0,az) (cond ((o34_0 a 1 0 1).getD ax).1 (((o34_0 a 1 0 1).getD ax).2.1.1,((o34_0 a 1 0 1).getD ax).2.1.2.1) ((Z.wrap (0 - ((o34_0 a 1 0 1).getD ax).2.2)),aj))) (cond (bif (bif (aq ((a.size:Int)=0)) then aj else (aq (j<(Z.wrap ((a.size:Int) - 0))))) then aj else (bif (aq ((An a 0)=48)) then (aq (1<(a.size:Int))) else az)) (0,az) (cond ((o34_0 a 0 0 0).getD ax).1 (((o34_0 a 0 0 0).getD ax).2.1.1,((o34_0 a 0 0 0).getD ax).2.1.2.1) (((o34_0 a 0 0 0).getD ax).2.2,aj))))
def n34(a:BA)(j:Int):Bool :=
 ((bif (cond (aq ((0:Int)<(a.size:Int))) az aj) then aj else (aq ((0:Int)<=(0:Int)/\(0:Int)<(a.size:Int))))&&(cond (bif (aq ((0:Int)<(a.size:Int))) then (aq ((An a 0)=45)) else az) ((bif (cond (cond (bif (aq ((a.size:Int)=1)) then aj else (aq (j<(Z.wrap ((a.size:Int) - 1))))) az aj) az aj) then aj else (aq ((0:Int)<=(1:Int)/\(1:Int)<(a.size:Int))))&&(cond (bif (bif (aq ((a.size:Int)=1)) then aj else (aq (j<(Z.wrap ((a.size:Int) - 1))))) then aj else (bif (aq ((An a 1)=48)) then (aq (1<(a.size:Int))) else az)) aj (((o34_0 a 1 0 1).isSome)&&aj))) ((bif (cond (cond (bif (aq ((a.size:Int)=0)) then aj else (aq (j<(Z.wrap ((a.size:Int) - 0))))) az aj) az aj) then aj else (aq ((0:Int)<=(0:Int)/\(0:Int)<(a.size:Int))))&&(cond (bif (bif (aq ((a.size:Int)=0)) then aj else (aq (j<(Z.wrap ((a.size:Int) - 0))))) then aj else (bif (aq ((An a 0)=48)) then (aq (1<(a.size:Int))) else az)) aj (((o34_0 a 0 0 0).isSome)&&aj)))))
def q34(r:Int × Bool):SV × List Blk × List Blk:=(.tup [V Z r.1,.bool r.2],[],[])
def g34:GF:=fun vs bs=>match vs,bs with
 | [.str a,V Z j],[]=>ak (rs 0 (q34 (m34 a j)) [n34 a j])
 | _,_=>aw
def c34:Ctr:=AA [.k,.k] g34
theorem k34:Ag Tryz.prog c34 34:=cx tn A6 8 (fn:=Tryz.f34) (c:=(Tryz.f34.body.getD .skip)) (grs:=[]) (rh:=.k) Tryz.func34 rfl (by kernel_rfl) (AD rfl (lc z34_0 ln)) fun vs bs q h hn=>by
 unfold g34 at h
 split at h <;> cases h
 rename_i a j
 have hn:=n1 hn
 exact ⟨_,rfl,ca (fun R => 
 let a0:=(bif (aq ((a.size:Int)=1)) then aj else (aq (j<(Z.wrap ((a.size:Int) - 1)))))
 let b0:=(bif (aq ((a.size:Int)=0)) then aj else (aq (j<(Z.wrap ((a.size:Int) - 0)))))
 let c0:=((o34_0 a 1 0 1).getD ax)
 let d0:=((o34_0 a 0 0 0).getD ax)
 let e0:=(aq ((0:Int)<=(0:Int)/\(0:Int)<(a.size:Int)))
 (cnd (bif (cond (aq ((0:Int)<(a.size:Int))) az aj) then aj else e0)
 (cnd (bif (aq ((0:Int)<(a.size:Int))) then (aq ((An a 0)=45)) else az)
 (cnd (bif (cond (cond a0 az aj) az aj) then aj else (aq ((0:Int)<=(1:Int)/\(1:Int)<(a.size:Int))))
 (cnd (bif a0 then aj else (bif (aq ((An a 1)=48)) then (aq (1<(a.size:Int))) else az))
 (R (.tup [V Z 0,.bool az]) [] [])
 (cnd ((o34_0 a 1 0 1).isSome)
 (cnd c0.1
 (R (.tup [V Z c0.2.1.1,.bool c0.2.1.2.1]) [] [])
 (R (.tup [V Z (Z.wrap (0 - c0.2.2)),.bool aj]) [] []))
   False))
  False)
 (cnd (bif (cond (cond b0 az aj) az aj) then aj else e0)
 (cnd (bif b0 then aj else (bif (aq ((An a 0)=48)) then (aq (1<(a.size:Int))) else az))
 (R (.tup [V Z 0,.bool az]) [] [])
 (cnd ((o34_0 a 0 0 0).isSome)
 (cnd d0.1
 (R (.tup [V Z d0.2.1.1,.bool d0.2.1.2.1]) [] [])
 (R (.tup [V Z d0.2.2,.bool aj]) [] []))
   False))
  False))
 False)) (fun R=>by kernel_rfl) (cn (al hn) (co (fun h0=>cn (al (ct h0 (ar hn))) (co (fun h1=>lf (cT h0 (cT h1 rfl)) rfl) (fun h1=>cn (al (cf h1 (ar (ct h0 (ar hn))))) (co (fun h2=>lf (cT h0 (cF h1 (cT h2 rfl))) rfl) (fun h2=>lf (cT h0 (cF h1 (cF h2 rfl))) rfl))))) (fun h0=>cn (al (cf h0 (ar hn))) (co (fun h1=>lf (cF h0 (cT h1 rfl)) rfl) (fun h1=>cn (al (cf h1 (ar (cf h0 (ar hn))))) (co (fun h2=>lf (cF h0 (cF h1 (cT h2 rfl))) rfl) (fun h2=>lf (cF h0 (cF h1 (cF h2 rfl))) rfl)))))))⟩
/-! ### shotline/shotlinebase.Decimal -/
def l35_0(d:BA):Nat->Int->BA->Option (BA)
 | 0,_,_=>aw
 | f+1,a,g=>(cond (cond (aq (a=0)) az aj) (cond (aq (0<=(IntKind.u8.wrap (Z.wrap (48+(m72 (a.tmod 10)))))/\(IntKind.u8.wrap (Z.wrap (48+(m72 (a.tmod 10)))))<=255)) (cond (aq ((((Iu (IntKind.u8.wrap (Z.wrap (48+(m72 (a.tmod 10)))))).size)+g.size)<=9223372036854775807)) (l35_0 d f (Z.wrap (a.tdiv 10)) ((Iu (IntKind.u8.wrap (Z.wrap (48+(m72 (a.tmod 10)))))) ++ g)) aw) aw) (ak g))
abbrev o35_0(d:BA)(a:Int)(g:BA):Option (BA):=l35_0 d (30+a.toNat) a g
def e35_0(d r:BA)(K:XR):Prop:=K (XE.exit 0) [.str r,.str d] []
def g35_0:AX:=fun s k=>match czv 0 27 [0,3,4] 0 [] s with
 | ak ([V Z a,.str g,.str d],[])=>Ay [(o35_0 d a g).isSome] (e35_0 d ((o35_0 d a g).getD ax) fun e vs bs=>AL 0 k e (Aq 0 27 [3,4] vs 0 bs))
 | _=>False
theorem z35_0:LOk Tryz.prog g35_0 (.block 0 (Ad (Tryz.f35.body.getD .skip) 0)):=by
 refine lb (ι:=Int × BA × BA) (fuel:=8) (na:=0) (nt:=27) (nx:=0) (Lh:=[0,3,4]) (Le:=[3,4]) (gl:=[]) (tc k72 tn) A6 As rfl (fun f (a,g,d) K=>GG ax (e35_0 d) K (l35_0 d f a g)) (fun (a,g,d)=>[V Z a,.str g,.str d]) (fun (a,g,d)=>[]) (fun (_,_,_) K=>Au) ?_ ?_
 .rintro f ⟨a,g,d⟩ K hG
  refine ro (fun R => 
 let a0:=(IntKind.u8.wrap (Z.wrap (48+(m72 (a.tmod 10)))))
 (cnd (cond (aq (a=0)) az aj)
 (cnd (aq (0<=a0/\a0<=255))
 (cnd (aq ((((Iu a0).size)+g.size)<=9223372036854775807))
 (R (XE.normal) [V Z (Z.wrap (a.tdiv 10)),.str ((Iu a0) ++ g),.str d] [])
  False)
  False)
 (R (XE.exit 0) [.str g,.str d] []))) (fun R=>by kernel_rfl) ?_
  exact ch hG (fun h0=>cg h0 fun h1=>cg h1 fun h2=>⟨(_,_,_),rfl,rfl,h2⟩) (fun h0=>h0.2)
 .intro s k h
  unfold g35_0 at h
  split at h <;> try exact h.elim
  rename_i e1
  rw [Ac] at h
  exact ⟨_,e1,_,(_,_,_),rfl,rfl,h.1 _ (List.mem_singleton.2 rfl),h.2⟩
def m35(b:Int):BA :=
 (cond (aq (b=0)) ({ data:=#[48] }:BA) (cond (aq (b<(0:Int))) (({ data:=#[45] }:BA) ++ ((o35_0 ({ data:=#[45] }:BA) b ({ data:=#[] }:BA)).getD ax)) (({ data:=#[] }:BA) ++ ((o35_0 ({ data:=#[] }:BA) b ({ data:=#[] }:BA)).getD ax))))
def n35(b:Int):Bool :=
 (cond (aq (b=0)) aj (cond (aq (b<(0:Int))) (((o35_0 ({ data:=#[45] }:BA) b ({ data:=#[] }:BA)).isSome)&&((aq ((1+(((o35_0 ({ data:=#[45] }:BA) b ({ data:=#[] }:BA)).getD ax).size))<=9223372036854775807))&&aj)) (((o35_0 ({ data:=#[] }:BA) b ({ data:=#[] }:BA)).isSome)&&((aq ((0+(((o35_0 ({ data:=#[] }:BA) b ({ data:=#[] }:BA)).getD ax).size))<=9223372036854775807))&&aj))))
def q35(r:BA):SV × List Blk × List Blk:=(.str r,[],[])
def g35:GF:=fun vs bs=>match vs,bs with
 | [V Z b],[]=>ak (rs 0 (q35 (m35 b)) [n35 b])
 | _,_=>aw
def c35:Ctr:=AA [.k] g35
theorem k35:Ag Tryz.prog c35 35:=cx (tc k72 tn) A6 8 (fn:=Tryz.f35) (c:=(Tryz.f35.body.getD .skip)) (grs:=[]) (rh:=.k) Tryz.func35 rfl (by kernel_rfl) (AD rfl (lc z35_0 ln)) fun vs bs q h hn=>by
 unfold g35 at h
 split at h <;> cases h
 rename_i b
 have hn:=n1 hn
 exact ⟨_,rfl,ca (fun R => 
 let a0:=({ data:=#[] }:BA)
 let b0:=({ data:=#[45] }:BA)
 (cnd (aq (b=0))
 (R (.str ({ data:=#[48] }:BA)) [] [])
 (cnd (aq (b<(0:Int)))
 (cnd ((o35_0 b0 b a0).isSome)
 (cnd (aq ((1+(((o35_0 b0 b a0).getD ax).size))<=9223372036854775807))
 (R (.str (b0 ++ ((o35_0 b0 b a0).getD ax))) [] [])
   False)
  False)
 (cnd ((o35_0 a0 b a0).isSome)
 (cnd (aq ((0+(((o35_0 a0 b a0).getD ax).size))<=9223372036854775807))
 (R (.str (a0 ++ ((o35_0 a0 b a0).getD ax))) [] [])
   False)
  False)))) (fun R=>by kernel_rfl) (co (fun h0=>lf (cT h0 rfl) rfl) (fun h0=>co (fun h1=>cn (al (ct h1 (cf h0 hn))) (cn (al (ar (ct h1 (cf h0 hn)))) (lf (cF h0 (cT h1 rfl)) rfl))) (fun h1=>cn (al (cf h1 (cf h0 hn))) (cn (al (ar (cf h1 (cf h0 hn)))) (lf (cF h0 (cF h1 rfl)) rfl)))))⟩
/-! ### shotline/shotlineref07.kindOf -/
def l82_0(b:BA):Nat->Int->Option (Bool × (Int) × (Unit))
 | 0,_=>aw
 | f+1,a=>(cond (aq (a<4)) (cond (aq (0<=a/\a<4)) (cond (aq ((m54.ss a.toNat 0)=b)) (ak (aj,(Z.wrap (1+a)),ax)) (l82_0 b f (Z.wrap (a+1)))) aw) (ak (az,ax,())))
abbrev o82_0(b:BA)(a:Int):Option (Bool × (Int) × (Unit)):=l82_0 b (b.size+a.toNat+8) a
def e82_0(b:BA)(r:Bool × (Int) × (Unit))(K:XR):Prop:=cnd r.1 (K (XE.ret) [V Z r.2.1] []) (K (XE.exit 0) [.any] [])
def g82_0:AX:=fun s k=>match czv 0 16 [0,3] 0 [] s with
 | ak ([.str b,V Z a],[])=>Ay [(o82_0 b a).isSome] (e82_0 b ((o82_0 b a).getD ax) fun e vs bs=>AL 0 k e (Aq 0 16 [2] vs 0 bs))
 | _=>False
theorem z82_0:LOk Tryz.prog g82_0 (.block 0 (Ad (Tryz.f82.body.getD .skip) 0)):=by
 refine lb (ι:=BA × Int) (fuel:=8) (na:=0) (nt:=16) (nx:=0) (Lh:=[0,3]) (Le:=[2]) (gl:=[]) (tc k54 tn) A6 As rfl (fun f (b,a) K=>GG ax (e82_0 b) K (l82_0 b f a)) (fun (b,a)=>[.str b,V Z a]) (fun (b,a)=>[]) (fun (_,_) K=>Au) ?_ ?_
 .rintro f ⟨b,a⟩ K hG
  refine ro (fun R=>(cnd (aq (a<4))
 (cnd (aq (0<=a/\a<4))
 (cnd (aq ((m54.ss a.toNat 0)=b))
 (R (XE.ret) [V Z (Z.wrap (1+a))] [])
 (R (XE.normal) [.str b,V Z (Z.wrap (a+1))] []))
  False)
 (R (XE.exit 0) [.any] []))) (fun R=>by kernel_rfl) ?_
  exact ch hG (fun h0=>cg h0 fun h1=>ch h1 (fun h2=>h2.2) (fun h2=>⟨(_,_),rfl,rfl,h2⟩)) (fun h0=>h0.2)
 .intro s k h
  unfold g82_0 at h
  split at h <;> try exact h.elim
  rename_i e1
  rw [Ac] at h
  exact ⟨_,e1,_,(_,_),rfl,rfl,h.1 _ (List.mem_singleton.2 rfl),h.2⟩
def m82(d:BA):Int :=
 (cond ((o82_0 d 0).getD ax).1 ((o82_0 d 0).getD ax).2.1 0)
def n82(d:BA):Bool :=
 (((o82_0 d 0).isSome)&&aj)
def q82(r:Int):SV × List Blk × List Blk:=(V Z r,[],[])
def g82:GF:=fun vs bs=>match vs,bs with
 | [.str d],[]=>ak (rs 0 (q82 (m82 d)) [n82 d])
 | _,_=>aw
def c82:Ctr:=AA [.k] g82
theorem k82:Ag Tryz.prog c82 82:=cx (tc k54 tn) A6 8 (fn:=Tryz.f82) (c:=(Tryz.f82.body.getD .skip)) (grs:=[]) (rh:=.k) Tryz.func82 rfl (by kernel_rfl) (AD rfl (lc z82_0 ln)) fun vs bs q h hn=>by
 unfold g82 at h
 split at h <;> cases h
 rename_i d
 have hn:=n1 hn
 exact ⟨_,rfl,ca (fun R=>(cnd ((o82_0 d 0).isSome)
 (cnd ((o82_0 d 0).getD ax).1
 (R (V Z ((o82_0 d 0).getD ax).2.1) [] [])
 (R (V Z 0) [] []))
 False)) (fun R=>by kernel_rfl) (cn (al hn) (co (fun h0=>lf (cT h0 rfl) rfl) (fun h0=>lf (cF h0 rfl) rfl)))⟩
/-! ### slices.Index[[]string,string] -/
def l81_0(a:Nat)(b:Dat)(i:BA)(j:Int):Nat->Int->Option (Bool × (Int) × (Unit))
 | 0,_=>aw
 | f+1,g=>(cond (aq (g<j)) (cond (aq (0<=g/\g<(a:Int))) (cond (aq (i=(b.ss g.toNat 0))) (ak (aj,g,ax)) (l81_0 a b i j f (Z.wrap (g+1)))) aw) (ak (az,ax,())))
abbrev o81_0(a:Nat)(b:Dat)(i:BA)(j g:Int):Option (Bool × (Int) × (Unit)):=l81_0 a b i j (a+i.size+j.toNat+g.toNat+8) g
def e81_0(a:Nat)(b:Dat)(i:BA)(j:Int)(r:Bool × (Int) × (Unit))(K:XR):Prop:=cnd r.1 (K (XE.ret) [V Z r.2.1] []) (K (XE.exit 0) [.any] [])
def g81_0:AX:=fun s k=>match czv 0 19 [0,1,7,8] 0 [] s with
 | ak ([.ro [.str] a b,.str i,V Z j,V Z g],[])=>Ay [(o81_0 a b i j g).isSome] (e81_0 a b i j ((o81_0 a b i j g).getD ax) fun e vs bs=>AL 0 k e (Aq 0 19 [4] vs 0 bs))
 | _=>False
theorem z81_0:LOk Tryz.prog g81_0 (.block 0 (Ad (Tryz.f81.body.getD .skip) 0)):=by
 refine lb (ι:=Nat × Dat × BA × Int × Int) (fuel:=8) (na:=0) (nt:=19) (nx:=0) (Lh:=[0,1,7,8]) (Le:=[4]) (gl:=[]) tn A6 As rfl (fun f (a,b,i,j,g) K=>GG ax (e81_0 a b i j) K (l81_0 a b i j f g)) (fun (a,b,i,j,g)=>[.ro [.str] a b,.str i,V Z j,V Z g]) (fun (a,b,i,j,g)=>[]) (fun (_,_,_,_,_) K=>Au) ?_ ?_
 .rintro f ⟨a,b,i,j,g⟩ K hG
  refine ro (fun R=>(cnd (aq (g<j))
 (cnd (aq (0<=g/\g<(a:Int)))
 (cnd (aq (i=(b.ss g.toNat 0)))
 (R (XE.ret) [V Z g] [])
 (R (XE.normal) [.ro [.str] a b,.str i,V Z j,V Z (Z.wrap (g+1))] []))
  False)
 (R (XE.exit 0) [.any] []))) (fun R=>by kernel_rfl) ?_
  exact ch hG (fun h0=>cg h0 fun h1=>ch h1 (fun h2=>h2.2) (fun h2=>⟨(_,_,_,_,_),rfl,rfl,h2⟩)) (fun h0=>h0.2)
 .intro s k h
  unfold g81_0 at h
  split at h <;> try exact h.elim
  rename_i e1
  rw [Ac] at h
  exact ⟨_,e1,_,(_,_,_,_,_),rfl,rfl,h.1 _ (List.mem_singleton.2 rfl),h.2⟩
def m81(d:Nat)(l:Dat)(m:BA):Int :=
 (cond ((o81_0 d l m (d:Int) 0).getD ax).1 ((o81_0 d l m (d:Int) 0).getD ax).2.1 (-1))
def n81(d:Nat)(l:Dat)(m:BA):Bool :=
 (((o81_0 d l m (d:Int) 0).isSome)&&aj)
def q81(r:Int):SV × List Blk × List Blk:=(V Z r,[],[])
def g81:GF:=fun vs bs=>match vs,bs with
 | [.ro [.str] d l,.str m],[]=>ak (rs 0 (q81 (m81 d l m)) [n81 d l m])
 | _,_=>aw
def c81:Ctr:=AA [.ro [.str],.k] g81
theorem k81:Ag Tryz.prog c81 81:=cx tn A6 8 (fn:=Tryz.f81) (c:=(Tryz.f81.body.getD .skip)) (grs:=[]) (rh:=.k) Tryz.func81 rfl (by kernel_rfl) (AD rfl (lc z81_0 ln)) fun vs bs q h hn=>by
 unfold g81 at h
 split at h <;> cases h
 rename_i d l m
 have hn:=n1 hn
 exact ⟨_,rfl,ca (fun R=>(cnd ((o81_0 d l m (d:Int) 0).isSome)
 (cnd ((o81_0 d l m (d:Int) 0).getD ax).1
 (R (V Z ((o81_0 d l m (d:Int) 0).getD ax).2.1) [] [])
 (R (V Z (-1)) [] []))
 False)) (fun R=>by kernel_rfl) (cn (al hn) (co (fun h0=>lf (cT h0 rfl) rfl) (fun h0=>lf (cF h0 rfl) rfl)))⟩
/-! ### shotline/shotlineref07.Same -/
def l19_0(g:Nat)(i:Dat)(j:Nat)(b:Dat)(m:Nat)(l:Dat)(n:Nat)(d:Dat):Nat->Int->Option (Bool × (Bool) × (Unit))
 | 0,_=>aw
 | f+1,A=>(cond (aq (A<(g:Int))) (cond (aq (0<=A/\A<(g:Int))) (cond (aq (0<=A/\A<(m:Int))) (cond (cond (bif (aq ((i.ss A.toNat 0)=(l.ss A.toNat 0))) then (bif (aq ((i.ii A.toNat 1)=(l.ii A.toNat 1))) then (bif (aq ((i.ii A.toNat 2)=(l.ii A.toNat 2))) then aj else az) else az) else az) az aj) (ak (aj,az,ax)) (l19_0 g i j b m l n d f (Z.wrap (A+1)))) aw) aw) (ak (az,ax,())))
abbrev o19_0(g:Nat)(i:Dat)(j:Nat)(b:Dat)(m:Nat)(l:Dat)(n:Nat)(d:Dat)(A:Int):Option (Bool × (Bool) × (Unit)):=l19_0 g i j b m l n d (A.toNat+g+j+m+n+8) A
def e19_0(g:Nat)(i:Dat)(j:Nat)(b:Dat)(m:Nat)(l:Dat)(n:Nat)(d:Dat)(r:Bool × (Bool) × (Unit))(K:XR):Prop:=cnd r.1 (K (XE.ret) [.ptr 0 0,.ptr 1 0,.bool r.2.1] [.cells 25 [.ro [.str,W Z,W Z] g i,.ro [.str,W Z,W Z,W Z] j b],.cells 25 [.ro [.str,W Z,W Z] m l,.ro [.str,W Z,W Z,W Z] n d]]) (K (XE.exit 0) [.ptr 0 0,.ptr 1 0,.any] [.cells 25 [.ro [.str,W Z,W Z] g i,.ro [.str,W Z,W Z,W Z] j b],.cells 25 [.ro [.str,W Z,W Z] m l,.ro [.str,W Z,W Z,W Z] n d]])
def g19_0:AX:=fun s k=>match czv 0 59 [2,3,5] 2 [] s with
 | ak ([.ptr 0 0,.ptr 1 0,V Z A],[.cells 25 [.ro [.str,W Z,W Z] g i,.ro [.str,W Z,W Z,W Z] j b],.cells 25 [.ro [.str,W Z,W Z] m l,.ro [.str,W Z,W Z,W Z] n d]])=>Ay [(o19_0 g i j b m l n d A).isSome] (e19_0 g i j b m l n d ((o19_0 g i j b m l n d A).getD ax) fun e vs bs=>AL 0 k e (Aq 0 59 [2,3,4] vs 2 bs))
 | _=>False
theorem z19_0:LOk Tryz.prog g19_0 (.block 0 (Ad (Tryz.f19.body.getD .skip) 0)):=by
 refine lb (ι:=Int × Nat × Dat × Nat × Dat × Nat × Dat × Nat × Dat) (fuel:=8) (na:=0) (nt:=59) (nx:=2) (Lh:=[2,3,5]) (Le:=[2,3,4]) (gl:=[]) tn A6 As rfl (fun f (A,g,i,j,b,m,l,n,d) K=>GG ax (e19_0 g i j b m l n d) K (l19_0 g i j b m l n d f A)) (fun (A,g,i,j,b,m,l,n,d)=>[.ptr 0 0,.ptr 1 0,V Z A]) (fun (A,g,i,j,b,m,l,n,d)=>[.cells 25 [.ro [.str,W Z,W Z] g i,.ro [.str,W Z,W Z,W Z] j b],.cells 25 [.ro [.str,W Z,W Z] m l,.ro [.str,W Z,W Z,W Z] n d]]) (fun (_,_,_,_,_,_,_,_,_) K=>Au) ?_ ?_
 .rintro f ⟨A,g,i,j,b,m,l,n,d⟩ K hG
  refine ro (fun R=>(cnd (aq (A<(g:Int)))
 (cnd (aq (0<=A/\A<(g:Int)))
 (cnd (aq (0<=A/\A<(m:Int)))
 (cnd (cond (bif (aq ((i.ss A.toNat 0)=(l.ss A.toNat 0))) then (bif (aq ((i.ii A.toNat 1)=(l.ii A.toNat 1))) then (bif (aq ((i.ii A.toNat 2)=(l.ii A.toNat 2))) then aj else az) else az) else az) az aj)
 (R (XE.ret) [.ptr 0 0,.ptr 1 0,.bool az] [.cells 25 [.ro [.str,W Z,W Z] g i,.ro [.str,W Z,W Z,W Z] j b],.cells 25 [.ro [.str,W Z,W Z] m l,.ro [.str,W Z,W Z,W Z] n d]])
 (R (XE.normal) [.ptr 0 0,.ptr 1 0,V Z (Z.wrap (A+1))] [.cells 25 [.ro [.str,W Z,W Z] g i,.ro [.str,W Z,W Z,W Z] j b],.cells 25 [.ro [.str,W Z,W Z] m l,.ro [.str,W Z,W Z,W Z] n d]]))
  False)
  False)
 (R (XE.exit 0) [.ptr 0 0,.ptr 1 0,.any] [.cells 25 [.ro [.str,W Z,W Z] g i,.ro [.str,W Z,W Z,W Z] j b],.cells 25 [.ro [.str,W Z,W Z] m l,.ro [.str,W Z,W Z,W Z] n d]]))) (fun R=>by kernel_rfl) ?_
  exact ch hG (fun h0=>cg h0 fun h1=>cg h1 fun h2=>ch h2 (fun h3=>h3.2) (fun h3=>⟨(_,_,_,_,_,_,_,_,_),rfl,rfl,h3⟩)) (fun h0=>h0.2)
 .intro s k h
  unfold g19_0 at h
  split at h <;> try exact h.elim
  rename_i e1
  rw [Ac] at h
  exact ⟨_,e1,_,(_,_,_,_,_,_,_,_,_),rfl,rfl,h.1 _ (List.mem_singleton.2 rfl),h.2⟩
def l19_2(g:Nat)(i:Dat)(j:Nat)(b:Dat)(m:Nat)(l:Dat)(n:Nat)(d:Dat):Nat->Int->Option (Bool × (Bool) × (Unit))
 | 0,_=>aw
 | f+1,z=>(cond (aq (z<(j:Int))) (cond (aq (0<=z/\z<(j:Int))) (cond (aq (0<=z/\z<(n:Int))) (cond (cond (bif (aq ((b.ss z.toNat 0)=(d.ss z.toNat 0))) then (bif (aq ((b.ii z.toNat 1)=(d.ii z.toNat 1))) then (bif (aq ((b.ii z.toNat 2)=(d.ii z.toNat 2))) then (bif (aq ((b.ii z.toNat 3)=(d.ii z.toNat 3))) then aj else az) else az) else az) else az) az aj) (ak (aj,az,ax)) (l19_2 g i j b m l n d f (Z.wrap (z+1)))) aw) aw) (ak (az,ax,())))
abbrev o19_2(g:Nat)(i:Dat)(j:Nat)(b:Dat)(m:Nat)(l:Dat)(n:Nat)(d:Dat)(z:Int):Option (Bool × (Bool) × (Unit)):=l19_2 g i j b m l n d (z.toNat+g+j+m+n+8) z
def e19_2(g:Nat)(i:Dat)(j:Nat)(b:Dat)(m:Nat)(l:Dat)(n:Nat)(d:Dat)(r:Bool × (Bool) × (Unit))(K:XR):Prop:=cnd r.1 (K (XE.ret) [.bool r.2.1] [.cells 25 [.ro [.str,W Z,W Z] g i,.ro [.str,W Z,W Z,W Z] j b],.cells 25 [.ro [.str,W Z,W Z] m l,.ro [.str,W Z,W Z,W Z] n d]]) (K (XE.exit 2) [.any] [.cells 25 [.ro [.str,W Z,W Z] g i,.ro [.str,W Z,W Z,W Z] j b],.cells 25 [.ro [.str,W Z,W Z] m l,.ro [.str,W Z,W Z,W Z] n d]])
def g19_2:AX:=fun s k=>match czv 0 59 [2,3,6] 2 [] s with
 | ak ([.ptr 0 0,.ptr 1 0,V Z z],[.cells 25 [.ro [.str,W Z,W Z] g i,.ro [.str,W Z,W Z,W Z] j b],.cells 25 [.ro [.str,W Z,W Z] m l,.ro [.str,W Z,W Z,W Z] n d]])=>Ay [(o19_2 g i j b m l n d z).isSome] (e19_2 g i j b m l n d ((o19_2 g i j b m l n d z).getD ax) fun e vs bs=>AL 2 k e (Aq 0 59 [4] vs 2 bs))
 | _=>False
theorem z19_2:LOk Tryz.prog g19_2 (.block 2 (Ad (Tryz.f19.body.getD .skip) 2)):=by
 refine lb (ι:=Int × Nat × Dat × Nat × Dat × Nat × Dat × Nat × Dat) (fuel:=8) (na:=0) (nt:=59) (nx:=2) (Lh:=[2,3,6]) (Le:=[4]) (gl:=[]) tn A6 (AD rfl (lc z19_0 ln)) rfl (fun f (z,g,i,j,b,m,l,n,d) K=>GG ax (e19_2 g i j b m l n d) K (l19_2 g i j b m l n d f z)) (fun (z,g,i,j,b,m,l,n,d)=>[.ptr 0 0,.ptr 1 0,V Z z]) (fun (z,g,i,j,b,m,l,n,d)=>[.cells 25 [.ro [.str,W Z,W Z] g i,.ro [.str,W Z,W Z,W Z] j b],.cells 25 [.ro [.str,W Z,W Z] m l,.ro [.str,W Z,W Z,W Z] n d]]) (fun (_,_,_,_,_,_,_,_,_) K=>Au) ?_ ?_
 .rintro f ⟨z,g,i,j,b,m,l,n,d⟩ K hG
  refine ro (fun R=>(cnd (aq (z<(j:Int)))
 (cnd (aq (0<=z/\z<(j:Int)))
 (cnd (aq (0<=z/\z<(n:Int)))
 (cnd (cond (bif (aq ((b.ss z.toNat 0)=(d.ss z.toNat 0))) then (bif (aq ((b.ii z.toNat 1)=(d.ii z.toNat 1))) then (bif (aq ((b.ii z.toNat 2)=(d.ii z.toNat 2))) then (bif (aq ((b.ii z.toNat 3)=(d.ii z.toNat 3))) then aj else az) else az) else az) else az) az aj)
 (R (XE.ret) [.bool az] [.cells 25 [.ro [.str,W Z,W Z] g i,.ro [.str,W Z,W Z,W Z] j b],.cells 25 [.ro [.str,W Z,W Z] m l,.ro [.str,W Z,W Z,W Z] n d]])
 (R (XE.normal) [.ptr 0 0,.ptr 1 0,V Z (Z.wrap (z+1))] [.cells 25 [.ro [.str,W Z,W Z] g i,.ro [.str,W Z,W Z,W Z] j b],.cells 25 [.ro [.str,W Z,W Z] m l,.ro [.str,W Z,W Z,W Z] n d]]))
  False)
  False)
 (R (XE.exit 2) [.any] [.cells 25 [.ro [.str,W Z,W Z] g i,.ro [.str,W Z,W Z,W Z] j b],.cells 25 [.ro [.str,W Z,W Z] m l,.ro [.str,W Z,W Z,W Z] n d]]))) (fun R=>by kernel_rfl) ?_
  exact ch hG (fun h0=>cg h0 fun h1=>cg h1 fun h2=>ch h2 (fun h3=>h3.2) (fun h3=>⟨(_,_,_,_,_,_,_,_,_),rfl,rfl,h3⟩)) (fun h0=>h0.2)
 .intro s k h
  unfold g19_2 at h
  split at h <;> try exact h.elim
  rename_i e1
  rw [Ac] at h
  exact ⟨_,e1,_,(_,_,_,_,_,_,_,_,_),rfl,rfl,h.1 _ (List.mem_singleton.2 rfl),h.2⟩
def m19(o:Nat)(v:Dat)(p:Nat)(w:Dat)(t:Nat)(x:Dat)(u:Nat)(y:Dat):Bool :=
 (cond (bif (cond (aq ((o:Int)=(t:Int))) az aj) then aj else (cond (aq ((p:Int)=(u:Int))) az aj)) az (cond ((o19_0 o v p w t x u y 0).getD ax).1 ((o19_0 o v p w t x u y 0).getD ax).2.1 (cond ((o19_2 o v p w t x u y 0).getD ax).1 ((o19_2 o v p w t x u y 0).getD ax).2.1 aj)))
def n19(o:Nat)(v:Dat)(p:Nat)(w:Dat)(t:Nat)(x:Dat)(u:Nat)(y:Dat):Bool :=
 (cond (bif (cond (aq ((o:Int)=(t:Int))) az aj) then aj else (cond (aq ((p:Int)=(u:Int))) az aj)) aj (((o19_0 o v p w t x u y 0).isSome)&&(cond ((o19_0 o v p w t x u y 0).getD ax).1 aj (((o19_2 o v p w t x u y 0).isSome)&&aj))))
def q19(r:Bool):SV × List Blk × List Blk:=(.bool r,[],[])
def g19:GF:=fun vs bs=>match vs,bs with
 | [.agg [.ro [.str,W Z,W Z] o v,.ro [.str,W Z,W Z,W Z] p w],.agg [.ro [.str,W Z,W Z] t x,.ro [.str,W Z,W Z,W Z] u y]],[]=>ak (rs 0 (q19 (m19 o v p w t x u y)) [n19 o v p w t x u y])
 | _,_=>aw
def c19:Ctr:=AA [.a [.ro [.str,W Z,W Z],.ro [.str,W Z,W Z,W Z]],.a [.ro [.str,W Z,W Z],.ro [.str,W Z,W Z,W Z]]] g19
theorem k19:Ag Tryz.prog c19 19:=cx tn A6 8 (fn:=Tryz.f19) (c:=(Tryz.f19.body.getD .skip)) (grs:=[]) (rh:=.k) Tryz.func19 rfl (by kernel_rfl) (AD rfl (lc z19_0 (lc z19_2 ln))) fun vs bs q h hn=>by
 unfold g19 at h
 split at h <;> cases h
 rename_i o v p w t x u y
 have hn:=n1 hn
 exact ⟨_,rfl,ca (fun R=>(cnd (bif (cond (aq ((o:Int)=(t:Int))) az aj) then aj else (cond (aq ((p:Int)=(u:Int))) az aj))
 (R (.bool az) [] [])
 (cnd ((o19_0 o v p w t x u y 0).isSome)
 (cnd ((o19_0 o v p w t x u y 0).getD ax).1
 (R (.bool ((o19_0 o v p w t x u y 0).getD ax).2.1) [] [])
 (cnd ((o19_2 o v p w t x u y 0).isSome)
 (cnd ((o19_2 o v p w t x u y 0).getD ax).1
 (R (.bool ((o19_2 o v p w t x u y 0).getD ax).2.1) [] [])
 (R (.bool aj) [] []))
   False))
  False))) (fun R=>by kernel_rfl) (co (fun h0=>lf (cT h0 rfl) rfl) (fun h0=>cn (al (cf h0 hn)) (co (fun h1=>lf (cF h0 (cT h1 rfl)) rfl) (fun h1=>cn (al (cf h1 (ar (cf h0 hn)))) (co (fun h2=>lf (cF h0 (cF h1 (cT h2 rfl))) rfl) (fun h2=>lf (cF h0 (cF h1 (cF h2 rfl))) rfl))))))⟩
/-! ### shotline/shotlineref07.Print -/
def l18_0(g:Nat)(d:Dat)(i:Nat)(b:Dat):Nat->BA->Int->Option (BA)
 | 0,_,_=>aw
 | f+1,l,m=>(cond (aq (m<(g:Int))) (cond (aq (0<=m/\m<(g:Int))) (cond (aq ((l.size+5)<=9223372036854775807)) (cond (aq ((((l ++ ({ data:=#[105,116,101,109,32] }:BA)).size)+((d.ss m.toNat 0).size))<=9223372036854775807)) (cond (aq (((((l ++ ({ data:=#[105,116,101,109,32] }:BA)) ++ (d.ss m.toNat 0)).size)+1)<=9223372036854775807)) (cond (aq (0<=(Z.wrap ((d.ii m.toNat 1) - 1))/\(Z.wrap ((d.ii m.toNat 1) - 1))<4)) (cond (aq ((((((l ++ ({ data:=#[105,116,101,109,32] }:BA)) ++ (d.ss m.toNat 0)) ++ ({ data:=#[32] }:BA)).size)+((m54.ss ((Z.wrap ((d.ii m.toNat 1) - 1)).toNat) 0).size))<=9223372036854775807)) (cond (aq (((((((l ++ ({ data:=#[105,116,101,109,32] }:BA)) ++ (d.ss m.toNat 0)) ++ ({ data:=#[32] }:BA)) ++ (m54.ss ((Z.wrap ((d.ii m.toNat 1) - 1)).toNat) 0)).size)+1)<=9223372036854775807)) (cond (n35 (d.ii m.toNat 2)) (cond (aq ((((((((l ++ ({ data:=#[105,116,101,109,32] }:BA)) ++ (d.ss m.toNat 0)) ++ ({ data:=#[32] }:BA)) ++ (m54.ss ((Z.wrap ((d.ii m.toNat 1) - 1)).toNat) 0)) ++ ({ data:=#[32] }:BA)).size)+((m35 (d.ii m.toNat 2)).size))<=9223372036854775807)) (cond (aq (((((((((l ++ ({ data:=#[105,116,101,109,32] }:BA)) ++ (d.ss m.toNat 0)) ++ ({ data:=#[32] }:BA)) ++ (m54.ss ((Z.wrap ((d.ii m.toNat 1) - 1)).toNat) 0)) ++ ({ data:=#[32] }:BA)) ++ (m35 (d.ii m.toNat 2))).size)+1)<=9223372036854775807)) (l18_0 g d i b f (((((((l ++ ({ data:=#[105,116,101,109,32] }:BA)) ++ (d.ss m.toNat 0)) ++ ({ data:=#[32] }:BA)) ++ (m54.ss ((Z.wrap ((d.ii m.toNat 1) - 1)).toNat) 0)) ++ ({ data:=#[32] }:BA)) ++ (m35 (d.ii m.toNat 2))) ++ ({ data:=#[10] }:BA)) (Z.wrap (m+1))) aw) aw) aw) aw) aw) aw) aw) aw) aw) aw) (ak l))
abbrev o18_0(g:Nat)(d:Dat)(i:Nat)(b:Dat)(l:BA)(m:Int):Option (BA):=l18_0 g d i b (l.size+m.toNat+g+i+8) l m
def e18_0(g:Nat)(d:Dat)(i:Nat)(b:Dat)(r:BA)(K:XR):Prop:=K (XE.exit 0) [.ptr 0 0,.str r] [.cells 25 [.ro [.str,W Z,W Z] g d,.ro [.str,W Z,W Z,W Z] i b]]
def g18_0:AX:=fun s k=>match czv 0 76 [1,3,4] 1 [] s with
 | ak ([.ptr 0 0,.str l,V Z m],[.cells 25 [.ro [.str,W Z,W Z] g d,.ro [.str,W Z,W Z,W Z] i b]])=>Ay [(o18_0 g d i b l m).isSome] (e18_0 g d i b ((o18_0 g d i b l m).getD ax) fun e vs bs=>AL 0 k e (Aq 0 76 [1,3] vs 1 bs))
 | _=>False
theorem z18_0:LOk Tryz.prog g18_0 (.block 0 (Ad (Tryz.f18.body.getD .skip) 0)):=by
 refine lb (ι:=BA × Int × Nat × Dat × Nat × Dat) (fuel:=8) (na:=0) (nt:=76) (nx:=1) (Lh:=[1,3,4]) (Le:=[1,3]) (gl:=[]) (tc k35 (tc k54 tn)) A6 As rfl (fun f (l,m,g,d,i,b) K=>GG ax (e18_0 g d i b) K (l18_0 g d i b f l m)) (fun (l,m,g,d,i,b)=>[.ptr 0 0,.str l,V Z m]) (fun (l,m,g,d,i,b)=>[.cells 25 [.ro [.str,W Z,W Z] g d,.ro [.str,W Z,W Z,W Z] i b]]) (fun (_,_,_,_,_,_) K=>Au) ?_ ?_
 .rintro f ⟨l,m,g,d,i,b⟩ K hG
  refine ro (fun R => 
 let c0:=(l ++ ({ data:=#[105,116,101,109,32] }:BA))
 let a0:=((c0 ++ (d.ss m.toNat 0)) ++ ({ data:=#[32] }:BA))
 let d0:=(Z.wrap ((d.ii m.toNat 1) - 1))
 let b0:=((a0 ++ (m54.ss (d0.toNat) 0)) ++ ({ data:=#[32] }:BA))
 (cnd (aq (m<(g:Int)))
 (cnd (aq (0<=m/\m<(g:Int)))
 (cnd (aq ((l.size+5)<=9223372036854775807))
 (cnd (aq (((c0.size)+((d.ss m.toNat 0).size))<=9223372036854775807))
 (cnd (aq ((((c0 ++ (d.ss m.toNat 0)).size)+1)<=9223372036854775807))
 (cnd (aq (0<=d0/\d0<4))
 (cnd (aq (((a0.size)+((m54.ss (d0.toNat) 0).size))<=9223372036854775807))
 (cnd (aq ((((a0 ++ (m54.ss (d0.toNat) 0)).size)+1)<=9223372036854775807))
 (cnd (n35 (d.ii m.toNat 2))
 (cnd (aq (((b0.size)+((m35 (d.ii m.toNat 2)).size))<=9223372036854775807))
 (cnd (aq ((((b0 ++ (m35 (d.ii m.toNat 2))).size)+1)<=9223372036854775807))
 (R (XE.normal) [.ptr 0 0,.str ((b0 ++ (m35 (d.ii m.toNat 2))) ++ ({ data:=#[10] }:BA)),V Z (Z.wrap (m+1))] [.cells 25 [.ro [.str,W Z,W Z] g d,.ro [.str,W Z,W Z,W Z] i b]])
      False)
      False)
     False)
     False)
    False)
    False)
   False)
   False)
  False)
  False)
 (R (XE.exit 0) [.ptr 0 0,.str l] [.cells 25 [.ro [.str,W Z,W Z] g d,.ro [.str,W Z,W Z,W Z] i b]]))) (fun R=>by kernel_rfl) ?_
  exact ch hG (fun h0=>cg h0 fun h1=>cg h1 fun h2=>cg h2 fun h3=>cg h3 fun h4=>cg h4 fun h5=>cg h5 fun h6=>cg h6 fun h7=>cg h7 fun h8=>cg h8 fun h9=>cg h9 fun h10=>⟨(_,_,_,_,_,_),rfl,rfl,h10⟩) (fun h0=>h0.2)
 .intro s k h
  unfold g18_0 at h
  split at h <;> try exact h.elim
  rename_i e1
  rw [Ac] at h
  exact ⟨_,e1,_,(_,_,_,_,_,_),rfl,rfl,h.1 _ (List.mem_singleton.2 rfl),h.2⟩
def l18_2(g:Nat)(d:Dat)(i:Nat)(b:Dat):Nat->BA->Int->Option (BA)
 | 0,_,_=>aw
 | f+1,l,j=>(cond (aq (j<(i:Int))) (cond (aq (0<=j/\j<(i:Int))) (cond (aq ((l.size+5)<=9223372036854775807)) (cond (aq ((((l ++ ({ data:=#[114,117,108,101,32] }:BA)).size)+((b.ss j.toNat 0).size))<=9223372036854775807)) (cond (aq (((((l ++ ({ data:=#[114,117,108,101,32] }:BA)) ++ (b.ss j.toNat 0)).size)+1)<=9223372036854775807)) (cond (aq (0<=(Z.wrap ((b.ii j.toNat 1) - 1))/\(Z.wrap ((b.ii j.toNat 1) - 1))<4)) (cond (aq ((((((l ++ ({ data:=#[114,117,108,101,32] }:BA)) ++ (b.ss j.toNat 0)) ++ ({ data:=#[32] }:BA)).size)+((m54.ss ((Z.wrap ((b.ii j.toNat 1) - 1)).toNat) 0).size))<=9223372036854775807)) (cond (aq (((((((l ++ ({ data:=#[114,117,108,101,32] }:BA)) ++ (b.ss j.toNat 0)) ++ ({ data:=#[32] }:BA)) ++ (m54.ss ((Z.wrap ((b.ii j.toNat 1) - 1)).toNat) 0)).size)+1)<=9223372036854775807)) (cond (n35 (b.ii j.toNat 2)) (cond (aq ((((((((l ++ ({ data:=#[114,117,108,101,32] }:BA)) ++ (b.ss j.toNat 0)) ++ ({ data:=#[32] }:BA)) ++ (m54.ss ((Z.wrap ((b.ii j.toNat 1) - 1)).toNat) 0)) ++ ({ data:=#[32] }:BA)).size)+((m35 (b.ii j.toNat 2)).size))<=9223372036854775807)) (cond (aq (((((((((l ++ ({ data:=#[114,117,108,101,32] }:BA)) ++ (b.ss j.toNat 0)) ++ ({ data:=#[32] }:BA)) ++ (m54.ss ((Z.wrap ((b.ii j.toNat 1) - 1)).toNat) 0)) ++ ({ data:=#[32] }:BA)) ++ (m35 (b.ii j.toNat 2))).size)+1)<=9223372036854775807)) (cond (n35 (b.ii j.toNat 3)) (cond (aq ((((((((((l ++ ({ data:=#[114,117,108,101,32] }:BA)) ++ (b.ss j.toNat 0)) ++ ({ data:=#[32] }:BA)) ++ (m54.ss ((Z.wrap ((b.ii j.toNat 1) - 1)).toNat) 0)) ++ ({ data:=#[32] }:BA)) ++ (m35 (b.ii j.toNat 2))) ++ ({ data:=#[32] }:BA)).size)+((m35 (b.ii j.toNat 3)).size))<=9223372036854775807)) (cond (aq (((((((((((l ++ ({ data:=#[114,117,108,101,32] }:BA)) ++ (b.ss j.toNat 0)) ++ ({ data:=#[32] }:BA)) ++ (m54.ss ((Z.wrap ((b.ii j.toNat 1) - 1)).toNat) 0)) ++ ({ data:=#[32] }:BA)) ++ (m35 (b.ii j.toNat 2))) ++ ({ data:=#[32] }:BA)) ++ (m35 (b.ii j.toNat 3))).size)+1)<=9223372036854775807)) (l18_2 g d i b f (((((((((l ++ ({ data:=#[114,117,108,101,32] }:BA)) ++ (b.ss j.toNat 0)) ++ ({ data:=#[32] }:BA)) ++ (m54.ss ((Z.wrap ((b.ii j.toNat 1) - 1)).toNat) 0)) ++ ({ data:=#[32] }:BA)) ++ (m35 (b.ii j.toNat 2))) ++ ({ data:=#[32] }:BA)) ++ (m35 (b.ii j.toNat 3))) ++ ({ data:=#[10] }:BA)) (Z.wrap (j+1))) aw) aw) aw) aw) aw) aw) aw) aw) aw) aw) aw) aw) aw) (ak l))
abbrev o18_2(g:Nat)(d:Dat)(i:Nat)(b:Dat)(l:BA)(j:Int):Option (BA):=l18_2 g d i b (l.size+j.toNat+g+i+8) l j
def e18_2(g:Nat)(d:Dat)(i:Nat)(b:Dat)(r:BA)(K:XR):Prop:=K (XE.exit 2) [.str r] [.cells 25 [.ro [.str,W Z,W Z] g d,.ro [.str,W Z,W Z,W Z] i b]]
def g18_2:AX:=fun s k=>match czv 0 76 [1,3,6] 1 [] s with
 | ak ([.ptr 0 0,.str l,V Z j],[.cells 25 [.ro [.str,W Z,W Z] g d,.ro [.str,W Z,W Z,W Z] i b]])=>Ay [(o18_2 g d i b l j).isSome] (e18_2 g d i b ((o18_2 g d i b l j).getD ax) fun e vs bs=>AL 2 k e (Aq 0 76 [3] vs 1 bs))
 | _=>False
theorem z18_2:LOk Tryz.prog g18_2 (.block 2 (Ad (Tryz.f18.body.getD .skip) 2)):=by
 refine lb (ι:=BA × Int × Nat × Dat × Nat × Dat) (fuel:=8) (na:=0) (nt:=76) (nx:=1) (Lh:=[1,3,6]) (Le:=[3]) (gl:=[]) (tc k35 (tc k54 tn)) A6 (AD rfl (lc z18_0 ln)) rfl (fun f (l,j,g,d,i,b) K=>GG ax (e18_2 g d i b) K (l18_2 g d i b f l j)) (fun (l,j,g,d,i,b)=>[.ptr 0 0,.str l,V Z j]) (fun (l,j,g,d,i,b)=>[.cells 25 [.ro [.str,W Z,W Z] g d,.ro [.str,W Z,W Z,W Z] i b]]) (fun (_,_,_,_,_,_) K=>Au) ?_ ?_
 .rintro f ⟨l,j,g,d,i,b⟩ K hG
  refine ro (fun R => 
 let b0:=({ data:=#[32] }:BA)
 let c0:=(l ++ ({ data:=#[114,117,108,101,32] }:BA))
 let e0:=(Z.wrap ((b.ii j.toNat 1) - 1))
 let a0:=(((c0 ++ (b.ss j.toNat 0)) ++ b0) ++ (m54.ss (e0.toNat) 0))
 let d0:=((a0 ++ b0) ++ (m35 (b.ii j.toNat 2)))
 (cnd (aq (j<(i:Int)))
 (cnd (aq (0<=j/\j<(i:Int)))
 (cnd (aq ((l.size+5)<=9223372036854775807))
 (cnd (aq (((c0.size)+((b.ss j.toNat 0).size))<=9223372036854775807))
 (cnd (aq ((((c0 ++ (b.ss j.toNat 0)).size)+1)<=9223372036854775807))
 (cnd (aq (0<=e0/\e0<4))
 (cnd (aq (((((c0 ++ (b.ss j.toNat 0)) ++ b0).size)+((m54.ss (e0.toNat) 0).size))<=9223372036854775807))
 (cnd (aq (((a0.size)+1)<=9223372036854775807))
 (cnd (n35 (b.ii j.toNat 2))
 (cnd (aq ((((a0 ++ b0).size)+((m35 (b.ii j.toNat 2)).size))<=9223372036854775807))
 (cnd (aq (((d0.size)+1)<=9223372036854775807))
 (cnd (n35 (b.ii j.toNat 3))
 (cnd (aq ((((d0 ++ b0).size)+((m35 (b.ii j.toNat 3)).size))<=9223372036854775807))
 (cnd (aq (((((d0 ++ b0) ++ (m35 (b.ii j.toNat 3))).size)+1)<=9223372036854775807))
 (R (XE.normal) [.ptr 0 0,.str (((d0 ++ b0) ++ (m35 (b.ii j.toNat 3))) ++ ({ data:=#[10] }:BA)),V Z (Z.wrap (j+1))] [.cells 25 [.ro [.str,W Z,W Z] g d,.ro [.str,W Z,W Z,W Z] i b]])
        False)
       False)
       False)
      False)
      False)
     False)
     False)
    False)
    False)
   False)
   False)
  False)
  False)
 (R (XE.exit 2) [.str l] [.cells 25 [.ro [.str,W Z,W Z] g d,.ro [.str,W Z,W Z,W Z] i b]]))) (fun R=>by kernel_rfl) ?_
  exact ch hG (fun h0=>cg h0 fun h1=>cg h1 fun h2=>cg h2 fun h3=>cg h3 fun h4=>cg h4 fun h5=>cg h5 fun h6=>cg h6 fun h7=>cg h7 fun h8=>cg h8 fun h9=>cg h9 fun h10=>cg h10 fun h11=>cg h11 fun h12=>cg h12 fun h13=>⟨(_,_,_,_,_,_),rfl,rfl,h13⟩) (fun h0=>h0.2)
 .intro s k h
  unfold g18_2 at h
  split at h <;> try exact h.elim
  rename_i e1
  rw [Ac] at h
  exact ⟨_,e1,_,(_,_,_,_,_,_),rfl,rfl,h.1 _ (List.mem_singleton.2 rfl),h.2⟩
def m18(n:Nat)(o:Dat)(p:Nat)(t:Dat):BA :=
 ((o18_2 n o p t ((o18_0 n o p t ({ data:=#[] }:BA) 0).getD ax) 0).getD ax)
def n18(n:Nat)(o:Dat)(p:Nat)(t:Dat):Bool :=
 (((o18_0 n o p t ({ data:=#[] }:BA) 0).isSome)&&(((o18_2 n o p t ((o18_0 n o p t ({ data:=#[] }:BA) 0).getD ax) 0).isSome)&&aj))
def q18(r:BA):SV × List Blk × List Blk:=(.str r,[],[])
def g18:GF:=fun vs bs=>match vs,bs with
 | [.agg [.ro [.str,W Z,W Z] n o,.ro [.str,W Z,W Z,W Z] p t]],[]=>ak (rs 0 (q18 (m18 n o p t)) [n18 n o p t])
 | _,_=>aw
def c18:Ctr:=AA [.a [.ro [.str,W Z,W Z],.ro [.str,W Z,W Z,W Z]]] g18
theorem k18:Ag Tryz.prog c18 18:=cx (tc k35 (tc k54 tn)) A6 8 (fn:=Tryz.f18) (c:=(Tryz.f18.body.getD .skip)) (grs:=[]) (rh:=.k) Tryz.func18 rfl (by kernel_rfl) (AD rfl (lc z18_0 (lc z18_2 ln))) fun vs bs q h hn=>by
 unfold g18 at h
 split at h <;> cases h
 rename_i n o p t
 have hn:=n1 hn
 exact ⟨_,rfl,ca (fun R=>(cnd ((o18_0 n o p t ({ data:=#[] }:BA) 0).isSome)
 (cnd ((o18_2 n o p t ((o18_0 n o p t ({ data:=#[] }:BA) 0).getD ax) 0).isSome)
 (R (.str ((o18_2 n o p t ((o18_0 n o p t ({ data:=#[] }:BA) 0).getD ax) 0).getD ax)) [] [])
  False)
 False)) (fun R=>by kernel_rfl) (cn (al hn) (cn (al (ar hn)) (lf rfl rfl)))⟩
/-! ### shotline/kit.line -/
def m29i(b d e:BA)(a:Int):BA × BA × BA × BA × Int :=
 ((m67 4 ((((Aw [SV.str b] 1).app 1 (Aw [SV.str d] 1)).app 2 (Aw [SV.str e] 1)).app 3 (Aw [SV.str (m66 a)] 1)) ({ data:=#[32] }:BA)),b,d,e,a)
def n29i(b d e:BA)(a:Int):Bool :=
 ((n66 a)&&((n67 4 ((((Aw [SV.str b] 1).app 1 (Aw [SV.str d] 1)).app 2 (Aw [SV.str e] 1)).app 3 (Aw [SV.str (m66 a)] 1)) ({ data:=#[32] }:BA))&&aj))
def q29i(r:BA × BA × BA × BA × Int):SV × List Blk × List Blk:=(.str r.1,[.cells 20 [.ifc 9 [.str r.2.1],.ifc 9 [.str r.2.2.1],.ifc 9 [.str r.2.2.2.1],.ifc 3 [V Z r.2.2.2.2]]],[])
def g29i:GF:=fun vs bs=>match vs,bs with
 | [.slc 0 1 0 4],[.cells 20 [.ifc 9 [.str b],.ifc 9 [.str d],.ifc 9 [.str e],.ifc 3 [V Z a]]]=>ak (rs 1 (q29i (m29i b d e a)) [n29i b d e a])
 | _,_=>aw
def c29i:Ctr:=AA [.sp []] g29i
theorem k29i:Ag Tryz.prog c29i 29:=cx (tc k66 (tc k67 tn)) A6 40 (fn:=Tryz.f29) (c:=(Tryz.f29.body.getD .skip)) (grs:=[]) (rh:=.k) Tryz.func29 rfl (by kernel_rfl) As fun vs bs q h hn=>by
 unfold g29i at h
 split at h <;> cases h
 rename_i b d e a
 have hn:=n1 hn
 exact ⟨_,rfl,ca (fun R => 
 let a0:=((((Aw [SV.str b] 1).app 1 (Aw [SV.str d] 1)).app 2 (Aw [SV.str e] 1)).app 3 (Aw [SV.str (m66 a)] 1))
 (cnd (n66 a)
 (cnd (n67 4 a0 ({ data:=#[32] }:BA))
 (R (.str (m67 4 a0 ({ data:=#[32] }:BA))) [.cells 20 [.ifc 9 [.str b],.ifc 9 [.str d],.ifc 9 [.str e],.ifc 3 [V Z a]]] [])
  False)
 False)) (fun R=>by kernel_rfl) (cn (al hn) (cn (al (ar hn)) (lf rfl rfl)))⟩
/-! ### shotline/kit.line -/
def m29r(d e g:BA)(a b:Int):BA × BA × BA × BA × Int × Int :=
 ((m67 5 (((((Aw [SV.str d] 1).app 1 (Aw [SV.str e] 1)).app 2 (Aw [SV.str g] 1)).app 3 (Aw [SV.str (m66 a)] 1)).app 4 (Aw [SV.str (m66 b)] 1)) ({ data:=#[32] }:BA)),d,e,g,a,b)
def n29r(d e g:BA)(a b:Int):Bool :=
 ((n66 a)&&((n66 b)&&((n67 5 (((((Aw [SV.str d] 1).app 1 (Aw [SV.str e] 1)).app 2 (Aw [SV.str g] 1)).app 3 (Aw [SV.str (m66 a)] 1)).app 4 (Aw [SV.str (m66 b)] 1)) ({ data:=#[32] }:BA))&&aj)))
def q29r(r:BA × BA × BA × BA × Int × Int):SV × List Blk × List Blk:=(.str r.1,[.cells 20 [.ifc 9 [.str r.2.1],.ifc 9 [.str r.2.2.1],.ifc 9 [.str r.2.2.2.1],.ifc 3 [V Z r.2.2.2.2.1],.ifc 3 [V Z r.2.2.2.2.2]]],[])
def g29r:GF:=fun vs bs=>match vs,bs with
 | [.slc 0 1 0 5],[.cells 20 [.ifc 9 [.str d],.ifc 9 [.str e],.ifc 9 [.str g],.ifc 3 [V Z a],.ifc 3 [V Z b]]]=>ak (rs 1 (q29r (m29r d e g a b)) [n29r d e g a b])
 | _,_=>aw
def c29r:Ctr:=AA [.sp []] g29r
theorem k29r:Ag Tryz.prog c29r 29:=cx (tc k66 (tc k67 tn)) A6 40 (fn:=Tryz.f29) (c:=(Tryz.f29.body.getD .skip)) (grs:=[]) (rh:=.k) Tryz.func29 rfl (by kernel_rfl) As fun vs bs q h hn=>by
 unfold g29r at h
 split at h <;> cases h
 rename_i d e g a b
 have hn:=n1 hn
 exact ⟨_,rfl,ca (fun R => 
 let a0:=(((((Aw [SV.str d] 1).app 1 (Aw [SV.str e] 1)).app 2 (Aw [SV.str g] 1)).app 3 (Aw [SV.str (m66 a)] 1)).app 4 (Aw [SV.str (m66 b)] 1))
 (cnd (n66 a)
 (cnd (n66 b)
 (cnd (n67 5 a0 ({ data:=#[32] }:BA))
 (R (.str (m67 5 a0 ({ data:=#[32] }:BA))) [.cells 20 [.ifc 9 [.str d],.ifc 9 [.str e],.ifc 9 [.str g],.ifc 3 [V Z a],.ifc 3 [V Z b]]] [])
  False)
  False)
 False)) (fun R=>by kernel_rfl) (cn (al hn) (cn (al (ar hn)) (cn (al (ar (ar hn))) (lf rfl rfl))))⟩
/-! ### shotline/kit.scan -/
def m31i(b:Nat)(a:Dat)(a1_0_0:BA)(a1_0_1 a1_0_2:Int)(a1_1_0:BA):Bool × BA × Int × Int × BA :=
 (cond (cond (aq ((b:Int)=3)) az aj) (az,a1_0_0,a1_0_1,a1_0_2,a1_1_0) (cond (aq ((0:Int)<(b:Int))) (cond (aq (1<(b:Int))) (cond (aq (2<(b:Int))) (cond (bif (bif (cond (m69 (a.ss 2 0)).2 az aj) then aj else (cond (aq ((m66 (m69 (a.ss 2 0)).1)=(a.ss 2 0))) az aj)) then aj else (aq (7<(((m70 (a.ss 2 0) ({ data:=#[45] }:BA)).size):Int)))) (az,(a.ss 0 0),a1_0_1,a1_0_2,(a.ss 1 0)) (aj,(a.ss 0 0),a1_0_1,(m69 (a.ss 2 0)).1,(a.ss 1 0))) (aj,(a.ss 0 0),a1_0_1,a1_0_2,(a.ss 1 0))) (aj,(a.ss 0 0),a1_0_1,a1_0_2,a1_1_0)) (aj,a1_0_0,a1_0_1,a1_0_2,a1_1_0)))
def n31i(b:Nat)(a:Dat)(a1_0_0:BA)(a1_0_1 a1_0_2:Int)(a1_1_0:BA):Bool :=
 (cond (cond (aq ((b:Int)=3)) az aj) aj (cond (aq ((0:Int)<(b:Int))) ((aq ((0:Int)<=(0:Int)/\(0:Int)<(b:Int)))&&(cond (aq (1<(b:Int))) ((aq ((0:Int)<=(1:Int)/\(1:Int)<(b:Int)))&&(cond (aq (2<(b:Int))) ((aq ((0:Int)<=(2:Int)/\(2:Int)<(b:Int)))&&((n69 (a.ss 2 0))&&((bif (cond (cond (cond (m69 (a.ss 2 0)).2 az aj) az aj) az aj) then aj else (n66 (m69 (a.ss 2 0)).1))&&(cond (bif (bif (cond (m69 (a.ss 2 0)).2 az aj) then aj else (cond (aq ((m66 (m69 (a.ss 2 0)).1)=(a.ss 2 0))) az aj)) then aj else (aq (7<(((m70 (a.ss 2 0) ({ data:=#[45] }:BA)).size):Int)))) aj (!(aq (3<(b:Int)))&&aj))))) aj)) aj)) aj))
def q31i(r:Bool × BA × Int × Int × BA):SV × List Blk × List Blk:=(.bool r.1,[.cells 20 [.ifc 82 [.ptr 1 0],.ifc 82 [.ptr 2 0],.ifc 81 [.ptr 1 2]],.cells 75 [.str r.2.1,V Z r.2.2.1,V Z r.2.2.2.1],.cells 9 [.str r.2.2.2.2]],[])
def g31i:GF:=fun vs bs=>match vs,bs with
 | [.ro [.str] b a,.slc 0 1 0 3],[.cells 20 [.ifc 82 [.ptr 1 0],.ifc 82 [.ptr 2 0],.ifc 81 [.ptr 1 2]],.cells 75 [.str a1_0_0,V Z a1_0_1,V Z a1_0_2],.cells 9 [.str a1_1_0]]=>ak (rs 3 (q31i (m31i b a a1_0_0 a1_0_1 a1_0_2 a1_1_0)) [n31i b a a1_0_0 a1_0_1 a1_0_2 a1_1_0])
 | _,_=>aw
def c31i:Ctr:=AA [.ro [.str],.sp [[.k,.k,.k],[.k]]] g31i
theorem k31i:Ag Tryz.prog c31i 31:=cx (tc k66 (tc k69 (tc k70 tn))) A6 40 (fn:=Tryz.f31) (c:=(Tryz.f31.body.getD .skip)) (grs:=[]) (rh:=.k) Tryz.func31 rfl (by kernel_rfl) As fun vs bs q h hn=>by
 unfold g31i at h
 split at h <;> cases h
 rename_i b a a1_0_0 a1_0_1 a1_0_2 a1_1_0
 have hn:=n1 hn
 exact ⟨_,rfl,ca (fun R=>(cnd (cond (aq ((b:Int)=3)) az aj)
 (R (.bool az) [.cells 20 [.ifc 82 [.ptr 1 0],.ifc 82 [.ptr 2 0],.ifc 81 [.ptr 1 2]],.cells 75 [.str a1_0_0,V Z a1_0_1,V Z a1_0_2],.cells 9 [.str a1_1_0]] [])
 (cnd (aq ((0:Int)<(b:Int)))
 (cnd (aq ((0:Int)<=(0:Int)/\(0:Int)<(b:Int)))
 (cnd (aq (1<(b:Int)))
 (cnd (aq ((0:Int)<=(1:Int)/\(1:Int)<(b:Int)))
 (cnd (aq (2<(b:Int)))
 (cnd (aq ((0:Int)<=(2:Int)/\(2:Int)<(b:Int)))
 (cnd (n69 (a.ss 2 0))
 (cnd (bif (cond (cond (cond (m69 (a.ss 2 0)).2 az aj) az aj) az aj) then aj else (n66 (m69 (a.ss 2 0)).1))
 (cnd (bif (bif (cond (m69 (a.ss 2 0)).2 az aj) then aj else (cond (aq ((m66 (m69 (a.ss 2 0)).1)=(a.ss 2 0))) az aj)) then aj else (aq (7<(((m70 (a.ss 2 0) ({ data:=#[45] }:BA)).size):Int))))
 (R (.bool az) [.cells 20 [.ifc 82 [.ptr 1 0],.ifc 82 [.ptr 2 0],.ifc 81 [.ptr 1 2]],.cells 75 [.str (a.ss 0 0),V Z a1_0_1,V Z a1_0_2],.cells 9 [.str (a.ss 1 0)]] [])
 (cnd (aq (3<(b:Int)))
 (cnd (aq ((0:Int)<=(3:Int)/\(3:Int)<(b:Int)))
       False
       False)
 (R (.bool aj) [.cells 20 [.ifc 82 [.ptr 1 0],.ifc 82 [.ptr 2 0],.ifc 81 [.ptr 1 2]],.cells 75 [.str (a.ss 0 0),V Z a1_0_1,V Z (m69 (a.ss 2 0)).1],.cells 9 [.str (a.ss 1 0)]] [])))
     False)
     False)
    False)
 (R (.bool aj) [.cells 20 [.ifc 82 [.ptr 1 0],.ifc 82 [.ptr 2 0],.ifc 81 [.ptr 1 2]],.cells 75 [.str (a.ss 0 0),V Z a1_0_1,V Z a1_0_2],.cells 9 [.str (a.ss 1 0)]] []))
   False)
 (R (.bool aj) [.cells 20 [.ifc 82 [.ptr 1 0],.ifc 82 [.ptr 2 0],.ifc 81 [.ptr 1 2]],.cells 75 [.str (a.ss 0 0),V Z a1_0_1,V Z a1_0_2],.cells 9 [.str a1_1_0]] []))
  False)
 (R (.bool aj) [.cells 20 [.ifc 82 [.ptr 1 0],.ifc 82 [.ptr 2 0],.ifc 81 [.ptr 1 2]],.cells 75 [.str a1_0_0,V Z a1_0_1,V Z a1_0_2],.cells 9 [.str a1_1_0]] [])))) (fun R=>by kernel_rfl) (co (fun h0=>lf (cT h0 rfl) rfl) (fun h0=>co (fun h1=>cn (al (ct h1 (cf h0 hn))) (co (fun h2=>cn (al (ct h2 (ar (ct h1 (cf h0 hn))))) (co (fun h3=>cn (al (ct h3 (ar (ct h2 (ar (ct h1 (cf h0 hn))))))) (cn (al (ar (ct h3 (ar (ct h2 (ar (ct h1 (cf h0 hn)))))))) (cn (al (ar (ar (ct h3 (ar (ct h2 (ar (ct h1 (cf h0 hn))))))))) (co (fun h4=>lf (cF h0 (cT h1 (cT h2 (cT h3 (cT h4 rfl))))) rfl) (fun h4=>co (fun h5=>(Bool.false_ne_true ((SH (cf h4 (ar (ar (ar (ct h3 (ar (ct h2 (ar (ct h1 (cf h0 hn))))))))))).symm.trans h5)).elim) (fun _=>lf (cF h0 (cT h1 (cT h2 (cT h3 (cF h4 rfl))))) rfl)))))) (fun h3=>lf (cF h0 (cT h1 (cT h2 (cF h3 rfl)))) rfl))) (fun h2=>lf (cF h0 (cT h1 (cF h2 rfl))) rfl))) (fun h1=>lf (cF h0 (cF h1 rfl)) rfl)))⟩
/-! ### shotline/kit.scan -/
def m31r(b:Nat)(a:Dat)(a1_0_0:BA)(a1_0_1 a1_0_2 a1_0_3:Int)(a1_1_0:BA):Bool × BA × Int × Int × Int × BA :=
 (cond (cond (aq ((b:Int)=4)) az aj) (az,a1_0_0,a1_0_1,a1_0_2,a1_0_3,a1_1_0) (cond (aq ((0:Int)<(b:Int))) (cond (aq (1<(b:Int))) (cond (aq (2<(b:Int))) (cond (bif (bif (cond (m69 (a.ss 2 0)).2 az aj) then aj else (cond (aq ((m66 (m69 (a.ss 2 0)).1)=(a.ss 2 0))) az aj)) then aj else (aq (7<(((m70 (a.ss 2 0) ({ data:=#[45] }:BA)).size):Int)))) (az,(a.ss 0 0),a1_0_1,a1_0_2,a1_0_3,(a.ss 1 0)) (cond (aq (3<(b:Int))) (cond (bif (bif (cond (m69 (a.ss 3 0)).2 az aj) then aj else (cond (aq ((m66 (m69 (a.ss 3 0)).1)=(a.ss 3 0))) az aj)) then aj else (aq (7<(((m70 (a.ss 3 0) ({ data:=#[45] }:BA)).size):Int)))) (az,(a.ss 0 0),a1_0_1,(m69 (a.ss 2 0)).1,a1_0_3,(a.ss 1 0)) (aj,(a.ss 0 0),a1_0_1,(m69 (a.ss 2 0)).1,(m69 (a.ss 3 0)).1,(a.ss 1 0))) (aj,(a.ss 0 0),a1_0_1,(m69 (a.ss 2 0)).1,a1_0_3,(a.ss 1 0)))) (aj,(a.ss 0 0),a1_0_1,a1_0_2,a1_0_3,(a.ss 1 0))) (aj,(a.ss 0 0),a1_0_1,a1_0_2,a1_0_3,a1_1_0)) (aj,a1_0_0,a1_0_1,a1_0_2,a1_0_3,a1_1_0)))
def n31r(b:Nat)(a:Dat)(a1_0_0:BA)(a1_0_1 a1_0_2 a1_0_3:Int)(a1_1_0:BA):Bool :=
 (cond (cond (aq ((b:Int)=4)) az aj) aj (cond (aq ((0:Int)<(b:Int))) ((aq ((0:Int)<=(0:Int)/\(0:Int)<(b:Int)))&&(cond (aq (1<(b:Int))) ((aq ((0:Int)<=(1:Int)/\(1:Int)<(b:Int)))&&(cond (aq (2<(b:Int))) ((aq ((0:Int)<=(2:Int)/\(2:Int)<(b:Int)))&&((n69 (a.ss 2 0))&&((bif (cond (cond (cond (m69 (a.ss 2 0)).2 az aj) az aj) az aj) then aj else (n66 (m69 (a.ss 2 0)).1))&&(cond (bif (bif (cond (m69 (a.ss 2 0)).2 az aj) then aj else (cond (aq ((m66 (m69 (a.ss 2 0)).1)=(a.ss 2 0))) az aj)) then aj else (aq (7<(((m70 (a.ss 2 0) ({ data:=#[45] }:BA)).size):Int)))) aj (cond (aq (3<(b:Int))) ((aq ((0:Int)<=(3:Int)/\(3:Int)<(b:Int)))&&((n69 (a.ss 3 0))&&((bif (cond (cond (cond (m69 (a.ss 3 0)).2 az aj) az aj) az aj) then aj else (n66 (m69 (a.ss 3 0)).1))&&(cond (bif (bif (cond (m69 (a.ss 3 0)).2 az aj) then aj else (cond (aq ((m66 (m69 (a.ss 3 0)).1)=(a.ss 3 0))) az aj)) then aj else (aq (7<(((m70 (a.ss 3 0) ({ data:=#[45] }:BA)).size):Int)))) aj (!(aq (4<(b:Int)))&&aj))))) aj))))) aj)) aj)) aj))
def q31r(r:Bool × BA × Int × Int × Int × BA):SV × List Blk × List Blk:=(.bool r.1,[.cells 20 [.ifc 82 [.ptr 1 0],.ifc 82 [.ptr 2 0],.ifc 81 [.ptr 1 2],.ifc 81 [.ptr 1 3]],.cells 77 [.str r.2.1,V Z r.2.2.1,V Z r.2.2.2.1,V Z r.2.2.2.2.1],.cells 9 [.str r.2.2.2.2.2]],[])
def g31r:GF:=fun vs bs=>match vs,bs with
 | [.ro [.str] b a,.slc 0 1 0 4],[.cells 20 [.ifc 82 [.ptr 1 0],.ifc 82 [.ptr 2 0],.ifc 81 [.ptr 1 2],.ifc 81 [.ptr 1 3]],.cells 77 [.str a1_0_0,V Z a1_0_1,V Z a1_0_2,V Z a1_0_3],.cells 9 [.str a1_1_0]]=>ak (rs 3 (q31r (m31r b a a1_0_0 a1_0_1 a1_0_2 a1_0_3 a1_1_0)) [n31r b a a1_0_0 a1_0_1 a1_0_2 a1_0_3 a1_1_0])
 | _,_=>aw
def c31r:Ctr:=AA [.ro [.str],.sp [[.k,.k,.k,.k],[.k]]] g31r
theorem k31r:Ag Tryz.prog c31r 31:=cx (tc k66 (tc k69 (tc k70 tn))) A6 40 (fn:=Tryz.f31) (c:=(Tryz.f31.body.getD .skip)) (grs:=[]) (rh:=.k) Tryz.func31 rfl (by kernel_rfl) As fun vs bs q h hn=>by
 unfold g31r at h
 split at h <;> cases h
 rename_i b a a1_0_0 a1_0_1 a1_0_2 a1_0_3 a1_1_0
 have hn:=n1 hn
 exact ⟨_,rfl,ca (fun R=>(cnd (cond (aq ((b:Int)=4)) az aj)
 (R (.bool az) [.cells 20 [.ifc 82 [.ptr 1 0],.ifc 82 [.ptr 2 0],.ifc 81 [.ptr 1 2],.ifc 81 [.ptr 1 3]],.cells 77 [.str a1_0_0,V Z a1_0_1,V Z a1_0_2,V Z a1_0_3],.cells 9 [.str a1_1_0]] [])
 (cnd (aq ((0:Int)<(b:Int)))
 (cnd (aq ((0:Int)<=(0:Int)/\(0:Int)<(b:Int)))
 (cnd (aq (1<(b:Int)))
 (cnd (aq ((0:Int)<=(1:Int)/\(1:Int)<(b:Int)))
 (cnd (aq (2<(b:Int)))
 (cnd (aq ((0:Int)<=(2:Int)/\(2:Int)<(b:Int)))
 (cnd (n69 (a.ss 2 0))
 (cnd (bif (cond (cond (cond (m69 (a.ss 2 0)).2 az aj) az aj) az aj) then aj else (n66 (m69 (a.ss 2 0)).1))
 (cnd (bif (bif (cond (m69 (a.ss 2 0)).2 az aj) then aj else (cond (aq ((m66 (m69 (a.ss 2 0)).1)=(a.ss 2 0))) az aj)) then aj else (aq (7<(((m70 (a.ss 2 0) ({ data:=#[45] }:BA)).size):Int))))
 (R (.bool az) [.cells 20 [.ifc 82 [.ptr 1 0],.ifc 82 [.ptr 2 0],.ifc 81 [.ptr 1 2],.ifc 81 [.ptr 1 3]],.cells 77 [.str (a.ss 0 0),V Z a1_0_1,V Z a1_0_2,V Z a1_0_3],.cells 9 [.str (a.ss 1 0)]] [])
 (cnd (aq (3<(b:Int)))
 (cnd (aq ((0:Int)<=(3:Int)/\(3:Int)<(b:Int)))
 (cnd (n69 (a.ss 3 0))
 (cnd (bif (cond (cond (cond (m69 (a.ss 3 0)).2 az aj) az aj) az aj) then aj else (n66 (m69 (a.ss 3 0)).1))
 (cnd (bif (bif (cond (m69 (a.ss 3 0)).2 az aj) then aj else (cond (aq ((m66 (m69 (a.ss 3 0)).1)=(a.ss 3 0))) az aj)) then aj else (aq (7<(((m70 (a.ss 3 0) ({ data:=#[45] }:BA)).size):Int))))
 (R (.bool az) [.cells 20 [.ifc 82 [.ptr 1 0],.ifc 82 [.ptr 2 0],.ifc 81 [.ptr 1 2],.ifc 81 [.ptr 1 3]],.cells 77 [.str (a.ss 0 0),V Z a1_0_1,V Z (m69 (a.ss 2 0)).1,V Z a1_0_3],.cells 9 [.str (a.ss 1 0)]] [])
 (cnd (aq (4<(b:Int)))
 (cnd (aq ((0:Int)<=(4:Int)/\(4:Int)<(b:Int)))
         False
         False)
 (R (.bool aj) [.cells 20 [.ifc 82 [.ptr 1 0],.ifc 82 [.ptr 2 0],.ifc 81 [.ptr 1 2],.ifc 81 [.ptr 1 3]],.cells 77 [.str (a.ss 0 0),V Z a1_0_1,V Z (m69 (a.ss 2 0)).1,V Z (m69 (a.ss 3 0)).1],.cells 9 [.str (a.ss 1 0)]] [])))
        False)
       False)
       False)
 (R (.bool aj) [.cells 20 [.ifc 82 [.ptr 1 0],.ifc 82 [.ptr 2 0],.ifc 81 [.ptr 1 2],.ifc 81 [.ptr 1 3]],.cells 77 [.str (a.ss 0 0),V Z a1_0_1,V Z (m69 (a.ss 2 0)).1,V Z a1_0_3],.cells 9 [.str (a.ss 1 0)]] [])))
     False)
     False)
    False)
 (R (.bool aj) [.cells 20 [.ifc 82 [.ptr 1 0],.ifc 82 [.ptr 2 0],.ifc 81 [.ptr 1 2],.ifc 81 [.ptr 1 3]],.cells 77 [.str (a.ss 0 0),V Z a1_0_1,V Z a1_0_2,V Z a1_0_3],.cells 9 [.str (a.ss 1 0)]] []))
   False)
 (R (.bool aj) [.cells 20 [.ifc 82 [.ptr 1 0],.ifc 82 [.ptr 2 0],.ifc 81 [.ptr 1 2],.ifc 81 [.ptr 1 3]],.cells 77 [.str (a.ss 0 0),V Z a1_0_1,V Z a1_0_2,V Z a1_0_3],.cells 9 [.str a1_1_0]] []))
  False)
 (R (.bool aj) [.cells 20 [.ifc 82 [.ptr 1 0],.ifc 82 [.ptr 2 0],.ifc 81 [.ptr 1 2],.ifc 81 [.ptr 1 3]],.cells 77 [.str a1_0_0,V Z a1_0_1,V Z a1_0_2,V Z a1_0_3],.cells 9 [.str a1_1_0]] [])))) (fun R=>by kernel_rfl) (co (fun h0=>lf (cT h0 rfl) rfl) (fun h0=>co (fun h1=>cn (al (ct h1 (cf h0 hn))) (co (fun h2=>cn (al (ct h2 (ar (ct h1 (cf h0 hn))))) (co (fun h3=>cn (al (ct h3 (ar (ct h2 (ar (ct h1 (cf h0 hn))))))) (cn (al (ar (ct h3 (ar (ct h2 (ar (ct h1 (cf h0 hn)))))))) (cn (al (ar (ar (ct h3 (ar (ct h2 (ar (ct h1 (cf h0 hn))))))))) (co (fun h4=>lf (cF h0 (cT h1 (cT h2 (cT h3 (cT h4 rfl))))) rfl) (fun h4=>co (fun h5=>cn (al (ct h5 (cf h4 (ar (ar (ar (ct h3 (ar (ct h2 (ar (ct h1 (cf h0 hn)))))))))))) (cn (al (ar (ct h5 (cf h4 (ar (ar (ar (ct h3 (ar (ct h2 (ar (ct h1 (cf h0 hn))))))))))))) (cn (al (ar (ar (ct h5 (cf h4 (ar (ar (ar (ct h3 (ar (ct h2 (ar (ct h1 (cf h0 hn)))))))))))))) (co (fun h6=>lf (cF h0 (cT h1 (cT h2 (cT h3 (cF h4 (cT h5 (cT h6 rfl))))))) rfl) (fun h6=>co (fun h7=>(Bool.false_ne_true ((SH (cf h6 (ar (ar (ar (ct h5 (cf h4 (ar (ar (ar (ct h3 (ar (ct h2 (ar (ct h1 (cf h0 hn)))))))))))))))).symm.trans h7)).elim) (fun _=>lf (cF h0 (cT h1 (cT h2 (cT h3 (cF h4 (cT h5 (cF h6 rfl))))))) rfl)))))) (fun h5=>lf (cF h0 (cT h1 (cT h2 (cT h3 (cF h4 (cF h5 rfl)))))) rfl)))))) (fun h3=>lf (cF h0 (cT h1 (cT h2 (cF h3 rfl)))) rfl))) (fun h2=>lf (cF h0 (cT h1 (cF h2 rfl))) rfl))) (fun h1=>lf (cF h0 (cF h1 rfl)) rfl)))⟩
/-! ### shotline/shotlineref07.line -/
def m55(d ma0_0:Nat)(e:Dat)(b ma0_1:Nat)(g:Dat)(a:BA):Bool × Nat × Nat × Nat × Dat × Nat × Dat :=
 (cond (bif (aq ((((m33 a 32).1):Int)<4)) then aj else (aq ((m82 ((m33 a 32).2.ss 2 0))=0))) (az,d,b,ma0_0,e,ma0_1,g) (cond (cond (m34 ((m33 a 32).2.ss 3 0) 7).2 az aj) (az,d,b,ma0_0,e,ma0_1,g) (cond (bif (bif (aq (((m33 a 32).2.ss 0 0)=({ data:=#[105,116,101,109] }:BA))) then (aq ((((m33 a 32).1):Int)=4)) else az) then (aq ((b:Int)=0)) else az) (aj,(d+1),b,(d+1),(e.app d (Aw [SV.str ((m33 a 32).2.ss 1 0),V Z (m82 ((m33 a 32).2.ss 2 0)),V Z (m34 ((m33 a 32).2.ss 3 0) 7).1] 3)),ma0_1,g) (cond (bif (cond (aq (((m33 a 32).2.ss 0 0)=({ data:=#[114,117,108,101] }:BA))) az aj) then aj else (cond (aq ((((m33 a 32).1):Int)=5)) az aj)) (az,d,b,ma0_0,e,ma0_1,g) ((m34 ((m33 a 32).2.ss 4 0) 7).2,d,(b+1),ma0_0,e,(b+1),(g.app b (Aw [SV.str ((m33 a 32).2.ss 1 0),V Z (m82 ((m33 a 32).2.ss 2 0)),V Z (m34 ((m33 a 32).2.ss 3 0) 7).1,V Z (m34 ((m33 a 32).2.ss 4 0) 7).1] 4)))))))
def n55(d ma0_0:Nat)(e:Dat)(b ma0_1:Nat)(g:Dat)(a:BA):Bool :=
 ((n33 a 32)&&((bif (cond (cond (aq ((((m33 a 32).1):Int)<4)) az aj) az aj) then aj else (aq ((0:Int)<=(2:Int)/\(2:Int)<(((m33 a 32).1):Int))))&&((bif (cond (cond (aq ((((m33 a 32).1):Int)<4)) az aj) az aj) then aj else (n82 ((m33 a 32).2.ss 2 0)))&&(cond (bif (aq ((((m33 a 32).1):Int)<4)) then aj else (aq ((m82 ((m33 a 32).2.ss 2 0))=0))) aj ((aq ((0:Int)<=(3:Int)/\(3:Int)<(((m33 a 32).1):Int)))&&((n34 ((m33 a 32).2.ss 3 0) 7)&&(cond (cond (m34 ((m33 a 32).2.ss 3 0) 7).2 az aj) aj ((aq ((0:Int)<=(0:Int)/\(0:Int)<(((m33 a 32).1):Int)))&&(cond (bif (bif (aq (((m33 a 32).2.ss 0 0)=({ data:=#[105,116,101,109] }:BA))) then (aq ((((m33 a 32).1):Int)=4)) else az) then (aq ((b:Int)=0)) else az) ((aq ((0:Int)<=(1:Int)/\(1:Int)<(((m33 a 32).1):Int)))&&((aq ((0:Int)<=(2:Int)/\(2:Int)<(((m33 a 32).1):Int)))&&((n82 ((m33 a 32).2.ss 2 0))&&((aq (d<=ma0_0))&&((aq ((d+1)<=1073741824))&&aj))))) ((aq ((0:Int)<=(0:Int)/\(0:Int)<(((m33 a 32).1):Int)))&&(cond (bif (cond (aq (((m33 a 32).2.ss 0 0)=({ data:=#[114,117,108,101] }:BA))) az aj) then aj else (cond (aq ((((m33 a 32).1):Int)=5)) az aj)) aj ((aq ((0:Int)<=(4:Int)/\(4:Int)<(((m33 a 32).1):Int)))&&((n34 ((m33 a 32).2.ss 4 0) 7)&&((aq ((0:Int)<=(1:Int)/\(1:Int)<(((m33 a 32).1):Int)))&&((aq ((0:Int)<=(2:Int)/\(2:Int)<(((m33 a 32).1):Int)))&&((n82 ((m33 a 32).2.ss 2 0))&&((aq (b<=ma0_1))&&((aq ((b+1)<=1073741824))&&aj))))))))))))))))))
def q55(r:Bool × Nat × Nat × Nat × Dat × Nat × Dat):SV × List Blk × List Blk:=(.bool r.1,[.cells 25 [.gr 3 3 r.2.1,.gr 4 4 r.2.2.1],.unk,.unk],[.row 75 [.str,W Z,W Z] r.2.2.2.1 r.2.2.2.2.1,.row 77 [.str,W Z,W Z,W Z] r.2.2.2.2.2.1 r.2.2.2.2.2.2])
def g55:GF:=fun vs bs=>match vs,bs with
 | [.ptr 0 0,.str a],[.cells 25 [.gr 1 3 d,.gr 2 4 b],.row 75 [.str,W Z,W Z] ma0_0 e,.row 77 [.str,W Z,W Z,W Z] ma0_1 g]=>ak (rs 3 (q55 (m55 d ma0_0 e b ma0_1 g a)) [n55 d ma0_0 e b ma0_1 g a])
 | _,_=>aw
def c55:Ctr:=AA [.c [.gr 75 [.str,W Z,W Z],.gr 77 [.str,W Z,W Z,W Z]],.k] g55
theorem k55:Ag Tryz.prog c55 55:=cx (tc k33 (tc k34 (tc k82 tn))) A6 8 (fn:=Tryz.f55) (c:=(Tryz.f55.body.getD .skip)) (grs:=[1,2]) (rh:=.k) Tryz.func55 rfl (by kernel_rfl) As fun vs bs q h hn=>by
 unfold g55 at h
 split at h <;> cases h
 rename_i a d b ma0_0 e ma0_1 g
 have hn:=n1 hn
 exact ⟨_,rfl,ca (fun R => 
 let a0:=(((m33 a 32).1):Int)
 let b0:=(aq ((0:Int)<=(2:Int)/\(2:Int)<a0))
 let c0:=((m33 a 32).2.ss 2 0)
 let d0:=(cond (cond (aq (a0<4)) az aj) az aj)
 let e0:=((m33 a 32).2.ss 3 0)
 let f0:=(aq ((0:Int)<=(0:Int)/\(0:Int)<a0))
 let g0:=(aq ((0:Int)<=(1:Int)/\(1:Int)<a0))
 (cnd (n33 a 32)
 (cnd (bif d0 then aj else b0)
 (cnd (bif d0 then aj else (n82 c0))
 (cnd (bif (aq (a0<4)) then aj else (aq ((m82 c0)=0)))
 (R (.bool az) [.cells 25 [.gr 3 3 d,.gr 4 4 b],.unk,.unk] [.row 75 [.str,W Z,W Z] ma0_0 e,.row 77 [.str,W Z,W Z,W Z] ma0_1 g])
 (cnd (aq ((0:Int)<=(3:Int)/\(3:Int)<a0))
 (cnd (n34 e0 7)
 (cnd (cond (m34 e0 7).2 az aj)
 (R (.bool az) [.cells 25 [.gr 3 3 d,.gr 4 4 b],.unk,.unk] [.row 75 [.str,W Z,W Z] ma0_0 e,.row 77 [.str,W Z,W Z,W Z] ma0_1 g])
 (cnd f0
 (cnd (bif (bif (aq (((m33 a 32).2.ss 0 0)=({ data:=#[105,116,101,109] }:BA))) then (aq (a0=4)) else az) then (aq ((b:Int)=0)) else az)
 (cnd g0
 (cnd b0
 (cnd (n82 c0)
 (cnd (aq (d<=ma0_0))
 (cnd (aq ((d+1)<=1073741824))
 (R (.bool aj) [.cells 25 [.gr 3 3 (d+1),.gr 4 4 b],.unk,.unk] [.row 75 [.str,W Z,W Z] (d+1) (e.app d (Aw [SV.str ((m33 a 32).2.ss 1 0),V Z (m82 c0),V Z (m34 e0 7).1] 3)),.row 77 [.str,W Z,W Z,W Z] ma0_1 g])
        False)
       False)
       False)
      False)
      False)
 (cnd f0
 (cnd (bif (cond (aq (((m33 a 32).2.ss 0 0)=({ data:=#[114,117,108,101] }:BA))) az aj) then aj else (cond (aq (a0=5)) az aj))
 (R (.bool az) [.cells 25 [.gr 3 3 d,.gr 4 4 b],.unk,.unk] [.row 75 [.str,W Z,W Z] ma0_0 e,.row 77 [.str,W Z,W Z,W Z] ma0_1 g])
 (cnd (aq ((0:Int)<=(4:Int)/\(4:Int)<a0))
 (cnd (n34 ((m33 a 32).2.ss 4 0) 7)
 (cnd g0
 (cnd b0
 (cnd (n82 c0)
 (cnd (aq (b<=ma0_1))
 (cnd (aq ((b+1)<=1073741824))
 (R (.bool (m34 ((m33 a 32).2.ss 4 0) 7).2) [.cells 25 [.gr 3 3 d,.gr 4 4 (b+1)],.unk,.unk] [.row 75 [.str,W Z,W Z] ma0_0 e,.row 77 [.str,W Z,W Z,W Z] (b+1) (g.app b (Aw [SV.str ((m33 a 32).2.ss 1 0),V Z (m82 c0),V Z (m34 e0 7).1,V Z (m34 ((m33 a 32).2.ss 4 0) 7).1] 4))])
          False)
         False)
         False)
        False)
        False)
       False)
       False))
      False))
     False))
    False)
   False))
  False)
  False)
 False)) (fun R=>by kernel_rfl) (cn (al hn) (cn (al (ar hn)) (cn (al (ar (ar hn))) (co (fun h0=>lf (cT h0 rfl) rfl) (fun h0=>cn (al (cf h0 (ar (ar (ar hn))))) (cn (al (ar (cf h0 (ar (ar (ar hn)))))) (co (fun h1=>lf (cF h0 (cT h1 rfl)) rfl) (fun h1=>cn (al (cf h1 (ar (ar (cf h0 (ar (ar (ar hn)))))))) (co (fun h2=>cn (al (ct h2 (ar (cf h1 (ar (ar (cf h0 (ar (ar (ar hn)))))))))) (cn (al (ar (ct h2 (ar (cf h1 (ar (ar (cf h0 (ar (ar (ar hn))))))))))) (cn (al (ar (ar (ct h2 (ar (cf h1 (ar (ar (cf h0 (ar (ar (ar hn)))))))))))) (cn (al (ar (ar (ar (ct h2 (ar (cf h1 (ar (ar (cf h0 (ar (ar (ar hn))))))))))))) (cn (al (ar (ar (ar (ar (ct h2 (ar (cf h1 (ar (ar (cf h0 (ar (ar (ar hn)))))))))))))) (lf (cF h0 (cF h1 (cT h2 rfl))) rfl)))))) (fun h2=>cn (al (cf h2 (ar (cf h1 (ar (ar (cf h0 (ar (ar (ar hn)))))))))) (co (fun h3=>lf (cF h0 (cF h1 (cF h2 (cT h3 rfl)))) rfl) (fun h3=>cn (al (cf h3 (ar (cf h2 (ar (cf h1 (ar (ar (cf h0 (ar (ar (ar hn)))))))))))) (cn (al (ar (cf h3 (ar (cf h2 (ar (cf h1 (ar (ar (cf h0 (ar (ar (ar hn))))))))))))) (cn (al (ar (ar (cf h3 (ar (cf h2 (ar (cf h1 (ar (ar (cf h0 (ar (ar (ar hn)))))))))))))) (cn (al (ar (ar (ar (cf h3 (ar (cf h2 (ar (cf h1 (ar (ar (cf h0 (ar (ar (ar hn))))))))))))))) (cn (al (ar (ar (ar (ar (cf h3 (ar (cf h2 (ar (cf h1 (ar (ar (cf h0 (ar (ar (ar hn)))))))))))))))) (cn (al (ar (ar (ar (ar (ar (cf h3 (ar (cf h2 (ar (cf h1 (ar (ar (cf h0 (ar (ar (ar hn))))))))))))))))) (cn (al (ar (ar (ar (ar (ar (ar (cf h3 (ar (cf h2 (ar (cf h1 (ar (ar (cf h0 (ar (ar (ar hn)))))))))))))))))) (lf (cF h0 (cF h1 (cF h2 (cF h3 rfl)))) rfl)))))))))))))))))))⟩
/-! ### shotline/shotlineref07.Parse -/
def l20_0(n:Nat)(b:Dat):Nat->Int->Nat->Nat->Nat->Dat->Nat->Dat->Option (Bool × (Int × Int × Nat × Nat × Nat × Dat × Nat × Dat) × (Nat × Nat × Nat × Dat × Nat × Dat))
 | 0,_,_,_,_,_,_,_=>aw
 | f+1,o,d,g,i,l,j,m=>(cond (aq (o<(Z.wrap ((n:Int) - 1)))) (cond (aq (0<=o/\o<(n:Int))) (cond (n55 d i l g j m (b.ss o.toNat 0)) (cond (cond (m55 d i l g j m (b.ss o.toNat 0)).1 az aj) (ak (aj,((Z.wrap (o+1)),7,(m55 d i l g j m (b.ss o.toNat 0)).2.1,(m55 d i l g j m (b.ss o.toNat 0)).2.2.1,(m55 d i l g j m (b.ss o.toNat 0)).2.2.2.1,(m55 d i l g j m (b.ss o.toNat 0)).2.2.2.2.1,(m55 d i l g j m (b.ss o.toNat 0)).2.2.2.2.2.1,(m55 d i l g j m (b.ss o.toNat 0)).2.2.2.2.2.2),ax)) (l20_0 n b f (Z.wrap (o+1)) (m55 d i l g j m (b.ss o.toNat 0)).2.1 (m55 d i l g j m (b.ss o.toNat 0)).2.2.1 (m55 d i l g j m (b.ss o.toNat 0)).2.2.2.1 (m55 d i l g j m (b.ss o.toNat 0)).2.2.2.2.1 (m55 d i l g j m (b.ss o.toNat 0)).2.2.2.2.2.1 (m55 d i l g j m (b.ss o.toNat 0)).2.2.2.2.2.2)) aw) aw) (ak (az,ax,(d,g,i,l,j,m))))
abbrev o20_0(n:Nat)(b:Dat)(o:Int)(d g i:Nat)(l:Dat)(j:Nat)(m:Dat):Option (Bool × (Int × Int × Nat × Nat × Nat × Dat × Nat × Dat) × (Nat × Nat × Nat × Dat × Nat × Dat)):=l20_0 n b (n+o.toNat+d+g+i+j+8) o d g i l j m
def e20_0(n:Nat)(b:Dat)(r:Bool × (Int × Int × Nat × Nat × Nat × Dat × Nat × Dat) × (Nat × Nat × Nat × Dat × Nat × Dat))(K:XR):Prop:=cnd r.1 (K (XE.ret) [.ptr 0 0,V Z r.2.1.1,V Z r.2.1.2.1,.ro [.str] n b,.ptr 1 0] [.cells 25 [.nsl,.nsl],.cells 25 [.gr 2 3 r.2.1.2.2.1,.gr 3 4 r.2.1.2.2.2.1],.row 75 [.str,W Z,W Z] r.2.1.2.2.2.2.1 r.2.1.2.2.2.2.2.1,.row 77 [.str,W Z,W Z,W Z] r.2.1.2.2.2.2.2.2.1 r.2.1.2.2.2.2.2.2.2]) (K (XE.exit 0) [.ptr 0 0,.any,.any,.ro [.str] n b,.ptr 1 0] [.cells 25 [.nsl,.nsl],.cells 25 [.gr 2 3 r.2.2.1,.gr 3 4 r.2.2.2.1],.row 75 [.str,W Z,W Z] r.2.2.2.2.1 r.2.2.2.2.2.1,.row 77 [.str,W Z,W Z,W Z] r.2.2.2.2.2.2.1 r.2.2.2.2.2.2.2])
def g20_0:AX:=fun s k=>match czv 0 48 [2,5,6,7] 4 [⟨az,1,0,2,75,[.str,W Z,W Z]⟩,⟨az,1,1,3,77,[.str,W Z,W Z,W Z]⟩] s with
 | ak ([.ptr 0 0,.ro [.str] n b,.ptr 1 0,V Z o],[.cells 25 [.nsl,.nsl],.cells 25 [.gr 2 3 d,.gr 3 4 g],.row 75 [.str,W Z,W Z] i l,.row 77 [.str,W Z,W Z,W Z] j m])=>Ay [(o20_0 n b o d g i l j m).isSome] (e20_0 n b ((o20_0 n b o d g i l j m).getD ax) fun e vs bs=>AL 0 k e (Aq 0 48 [2,3,4,5,6] vs 4 bs))
 | _=>False
theorem z20_0:LOk Tryz.prog g20_0 (.block 0 (Ad (Tryz.f20.body.getD .skip) 0)):=by
 refine lb (ι:=Nat × Dat × Int × Nat × Nat × Nat × Dat × Nat × Dat) (fuel:=8) (na:=0) (nt:=48) (nx:=4) (Lh:=[2,5,6,7]) (Le:=[2,3,4,5,6]) (gl:=[⟨az,1,0,2,75,[.str,W Z,W Z]⟩,⟨az,1,1,3,77,[.str,W Z,W Z,W Z]⟩]) (tc k12 (tc k33 (tc k55 tn))) A6 As rfl (fun f (n,b,o,d,g,i,l,j,m) K=>GG ax (e20_0 n b) K (l20_0 n b f o d g i l j m)) (fun (n,b,o,d,g,i,l,j,m)=>[.ptr 0 0,.ro [.str] n b,.ptr 1 0,V Z o]) (fun (n,b,o,d,g,i,l,j,m)=>[.cells 25 [.nsl,.nsl],.cells 25 [.gr 2 3 d,.gr 3 4 g],.row 75 [.str,W Z,W Z] i l,.row 77 [.str,W Z,W Z,W Z] j m]) (fun (_,_,_,_,_,_,_,_,_) K=>Au) ?_ ?_
 .rintro f ⟨n,b,o,d,g,i,l,j,m⟩ K hG
  refine ro (fun R => 
 let a0:=(m55 d i l g j m (b.ss o.toNat 0))
 (cnd (aq (o<(Z.wrap ((n:Int) - 1))))
 (cnd (aq (0<=o/\o<(n:Int)))
 (cnd (n55 d i l g j m (b.ss o.toNat 0))
 (cnd (cond a0.1 az aj)
 (R (XE.ret) [.ptr 0 0,V Z (Z.wrap (o+1)),V Z 7,.ro [.str] n b,.ptr 1 0] [.cells 25 [.nsl,.nsl],.cells 25 [.gr 2 3 a0.2.1,.gr 3 4 a0.2.2.1],.row 75 [.str,W Z,W Z] a0.2.2.2.1 a0.2.2.2.2.1,.row 77 [.str,W Z,W Z,W Z] a0.2.2.2.2.2.1 a0.2.2.2.2.2.2])
 (R (XE.normal) [.ptr 0 0,.ro [.str] n b,.ptr 1 0,V Z (Z.wrap (o+1))] [.cells 25 [.nsl,.nsl],.cells 25 [.gr 2 3 a0.2.1,.gr 3 4 a0.2.2.1],.row 75 [.str,W Z,W Z] a0.2.2.2.1 a0.2.2.2.2.1,.row 77 [.str,W Z,W Z,W Z] a0.2.2.2.2.2.1 a0.2.2.2.2.2.2]))
  False)
  False)
 (R (XE.exit 0) [.ptr 0 0,.any,.any,.ro [.str] n b,.ptr 1 0] [.cells 25 [.nsl,.nsl],.cells 25 [.gr 2 3 d,.gr 3 4 g],.row 75 [.str,W Z,W Z] i l,.row 77 [.str,W Z,W Z,W Z] j m]))) (fun R=>by kernel_rfl) ?_
  exact ch hG (fun h0=>cg h0 fun h1=>cg h1 fun h2=>ch h2 (fun h3=>h3.2) (fun h3=>⟨(_,_,_,_,_,_,_,_,_),rfl,rfl,h3⟩)) (fun h0=>h0.2)
 .intro s k h
  unfold g20_0 at h
  split at h <;> try exact h.elim
  rename_i e1
  rw [Ac] at h
  exact ⟨_,e1,_,(_,_,_,_,_,_,_,_,_),rfl,rfl,h.1 _ (List.mem_singleton.2 rfl),h.2⟩
def m20(a:BA):Nat × Dat × Nat × Dat × Int × Int :=
 (cond (aq ((60000:Int)<(a.size:Int))) (0,A3,0,A3,0,8) (cond ((o20_0 (m33 a 10).1 (m33 a 10).2 0 0 0 0 A3 0 A3).getD ax).1 (0,A3,0,A3,((o20_0 (m33 a 10).1 (m33 a 10).2 0 0 0 0 A3 0 A3).getD ax).2.1.1,((o20_0 (m33 a 10).1 (m33 a 10).2 0 0 0 0 A3 0 A3).getD ax).2.1.2.1) (cond (cond (aq (((m33 a 10).2.ss ((Z.wrap ((((m33 a 10).1):Int) - 1)).toNat) 0)=({ data:=#[] }:BA))) az aj) (0,A3,0,A3,(((m33 a 10).1):Int),7) (cond (cond (aq ((m12 ((o20_0 (m33 a 10).1 (m33 a 10).2 0 0 0 0 A3 0 A3).getD ax).2.2.1 ((o20_0 (m33 a 10).1 (m33 a 10).2 0 0 0 0 A3 0 A3).getD ax).2.2.2.2.2.1 ((o20_0 (m33 a 10).1 (m33 a 10).2 0 0 0 0 A3 0 A3).getD ax).2.2.2.1 ((o20_0 (m33 a 10).1 (m33 a 10).2 0 0 0 0 A3 0 A3).getD ax).2.2.2.2.2.2.2)=0)) az aj) (0,A3,0,A3,0,(m12 ((o20_0 (m33 a 10).1 (m33 a 10).2 0 0 0 0 A3 0 A3).getD ax).2.2.1 ((o20_0 (m33 a 10).1 (m33 a 10).2 0 0 0 0 A3 0 A3).getD ax).2.2.2.2.2.1 ((o20_0 (m33 a 10).1 (m33 a 10).2 0 0 0 0 A3 0 A3).getD ax).2.2.2.1 ((o20_0 (m33 a 10).1 (m33 a 10).2 0 0 0 0 A3 0 A3).getD ax).2.2.2.2.2.2.2)) (((o20_0 (m33 a 10).1 (m33 a 10).2 0 0 0 0 A3 0 A3).getD ax).2.2.1,((o20_0 (m33 a 10).1 (m33 a 10).2 0 0 0 0 A3 0 A3).getD ax).2.2.2.2.2.1,((o20_0 (m33 a 10).1 (m33 a 10).2 0 0 0 0 A3 0 A3).getD ax).2.2.2.1,((o20_0 (m33 a 10).1 (m33 a 10).2 0 0 0 0 A3 0 A3).getD ax).2.2.2.2.2.2.2,0,0)))))
def n20(a:BA):Bool :=
 (cond (aq ((60000:Int)<(a.size:Int))) aj ((n33 a 10)&&(((o20_0 (m33 a 10).1 (m33 a 10).2 0 0 0 0 A3 0 A3).isSome)&&(cond ((o20_0 (m33 a 10).1 (m33 a 10).2 0 0 0 0 A3 0 A3).getD ax).1 aj ((aq (0<=(Z.wrap ((((m33 a 10).1):Int) - 1))/\(Z.wrap ((((m33 a 10).1):Int) - 1))<(((m33 a 10).1):Int)))&&(cond (cond (aq (((m33 a 10).2.ss ((Z.wrap ((((m33 a 10).1):Int) - 1)).toNat) 0)=({ data:=#[] }:BA))) az aj) aj ((aq ((0+((o20_0 (m33 a 10).1 (m33 a 10).2 0 0 0 0 A3 0 A3).getD ax).2.2.1)<=((o20_0 (m33 a 10).1 (m33 a 10).2 0 0 0 0 A3 0 A3).getD ax).2.2.2.2.1))&&((aq ((0+((o20_0 (m33 a 10).1 (m33 a 10).2 0 0 0 0 A3 0 A3).getD ax).2.2.2.1)<=((o20_0 (m33 a 10).1 (m33 a 10).2 0 0 0 0 A3 0 A3).getD ax).2.2.2.2.2.2.1))&&((n12 ((o20_0 (m33 a 10).1 (m33 a 10).2 0 0 0 0 A3 0 A3).getD ax).2.2.1 ((o20_0 (m33 a 10).1 (m33 a 10).2 0 0 0 0 A3 0 A3).getD ax).2.2.2.2.2.1 ((o20_0 (m33 a 10).1 (m33 a 10).2 0 0 0 0 A3 0 A3).getD ax).2.2.2.1 ((o20_0 (m33 a 10).1 (m33 a 10).2 0 0 0 0 A3 0 A3).getD ax).2.2.2.2.2.2.2)&&(cond (cond (aq ((m12 ((o20_0 (m33 a 10).1 (m33 a 10).2 0 0 0 0 A3 0 A3).getD ax).2.2.1 ((o20_0 (m33 a 10).1 (m33 a 10).2 0 0 0 0 A3 0 A3).getD ax).2.2.2.2.2.1 ((o20_0 (m33 a 10).1 (m33 a 10).2 0 0 0 0 A3 0 A3).getD ax).2.2.2.1 ((o20_0 (m33 a 10).1 (m33 a 10).2 0 0 0 0 A3 0 A3).getD ax).2.2.2.2.2.2.2)=0)) az aj) aj ((aq ((0+((o20_0 (m33 a 10).1 (m33 a 10).2 0 0 0 0 A3 0 A3).getD ax).2.2.1)<=((o20_0 (m33 a 10).1 (m33 a 10).2 0 0 0 0 A3 0 A3).getD ax).2.2.2.2.1))&&((aq ((0+((o20_0 (m33 a 10).1 (m33 a 10).2 0 0 0 0 A3 0 A3).getD ax).2.2.2.1)<=((o20_0 (m33 a 10).1 (m33 a 10).2 0 0 0 0 A3 0 A3).getD ax).2.2.2.2.2.2.1))&&aj))))))))))))
def q20(r:Nat × Dat × Nat × Dat × Int × Int):SV × List Blk × List Blk:=(.tup [.agg [.ro [.str,W Z,W Z] r.1 r.2.1,.ro [.str,W Z,W Z,W Z] r.2.2.1 r.2.2.2.1],V Z r.2.2.2.2.1,V Z r.2.2.2.2.2],[],[])
def g20:GF:=fun vs bs=>match vs,bs with
 | [.str a],[]=>ak (rs 0 (q20 (m20 a)) [n20 a])
 | _,_=>aw
def c20:Ctr:=AA [.k] g20
theorem k20:Ag Tryz.prog c20 20:=cx (tc k12 (tc k33 (tc k55 tn))) A6 8 (fn:=Tryz.f20) (c:=(Tryz.f20.body.getD .skip)) (grs:=[]) (rh:=.t [.t [.ro [.str,W Z,W Z],.ro [.str,W Z,W Z,W Z]],.k,.k]) Tryz.func20 rfl (by kernel_rfl) (AD rfl (lc z20_0 ln)) fun vs bs q h hn=>by
 unfold g20 at h
 split at h <;> cases h
 rename_i a
 have hn:=n1 hn
 exact ⟨_,rfl,ca (fun R => 
 let a0:=((o20_0 (m33 a 10).1 (m33 a 10).2 0 0 0 0 A3 0 A3).getD ax)
 let b0:=(((m33 a 10).1):Int)
 let c0:=(m12 a0.2.2.1 a0.2.2.2.2.2.1 a0.2.2.2.1 a0.2.2.2.2.2.2.2)
 (cnd (aq ((60000:Int)<(a.size:Int)))
 (R (.tup [.agg [.ro [.str,W Z,W Z] 0 A3,.ro [.str,W Z,W Z,W Z] 0 A3],V Z 0,V Z 8]) [] [])
 (cnd (n33 a 10)
 (cnd ((o20_0 (m33 a 10).1 (m33 a 10).2 0 0 0 0 A3 0 A3).isSome)
 (cnd a0.1
 (R (.tup [.agg [.ro [.str,W Z,W Z] 0 A3,.ro [.str,W Z,W Z,W Z] 0 A3],V Z a0.2.1.1,V Z a0.2.1.2.1]) [] [])
 (cnd (aq (0<=(Z.wrap (b0 - 1))/\(Z.wrap (b0 - 1))<b0))
 (cnd (cond (aq (((m33 a 10).2.ss ((Z.wrap (b0 - 1)).toNat) 0)=({ data:=#[] }:BA))) az aj)
 (R (.tup [.agg [.ro [.str,W Z,W Z] 0 A3,.ro [.str,W Z,W Z,W Z] 0 A3],V Z b0,V Z 7]) [] [])
 (cnd (aq ((0+a0.2.2.1)<=a0.2.2.2.2.1))
 (cnd (aq ((0+a0.2.2.2.1)<=a0.2.2.2.2.2.2.1))
 (cnd (n12 a0.2.2.1 a0.2.2.2.2.2.1 a0.2.2.2.1 a0.2.2.2.2.2.2.2)
 (cnd (cond (aq (c0=0)) az aj)
 (R (.tup [.agg [.ro [.str,W Z,W Z] 0 A3,.ro [.str,W Z,W Z,W Z] 0 A3],V Z 0,V Z c0]) [] [])
 (cnd (aq ((0+a0.2.2.1)<=a0.2.2.2.2.1))
 (cnd (aq ((0+a0.2.2.2.1)<=a0.2.2.2.2.2.2.1))
 (R (.tup [.agg [.ro [.str,W Z,W Z] a0.2.2.1 a0.2.2.2.2.2.1,.ro [.str,W Z,W Z,W Z] a0.2.2.2.1 a0.2.2.2.2.2.2.2],V Z 0,V Z 0]) [] [])
       False)
      False))
     False)
     False)
    False))
   False))
  False)
  False))) (fun R=>by kernel_rfl) (co (fun h0=>lf (cT h0 rfl) rfl) (fun h0=>cn (al (cf h0 hn)) (cn (al (ar (cf h0 hn))) (co (fun h1=>lf (cF h0 (cT h1 rfl)) rfl) (fun h1=>cn (al (cf h1 (ar (ar (cf h0 hn))))) (co (fun h2=>lf (cF h0 (cF h1 (cT h2 rfl))) rfl) (fun h2=>cn (al (cf h2 (ar (cf h1 (ar (ar (cf h0 hn))))))) (cn (al (ar (cf h2 (ar (cf h1 (ar (ar (cf h0 hn)))))))) (cn (al (ar (ar (cf h2 (ar (cf h1 (ar (ar (cf h0 hn))))))))) (co (fun h3=>lf (cF h0 (cF h1 (cF h2 (cT h3 rfl)))) rfl) (fun h3=>cn (al (cf h3 (ar (ar (ar (cf h2 (ar (cf h1 (ar (ar (cf h0 hn))))))))))) (cn (al (ar (cf h3 (ar (ar (ar (cf h2 (ar (cf h1 (ar (ar (cf h0 hn)))))))))))) (lf (cF h0 (cF h1 (cF h2 (cF h3 rfl)))) rfl)))))))))))))⟩
end
end Go.Proofs.YtdcdjjogieojhaaGreatDoor
