/-
 Contracts of functions: models, equations by the kernel, contracts. Conditions: none.
-/
import Derived.Test.YtpfipoimpmlmoaaGreatDoorJ3
import Derived.KernelRfl
namespace Go.Proofs.YtpfipoimpmlmoaaGreatDoor
open Go Go.Sy
noncomputable section
set_option linter.unusedVariables false
set_option linter.unusedSimpArgs false
set_option maxRecDepth 100000
set_option maxHeartbeats 2000000
attribute [local irreducible] Go.IntKind.wrap Int.tdiv Int.tmod Int.fdiv
open Go.Sy renaming tabOk_cons→tc,tabOk_nil→tn,cnd_need→cn,leaf_of→lf,cnd_gg→cg,cnd_gg2→ch,cond_f→cf,cond_t→ct,cnd_of→co,callOf→ca,roundOf→ro,cnd_not→nn,lams_cons→lc,lams_nil→ln,condT→cT,condF→cF,need1→n1,resOf→rs,and_l→al,and_r→ar,or_gg→og,ctr_of→cx,loop_blk→lb
open Go.IntKind renaming i64→Z
open Go.Sy.SV renaming int→V
open Go.Sy.Kd renaming int→W
/-! ### (*strings.Builder).WriteString -/
def m21u (a ma0_1:Nat) (b:Dat) (d:ByteArray):Int × Nat × Nat × Dat :=
 ((↑d.size:Int),(a+d.size),(a+d.size),(b.app a ({ ii:=fun q x=>(↑(d.data.toList.getD q 0).toNat:Int),ss:=noDat.ss,bb:=noDat.bb,sn:=noDat.sn,sd:=noDat.sd })))
def n21u (a ma0_1:Nat) (b:Dat) (d:ByteArray):Bool :=
 ((decide ((0:Nat)<d.size))&&((decide (a≤ma0_1))&&((decide ((a+d.size)≤1073741824))&&true)))
def q21u (r:Int × Nat × Nat × Dat):SV × List Blk × List Blk:=(.tup [V Z r.1,.val Value.nilIface],[.cells 66 [.ptr 0 0,.gr 2 1 r.2.1],.unk],[.row 5 [.int .u8] r.2.2.1 r.2.2.2])
def g21u:GF:=fun vs bs=>match vs,bs with
 | [.ptr 0 0,.str d],[.cells 66 [.ptr 0 0,.gr 1 1 a],.row 5 [.int .u8] ma0_1 b]=>some (rs 2 (q21u (m21u a ma0_1 b d)) [n21u a ma0_1 b d])
 | _,_=>none
def c21u:Ctr:=genC [.s [.gr 5 [.int .u8]],.k] g21u
theorem k21u:CtrOk Tryz.prog c21u 21:=cx (tc k50u tn) mix_ok 8 (fn:=Tryz.f21) (c:=(Tryz.f21.body.getD .skip)) (grs:=[1]) (rh:=.k) Tryz.func21 rfl (by kernel_rfl) noLam fun vs bs q h hn=>by
 unfold g21u at h
 split at h <;> cases h
 rename_i d a ma0_1 b
 have hn:=n1 hn
 exact ⟨_,rfl,ca (fun R=>(cnd (decide ((0:Nat)<d.size))
 (cnd (decide (a≤ma0_1))
 (cnd (decide ((a+d.size)≤1073741824))
 (R (.tup [V Z (↑d.size:Int),.val (Value.nilIface)]) [.cells 66 [.ptr 0 0,.gr 2 1 (a+d.size)],.unk] [.row 5 [.int .u8] (a+d.size) (b.app a ({ ii:=fun q x=>(↑(d.data.toList.getD q 0).toNat:Int),ss:=noDat.ss,bb:=noDat.bb,sn:=noDat.sn,sd:=noDat.sd }))])
  False)
  False)
 False)) (fun R=>by kernel_rfl) (cn (al hn) (cn (al (ar hn)) (cn (al (ar (ar hn))) (lf rfl rfl))))⟩
/-! ### (*strings.Builder).WriteString -/
def m21f (a ma0_1:Nat) (b:Dat) (d:ByteArray):Int × Nat × Nat × Dat :=
 ((↑d.size:Int),(a+d.size),(a+d.size),(b.app a ({ ii:=fun q x=>(↑(d.data.toList.getD q 0).toNat:Int),ss:=noDat.ss,bb:=noDat.bb,sn:=noDat.sn,sd:=noDat.sd })))
def n21f (a ma0_1:Nat) (b:Dat) (d:ByteArray):Bool :=
 ((decide ((0:Nat)<d.size))&&((decide (a≤ma0_1))&&((decide ((a+d.size)≤1073741824))&&true)))
def q21f (r:Int × Nat × Nat × Dat):SV × List Blk × List Blk:=(.tup [V Z r.1,.val Value.nilIface],[.cells 66 [.ptr 0 0,.gr 2 1 r.2.1],.unk],[.row 5 [.int .u8] r.2.2.1 r.2.2.2])
def g21f:GF:=fun vs bs=>match vs,bs with
 | [.ptr 0 0,.str d],[.cells 66 [.val (.pointer none),.gr 1 1 a],.row 5 [.int .u8] ma0_1 b]=>some (rs 2 (q21f (m21f a ma0_1 b d)) [n21f a ma0_1 b d])
 | _,_=>none
def c21f:Ctr:=genC [.c [.k,.gr 5 [.int .u8]],.k] g21f
theorem k21f:CtrOk Tryz.prog c21f 21:=cx (tc k50f tn) mix_ok 8 (fn:=Tryz.f21) (c:=(Tryz.f21.body.getD .skip)) (grs:=[1]) (rh:=.k) Tryz.func21 rfl (by kernel_rfl) noLam fun vs bs q h hn=>by
 unfold g21f at h
 split at h <;> cases h
 rename_i d a ma0_1 b
 have hn:=n1 hn
 exact ⟨_,rfl,ca (fun R=>(cnd (decide ((0:Nat)<d.size))
 (cnd (decide (a≤ma0_1))
 (cnd (decide ((a+d.size)≤1073741824))
 (R (.tup [V Z (↑d.size:Int),.val (Value.nilIface)]) [.cells 66 [.ptr 0 0,.gr 2 1 (a+d.size)],.unk] [.row 5 [.int .u8] (a+d.size) (b.app a ({ ii:=fun q x=>(↑(d.data.toList.getD q 0).toNat:Int),ss:=noDat.ss,bb:=noDat.bb,sn:=noDat.sn,sd:=noDat.sd }))])
  False)
  False)
 False)) (fun R=>by kernel_rfl) (cn (al hn) (cn (al (ar hn)) (cn (al (ar (ar hn))) (lf rfl rfl))))⟩
/-! ### strings.Lines$1 -/
def l54_0  (l N:Nat) (Y:Dat):Nat→Nat→ByteArray→Option (Nat × ByteArray)
 | 0,_,_=>none
 | f+1,k,a=>(cond (decide ((0:Int)<(↑a.size:Int))) (cond (decide (0≤(m55 a 10))) (cond (decide ((0:Int)≤(0:Int)∧(0:Int)≤Z.wrap (m55 a (10:Int)+(1:Int))∧Z.wrap (m55 a (10:Int)+(1:Int))≤(↑a.size:Int))) (cond (decide (0≤Z.wrap (m55 a 10+1)∧Z.wrap (m55 a 10+1)≤(↑a.size:Int)∧(↑a.size:Int)≤(↑a.size:Int))) (cond (decide (k<N)) (cond (decide ((a.extract 0 ((Z.wrap ((m55 a 10)+1)).toNat))=(Y.ss k 0))) (l54_0 l N Y f (k+1) (a.extract ((Z.wrap ((m55 a 10)+1)).toNat) ((↑a.size:Int).toNat))) none) none) none) none) (cond (decide (k<N)) (cond (decide (a=(Y.ss k 0))) (l54_0 l N Y f (k+1) ({ data:=#[] }:ByteArray)) none) none)) (some ((k),a)))
abbrev o54_0  (l N:Nat) (Y:Dat) (k:Nat) (a:ByteArray):Option (Nat × ByteArray):=l54_0 l N Y (a.size+8) k a
def e54_0  (l N:Nat) (Y:Dat) (r:Nat × ByteArray) (K:XRY):Prop:=K (XE.exit 0) r.1 [] [.cells 9 [.str r.2]]
def g54_0 (l N:Nat) (Y:Dat):SumY:=fun k s κ=>match k,czv 1 25 [0,1] 1 [] s with
 | some k,some ([.val vq,.ptr 0 0],[.cells 9 [.str a]])=>needs [(o54_0 l N Y k a).isSome,isYl vq l] (e54_0 l N Y ((o54_0 l N Y k a).getD default) fun e k vs bs=>inBlkY 0 κ e (some k) (mkSt 1 25 [] vs 1 bs))
 | _,_=>False
theorem y54_0 (a:ByteArray) (l N:Nat) (Y:Dat) (k:Nat) (R:XRY):execY Tryz.prog [(55,c55)] (fun _=>none) l N (fun k=>[.str (Y.ss k 0)]) (lamY []) 8 (unloop (bodyAt (Tryz.f54.body.getD .skip) 0)) (some k) (mkSt 1 25 [0,1] [.val (Value.func (Fn.yield l) #[] #[]),.ptr 0 0] 1 [.cells 9 [.str a]]) (canonKY 1 25 [0,1] [] 1 [] R) =
 (cnd (decide ((0:Int)<(↑a.size:Int)))
 (cnd (decide (0≤(m55 a 10)))
 (cnd (decide ((0:Int)≤(0:Int)∧(0:Int)≤Z.wrap (m55 a (10:Int)+(1:Int))∧Z.wrap (m55 a (10:Int)+(1:Int))≤(↑a.size:Int)))
 (cnd (decide (0≤Z.wrap (m55 a 10+1)∧Z.wrap (m55 a 10+1)≤(↑a.size:Int)∧(↑a.size:Int)≤(↑a.size:Int)))
 (cnd (decide (l=l))
 (cnd (decide (k<N))
 (cnd (decide ((a.extract 0 ((Z.wrap ((m55 a 10)+1)).toNat))=(Y.ss k 0)))
    ((R (XE.normal) (k+1) [.val (Value.func (Fn.yield l) #[] #[]),.ptr 0 0] [.cells 9 [.str (a.extract ((Z.wrap ((m55 a 10)+1)).toNat) ((↑a.size:Int).toNat))]]) ∧
     True)
    False)
    False)
   False)
   False)
  False)
 (cnd (decide (l=l))
 (cnd (decide (k<N))
 (cnd (decide (a=(Y.ss k 0)))
   ((R (XE.normal) (k+1) [.val (Value.func (Fn.yield l) #[] #[]),.ptr 0 0] [.cells 9 [.str ({ data:=#[] }:ByteArray)]]) ∧
    True)
   False)
   False)
  False))
 (R (XE.exit 0) (k) [] [.cells 9 [.str a]])):=by kernel_rfl
theorem z54_0 {C:YC Tryz.prog} {N:Nat} {Y:Dat} (hN:C.N=N) (hy:C.y=fun k=>[.str (Y.ss k 0)]):LOkJ C (g54_0 C.l N Y) (.block 0 (bodyAt (Tryz.f54.body.getD .skip) 0)):=by
 refine loopY_blk (ι:=Nat × ByteArray) (L:=[(55,c55)]) (Λ:=(fun _=>none)) (ΛY:=(lamY [])) (fuel:=8) (na:=1) (nt:=25) (nx:=1) (Lh:=[0,1]) (Le:=[]) (gl:=[]) (tc k55 tn) mix_ok noLam noLamY rfl (fun f x K=>GG default (e54_0 C.l N Y) K (l54_0 C.l N Y f x.1 x.2)) (fun x=>x.1) (fun x=>[.val (Value.func (Fn.yield C.l) #[] #[]),.ptr 0 0]) (fun x=>[.cells 9 [.str x.2]]) (fun x K=>gg_none) ?_ ?_
 ·rintro f ⟨k,a⟩ K hG
  rw [hN,hy]
  refine propOf (y54_0 a C.l N Y k _) ?_
  exact ch hG (fun h0=>ch h0 (fun h1=>cg h1 fun h2=>cg h2 fun h3=>cn (decide_eq_true rfl) (cg h3 fun h4=>cg h4 fun h5=>⟨⟨((k+1),(a.extract ((Z.wrap ((m55 a 10)+1)).toNat) ((↑a.size:Int).toNat))),rfl,rfl,rfl,h5⟩,trivial⟩)) (fun h1=>cn (decide_eq_true rfl) (cg h1 fun h2=>cg h2 fun h3=>⟨⟨((k+1),({ data:=#[] }:ByteArray)),rfl,rfl,rfl,h3⟩,trivial⟩))) (fun h0=>h0.2)
 ·intro k s κ h
  unfold g54_0 at h
  split at h <;> try exact h.elim
  rename_i e1
  rw [needs_iff] at h
  have hl:=h.1 _ (List.mem_cons_of_mem _ (List.mem_singleton.2 rfl))
  obtain rfl:=isYl_eq hl
  exact ⟨_,(_,_),rfl,e1,h.1 _ (List.mem_cons_self ..),h.2⟩
theorem x54 (b:ByteArray) (l N:Nat) (Y:Dat) (R:XE→Option Nat→Prop):execY Tryz.prog [(55,c55)] (fun _=>none) l N (fun k=>[.str (Y.ss k 0)]) (lamY [(0,(g54_0 l N Y))]) 8 (Tryz.f54.body.getD .skip) (some 0) (initS Tryz.f54.ntmps ([.val (.func (.yield l) #[] #[]),.ptr 0 0]) 1 (memOf [.cells 9 [.str b]])) (fun e k s=>R e k) =
 (cnd ((o54_0 l N Y 0 b).isSome)
 (cnd (decide (l=l))
 (R (XE.normal) (.some ((o54_0 l N Y 0 b).getD default).1))
  False)
 False):=by kernel_rfl
def n54 (b:ByteArray) (l N:Nat) (Y:Dat):Bool :=
 (((o54_0 l N Y 0 b).isSome)&&(decide (((o54_0 l N Y 0 b).getD default).1=N)))
theorem it54 (b:ByteArray) (N:Nat) (Y:Dat) (hn:∀ l,n54 b l N Y=true):SIter Tryz.prog 54 [.ptr 0 0] [.cells 9 [.str b]] N (fun k=>[.str (Y.ss k 0)]):=iter_of (tc k55 tn) mix_ok 8 (fn:=Tryz.f54) (c:=(Tryz.f54.body.getD .skip)) (Λ:=(fun _=>none)) (ΛY:=fun l=>(lamY [(0,(g54_0 l N Y))])) Tryz.func54 rfl noLam rfl (fun k _=>rfl) (fun C hN hy=>(lamY_of rfl (lamsY_cons (z54_0 hN hy) lamsY_nil))) fun l=>by
 refine propOf (x54 b l N Y fun e k=>match e with | .exit _=>False | _=>k=some N) ?_
 exact cn (al (hn l)) (cn (decide_eq_true rfl) (congrArg some (of_decide_eq_true (ar (hn l)))))
/-! ### shotline/site.form -/
def m32t (a b:ByteArray) (a2_0_0:Int) (na2_0_1 ma2_0_1:Nat) (da2_0_1:Dat):Bool × Int × Nat × Nat × Dat :=
 (cond (bif (bif (bif (m56 a ({ data:=#[10] }:ByteArray)).2 then false else true) then true else (bif (decide (((m57 (m56 a ({ data:=#[10] }:ByteArray)).1 ({ data:=#[32] }:ByteArray)).2.ss 0 0)=b)) then false else true)) then true else (bif (decide ((↑((m57 (m56 a ({ data:=#[10] }:ByteArray)).1 ({ data:=#[32] }:ByteArray)).1):Int)=2)) then false else true)) (false,a2_0_0,na2_0_1,ma2_0_1,da2_0_1) (cond (bif (bif (bif (m58 ((m57 (m56 a ({ data:=#[10] }:ByteArray)).1 ({ data:=#[32] }:ByteArray)).2.ss 1 0)).2 then false else true) then true else (bif (decide ((m22 (m58 ((m57 (m56 a ({ data:=#[10] }:ByteArray)).1 ({ data:=#[32] }:ByteArray)).2.ss 1 0)).1)=((m57 (m56 a ({ data:=#[10] }:ByteArray)).1 ({ data:=#[32] }:ByteArray)).2.ss 1 0))) then false else true)) then true else (decide (7<(↑((m59 ((m57 (m56 a ({ data:=#[10] }:ByteArray)).1 ({ data:=#[32] }:ByteArray)).2.ss 1 0) ({ data:=#[45] }:ByteArray)).size):Int)))) (false,a2_0_0,na2_0_1,ma2_0_1,da2_0_1) (true,(m58 ((m57 (m56 a ({ data:=#[10] }:ByteArray)).1 ({ data:=#[32] }:ByteArray)).2.ss 1 0)).1,na2_0_1,ma2_0_1,da2_0_1)))
def n32t (a b:ByteArray) (a2_0_0:Int) (na2_0_1 ma2_0_1:Nat) (da2_0_1:Dat):Bool :=
 ((n56 a)&&((n57 (m56 a ({ data:=#[10] }:ByteArray)).1 ({ data:=#[32] }:ByteArray))&&((bif (bif (bif (bif (m56 a ({ data:=#[10] }:ByteArray)).2 then false else true) then false else true) then false else true) then true else (decide ((0:Int)≤(0:Int)∧(0:Int)<(↑(m57 (m56 a ({ data:=#[(10:UInt8)] }:ByteArray)).1 ({ data:=#[(32:UInt8)] }:ByteArray)).1:Int))))&&(cond (bif (bif (bif (m56 a ({ data:=#[10] }:ByteArray)).2 then false else true) then true else (bif (decide (((m57 (m56 a ({ data:=#[10] }:ByteArray)).1 ({ data:=#[32] }:ByteArray)).2.ss 0 0)=b)) then false else true)) then true else (bif (decide ((↑((m57 (m56 a ({ data:=#[10] }:ByteArray)).1 ({ data:=#[32] }:ByteArray)).1):Int)=2)) then false else true)) true ((decide (0≤Z.wrap (0+1)∧Z.wrap (0+1)<(↑(m57 (m56 a ({ data:=#[10] }:ByteArray)).1 ({ data:=#[32] }:ByteArray)).1:Int)))&&((n58 ((m57 (m56 a ({ data:=#[10] }:ByteArray)).1 ({ data:=#[32] }:ByteArray)).2.ss 1 0))&&((bif (bif (bif (bif (m58 ((m57 (m56 a ({ data:=#[10] }:ByteArray)).1 ({ data:=#[32] }:ByteArray)).2.ss 1 0)).2 then false else true) then false else true) then false else true) then true else (n22 (m58 ((m57 (m56 a ({ data:=#[10] }:ByteArray)).1 ({ data:=#[32] }:ByteArray)).2.ss 1 0)).1))&&((bif (bif (bif (bif (m58 ((m57 (m56 a ({ data:=#[10] }:ByteArray)).1 ({ data:=#[32] }:ByteArray)).2.ss 1 0)).2 then false else true) then false else true) then false else true) then true else (decide (0≤Z.wrap (0+1)∧Z.wrap (0+1)<(↑(m57 (m56 a ({ data:=#[10] }:ByteArray)).1 ({ data:=#[32] }:ByteArray)).1:Int))))&&((bif (bif (bif (bif (bif (m58 ((m57 (m56 a ({ data:=#[10] }:ByteArray)).1 ({ data:=#[32] }:ByteArray)).2.ss 1 0)).2 then false else true) then true else (bif (decide ((m22 (m58 ((m57 (m56 a ({ data:=#[10] }:ByteArray)).1 ({ data:=#[32] }:ByteArray)).2.ss 1 0)).1)=((m57 (m56 a ({ data:=#[10] }:ByteArray)).1 ({ data:=#[32] }:ByteArray)).2.ss 1 0))) then false else true)) then false else true) then false else true) then true else (decide (0≤Z.wrap (0+1)∧Z.wrap (0+1)<(↑(m57 (m56 a ({ data:=#[10] }:ByteArray)).1 ({ data:=#[32] }:ByteArray)).1:Int))))&&true)))))))))
def q32t (r:Bool × Int × Nat × Nat × Dat):SV × List Blk × List Blk:=(.bool r.1,[.cells 84 [.ptr 1 0],.cells 24 [V Z r.2.1,.gr 2 3 r.2.2.1],.row 73 [W Z,W Z,W Z] r.2.2.2.1 r.2.2.2.2],[])
def g32t:GF:=fun vs bs=>match vs,bs with
 | [.str a,.str b,.slc 0 1 0 1],[.cells 84 [.ptr 1 0],.cells 24 [V Z a2_0_0,.gr 2 3 na2_0_1],.row 73 [W Z,W Z,W Z] ma2_0_1 da2_0_1]=>some (rs 3 (q32t (m32t a b a2_0_0 na2_0_1 ma2_0_1 da2_0_1)) [n32t a b a2_0_0 na2_0_1 ma2_0_1 da2_0_1])
 | _,_=>none
def c32t:Ctr:=genC [.k,.k,.sp [[.k,.gr 73 [W Z,W Z,W Z]]]] g32t
theorem k32t:CtrOk Tryz.prog c32t 32:=cx (tc k22 (tc k56 (tc k57 (tc k58 (tc k59 tn))))) mix_ok 8 (fn:=Tryz.f32) (c:=(Tryz.f32.body.getD .skip)) (grs:=[]) (rh:=.k) Tryz.func32 rfl (by kernel_rfl) noLam fun vs bs q h hn=>by
 unfold g32t at h
 split at h <;> cases h
 rename_i a b a2_0_0 na2_0_1 ma2_0_1 da2_0_1
 have hn:=n1 hn
 exact ⟨_,rfl,ca (fun R => 
 let e0:=(m56 a ({ data:=#[10] }:ByteArray))
 let a0:=(m57 e0.1 ({ data:=#[32] }:ByteArray))
 let b0:=(decide (0≤Z.wrap (0+1)∧Z.wrap (0+1)<(↑(m57 (m56 a ({ data:=#[10] }:ByteArray)).1 ({ data:=#[32] }:ByteArray)).1:Int)))
 let c0:=(bif (bif (m58 (a0.2.ss 1 0)).2 then false else true) then true else (bif (decide ((m22 (m58 (a0.2.ss 1 0)).1)=(a0.2.ss 1 0))) then false else true))
 let d0:=(bif (bif (bif (m58 (a0.2.ss 1 0)).2 then false else true) then false else true) then false else true)
 (cnd (n56 a)
 (cnd (n57 e0.1 ({ data:=#[32] }:ByteArray))
 (cnd (bif (bif (bif (bif e0.2 then false else true) then false else true) then false else true) then true else (decide ((0:Int)≤(0:Int)∧(0:Int)<(↑(m57 (m56 a ({ data:=#[(10:UInt8)] }:ByteArray)).1 ({ data:=#[(32:UInt8)] }:ByteArray)).1:Int))))
 (cnd (bif (bif (bif e0.2 then false else true) then true else (bif (decide ((a0.2.ss 0 0)=b)) then false else true)) then true else (bif (decide ((↑(a0.1):Int)=2)) then false else true))
 (R (.bool false) [.cells 84 [.ptr 1 0],.cells 24 [V Z a2_0_0,.gr 2 3 na2_0_1],.row 73 [W Z,W Z,W Z] ma2_0_1 da2_0_1] [])
 (cnd b0
 (cnd (n58 (a0.2.ss 1 0))
 (cnd (bif d0 then true else (n22 (m58 (a0.2.ss 1 0)).1))
 (cnd (bif d0 then true else b0)
 (cnd (bif (bif (bif c0 then false else true) then false else true) then true else b0)
 (cnd (bif c0 then true else (decide (7<(↑((m59 (a0.2.ss 1 0) ({ data:=#[45] }:ByteArray)).size):Int))))
 (R (.bool false) [.cells 84 [.ptr 1 0],.cells 24 [V Z a2_0_0,.gr 2 3 na2_0_1],.row 73 [W Z,W Z,W Z] ma2_0_1 da2_0_1] [])
 (R (.bool true) [.cells 84 [.ptr 1 0],.cells 24 [V Z (m58 (a0.2.ss 1 0)).1,.gr 2 3 na2_0_1],.row 73 [W Z,W Z,W Z] ma2_0_1 da2_0_1] []))
     False)
     False)
    False)
    False)
   False))
  False)
  False)
 False)) (fun R=>by kernel_rfl) (cn (al hn) (cn (al (ar hn)) (cn (al (ar (ar hn))) (co (fun h0=>lf (cT h0 rfl) rfl) (fun h0=>cn (al (cf h0 (ar (ar (ar hn))))) (cn (al (ar (cf h0 (ar (ar (ar hn)))))) (cn (al (ar (ar (cf h0 (ar (ar (ar hn))))))) (cn (al (ar (ar (ar (cf h0 (ar (ar (ar hn)))))))) (cn (al (ar (ar (ar (ar (cf h0 (ar (ar (ar hn))))))))) (co (fun h1=>lf (cF h0 (cT h1 rfl)) rfl) (fun h1=>lf (cF h0 (cF h1 rfl)) rfl)))))))))))⟩
/-! ### shotline/site.form -/
def m32w (a b:ByteArray) (a2_0_0 a2_0_1 a2_0_2:Int):Bool × Int × Int × Int :=
 (cond (bif (bif (bif (m56 a ({ data:=#[10] }:ByteArray)).2 then false else true) then true else (bif (decide (((m57 (m56 a ({ data:=#[10] }:ByteArray)).1 ({ data:=#[32] }:ByteArray)).2.ss 0 0)=b)) then false else true)) then true else (bif (decide ((↑((m57 (m56 a ({ data:=#[10] }:ByteArray)).1 ({ data:=#[32] }:ByteArray)).1):Int)=4)) then false else true)) (false,a2_0_0,a2_0_1,a2_0_2) (cond (bif (bif (bif (m58 ((m57 (m56 a ({ data:=#[10] }:ByteArray)).1 ({ data:=#[32] }:ByteArray)).2.ss 1 0)).2 then false else true) then true else (bif (decide ((m22 (m58 ((m57 (m56 a ({ data:=#[10] }:ByteArray)).1 ({ data:=#[32] }:ByteArray)).2.ss 1 0)).1)=((m57 (m56 a ({ data:=#[10] }:ByteArray)).1 ({ data:=#[32] }:ByteArray)).2.ss 1 0))) then false else true)) then true else (decide (7<(↑((m59 ((m57 (m56 a ({ data:=#[10] }:ByteArray)).1 ({ data:=#[32] }:ByteArray)).2.ss 1 0) ({ data:=#[45] }:ByteArray)).size):Int)))) (false,a2_0_0,a2_0_1,a2_0_2) (cond (bif (bif (bif (m58 ((m57 (m56 a ({ data:=#[10] }:ByteArray)).1 ({ data:=#[32] }:ByteArray)).2.ss 2 0)).2 then false else true) then true else (bif (decide ((m22 (m58 ((m57 (m56 a ({ data:=#[10] }:ByteArray)).1 ({ data:=#[32] }:ByteArray)).2.ss 2 0)).1)=((m57 (m56 a ({ data:=#[10] }:ByteArray)).1 ({ data:=#[32] }:ByteArray)).2.ss 2 0))) then false else true)) then true else (decide (7<(↑((m59 ((m57 (m56 a ({ data:=#[10] }:ByteArray)).1 ({ data:=#[32] }:ByteArray)).2.ss 2 0) ({ data:=#[45] }:ByteArray)).size):Int)))) (false,(m58 ((m57 (m56 a ({ data:=#[10] }:ByteArray)).1 ({ data:=#[32] }:ByteArray)).2.ss 1 0)).1,a2_0_1,a2_0_2) (cond (bif (bif (bif (m58 ((m57 (m56 a ({ data:=#[10] }:ByteArray)).1 ({ data:=#[32] }:ByteArray)).2.ss 3 0)).2 then false else true) then true else (bif (decide ((m22 (m58 ((m57 (m56 a ({ data:=#[10] }:ByteArray)).1 ({ data:=#[32] }:ByteArray)).2.ss 3 0)).1)=((m57 (m56 a ({ data:=#[10] }:ByteArray)).1 ({ data:=#[32] }:ByteArray)).2.ss 3 0))) then false else true)) then true else (decide (7<(↑((m59 ((m57 (m56 a ({ data:=#[10] }:ByteArray)).1 ({ data:=#[32] }:ByteArray)).2.ss 3 0) ({ data:=#[45] }:ByteArray)).size):Int)))) (false,(m58 ((m57 (m56 a ({ data:=#[10] }:ByteArray)).1 ({ data:=#[32] }:ByteArray)).2.ss 1 0)).1,(m58 ((m57 (m56 a ({ data:=#[10] }:ByteArray)).1 ({ data:=#[32] }:ByteArray)).2.ss 2 0)).1,a2_0_2) (true,(m58 ((m57 (m56 a ({ data:=#[10] }:ByteArray)).1 ({ data:=#[32] }:ByteArray)).2.ss 1 0)).1,(m58 ((m57 (m56 a ({ data:=#[10] }:ByteArray)).1 ({ data:=#[32] }:ByteArray)).2.ss 2 0)).1,(m58 ((m57 (m56 a ({ data:=#[10] }:ByteArray)).1 ({ data:=#[32] }:ByteArray)).2.ss 3 0)).1)))))
def n32w (a b:ByteArray) (a2_0_0 a2_0_1 a2_0_2:Int):Bool :=
 ((n56 a)&&((n57 (m56 a ({ data:=#[10] }:ByteArray)).1 ({ data:=#[32] }:ByteArray))&&((bif (bif (bif (bif (m56 a ({ data:=#[10] }:ByteArray)).2 then false else true) then false else true) then false else true) then true else (decide ((0:Int)≤(0:Int)∧(0:Int)<(↑(m57 (m56 a ({ data:=#[(10:UInt8)] }:ByteArray)).1 ({ data:=#[(32:UInt8)] }:ByteArray)).1:Int))))&&(cond (bif (bif (bif (m56 a ({ data:=#[10] }:ByteArray)).2 then false else true) then true else (bif (decide (((m57 (m56 a ({ data:=#[10] }:ByteArray)).1 ({ data:=#[32] }:ByteArray)).2.ss 0 0)=b)) then false else true)) then true else (bif (decide ((↑((m57 (m56 a ({ data:=#[10] }:ByteArray)).1 ({ data:=#[32] }:ByteArray)).1):Int)=4)) then false else true)) true ((decide (0≤Z.wrap (0+1)∧Z.wrap (0+1)<(↑(m57 (m56 a ({ data:=#[10] }:ByteArray)).1 ({ data:=#[32] }:ByteArray)).1:Int)))&&((n58 ((m57 (m56 a ({ data:=#[10] }:ByteArray)).1 ({ data:=#[32] }:ByteArray)).2.ss 1 0))&&((bif (bif (bif (bif (m58 ((m57 (m56 a ({ data:=#[10] }:ByteArray)).1 ({ data:=#[32] }:ByteArray)).2.ss 1 0)).2 then false else true) then false else true) then false else true) then true else (n22 (m58 ((m57 (m56 a ({ data:=#[10] }:ByteArray)).1 ({ data:=#[32] }:ByteArray)).2.ss 1 0)).1))&&((bif (bif (bif (bif (m58 ((m57 (m56 a ({ data:=#[10] }:ByteArray)).1 ({ data:=#[32] }:ByteArray)).2.ss 1 0)).2 then false else true) then false else true) then false else true) then true else (decide (0≤Z.wrap (0+1)∧Z.wrap (0+1)<(↑(m57 (m56 a ({ data:=#[10] }:ByteArray)).1 ({ data:=#[32] }:ByteArray)).1:Int))))&&((bif (bif (bif (bif (bif (m58 ((m57 (m56 a ({ data:=#[10] }:ByteArray)).1 ({ data:=#[32] }:ByteArray)).2.ss 1 0)).2 then false else true) then true else (bif (decide ((m22 (m58 ((m57 (m56 a ({ data:=#[10] }:ByteArray)).1 ({ data:=#[32] }:ByteArray)).2.ss 1 0)).1)=((m57 (m56 a ({ data:=#[10] }:ByteArray)).1 ({ data:=#[32] }:ByteArray)).2.ss 1 0))) then false else true)) then false else true) then false else true) then true else (decide (0≤Z.wrap (0+1)∧Z.wrap (0+1)<(↑(m57 (m56 a ({ data:=#[10] }:ByteArray)).1 ({ data:=#[32] }:ByteArray)).1:Int))))&&(cond (bif (bif (bif (m58 ((m57 (m56 a ({ data:=#[10] }:ByteArray)).1 ({ data:=#[32] }:ByteArray)).2.ss 1 0)).2 then false else true) then true else (bif (decide ((m22 (m58 ((m57 (m56 a ({ data:=#[10] }:ByteArray)).1 ({ data:=#[32] }:ByteArray)).2.ss 1 0)).1)=((m57 (m56 a ({ data:=#[10] }:ByteArray)).1 ({ data:=#[32] }:ByteArray)).2.ss 1 0))) then false else true)) then true else (decide (7<(↑((m59 ((m57 (m56 a ({ data:=#[10] }:ByteArray)).1 ({ data:=#[32] }:ByteArray)).2.ss 1 0) ({ data:=#[45] }:ByteArray)).size):Int)))) true ((decide (0≤Z.wrap (Z.wrap (0+1)+1)∧Z.wrap (Z.wrap (0+1)+1)<(↑(m57 (m56 a ({ data:=#[10] }:ByteArray)).1 ({ data:=#[32] }:ByteArray)).1:Int)))&&((n58 ((m57 (m56 a ({ data:=#[10] }:ByteArray)).1 ({ data:=#[32] }:ByteArray)).2.ss 2 0))&&((bif (bif (bif (bif (m58 ((m57 (m56 a ({ data:=#[10] }:ByteArray)).1 ({ data:=#[32] }:ByteArray)).2.ss 2 0)).2 then false else true) then false else true) then false else true) then true else (n22 (m58 ((m57 (m56 a ({ data:=#[10] }:ByteArray)).1 ({ data:=#[32] }:ByteArray)).2.ss 2 0)).1))&&((bif (bif (bif (bif (m58 ((m57 (m56 a ({ data:=#[10] }:ByteArray)).1 ({ data:=#[32] }:ByteArray)).2.ss 2 0)).2 then false else true) then false else true) then false else true) then true else (decide (0≤Z.wrap (Z.wrap (0+1)+1)∧Z.wrap (Z.wrap (0+1)+1)<(↑(m57 (m56 a ({ data:=#[10] }:ByteArray)).1 ({ data:=#[32] }:ByteArray)).1:Int))))&&((bif (bif (bif (bif (bif (m58 ((m57 (m56 a ({ data:=#[10] }:ByteArray)).1 ({ data:=#[32] }:ByteArray)).2.ss 2 0)).2 then false else true) then true else (bif (decide ((m22 (m58 ((m57 (m56 a ({ data:=#[10] }:ByteArray)).1 ({ data:=#[32] }:ByteArray)).2.ss 2 0)).1)=((m57 (m56 a ({ data:=#[10] }:ByteArray)).1 ({ data:=#[32] }:ByteArray)).2.ss 2 0))) then false else true)) then false else true) then false else true) then true else (decide (0≤Z.wrap (Z.wrap (0+1)+1)∧Z.wrap (Z.wrap (0+1)+1)<(↑(m57 (m56 a ({ data:=#[10] }:ByteArray)).1 ({ data:=#[32] }:ByteArray)).1:Int))))&&(cond (bif (bif (bif (m58 ((m57 (m56 a ({ data:=#[10] }:ByteArray)).1 ({ data:=#[32] }:ByteArray)).2.ss 2 0)).2 then false else true) then true else (bif (decide ((m22 (m58 ((m57 (m56 a ({ data:=#[10] }:ByteArray)).1 ({ data:=#[32] }:ByteArray)).2.ss 2 0)).1)=((m57 (m56 a ({ data:=#[10] }:ByteArray)).1 ({ data:=#[32] }:ByteArray)).2.ss 2 0))) then false else true)) then true else (decide (7<(↑((m59 ((m57 (m56 a ({ data:=#[10] }:ByteArray)).1 ({ data:=#[32] }:ByteArray)).2.ss 2 0) ({ data:=#[45] }:ByteArray)).size):Int)))) true ((decide (0≤Z.wrap (Z.wrap (Z.wrap (0+1)+1)+1)∧Z.wrap (Z.wrap (Z.wrap (0+1)+1)+1)<(↑(m57 (m56 a ({ data:=#[10] }:ByteArray)).1 ({ data:=#[32] }:ByteArray)).1:Int)))&&((n58 ((m57 (m56 a ({ data:=#[10] }:ByteArray)).1 ({ data:=#[32] }:ByteArray)).2.ss 3 0))&&((bif (bif (bif (bif (m58 ((m57 (m56 a ({ data:=#[10] }:ByteArray)).1 ({ data:=#[32] }:ByteArray)).2.ss 3 0)).2 then false else true) then false else true) then false else true) then true else (n22 (m58 ((m57 (m56 a ({ data:=#[10] }:ByteArray)).1 ({ data:=#[32] }:ByteArray)).2.ss 3 0)).1))&&((bif (bif (bif (bif (m58 ((m57 (m56 a ({ data:=#[10] }:ByteArray)).1 ({ data:=#[32] }:ByteArray)).2.ss 3 0)).2 then false else true) then false else true) then false else true) then true else (decide (0≤Z.wrap (Z.wrap (Z.wrap (0+1)+1)+1)∧Z.wrap (Z.wrap (Z.wrap (0+1)+1)+1)<(↑(m57 (m56 a ({ data:=#[10] }:ByteArray)).1 ({ data:=#[32] }:ByteArray)).1:Int))))&&((bif (bif (bif (bif (bif (m58 ((m57 (m56 a ({ data:=#[10] }:ByteArray)).1 ({ data:=#[32] }:ByteArray)).2.ss 3 0)).2 then false else true) then true else (bif (decide ((m22 (m58 ((m57 (m56 a ({ data:=#[10] }:ByteArray)).1 ({ data:=#[32] }:ByteArray)).2.ss 3 0)).1)=((m57 (m56 a ({ data:=#[10] }:ByteArray)).1 ({ data:=#[32] }:ByteArray)).2.ss 3 0))) then false else true)) then false else true) then false else true) then true else (decide (0≤Z.wrap (Z.wrap (Z.wrap (0+1)+1)+1)∧Z.wrap (Z.wrap (Z.wrap (0+1)+1)+1)<(↑(m57 (m56 a ({ data:=#[10] }:ByteArray)).1 ({ data:=#[32] }:ByteArray)).1:Int))))&&true)))))))))))))))))))))
def q32w (r:Bool × Int × Int × Int):SV × List Blk × List Blk:=(.bool r.1,[.cells 84 [.ptr 1 0,.ptr 1 1,.ptr 1 2],.cells 73 [V Z r.2.1,V Z r.2.2.1,V Z r.2.2.2]],[])
def g32w:GF:=fun vs bs=>match vs,bs with
 | [.str a,.str b,.slc 0 1 0 3],[.cells 84 [.ptr 1 0,.ptr 1 1,.ptr 1 2],.cells 73 [V Z a2_0_0,V Z a2_0_1,V Z a2_0_2]]=>some (rs 2 (q32w (m32w a b a2_0_0 a2_0_1 a2_0_2)) [n32w a b a2_0_0 a2_0_1 a2_0_2])
 | _,_=>none
def c32w:Ctr:=genC [.k,.k,.sp [[.k,.k,.k]]] g32w
theorem k32w:CtrOk Tryz.prog c32w 32:=cx (tc k22 (tc k56 (tc k57 (tc k58 (tc k59 tn))))) mix_ok 8 (fn:=Tryz.f32) (c:=(Tryz.f32.body.getD .skip)) (grs:=[]) (rh:=.k) Tryz.func32 rfl (by kernel_rfl) noLam fun vs bs q h hn=>by
 unfold g32w at h
 split at h <;> cases h
 rename_i a b a2_0_0 a2_0_1 a2_0_2
 have hn:=n1 hn
 exact ⟨_,rfl,ca (fun R => 
 let l0:=(m56 a ({ data:=#[10] }:ByteArray))
 let a0:=(m57 l0.1 ({ data:=#[32] }:ByteArray))
 let b0:=(↑(m57 (m56 a ({ data:=#[10] }:ByteArray)).1 ({ data:=#[32] }:ByteArray)).1:Int)
 let c0:=(decide (0≤Z.wrap (Z.wrap (Z.wrap (0+1)+1)+1)∧Z.wrap (Z.wrap (Z.wrap (0+1)+1)+1)<b0))
 let d0:=(decide (0≤Z.wrap (Z.wrap (0+1)+1)∧Z.wrap (Z.wrap (0+1)+1)<b0))
 let n0:=(m58 (a0.2.ss 1 0))
 let e0:=(bif (bif n0.2 then false else true) then true else (bif (decide ((m22 n0.1)=(a0.2.ss 1 0))) then false else true))
 let f0:=(bif (bif (m58 (a0.2.ss 2 0)).2 then false else true) then true else (bif (decide ((m22 (m58 (a0.2.ss 2 0)).1)=(a0.2.ss 2 0))) then false else true))
 let g0:=(bif (bif (m58 (a0.2.ss 3 0)).2 then false else true) then true else (bif (decide ((m22 (m58 (a0.2.ss 3 0)).1)=(a0.2.ss 3 0))) then false else true))
 let h0:=(decide (0≤Z.wrap (0+1)∧Z.wrap (0+1)<b0))
 let i0:=(bif (bif (bif n0.2 then false else true) then false else true) then false else true)
 let j0:=(bif (bif (bif (m58 (a0.2.ss 2 0)).2 then false else true) then false else true) then false else true)
 let k0:=(bif (bif (bif (m58 (a0.2.ss 3 0)).2 then false else true) then false else true) then false else true)
 let m0:=({ data:=#[45] }:ByteArray)
 (cnd (n56 a)
 (cnd (n57 l0.1 ({ data:=#[32] }:ByteArray))
 (cnd (bif (bif (bif (bif l0.2 then false else true) then false else true) then false else true) then true else (decide ((0:Int)≤(0:Int)∧(0:Int)<(↑(m57 (m56 a ({ data:=#[(10:UInt8)] }:ByteArray)).1 ({ data:=#[(32:UInt8)] }:ByteArray)).1:Int))))
 (cnd (bif (bif (bif l0.2 then false else true) then true else (bif (decide ((a0.2.ss 0 0)=b)) then false else true)) then true else (bif (decide ((↑(a0.1):Int)=4)) then false else true))
 (R (.bool false) [.cells 84 [.ptr 1 0,.ptr 1 1,.ptr 1 2],.cells 73 [V Z a2_0_0,V Z a2_0_1,V Z a2_0_2]] [])
 (cnd h0
 (cnd (n58 (a0.2.ss 1 0))
 (cnd (bif i0 then true else (n22 n0.1))
 (cnd (bif i0 then true else h0)
 (cnd (bif (bif (bif e0 then false else true) then false else true) then true else h0)
 (cnd (bif e0 then true else (decide (7<(↑((m59 (a0.2.ss 1 0) m0).size):Int))))
 (R (.bool false) [.cells 84 [.ptr 1 0,.ptr 1 1,.ptr 1 2],.cells 73 [V Z a2_0_0,V Z a2_0_1,V Z a2_0_2]] [])
 (cnd d0
 (cnd (n58 (a0.2.ss 2 0))
 (cnd (bif j0 then true else (n22 (m58 (a0.2.ss 2 0)).1))
 (cnd (bif j0 then true else d0)
 (cnd (bif (bif (bif f0 then false else true) then false else true) then true else d0)
 (cnd (bif f0 then true else (decide (7<(↑((m59 (a0.2.ss 2 0) m0).size):Int))))
 (R (.bool false) [.cells 84 [.ptr 1 0,.ptr 1 1,.ptr 1 2],.cells 73 [V Z n0.1,V Z a2_0_1,V Z a2_0_2]] [])
 (cnd c0
 (cnd (n58 (a0.2.ss 3 0))
 (cnd (bif k0 then true else (n22 (m58 (a0.2.ss 3 0)).1))
 (cnd (bif k0 then true else c0)
 (cnd (bif (bif (bif g0 then false else true) then false else true) then true else c0)
 (cnd (bif g0 then true else (decide (7<(↑((m59 (a0.2.ss 3 0) m0).size):Int))))
 (R (.bool false) [.cells 84 [.ptr 1 0,.ptr 1 1,.ptr 1 2],.cells 73 [V Z n0.1,V Z (m58 (a0.2.ss 2 0)).1,V Z a2_0_2]] [])
 (R (.bool true) [.cells 84 [.ptr 1 0,.ptr 1 1,.ptr 1 2],.cells 73 [V Z n0.1,V Z (m58 (a0.2.ss 2 0)).1,V Z (m58 (a0.2.ss 3 0)).1]] []))
           False)
           False)
          False)
          False)
         False))
        False)
        False)
       False)
       False)
      False))
     False)
     False)
    False)
    False)
   False))
  False)
  False)
 False)) (fun R=>by kernel_rfl) (cn (al hn) (cn (al (ar hn)) (cn (al (ar (ar hn))) (co (fun h0=>lf (cT h0 rfl) rfl) (fun h0=>cn (al (cf h0 (ar (ar (ar hn))))) (cn (al (ar (cf h0 (ar (ar (ar hn)))))) (cn (al (ar (ar (cf h0 (ar (ar (ar hn))))))) (cn (al (ar (ar (ar (cf h0 (ar (ar (ar hn)))))))) (cn (al (ar (ar (ar (ar (cf h0 (ar (ar (ar hn))))))))) (co (fun h1=>lf (cF h0 (cT h1 rfl)) rfl) (fun h1=>cn (al (cf h1 (ar (ar (ar (ar (ar (cf h0 (ar (ar (ar hn))))))))))) (cn (al (ar (cf h1 (ar (ar (ar (ar (ar (cf h0 (ar (ar (ar hn)))))))))))) (cn (al (ar (ar (cf h1 (ar (ar (ar (ar (ar (cf h0 (ar (ar (ar hn))))))))))))) (cn (al (ar (ar (ar (cf h1 (ar (ar (ar (ar (ar (cf h0 (ar (ar (ar hn)))))))))))))) (cn (al (ar (ar (ar (ar (cf h1 (ar (ar (ar (ar (ar (cf h0 (ar (ar (ar hn))))))))))))))) (co (fun h2=>lf (cF h0 (cF h1 (cT h2 rfl))) rfl) (fun h2=>cn (al (cf h2 (ar (ar (ar (ar (ar (cf h1 (ar (ar (ar (ar (ar (cf h0 (ar (ar (ar hn))))))))))))))))) (cn (al (ar (cf h2 (ar (ar (ar (ar (ar (cf h1 (ar (ar (ar (ar (ar (cf h0 (ar (ar (ar hn)))))))))))))))))) (cn (al (ar (ar (cf h2 (ar (ar (ar (ar (ar (cf h1 (ar (ar (ar (ar (ar (cf h0 (ar (ar (ar hn))))))))))))))))))) (cn (al (ar (ar (ar (cf h2 (ar (ar (ar (ar (ar (cf h1 (ar (ar (ar (ar (ar (cf h0 (ar (ar (ar hn)))))))))))))))))))) (cn (al (ar (ar (ar (ar (cf h2 (ar (ar (ar (ar (ar (cf h1 (ar (ar (ar (ar (ar (cf h0 (ar (ar (ar hn))))))))))))))))))))) (co (fun h3=>lf (cF h0 (cF h1 (cF h2 (cT h3 rfl)))) rfl) (fun h3=>lf (cF h0 (cF h1 (cF h2 (cF h3 rfl)))) rfl)))))))))))))))))))))))⟩
/-! ### shotline/site.Print -/
def l6_0 (l:Nat) (b:Dat) (u p:Int) (t:Dat):Nat→Int→Nat→Nat→Dat→Option (Nat × Nat × Dat)
 | 0,_,_,_,_=>none
 | f+1,i,m,n,o=>(cond (decide (i<u)) (cond (decide (0≤i∧i<↑l)) (cond (n22 (b.ii i.toNat 0)) (cond (n22 (b.ii i.toNat 1)) (cond (n22 (b.ii i.toNat 2)) (cond (n23 4 (datS [SV.str ({ data:=#[119,97,118,101] }:ByteArray),SV.str (m22 (b.ii i.toNat 0)),SV.str (m22 (b.ii i.toNat 1)),SV.str (m22 (b.ii i.toNat 2))] 1) ({ data:=#[32] }:ByteArray)) (cond (decide ((((m23 4 (datS [SV.str ({ data:=#[119,97,118,101] }:ByteArray),SV.str (m22 (b.ii i.toNat 0)),SV.str (m22 (b.ii i.toNat 1)),SV.str (m22 (b.ii i.toNat 2))] 1) ({ data:=#[32] }:ByteArray)).size)+1)≤9223372036854775807)) (cond (n21u m n o ((m23 4 (datS [SV.str ({ data:=#[119,97,118,101] }:ByteArray),SV.str (m22 (b.ii i.toNat 0)),SV.str (m22 (b.ii i.toNat 1)),SV.str (m22 (b.ii i.toNat 2))] 1) ({ data:=#[32] }:ByteArray)) ++ ({ data:=#[10] }:ByteArray))) (l6_0 l b u p t f (Z.wrap (i+1)) (m21u m n o ((m23 4 (datS [SV.str ({ data:=#[119,97,118,101] }:ByteArray),SV.str (m22 (b.ii i.toNat 0)),SV.str (m22 (b.ii i.toNat 1)),SV.str (m22 (b.ii i.toNat 2))] 1) ({ data:=#[32] }:ByteArray)) ++ ({ data:=#[10] }:ByteArray))).2.1 (m21u m n o ((m23 4 (datS [SV.str ({ data:=#[119,97,118,101] }:ByteArray),SV.str (m22 (b.ii i.toNat 0)),SV.str (m22 (b.ii i.toNat 1)),SV.str (m22 (b.ii i.toNat 2))] 1) ({ data:=#[32] }:ByteArray)) ++ ({ data:=#[10] }:ByteArray))).2.2.1 (m21u m n o ((m23 4 (datS [SV.str ({ data:=#[119,97,118,101] }:ByteArray),SV.str (m22 (b.ii i.toNat 0)),SV.str (m22 (b.ii i.toNat 1)),SV.str (m22 (b.ii i.toNat 2))] 1) ({ data:=#[32] }:ByteArray)) ++ ({ data:=#[10] }:ByteArray))).2.2.2) none) none) none) none) none) none) none) (some (m,n,o)))
abbrev o6_0 (l:Nat) (b:Dat) (u p:Int) (t:Dat) (i:Int) (m n:Nat) (o:Dat):Option (Nat × Nat × Dat):=l6_0 l b u p t (l+u.toNat+i.toNat+p.toNat+m+n+8) i m n o
def e6_0 (l:Nat) (b:Dat) (u p:Int) (t:Dat) (r:Nat × Nat × Dat) (K:XR):Prop:=K (XE.exit 0) [.ptr 1 0] [.cells 24 [V Z p,.ro [W Z,W Z,W Z] l t],.cells 66 [.ptr 1 0,.gr 2 1 r.1],.row 5 [.int .u8] r.2.1 r.2.2]
def g6_0:LSum:=fun s k=>match czv 0 41 [5,20,21,22] 3 [⟨false,1,1,2,5,[.int .u8]⟩] s with
 | some ([.ptr 1 0,.ro [W Z,W Z,W Z] l b,V Z u,V Z i],[.cells 24 [V Z p,.ro [W Z,W Z,W Z] b0_1 t],.cells 66 [.ptr 1 0,.gr 2 1 m],.row 5 [.int .u8] n o])=>needs [decide (l=b0_1),(o6_0 l b u p t i m n o).isSome] (e6_0 l b u p t ((o6_0 l b u p t i m n o).getD default) fun e vs bs=>inBlk 0 k e (mkSt 0 41 [5] vs 3 bs))
 | _=>False
theorem z6_0:LOk Tryz.prog g6_0 (.block 0 (bodyAt (Tryz.f6.body.getD .skip) 0)):=by
 refine lb (ι:=Nat × Dat × Int × Int × Int × Dat × Nat × Nat × Dat) (fuel:=8) (na:=0) (nt:=41) (nx:=3) (Lh:=[5,20,21,22]) (Le:=[5]) (gl:=[⟨false,1,1,2,5,[.int .u8]⟩]) (tc k9 (tc k21f (tc k21u (tc k22 (tc k23 (tc k24 tn)))))) mix_ok noLam rfl (fun f (l,b,u,i,p,t,m,n,o) K=>GG default (e6_0 l b u p t) K (l6_0 l b u p t f i m n o)) (fun (l,b,u,i,p,t,m,n,o)=>[.ptr 1 0,.ro [W Z,W Z,W Z] l b,V Z u,V Z i]) (fun (l,b,u,i,p,t,m,n,o)=>[.cells 24 [V Z p,.ro [W Z,W Z,W Z] l t],.cells 66 [.ptr 1 0,.gr 2 1 m],.row 5 [.int .u8] n o]) (fun (_,_,_,_,_,_,_,_,_) K=>gg_none) ?_ ?_
 ·rintro f ⟨l,b,u,i,p,t,m,n,o⟩ K hG
  refine ro (fun R => 
 let a0:=(m23 4 (datS [SV.str ({ data:=#[119,97,118,101] }:ByteArray),SV.str (m22 (b.ii i.toNat 0)),SV.str (m22 (b.ii i.toNat 1)),SV.str (m22 (b.ii i.toNat 2))] 1) ({ data:=#[32] }:ByteArray))
 let b0:=(a0 ++ ({ data:=#[10] }:ByteArray))
 (cnd (decide (i<u))
 (cnd (decide (0≤i∧i<↑l))
  (False ∨
 (cnd (n22 (b.ii i.toNat 0))
 (cnd (n22 (b.ii i.toNat 1))
 (cnd (n22 (b.ii i.toNat 2))
 (cnd (n23 4 (datS [SV.str ({ data:=#[119,97,118,101] }:ByteArray),SV.str (m22 (b.ii i.toNat 0)),SV.str (m22 (b.ii i.toNat 1)),SV.str (m22 (b.ii i.toNat 2))] 1) ({ data:=#[32] }:ByteArray))
 (cnd (decide (((a0.size)+1)≤9223372036854775807))
 (cnd (n21u m n o b0)
 (R (XE.normal) [.ptr 1 0,.ro [W Z,W Z,W Z] l b,V Z u,V Z (Z.wrap (i+1))] [.cells 24 [V Z p,.ro [W Z,W Z,W Z] l t],.cells 66 [.ptr 1 0,.gr 2 1 (m21u m n o b0).2.1],.row 5 [.int .u8] (m21u m n o b0).2.2.1 (m21u m n o b0).2.2.2])
     False)
     False)
    False)
    False)
   False)
   False))
  False)
 (R (XE.exit 0) [.ptr 1 0] [.cells 24 [V Z p,.ro [W Z,W Z,W Z] l t],.cells 66 [.ptr 1 0,.gr 2 1 m],.row 5 [.int .u8] n o]))) (fun R=>by kernel_rfl) ?_
  exact ch hG (fun h0=>cg h0 fun h1=>Or.inr (cg h1 fun h2=>cg h2 fun h3=>cg h3 fun h4=>cg h4 fun h5=>cg h5 fun h6=>cg h6 fun h7=>⟨(_,_,_,_,_,_,_,_,_),rfl,rfl,h7⟩)) (fun h0=>h0.2)
 ·intro s k h
  unfold g6_0 at h
  split at h <;> try exact h.elim
  rename_i e1
  rw [needs_iff] at h
  have hq:=h.1
  simp only [List.mem_cons,forall_eq_or_imp,decide_eq_true_eq,List.not_mem_nil,false_imp_iff,implies_true,and_true] at hq
  obtain ⟨rfl,hq⟩:=hq
  exact ⟨_,e1,_,(_,_,_,_,_,_,_,_,_),rfl,rfl,hq,h.2⟩
def m6 (d:Int) (g:Nat) (j:Dat):ByteArray × Int :=
 (cond (bif (decide ((m9 d g j)=0)) then false else true) (({ data:=#[] }:ByteArray),(m9 d g j)) ((m24 ((o6_0 g j (↑g:Int) d j 0 (m21f 0 0 noDat ((({ data:=#[116,105,100,101,32] }:ByteArray) ++ (m22 d)) ++ ({ data:=#[10] }:ByteArray))).2.1 (m21f 0 0 noDat ((({ data:=#[116,105,100,101,32] }:ByteArray) ++ (m22 d)) ++ ({ data:=#[10] }:ByteArray))).2.2.1 (m21f 0 0 noDat ((({ data:=#[116,105,100,101,32] }:ByteArray) ++ (m22 d)) ++ ({ data:=#[10] }:ByteArray))).2.2.2).getD default).1 ((o6_0 g j (↑g:Int) d j 0 (m21f 0 0 noDat ((({ data:=#[116,105,100,101,32] }:ByteArray) ++ (m22 d)) ++ ({ data:=#[10] }:ByteArray))).2.1 (m21f 0 0 noDat ((({ data:=#[116,105,100,101,32] }:ByteArray) ++ (m22 d)) ++ ({ data:=#[10] }:ByteArray))).2.2.1 (m21f 0 0 noDat ((({ data:=#[116,105,100,101,32] }:ByteArray) ++ (m22 d)) ++ ({ data:=#[10] }:ByteArray))).2.2.2).getD default).2.2),0))
def n6 (d:Int) (g:Nat) (j:Dat):Bool :=
 ((n9 d g j)&&(cond (bif (decide ((m9 d g j)=0)) then false else true) true ((n22 d)&&((decide ((5+((m22 d).size))≤9223372036854775807))&&((decide ((((({ data:=#[116,105,100,101,32] }:ByteArray) ++ (m22 d)).size)+1)≤9223372036854775807))&&((n21f 0 0 noDat ((({ data:=#[116,105,100,101,32] }:ByteArray) ++ (m22 d)) ++ ({ data:=#[10] }:ByteArray)))&&(((o6_0 g j (↑g:Int) d j 0 (m21f 0 0 noDat ((({ data:=#[116,105,100,101,32] }:ByteArray) ++ (m22 d)) ++ ({ data:=#[10] }:ByteArray))).2.1 (m21f 0 0 noDat ((({ data:=#[116,105,100,101,32] }:ByteArray) ++ (m22 d)) ++ ({ data:=#[10] }:ByteArray))).2.2.1 (m21f 0 0 noDat ((({ data:=#[116,105,100,101,32] }:ByteArray) ++ (m22 d)) ++ ({ data:=#[10] }:ByteArray))).2.2.2).isSome)&&((n24 ((o6_0 g j (↑g:Int) d j 0 (m21f 0 0 noDat ((({ data:=#[116,105,100,101,32] }:ByteArray) ++ (m22 d)) ++ ({ data:=#[10] }:ByteArray))).2.1 (m21f 0 0 noDat ((({ data:=#[116,105,100,101,32] }:ByteArray) ++ (m22 d)) ++ ({ data:=#[10] }:ByteArray))).2.2.1 (m21f 0 0 noDat ((({ data:=#[116,105,100,101,32] }:ByteArray) ++ (m22 d)) ++ ({ data:=#[10] }:ByteArray))).2.2.2).getD default).1 ((o6_0 g j (↑g:Int) d j 0 (m21f 0 0 noDat ((({ data:=#[116,105,100,101,32] }:ByteArray) ++ (m22 d)) ++ ({ data:=#[10] }:ByteArray))).2.1 (m21f 0 0 noDat ((({ data:=#[116,105,100,101,32] }:ByteArray) ++ (m22 d)) ++ ({ data:=#[10] }:ByteArray))).2.2.1 (m21f 0 0 noDat ((({ data:=#[116,105,100,101,32] }:ByteArray) ++ (m22 d)) ++ ({ data:=#[10] }:ByteArray))).2.2.2).getD default).2.1 ((o6_0 g j (↑g:Int) d j 0 (m21f 0 0 noDat ((({ data:=#[116,105,100,101,32] }:ByteArray) ++ (m22 d)) ++ ({ data:=#[10] }:ByteArray))).2.1 (m21f 0 0 noDat ((({ data:=#[116,105,100,101,32] }:ByteArray) ++ (m22 d)) ++ ({ data:=#[10] }:ByteArray))).2.2.1 (m21f 0 0 noDat ((({ data:=#[116,105,100,101,32] }:ByteArray) ++ (m22 d)) ++ ({ data:=#[10] }:ByteArray))).2.2.2).getD default).2.2)&&true))))))))
def q6 (r:ByteArray × Int):SV × List Blk × List Blk:=(.tup [.str r.1,V Z r.2],[],[])
def g6:GF:=fun vs bs=>match vs,bs with
 | [.agg [V Z d,.ro [W Z,W Z,W Z] g j]],[]=>some (rs 0 (q6 (m6 d g j)) [n6 d g j])
 | _,_=>none
def c6:Ctr:=genC [.a [.k,.ro [W Z,W Z,W Z]]] g6
theorem k6:CtrOk Tryz.prog c6 6:=cx (tc k9 (tc k21f (tc k21u (tc k22 (tc k23 (tc k24 tn)))))) mix_ok 8 (fn:=Tryz.f6) (c:=(Tryz.f6.body.getD .skip)) (grs:=[]) (rh:=.k) Tryz.func6 rfl (by kernel_rfl) (lam_of rfl (lc z6_0 ln)) fun vs bs q h hn=>by
 unfold g6 at h
 split at h <;> cases h
 rename_i d g j
 have hn:=n1 hn
 exact ⟨_,rfl,ca (fun R => 
 let c0:=(({ data:=#[116,105,100,101,32] }:ByteArray) ++ (m22 d))
 let a0:=(m21f 0 0 noDat (c0 ++ ({ data:=#[10] }:ByteArray)))
 let b0:=((o6_0 g j (↑g:Int) d j 0 a0.2.1 a0.2.2.1 a0.2.2.2).getD default)
 let d0:=(decide ((5+((m22 d).size))≤9223372036854775807))
 let e0:=(decide (((c0.size)+1)≤9223372036854775807))
 (cnd (n9 d g j)
 (cnd (bif (decide ((m9 d g j)=0)) then false else true)
 (R (.tup [.str ({ data:=#[] }:ByteArray),V Z (m9 d g j)]) [] [])
  ((cnd (n22 d)
 (cnd d0
 (cnd e0
 (cnd (n21f 0 0 noDat (c0 ++ ({ data:=#[10] }:ByteArray)))
 (cnd (decide (g=g))
 (cnd ((o6_0 g j (↑g:Int) d j 0 a0.2.1 a0.2.2.1 a0.2.2.2).isSome)
 (cnd (n24 b0.1 b0.2.1 b0.2.2)
 (R (.tup [.str (m24 b0.1 b0.2.2),V Z 0]) [] [])
      False)
     False)
     False)
    False)
    False)
   False)
   False) ∨
 (cnd (n22 d)
 (cnd d0
 (cnd e0
    False
    False)
   False)
   False)))
 False)) (fun R=>by kernel_rfl) (cn (al hn) (co (fun h0=>lf (cT h0 rfl) rfl) (fun h0=>Or.inl (cn (al (cf h0 (ar hn))) (cn (al (ar (cf h0 (ar hn)))) (cn (al (ar (ar (cf h0 (ar hn))))) (cn (al (ar (ar (ar (cf h0 (ar hn)))))) (cn (decide_eq_true rfl) (cn (al (ar (ar (ar (ar (cf h0 (ar hn))))))) (cn (al (ar (ar (ar (ar (ar (cf h0 (ar hn)))))))) (lf (cF h0 rfl) rfl)))))))))))⟩
end
end Go.Proofs.YtpfipoimpmlmoaaGreatDoor
