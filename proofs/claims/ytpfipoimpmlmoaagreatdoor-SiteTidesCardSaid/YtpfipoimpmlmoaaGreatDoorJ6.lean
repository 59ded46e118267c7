/-
 Contracts of functions: models, equations by the kernel, contracts. Conditions: none.
-/
import Derived.Test.YtpfipoimpmlmoaaGreatDoorJ5
import Derived.KernelRfl
namespace Go.Proofs.YtpfipoimpmlmoaaGreatDoor
open Go Go.Sy
noncomputable section
set_option linter.unusedVariables false
set_option linter.unusedSimpArgs false
set_option maxRecDepth 100000
set_option maxHeartbeats 2000000
attribute [local irreducible] Go.IntKind.wrap Int.tdiv Int.tmod Int.fdiv
open Go.Sy renaming tabOk_cons→tc,tabOk_nil→tn,cnd_need→cn,leaf_of→lf,cnd_gg→cg,cnd_gg2→ch,cond_f→cf,cond_t→ct,cnd_of→co,callOf→ca,roundOf→ro,cnd_not→nn,lams_cons→lc,lams_nil→ln,condT→cT,condF→cF,need1→n1,resOf→rs,and_l→al,and_r→ar,or_gg→og,ctr_of→cx,loop_blk→lb
open Go.IntKind renaming i64→Z
open Go.Sy.SV renaming int→V
open Go.Sy.Kd renaming int→W
/-! ### shotline/site.Parse -/
def l10_0 (i l m:Int) (Y:Dat):Nat→Nat→Int→Nat→Int→Nat→Dat→Option (Bool × (Int × Nat × Int × Nat × Dat) × (Int × Int × Int × Int × Nat × Int × Nat × Dat))
 | 0,kk,b,a,b4_0,d,g=>some (true,(b,a,b4_0,d,g),default)
 | f+1,kk,b,a,b4_0,d,g=>(cond (decide ((Z.wrap (b4_0+1))=1)) (cond (decide ((Z.wrap (b4_0+1))=1)) (cond (decide ((Z.wrap (b4_0+1))=1)) (cond (n32t (Y.ss kk 0) ({ data:=#[116,105,100,101] }:ByteArray) b a d g) (cond (bif (decide ((Z.wrap (b4_0+1))=1)) then (m32t (Y.ss kk 0) ({ data:=#[116,105,100,101] }:ByteArray) b a d g).1 else false) (l10_0 i l m Y f (kk+1) (m32t (Y.ss kk 0) ({ data:=#[116,105,100,101] }:ByteArray) b a d g).2.1 (m32t (Y.ss kk 0) ({ data:=#[116,105,100,101] }:ByteArray) b a d g).2.2.1 (Z.wrap (b4_0+1)) (m32t (Y.ss kk 0) ({ data:=#[116,105,100,101] }:ByteArray) b a d g).2.2.2.1 (m32t (Y.ss kk 0) ({ data:=#[116,105,100,101] }:ByteArray) b a d g).2.2.2.2) (cond (decide (1<(Z.wrap (b4_0+1)))) (cond (decide (1<(Z.wrap (b4_0+1)))) (cond (decide (1<(Z.wrap (b4_0+1)))) (cond (n32w (Y.ss kk 0) ({ data:=#[119,97,118,101] }:ByteArray) 0 0 0) (cond (bif (decide (1<(Z.wrap (b4_0+1)))) then (m32w (Y.ss kk 0) ({ data:=#[119,97,118,101] }:ByteArray) 0 0 0).1 else false) (cond (decide ((m32t (Y.ss kk 0) ({ data:=#[116,105,100,101] }:ByteArray) b a d g).2.2.1≤(m32t (Y.ss kk 0) ({ data:=#[116,105,100,101] }:ByteArray) b a d g).2.2.2.1)) (cond (decide (((m32t (Y.ss kk 0) ({ data:=#[116,105,100,101] }:ByteArray) b a d g).2.2.1+1)≤1073741824)) (l10_0 i l m Y f (kk+1) (m32t (Y.ss kk 0) ({ data:=#[116,105,100,101] }:ByteArray) b a d g).2.1 ((m32t (Y.ss kk 0) ({ data:=#[116,105,100,101] }:ByteArray) b a d g).2.2.1+1) (Z.wrap (b4_0+1)) ((m32t (Y.ss kk 0) ({ data:=#[116,105,100,101] }:ByteArray) b a d g).2.2.1+1) ((m32t (Y.ss kk 0) ({ data:=#[116,105,100,101] }:ByteArray) b a d g).2.2.2.2.app (m32t (Y.ss kk 0) ({ data:=#[116,105,100,101] }:ByteArray) b a d g).2.2.1 (datS [V Z (m32w (Y.ss kk 0) ({ data:=#[119,97,118,101] }:ByteArray) 0 0 0).2.1,V Z (m32w (Y.ss kk 0) ({ data:=#[119,97,118,101] }:ByteArray) 0 0 0).2.2.1,V Z (m32w (Y.ss kk 0) ({ data:=#[119,97,118,101] }:ByteArray) 0 0 0).2.2.2] 3))) none) none) (some (false,default,(0,(Z.wrap (b4_0+1)),7,(m32t (Y.ss kk 0) ({ data:=#[116,105,100,101] }:ByteArray) b a d g).2.1,(m32t (Y.ss kk 0) ({ data:=#[116,105,100,101] }:ByteArray) b a d g).2.2.1,(Z.wrap (b4_0+1)),(m32t (Y.ss kk 0) ({ data:=#[116,105,100,101] }:ByteArray) b a d g).2.2.2.1,(m32t (Y.ss kk 0) ({ data:=#[116,105,100,101] }:ByteArray) b a d g).2.2.2.2)))) none) none) none) (cond (bif (decide (1<(Z.wrap (b4_0+1)))) then false else true) (cond (bif (decide (1<(Z.wrap (b4_0+1)))) then false else true) (cond (bif (decide (1<(Z.wrap (b4_0+1)))) then true else false) (cond (decide ((m32t (Y.ss kk 0) ({ data:=#[116,105,100,101] }:ByteArray) b a d g).2.2.1≤(m32t (Y.ss kk 0) ({ data:=#[116,105,100,101] }:ByteArray) b a d g).2.2.2.1)) (cond (decide (((m32t (Y.ss kk 0) ({ data:=#[116,105,100,101] }:ByteArray) b a d g).2.2.1+1)≤1073741824)) (l10_0 i l m Y f (kk+1) (m32t (Y.ss kk 0) ({ data:=#[116,105,100,101] }:ByteArray) b a d g).2.1 ((m32t (Y.ss kk 0) ({ data:=#[116,105,100,101] }:ByteArray) b a d g).2.2.1+1) (Z.wrap (b4_0+1)) ((m32t (Y.ss kk 0) ({ data:=#[116,105,100,101] }:ByteArray) b a d g).2.2.1+1) ((m32t (Y.ss kk 0) ({ data:=#[116,105,100,101] }:ByteArray) b a d g).2.2.2.2.app (m32t (Y.ss kk 0) ({ data:=#[116,105,100,101] }:ByteArray) b a d g).2.2.1 (datS [V Z 0,V Z 0,V Z 0] 3))) none) none) (some (false,default,(0,(Z.wrap (b4_0+1)),7,(m32t (Y.ss kk 0) ({ data:=#[116,105,100,101] }:ByteArray) b a d g).2.1,(m32t (Y.ss kk 0) ({ data:=#[116,105,100,101] }:ByteArray) b a d g).2.2.1,(Z.wrap (b4_0+1)),(m32t (Y.ss kk 0) ({ data:=#[116,105,100,101] }:ByteArray) b a d g).2.2.2.1,(m32t (Y.ss kk 0) ({ data:=#[116,105,100,101] }:ByteArray) b a d g).2.2.2.2)))) none) none))) none) none) none) (cond (bif (decide ((Z.wrap (b4_0+1))=1)) then false else true) (cond (bif (decide ((Z.wrap (b4_0+1))=1)) then false else true) (cond (bif (decide ((Z.wrap (b4_0+1))=1)) then true else false) (l10_0 i l m Y f (kk+1) b a (Z.wrap (b4_0+1)) d g) (cond (decide (1<(Z.wrap (b4_0+1)))) (cond (decide (1<(Z.wrap (b4_0+1)))) (cond (decide (1<(Z.wrap (b4_0+1)))) (cond (n32w (Y.ss kk 0) ({ data:=#[119,97,118,101] }:ByteArray) 0 0 0) (cond (bif (decide (1<(Z.wrap (b4_0+1)))) then (m32w (Y.ss kk 0) ({ data:=#[119,97,118,101] }:ByteArray) 0 0 0).1 else false) (cond (decide (a≤d)) (cond (decide ((a+1)≤1073741824)) (l10_0 i l m Y f (kk+1) b (a+1) (Z.wrap (b4_0+1)) (a+1) (g.app a (datS [V Z (m32w (Y.ss kk 0) ({ data:=#[119,97,118,101] }:ByteArray) 0 0 0).2.1,V Z (m32w (Y.ss kk 0) ({ data:=#[119,97,118,101] }:ByteArray) 0 0 0).2.2.1,V Z (m32w (Y.ss kk 0) ({ data:=#[119,97,118,101] }:ByteArray) 0 0 0).2.2.2] 3))) none) none) (some (false,default,(0,(Z.wrap (b4_0+1)),7,b,a,(Z.wrap (b4_0+1)),d,g)))) none) none) none) (cond (bif (decide (1<(Z.wrap (b4_0+1)))) then false else true) (cond (bif (decide (1<(Z.wrap (b4_0+1)))) then false else true) (cond (bif (decide (1<(Z.wrap (b4_0+1)))) then true else false) (cond (decide (a≤d)) (cond (decide ((a+1)≤1073741824)) (l10_0 i l m Y f (kk+1) b (a+1) (Z.wrap (b4_0+1)) (a+1) (g.app a (datS [V Z 0,V Z 0,V Z 0] 3))) none) none) (some (false,default,(0,(Z.wrap (b4_0+1)),7,b,a,(Z.wrap (b4_0+1)),d,g)))) none) none))) none) none))
abbrev o10_0 (i l m:Int) (o5_0:ByteArray) (b:Int) (a:Nat) (b4_0:Int) (d:Nat) (g:Dat):Option (Bool × (Int × Nat × Int × Nat × Dat) × (Int × Int × Int × Int × Nat × Int × Nat × Dat)):=l10_0 i l m (Y54 o5_0) (N54 o5_0) 0 b a b4_0 d g
def e10_0 (i l m:Int) (r:Bool × (Int × Nat × Int × Nat × Dat) × (Int × Int × Int × Int × Nat × Int × Nat × Dat)) (K:XR):Prop:=cnd r.1 (K (XE.normal) [] [.cells 24 [V Z i,.nsl],.cells 3 [V Z l],.cells 27 [V Z m],.cells 24 [V Z r.2.1.1,.gr 6 3 r.2.1.2.1],.cells 3 [V Z r.2.1.2.2.1],.unk,.row 73 [W Z,W Z,W Z] r.2.1.2.2.2.1 r.2.1.2.2.2.2]) (K (XE.ret) [] [.cells 24 [V Z r.2.2.1,.nsl],.cells 3 [V Z r.2.2.2.1],.cells 27 [V Z r.2.2.2.2.1],.cells 24 [V Z r.2.2.2.2.2.1,.gr 6 3 r.2.2.2.2.2.2.1],.cells 3 [V Z r.2.2.2.2.2.2.2.1],.unk,.row 73 [W Z,W Z,W Z] r.2.2.2.2.2.2.2.2.1 r.2.2.2.2.2.2.2.2.2])
def g10_0:LSum:=fun s k=>match czv 0 57 [2,3,4,5,6,15] 7 [⟨false,3,1,6,73,[W Z,W Z,W Z]⟩] s with
 | some ([.ptr 0 0,.ptr 1 0,.ptr 2 0,.ptr 3 0,.ptr 4 0,.fn 54 [.ptr 5 0]],[.cells 24 [V Z i,.nsl],.cells 3 [V Z l],.cells 27 [V Z m],.cells 24 [V Z b,.gr 6 3 a],.cells 3 [V Z b4_0],.cells 9 [.str o5_0],.row 73 [W Z,W Z,W Z] d g])=>needs [(o10_0 i l m o5_0 b a b4_0 d g).isSome,(ok54 o5_0)] (e10_0 i l m ((o10_0 i l m o5_0 b a b4_0 d g).getD default) fun e _ bs=>inBlk 0 k e (mkSt 0 57 [2,3,4,5,6,15] [.ptr 0 0,.ptr 1 0,.ptr 2 0,.ptr 3 0,.ptr 4 0,.fn 54 [.ptr 5 0]] 7 bs))
 | _=>False
theorem y10_0 (i l m b:Int) (a:Nat) (b4_0:Int) (d:Nat) (g Y:Dat) (kk:Nat) (R:XR):rfRound Tryz.prog [(9,c9),(31,c31),(32,c32)] (fun _=>none) 8 (asgOf (bodyAt (Tryz.f10.body.getD .skip) 0)) (unloop (bodyAt (Tryz.f10.body.getD .skip) 0)) (putAll (mkSt 6 57 [2,3,4,5,6,15] [.ptr 0 0,.ptr 1 0,.ptr 2 0,.ptr 3 0,.ptr 4 0,.fn 54 [.ptr 5 0]] 7 [.cells 24 [V Z i,.nsl],.cells 3 [V Z l],.cells 27 [V Z m],.cells 24 [V Z b,.gr 6 3 a],.cells 3 [V Z b4_0],.unk,.row 73 [W Z,W Z,W Z] d g]) [16] [.str (Y.ss kk 0)]) (canonK 6 57 [] [] 7 [⟨false,3,1,6,73,[W Z,W Z,W Z]⟩] R) =
 (cnd (decide ((Z.wrap (b4_0+1))=1))
 (cnd (decide ((Z.wrap (b4_0+1))=1))
 (cnd (decide ((Z.wrap (b4_0+1))=1))
 (cnd (n32t (Y.ss kk 0) ({ data:=#[116,105,100,101] }:ByteArray) b a d g)
 (cnd (bif (decide ((Z.wrap (b4_0+1))=1)) then (m32t (Y.ss kk 0) ({ data:=#[116,105,100,101] }:ByteArray) b a d g).1 else false)
 (R (XE.normal) [] [.cells 24 [V Z i,.nsl],.cells 3 [V Z l],.cells 27 [V Z m],.cells 24 [V Z (m32t (Y.ss kk 0) ({ data:=#[116,105,100,101] }:ByteArray) b a d g).2.1,.gr 6 3 (m32t (Y.ss kk 0) ({ data:=#[116,105,100,101] }:ByteArray) b a d g).2.2.1],.cells 3 [V Z (Z.wrap (b4_0+1))],.unk,.row 73 [W Z,W Z,W Z] (m32t (Y.ss kk 0) ({ data:=#[116,105,100,101] }:ByteArray) b a d g).2.2.2.1 (m32t (Y.ss kk 0) ({ data:=#[116,105,100,101] }:ByteArray) b a d g).2.2.2.2])
 (cnd (decide (1<(Z.wrap (b4_0+1))))
 (cnd (decide (1<(Z.wrap (b4_0+1))))
 (cnd (decide (1<(Z.wrap (b4_0+1))))
 (cnd (n32w (Y.ss kk 0) ({ data:=#[119,97,118,101] }:ByteArray) 0 0 0)
 (cnd (bif (decide (1<(Z.wrap (b4_0+1)))) then (m32w (Y.ss kk 0) ({ data:=#[119,97,118,101] }:ByteArray) 0 0 0).1 else false)
 (cnd (decide ((m32t (Y.ss kk 0) ({ data:=#[116,105,100,101] }:ByteArray) b a d g).2.2.1≤(m32t (Y.ss kk 0) ({ data:=#[116,105,100,101] }:ByteArray) b a d g).2.2.2.1))
 (cnd (decide (((m32t (Y.ss kk 0) ({ data:=#[116,105,100,101] }:ByteArray) b a d g).2.2.1+1)≤1073741824))
 (R (XE.normal) [] [.cells 24 [V Z i,.nsl],.cells 3 [V Z l],.cells 27 [V Z m],.cells 24 [V Z (m32t (Y.ss kk 0) ({ data:=#[116,105,100,101] }:ByteArray) b a d g).2.1,.gr 6 3 ((m32t (Y.ss kk 0) ({ data:=#[116,105,100,101] }:ByteArray) b a d g).2.2.1+1)],.cells 3 [V Z (Z.wrap (b4_0+1))],.unk,.row 73 [W Z,W Z,W Z] ((m32t (Y.ss kk 0) ({ data:=#[116,105,100,101] }:ByteArray) b a d g).2.2.1+1) ((m32t (Y.ss kk 0) ({ data:=#[116,105,100,101] }:ByteArray) b a d g).2.2.2.2.app (m32t (Y.ss kk 0) ({ data:=#[116,105,100,101] }:ByteArray) b a d g).2.2.1 (datS [V Z (m32w (Y.ss kk 0) ({ data:=#[119,97,118,101] }:ByteArray) 0 0 0).2.1,V Z (m32w (Y.ss kk 0) ({ data:=#[119,97,118,101] }:ByteArray) 0 0 0).2.2.1,V Z (m32w (Y.ss kk 0) ({ data:=#[119,97,118,101] }:ByteArray) 0 0 0).2.2.2] 3))])
       False)
      False)
 (R (XE.ret) [] [.cells 24 [V Z 0,.nsl],.cells 3 [V Z (Z.wrap (b4_0+1))],.cells 27 [V Z 7],.cells 24 [V Z (m32t (Y.ss kk 0) ({ data:=#[116,105,100,101] }:ByteArray) b a d g).2.1,.gr 6 3 (m32t (Y.ss kk 0) ({ data:=#[116,105,100,101] }:ByteArray) b a d g).2.2.1],.cells 3 [V Z (Z.wrap (b4_0+1))],.unk,.row 73 [W Z,W Z,W Z] (m32t (Y.ss kk 0) ({ data:=#[116,105,100,101] }:ByteArray) b a d g).2.2.2.1 (m32t (Y.ss kk 0) ({ data:=#[116,105,100,101] }:ByteArray) b a d g).2.2.2.2]))
     False)
     False)
    False)
 (cnd (bif (decide (1<(Z.wrap (b4_0+1)))) then false else true)
 (cnd (bif (decide (1<(Z.wrap (b4_0+1)))) then false else true)
 (cnd (bif (decide (1<(Z.wrap (b4_0+1)))) then true else false)
 (cnd (decide ((m32t (Y.ss kk 0) ({ data:=#[116,105,100,101] }:ByteArray) b a d g).2.2.1≤(m32t (Y.ss kk 0) ({ data:=#[116,105,100,101] }:ByteArray) b a d g).2.2.2.1))
 (cnd (decide (((m32t (Y.ss kk 0) ({ data:=#[116,105,100,101] }:ByteArray) b a d g).2.2.1+1)≤1073741824))
 (R (XE.normal) [] [.cells 24 [V Z i,.nsl],.cells 3 [V Z l],.cells 27 [V Z m],.cells 24 [V Z (m32t (Y.ss kk 0) ({ data:=#[116,105,100,101] }:ByteArray) b a d g).2.1,.gr 6 3 ((m32t (Y.ss kk 0) ({ data:=#[116,105,100,101] }:ByteArray) b a d g).2.2.1+1)],.cells 3 [V Z (Z.wrap (b4_0+1))],.unk,.row 73 [W Z,W Z,W Z] ((m32t (Y.ss kk 0) ({ data:=#[116,105,100,101] }:ByteArray) b a d g).2.2.1+1) ((m32t (Y.ss kk 0) ({ data:=#[116,105,100,101] }:ByteArray) b a d g).2.2.2.2.app (m32t (Y.ss kk 0) ({ data:=#[116,105,100,101] }:ByteArray) b a d g).2.2.1 (datS [V Z 0,V Z 0,V Z 0] 3))])
      False)
      False)
 (R (XE.ret) [] [.cells 24 [V Z 0,.nsl],.cells 3 [V Z (Z.wrap (b4_0+1))],.cells 27 [V Z 7],.cells 24 [V Z (m32t (Y.ss kk 0) ({ data:=#[116,105,100,101] }:ByteArray) b a d g).2.1,.gr 6 3 (m32t (Y.ss kk 0) ({ data:=#[116,105,100,101] }:ByteArray) b a d g).2.2.1],.cells 3 [V Z (Z.wrap (b4_0+1))],.unk,.row 73 [W Z,W Z,W Z] (m32t (Y.ss kk 0) ({ data:=#[116,105,100,101] }:ByteArray) b a d g).2.2.2.1 (m32t (Y.ss kk 0) ({ data:=#[116,105,100,101] }:ByteArray) b a d g).2.2.2.2]))
     False)
    False)))
   False)
  False)
  False)
 (cnd (bif (decide ((Z.wrap (b4_0+1))=1)) then false else true)
 (cnd (bif (decide ((Z.wrap (b4_0+1))=1)) then false else true)
 (cnd (bif (decide ((Z.wrap (b4_0+1))=1)) then true else false)
 (R (XE.normal) [] [.cells 24 [V Z i,.nsl],.cells 3 [V Z l],.cells 27 [V Z m],.cells 24 [V Z b,.gr 6 3 a],.cells 3 [V Z (Z.wrap (b4_0+1))],.unk,.row 73 [W Z,W Z,W Z] d g])
 (cnd (decide (1<(Z.wrap (b4_0+1))))
 (cnd (decide (1<(Z.wrap (b4_0+1))))
 (cnd (decide (1<(Z.wrap (b4_0+1))))
 (cnd (n32w (Y.ss kk 0) ({ data:=#[119,97,118,101] }:ByteArray) 0 0 0)
 (cnd (bif (decide (1<(Z.wrap (b4_0+1)))) then (m32w (Y.ss kk 0) ({ data:=#[119,97,118,101] }:ByteArray) 0 0 0).1 else false)
 (cnd (decide (a≤d))
 (cnd (decide ((a+1)≤1073741824))
 (R (XE.normal) [] [.cells 24 [V Z i,.nsl],.cells 3 [V Z l],.cells 27 [V Z m],.cells 24 [V Z b,.gr 6 3 (a+1)],.cells 3 [V Z (Z.wrap (b4_0+1))],.unk,.row 73 [W Z,W Z,W Z] (a+1) (g.app a (datS [V Z (m32w (Y.ss kk 0) ({ data:=#[119,97,118,101] }:ByteArray) 0 0 0).2.1,V Z (m32w (Y.ss kk 0) ({ data:=#[119,97,118,101] }:ByteArray) 0 0 0).2.2.1,V Z (m32w (Y.ss kk 0) ({ data:=#[119,97,118,101] }:ByteArray) 0 0 0).2.2.2] 3))])
      False)
      False)
 (R (XE.ret) [] [.cells 24 [V Z 0,.nsl],.cells 3 [V Z (Z.wrap (b4_0+1))],.cells 27 [V Z 7],.cells 24 [V Z b,.gr 6 3 a],.cells 3 [V Z (Z.wrap (b4_0+1))],.unk,.row 73 [W Z,W Z,W Z] d g]))
     False)
    False)
    False)
 (cnd (bif (decide (1<(Z.wrap (b4_0+1)))) then false else true)
 (cnd (bif (decide (1<(Z.wrap (b4_0+1)))) then false else true)
 (cnd (bif (decide (1<(Z.wrap (b4_0+1)))) then true else false)
 (cnd (decide (a≤d))
 (cnd (decide ((a+1)≤1073741824))
 (R (XE.normal) [] [.cells 24 [V Z i,.nsl],.cells 3 [V Z l],.cells 27 [V Z m],.cells 24 [V Z b,.gr 6 3 (a+1)],.cells 3 [V Z (Z.wrap (b4_0+1))],.unk,.row 73 [W Z,W Z,W Z] (a+1) (g.app a (datS [V Z 0,V Z 0,V Z 0] 3))])
      False)
     False)
 (R (XE.ret) [] [.cells 24 [V Z 0,.nsl],.cells 3 [V Z (Z.wrap (b4_0+1))],.cells 27 [V Z 7],.cells 24 [V Z b,.gr 6 3 a],.cells 3 [V Z (Z.wrap (b4_0+1))],.unk,.row 73 [W Z,W Z,W Z] d g]))
    False)
    False)))
  False)
  False)):=by kernel_rfl
theorem z10_0:LOk Tryz.prog g10_0 (.block 0 (bodyAt (Tryz.f10.body.getD .skip) 0)):=by
 refine rf_blk (ι:=Int × Nat × Int × Nat × Dat) (τ:=Int × Int × Int × ByteArray × Int × Nat × Int × Nat × Dat) (L:=[(9,c9),(31,c31),(32,c32)]) (Λ:=(fun _=>none)) (fuel:=8) (na:=0) (ns:=6) (nt:=57) (nx:=7) (Lh:=[2,3,4,5,6,15]) (gl:=[⟨false,3,1,6,73,[W Z,W Z,W Z]⟩]) (gf:=54) (tc k9 (tc k31 (tc k32 tn))) mix_ok noLam rfl rfl rfl rfl rfl rfl (enters_ok Tryz.func54 (by kernel_rfl) (by kernel_rfl)) [5] rfl
  (fun t=>[.ptr 0 0,.ptr 1 0,.ptr 2 0,.ptr 3 0,.ptr 4 0,.fn 54 [.ptr 5 0]]) (fun t=>[.ptr 5 0]) (fun t=>[.ptr 0 0]) (fun t=>[.cells 24 [V Z t.1,.nsl],.cells 3 [V Z t.2.1],.cells 27 [V Z t.2.2.1],.cells 24 [V Z t.2.2.2.2.1,.gr 6 3 t.2.2.2.2.2.1],.cells 3 [V Z t.2.2.2.2.2.2.1],.cells 9 [.str t.2.2.2.1],.row 73 [W Z,W Z,W Z] t.2.2.2.2.2.2.2.1 t.2.2.2.2.2.2.2.2]) (fun t=>(N54 t.2.2.2.1)) (fun t k=>[.str ((Y54 t.2.2.2.1).ss k 0)]) (fun t x=>[.cells 24 [V Z t.1,.nsl],.cells 3 [V Z t.2.1],.cells 27 [V Z t.2.2.1],.cells 24 [V Z x.1,.gr 6 3 x.2.1],.cells 3 [V Z x.2.2.1],.unk,.row 73 [W Z,W Z,W Z] x.2.2.2.1 x.2.2.2.2])
  (fun t k x K=>GG default (e10_0 t.1 t.2.1 t.2.2.1) K (l10_0 t.1 t.2.1 t.2.2.1 (Y54 t.2.2.2.1) ((N54 t.2.2.2.1) - k) k x.1 x.2.1 x.2.2.1 x.2.2.2.1 x.2.2.2.2)) (fun t=>(ok54 t.2.2.2.1))
  (fun t=>rfl) (fun t=>rfl) (fun t=>rfl) (fun t hok=>(iter54 t.2.2.2.1 hok)) (fun t j hj=>by simp at hj;subst hj;exact ⟨rfl,fun _ _ _ h=>h⟩) (fun t j hj=>by simp at hj;subst hj;rfl) (fun t k=>rfl) ?_ ?_ ?_
 ·rintro ⟨i,l,m,o5_0,ub3_0,ub3_1,ub4_0,ub6_0,ub6_1⟩ kk ⟨b,a,b4_0,d,g⟩ K hk hG
  obtain ⟨r,hr⟩:∃ r,(N54 o5_0) - kk=r+1:=⟨(N54 o5_0) - kk - 1,by have hk':kk<(N54 o5_0):=hk;omega⟩
  have hr':(N54 o5_0) - (kk+1)=r:=by omega
  have hG:GG default (e10_0 i l m) K (l10_0 i l m (Y54 o5_0) ((N54 o5_0) - kk) kk b a b4_0 d g):=hG
  rw [hr] at hG
  have key:∀ x:Int × Nat × Int × Nat × Dat,GG default (e10_0 i l m) K (l10_0 i l m (Y54 o5_0) r (kk+1) x.1 x.2.1 x.2.2.1 x.2.2.2.1 x.2.2.2.2)→GG default (e10_0 i l m) K (l10_0 i l m (Y54 o5_0) ((N54 o5_0) - (kk+1)) (kk+1) x.1 x.2.1 x.2.2.1 x.2.2.2.1 x.2.2.2.2):=fun x h=>by rw [hr'];exact h
  refine propOf (y10_0 i l m b a b4_0 d g (Y54 o5_0) kk _) ?_
  exact ch hG (fun h0=>cg h0 fun h1=>cg h1 fun h2=>cg h2 fun h3=>ch h3 (fun h4=>⟨(_,_,_,_,_),rfl,key (_,_,_,_,_) h4⟩) (fun h4=>ch h4 (fun h5=>cg h5 fun h6=>cg h6 fun h7=>cg h7 fun h8=>ch h8 (fun h9=>cg h9 fun h10=>cg h10 fun h11=>⟨(_,_,_,_,_),rfl,key (_,_,_,_,_) h11⟩) (fun h9=>h9.2)) (fun h5=>cg h5 fun h6=>cg h6 fun h7=>ch h7 (fun h8=>cg h8 fun h9=>cg h9 fun h10=>⟨(_,_,_,_,_),rfl,key (_,_,_,_,_) h10⟩) (fun h8=>h8.2)))) (fun h0=>cg h0 fun h1=>cg h1 fun h2=>ch h2 (fun h3=>⟨(_,_,_,_,_),rfl,key (_,_,_,_,_) h3⟩) (fun h3=>ch h3 (fun h4=>cg h4 fun h5=>cg h5 fun h6=>cg h6 fun h7=>ch h7 (fun h8=>cg h8 fun h9=>cg h9 fun h10=>⟨(_,_,_,_,_),rfl,key (_,_,_,_,_) h10⟩) (fun h8=>h8.2)) (fun h4=>cg h4 fun h5=>cg h5 fun h6=>ch h6 (fun h7=>cg h7 fun h8=>cg h8 fun h9=>⟨(_,_,_,_,_),rfl,key (_,_,_,_,_) h9⟩) (fun h7=>h7.2))))
 ·rintro ⟨i,l,m,o5_0,ub3_0,ub3_1,ub4_0,ub6_0,ub6_1⟩ ⟨b,a,b4_0,d,g⟩ K h
  have h:GG default (e10_0 i l m) K (l10_0 i l m (Y54 o5_0) ((N54 o5_0) - (N54 o5_0)) (N54 o5_0) b a b4_0 d g):=h
  rw [Nat.sub_self] at h
  exact h.2
 ·intro s k h
  unfold g10_0 at h
  split at h <;> try exact h.elim
  rename_i e1
  rw [needs_iff] at h
  exact ⟨(_,_,_,_,_,_,_,_,_),(_,_,_,_,_),e1,rfl,h.1 _ (List.mem_cons_of_mem _ (List.mem_singleton.2 rfl)),h.1 _ (List.mem_cons_self ..),h.2⟩
def m10 (n:ByteArray):Int × Nat × Dat × Int × Int :=
 (cond (decide ((60000:Int)<(↑n.size:Int))) (0,0,noDat,0,8) (cond ((o10_0 0 0 0 (m31 n) 0 0 0 0 noDat).getD default).1 (cond (decide (((o10_0 0 0 0 (m31 n) 0 0 0 0 noDat).getD default).2.1.2.2.1=0)) (0,0,noDat,1,7) (cond (bif (decide ((m9 ((o10_0 0 0 0 (m31 n) 0 0 0 0 noDat).getD default).2.1.1 ((o10_0 0 0 0 (m31 n) 0 0 0 0 noDat).getD default).2.1.2.1 ((o10_0 0 0 0 (m31 n) 0 0 0 0 noDat).getD default).2.1.2.2.2.2)=0)) then false else true) (0,0,noDat,0,(m9 ((o10_0 0 0 0 (m31 n) 0 0 0 0 noDat).getD default).2.1.1 ((o10_0 0 0 0 (m31 n) 0 0 0 0 noDat).getD default).2.1.2.1 ((o10_0 0 0 0 (m31 n) 0 0 0 0 noDat).getD default).2.1.2.2.2.2)) (((o10_0 0 0 0 (m31 n) 0 0 0 0 noDat).getD default).2.1.1,((o10_0 0 0 0 (m31 n) 0 0 0 0 noDat).getD default).2.1.2.1,((o10_0 0 0 0 (m31 n) 0 0 0 0 noDat).getD default).2.1.2.2.2.2,0,0))) (((o10_0 0 0 0 (m31 n) 0 0 0 0 noDat).getD default).2.2.1,0,noDat,((o10_0 0 0 0 (m31 n) 0 0 0 0 noDat).getD default).2.2.2.1,((o10_0 0 0 0 (m31 n) 0 0 0 0 noDat).getD default).2.2.2.2.1)))
def n10 (n:ByteArray):Bool :=
 (cond (decide ((60000:Int)<(↑n.size:Int))) true (((o10_0 0 0 0 (m31 n) 0 0 0 0 noDat).isSome)&&((ok54 (m31 n))&&(cond ((o10_0 0 0 0 (m31 n) 0 0 0 0 noDat).getD default).1 (cond (decide (((o10_0 0 0 0 (m31 n) 0 0 0 0 noDat).getD default).2.1.2.2.1=0)) true ((decide ((0+((o10_0 0 0 0 (m31 n) 0 0 0 0 noDat).getD default).2.1.2.1)≤((o10_0 0 0 0 (m31 n) 0 0 0 0 noDat).getD default).2.1.2.2.2.1))&&((n9 ((o10_0 0 0 0 (m31 n) 0 0 0 0 noDat).getD default).2.1.1 ((o10_0 0 0 0 (m31 n) 0 0 0 0 noDat).getD default).2.1.2.1 ((o10_0 0 0 0 (m31 n) 0 0 0 0 noDat).getD default).2.1.2.2.2.2)&&(cond (bif (decide ((m9 ((o10_0 0 0 0 (m31 n) 0 0 0 0 noDat).getD default).2.1.1 ((o10_0 0 0 0 (m31 n) 0 0 0 0 noDat).getD default).2.1.2.1 ((o10_0 0 0 0 (m31 n) 0 0 0 0 noDat).getD default).2.1.2.2.2.2)=0)) then false else true) true ((decide ((0+((o10_0 0 0 0 (m31 n) 0 0 0 0 noDat).getD default).2.1.2.1)≤((o10_0 0 0 0 (m31 n) 0 0 0 0 noDat).getD default).2.1.2.2.2.1))&&true))))) true))))
def q10 (r:Int × Nat × Dat × Int × Int):SV × List Blk × List Blk:=(.tup [.agg [V Z r.1,.ro [W Z,W Z,W Z] r.2.1 r.2.2.1],V Z r.2.2.2.1,V Z r.2.2.2.2],[],[])
def g10:GF:=fun vs bs=>match vs,bs with
 | [.str n],[]=>some (rs 0 (q10 (m10 n)) [n10 n])
 | _,_=>none
def c10:Ctr:=genC [.k] g10
theorem k10:CtrOk Tryz.prog c10 10:=cx (tc k9 (tc k31 (tc k32 tn))) mix_ok 8 (fn:=Tryz.f10) (c:=(Tryz.f10.body.getD .skip)) (grs:=[]) (rh:=.t [.t [.k,.ro [W Z,W Z,W Z]],.k,.k]) Tryz.func10 rfl (by kernel_rfl) (lam_of rfl (lc z10_0 ln)) fun vs bs q h hn=>by
 unfold g10 at h
 split at h <;> cases h
 rename_i n
 have hn:=n1 hn
 exact ⟨_,rfl,ca (fun R => 
 let a0:=((o10_0 0 0 0 (m31 n) 0 0 0 0 noDat).getD default)
 (cnd (decide ((60000:Int)<(↑n.size:Int)))
 (R (.tup [.agg [V Z 0,.ro [W Z,W Z,W Z] 0 noDat],V Z 0,V Z 8]) [] [])
 (cnd ((o10_0 0 0 0 (m31 n) 0 0 0 0 noDat).isSome)
 (cnd (ok54 (m31 n))
 (cnd a0.1
 (cnd (decide (a0.2.1.2.2.1=0))
 (R (.tup [.agg [V Z 0,.ro [W Z,W Z,W Z] 0 noDat],V Z 1,V Z 7]) [] [])
 (cnd (decide ((0+a0.2.1.2.1)≤a0.2.1.2.2.2.1))
 (cnd (n9 a0.2.1.1 a0.2.1.2.1 a0.2.1.2.2.2.2)
 (cnd (bif (decide ((m9 a0.2.1.1 a0.2.1.2.1 a0.2.1.2.2.2.2)=0)) then false else true)
 (R (.tup [.agg [V Z 0,.ro [W Z,W Z,W Z] 0 noDat],V Z 0,V Z (m9 a0.2.1.1 a0.2.1.2.1 a0.2.1.2.2.2.2)]) [] [])
 (cnd (decide ((0+a0.2.1.2.1)≤a0.2.1.2.2.2.1))
 (R (.tup [.agg [V Z a0.2.1.1,.ro [W Z,W Z,W Z] a0.2.1.2.1 a0.2.1.2.2.2.2],V Z 0,V Z 0]) [] [])
     False))
    False)
    False))
 (R (.tup [.agg [V Z a0.2.2.1,.ro [W Z,W Z,W Z] 0 noDat],V Z a0.2.2.2.1,V Z a0.2.2.2.2.1]) [] []))
  False)
  False))) (fun R=>by kernel_rfl) (co (fun h0=>lf (cT h0 rfl) rfl) (fun h0=>cn (al (cf h0 hn)) (cn (al (ar (cf h0 hn))) (co (fun h1=>co (fun h2=>lf (cF h0 (cT h1 (cT h2 rfl))) rfl) (fun h2=>cn (al (cf h2 (ct h1 (ar (ar (cf h0 hn)))))) (cn (al (ar (cf h2 (ct h1 (ar (ar (cf h0 hn))))))) (co (fun h3=>lf (cF h0 (cT h1 (cF h2 (cT h3 rfl)))) rfl) (fun h3=>cn (al (cf h3 (ar (ar (cf h2 (ct h1 (ar (ar (cf h0 hn))))))))) (lf (cF h0 (cT h1 (cF h2 (cF h3 rfl)))) rfl)))))) (fun h1=>lf (cF h0 (cF h1 rfl)) rfl)))))⟩
/-! ### shotline/shotlinelaw08.SiteTides -/
theorem x3 (e:Int) (b:Nat) (d:Dat) (g:ByteArray) (R:SV→List Blk→List Blk→Prop):exec Tryz.prog [(4,c4),(5,c5),(6,c6),(7,c7),(8,c8),(9,c9),(10,c10),(11,c11),(12,c12),(13,c13)] (fun _=>none) 8 (Tryz.f3.body.getD .skip) (initS Tryz.f3.ntmps [.agg [V Z e,.ro [W Z,W Z,W Z] b d],.str g] 0 (memOf [])) (retK Tryz.prog Tryz.f3.results.toList (outK 0 (List.range 0) [] (.k) fun v U N=>R v U N)) =
 (cnd (n4)
 (cnd (bif m4 then false else true)
 (R (.bool false) [] [])
 (cnd (bif (bif (bif (m5 e b d) then false else true) then true else (bif (decide ((300:Int)<(↑g.size:Int))) then (decide ((↑g.size:Int)≤60000)) else false)) then true else (decide (60005<(↑g.size:Int))))
 (R (.bool true) [] [])
 (cnd (n7 e b d)
 (cnd (n6 (m7 e b d).1 (m7 e b d).2.1 (m7 e b d).2.2)
 (cnd (n8 e b d)
 (cnd (n7 e b d)
 (cnd (n9 (m7 e b d).1 (m7 e b d).2.1 (m7 e b d).2.2)
 (cnd (bif (decide ((m9 (m7 e b d).1 (m7 e b d).2.1 (m7 e b d).2.2)=(m8 e b d))) then false else true)
 (R (.bool false) [] [])
 (cnd (bif (decide ((m8 e b d)=0)) then false else true)
 (cnd (bif (bif (decide ((m6 (m7 e b d).1 (m7 e b d).2.1 (m7 e b d).2.2).2=(m8 e b d))) then false else true) then true else (bif (decide ((m6 (m7 e b d).1 (m7 e b d).2.1 (m7 e b d).2.2).1=({ data:=#[] }:ByteArray))) then false else true))
 (R (.bool false) [] [])
 (cnd (n10 g)
 (cnd (n13 g)
 (cnd (bif (bif (bif (decide ((m10 g).2.2.2.2=(m13 g).2.2.2.2)) then (decide ((m10 g).2.2.2.1=(m13 g).2.2.2.1)) else false) then false else true) then true else (n12 (m10 g).1 (m10 g).2.1 (m10 g).2.2.1 (m13 g).1 (m13 g).2.1 (m13 g).2.2.1))
 (R (.bool (bif (bif (decide ((m10 g).2.2.2.2=(m13 g).2.2.2.2)) then (decide ((m10 g).2.2.2.1=(m13 g).2.2.2.1)) else false) then (m12 (m10 g).1 (m10 g).2.1 (m10 g).2.2.1 (m13 g).1 (m13 g).2.1 (m13 g).2.2.1) else false)) [] [])
        False)
       False)
       False))
 (cnd (n10 (m6 (m7 e b d).1 (m7 e b d).2.1 (m7 e b d).2.2).1)
 (cnd (bif (bif (bif (bif (decide ((m6 (m7 e b d).1 (m7 e b d).2.1 (m7 e b d).2.2).2=0)) then false else true) then false else true) then false else true) then true else (n11 e b d))
 (cnd (bif (bif (bif (bif (bif (bif (bif (decide ((m6 (m7 e b d).1 (m7 e b d).2.1 (m7 e b d).2.2).2=0)) then false else true) then true else (bif (decide ((m6 (m7 e b d).1 (m7 e b d).2.1 (m7 e b d).2.2).1=(m11 e b d))) then false else true)) then true else (bif (decide ((m10 (m6 (m7 e b d).1 (m7 e b d).2.1 (m7 e b d).2.2).1).2.2.2.2=0)) then false else true)) then true else (bif (decide ((m10 (m6 (m7 e b d).1 (m7 e b d).2.1 (m7 e b d).2.2).1).2.2.2.1=0)) then false else true)) then false else true) then false else true) then true else (n12 (m10 (m6 (m7 e b d).1 (m7 e b d).2.1 (m7 e b d).2.2).1).1 (m10 (m6 (m7 e b d).1 (m7 e b d).2.1 (m7 e b d).2.2).1).2.1 (m10 (m6 (m7 e b d).1 (m7 e b d).2.1 (m7 e b d).2.2).1).2.2.1 e b d))
 (cnd (bif (bif (bif (bif (bif (decide ((m6 (m7 e b d).1 (m7 e b d).2.1 (m7 e b d).2.2).2=0)) then false else true) then true else (bif (decide ((m6 (m7 e b d).1 (m7 e b d).2.1 (m7 e b d).2.2).1=(m11 e b d))) then false else true)) then true else (bif (decide ((m10 (m6 (m7 e b d).1 (m7 e b d).2.1 (m7 e b d).2.2).1).2.2.2.2=0)) then false else true)) then true else (bif (decide ((m10 (m6 (m7 e b d).1 (m7 e b d).2.1 (m7 e b d).2.2).1).2.2.2.1=0)) then false else true)) then true else (bif (m12 (m10 (m6 (m7 e b d).1 (m7 e b d).2.1 (m7 e b d).2.2).1).1 (m10 (m6 (m7 e b d).1 (m7 e b d).2.1 (m7 e b d).2.2).1).2.1 (m10 (m6 (m7 e b d).1 (m7 e b d).2.1 (m7 e b d).2.2).1).2.2.1 e b d) then false else true))
 (R (.bool false) [] [])
 (cnd (n10 g)
 (cnd (n13 g)
 (cnd (bif (bif (bif (decide ((m10 g).2.2.2.2=(m13 g).2.2.2.2)) then (decide ((m10 g).2.2.2.1=(m13 g).2.2.2.1)) else false) then false else true) then true else (n12 (m10 g).1 (m10 g).2.1 (m10 g).2.2.1 (m13 g).1 (m13 g).2.1 (m13 g).2.2.1))
 (R (.bool (bif (bif (decide ((m10 g).2.2.2.2=(m13 g).2.2.2.2)) then (decide ((m10 g).2.2.2.1=(m13 g).2.2.2.1)) else false) then (m12 (m10 g).1 (m10 g).2.1 (m10 g).2.2.1 (m13 g).1 (m13 g).2.1 (m13 g).2.2.1) else false)) [] [])
         False)
         False)
        False))
       False)
       False)
      False)))
     False)
    False)
    False)
   False)
   False)))
 False):=by kernel_rfl
def m3 (e:Int) (b:Nat) (d:Dat) (g:ByteArray):Bool :=
 (cond (bif m4 then false else true) false (cond (bif (bif (bif (m5 e b d) then false else true) then true else (bif (decide ((300:Int)<(↑g.size:Int))) then (decide ((↑g.size:Int)≤60000)) else false)) then true else (decide (60005<(↑g.size:Int)))) true (cond (bif (decide ((m9 (m7 e b d).1 (m7 e b d).2.1 (m7 e b d).2.2)=(m8 e b d))) then false else true) false (cond (bif (decide ((m8 e b d)=0)) then false else true) (cond (bif (bif (decide ((m6 (m7 e b d).1 (m7 e b d).2.1 (m7 e b d).2.2).2=(m8 e b d))) then false else true) then true else (bif (decide ((m6 (m7 e b d).1 (m7 e b d).2.1 (m7 e b d).2.2).1=({ data:=#[] }:ByteArray))) then false else true)) false (bif (bif (decide ((m10 g).2.2.2.2=(m13 g).2.2.2.2)) then (decide ((m10 g).2.2.2.1=(m13 g).2.2.2.1)) else false) then (m12 (m10 g).1 (m10 g).2.1 (m10 g).2.2.1 (m13 g).1 (m13 g).2.1 (m13 g).2.2.1) else false)) (cond (bif (bif (bif (bif (bif (decide ((m6 (m7 e b d).1 (m7 e b d).2.1 (m7 e b d).2.2).2=0)) then false else true) then true else (bif (decide ((m6 (m7 e b d).1 (m7 e b d).2.1 (m7 e b d).2.2).1=(m11 e b d))) then false else true)) then true else (bif (decide ((m10 (m6 (m7 e b d).1 (m7 e b d).2.1 (m7 e b d).2.2).1).2.2.2.2=0)) then false else true)) then true else (bif (decide ((m10 (m6 (m7 e b d).1 (m7 e b d).2.1 (m7 e b d).2.2).1).2.2.2.1=0)) then false else true)) then true else (bif (m12 (m10 (m6 (m7 e b d).1 (m7 e b d).2.1 (m7 e b d).2.2).1).1 (m10 (m6 (m7 e b d).1 (m7 e b d).2.1 (m7 e b d).2.2).1).2.1 (m10 (m6 (m7 e b d).1 (m7 e b d).2.1 (m7 e b d).2.2).1).2.2.1 e b d) then false else true)) false (bif (bif (decide ((m10 g).2.2.2.2=(m13 g).2.2.2.2)) then (decide ((m10 g).2.2.2.1=(m13 g).2.2.2.1)) else false) then (m12 (m10 g).1 (m10 g).2.1 (m10 g).2.2.1 (m13 g).1 (m13 g).2.1 (m13 g).2.2.1) else false))))))
def n3 (e:Int) (b:Nat) (d:Dat) (g:ByteArray):Bool :=
 ((n4)&&(cond (bif m4 then false else true) true (cond (bif (bif (bif (m5 e b d) then false else true) then true else (bif (decide ((300:Int)<(↑g.size:Int))) then (decide ((↑g.size:Int)≤60000)) else false)) then true else (decide (60005<(↑g.size:Int)))) true ((n7 e b d)&&((n6 (m7 e b d).1 (m7 e b d).2.1 (m7 e b d).2.2)&&((n8 e b d)&&((n7 e b d)&&((n9 (m7 e b d).1 (m7 e b d).2.1 (m7 e b d).2.2)&&(cond (bif (decide ((m9 (m7 e b d).1 (m7 e b d).2.1 (m7 e b d).2.2)=(m8 e b d))) then false else true) true (cond (bif (decide ((m8 e b d)=0)) then false else true) (cond (bif (bif (decide ((m6 (m7 e b d).1 (m7 e b d).2.1 (m7 e b d).2.2).2=(m8 e b d))) then false else true) then true else (bif (decide ((m6 (m7 e b d).1 (m7 e b d).2.1 (m7 e b d).2.2).1=({ data:=#[] }:ByteArray))) then false else true)) true ((n10 g)&&((n13 g)&&((bif (bif (bif (decide ((m10 g).2.2.2.2=(m13 g).2.2.2.2)) then (decide ((m10 g).2.2.2.1=(m13 g).2.2.2.1)) else false) then false else true) then true else (n12 (m10 g).1 (m10 g).2.1 (m10 g).2.2.1 (m13 g).1 (m13 g).2.1 (m13 g).2.2.1))&&true)))) ((n10 (m6 (m7 e b d).1 (m7 e b d).2.1 (m7 e b d).2.2).1)&&((bif (bif (bif (bif (decide ((m6 (m7 e b d).1 (m7 e b d).2.1 (m7 e b d).2.2).2=0)) then false else true) then false else true) then false else true) then true else (n11 e b d))&&((bif (bif (bif (bif (bif (bif (bif (decide ((m6 (m7 e b d).1 (m7 e b d).2.1 (m7 e b d).2.2).2=0)) then false else true) then true else (bif (decide ((m6 (m7 e b d).1 (m7 e b d).2.1 (m7 e b d).2.2).1=(m11 e b d))) then false else true)) then true else (bif (decide ((m10 (m6 (m7 e b d).1 (m7 e b d).2.1 (m7 e b d).2.2).1).2.2.2.2=0)) then false else true)) then true else (bif (decide ((m10 (m6 (m7 e b d).1 (m7 e b d).2.1 (m7 e b d).2.2).1).2.2.2.1=0)) then false else true)) then false else true) then false else true) then true else (n12 (m10 (m6 (m7 e b d).1 (m7 e b d).2.1 (m7 e b d).2.2).1).1 (m10 (m6 (m7 e b d).1 (m7 e b d).2.1 (m7 e b d).2.2).1).2.1 (m10 (m6 (m7 e b d).1 (m7 e b d).2.1 (m7 e b d).2.2).1).2.2.1 e b d))&&(cond (bif (bif (bif (bif (bif (decide ((m6 (m7 e b d).1 (m7 e b d).2.1 (m7 e b d).2.2).2=0)) then false else true) then true else (bif (decide ((m6 (m7 e b d).1 (m7 e b d).2.1 (m7 e b d).2.2).1=(m11 e b d))) then false else true)) then true else (bif (decide ((m10 (m6 (m7 e b d).1 (m7 e b d).2.1 (m7 e b d).2.2).1).2.2.2.2=0)) then false else true)) then true else (bif (decide ((m10 (m6 (m7 e b d).1 (m7 e b d).2.1 (m7 e b d).2.2).1).2.2.2.1=0)) then false else true)) then true else (bif (m12 (m10 (m6 (m7 e b d).1 (m7 e b d).2.1 (m7 e b d).2.2).1).1 (m10 (m6 (m7 e b d).1 (m7 e b d).2.1 (m7 e b d).2.2).1).2.1 (m10 (m6 (m7 e b d).1 (m7 e b d).2.1 (m7 e b d).2.2).1).2.2.1 e b d) then false else true)) true ((n10 g)&&((n13 g)&&((bif (bif (bif (decide ((m10 g).2.2.2.2=(m13 g).2.2.2.2)) then (decide ((m10 g).2.2.2.1=(m13 g).2.2.2.1)) else false) then false else true) then true else (n12 (m10 g).1 (m10 g).2.1 (m10 g).2.2.1 (m13 g).1 (m13 g).2.1 (m13 g).2.2.1))&&true)))))))))))))))))
def q3 (r:Bool):SV × List Blk × List Blk:=(.bool r,[],[])
def g3:GF:=fun vs bs=>match vs,bs with
 | [.agg [V Z e,.ro [W Z,W Z,W Z] b d],.str g],[]=>some (rs 0 (q3 (m3 e b d g)) [n3 e b d g])
 | _,_=>none
def c3:Ctr:=genC [.a [.k,.ro [W Z,W Z,W Z]],.k] g3
theorem p3 (e:Int) (b:Nat) (d:Dat) (g:ByteArray) (hn:n3 e b d g=true):exec Tryz.prog [(4,c4),(5,c5),(6,c6),(7,c7),(8,c8),(9,c9),(10,c10),(11,c11),(12,c12),(13,c13)] (fun _=>none) 8 (Tryz.f3.body.getD .skip) (initS Tryz.f3.ntmps [.agg [V Z e,.ro [W Z,W Z,W Z] b d],.str g] 0 (memOf [])) (retK Tryz.prog Tryz.f3.results.toList (outK 0 (List.range 0) [] (.k) fun v U N=>(v,U,N)=(q3 (m3 e b d g)))) :=
 propOf (x3 e b d g _) (cn (al hn) (co (fun h0=>lf (cT h0 rfl) rfl) (fun h0=>co (fun h1=>lf (cF h0 (cT h1 rfl)) rfl) (fun h1=>cn (al (cf h1 (cf h0 (ar hn)))) (cn (al (ar (cf h1 (cf h0 (ar hn))))) (cn (al (ar (ar (cf h1 (cf h0 (ar hn)))))) (cn (al (ar (ar (ar (cf h1 (cf h0 (ar hn))))))) (cn (al (ar (ar (ar (ar (cf h1 (cf h0 (ar hn)))))))) (co (fun h2=>lf (cF h0 (cF h1 (cT h2 rfl))) rfl) (fun h2=>co (fun h3=>co (fun h4=>lf (cF h0 (cF h1 (cF h2 (cT h3 (cT h4 rfl))))) rfl) (fun h4=>cn (al (cf h4 (ct h3 (cf h2 (ar (ar (ar (ar (ar (cf h1 (cf h0 (ar hn)))))))))))) (cn (al (ar (cf h4 (ct h3 (cf h2 (ar (ar (ar (ar (ar (cf h1 (cf h0 (ar hn))))))))))))) (cn (al (ar (ar (cf h4 (ct h3 (cf h2 (ar (ar (ar (ar (ar (cf h1 (cf h0 (ar hn)))))))))))))) (lf (cF h0 (cF h1 (cF h2 (cT h3 (cF h4 rfl))))) rfl))))) (fun h3=>cn (al (cf h3 (cf h2 (ar (ar (ar (ar (ar (cf h1 (cf h0 (ar hn))))))))))) (cn (al (ar (cf h3 (cf h2 (ar (ar (ar (ar (ar (cf h1 (cf h0 (ar hn)))))))))))) (cn (al (ar (ar (cf h3 (cf h2 (ar (ar (ar (ar (ar (cf h1 (cf h0 (ar hn))))))))))))) (co (fun h4=>lf (cF h0 (cF h1 (cF h2 (cF h3 (cT h4 rfl))))) rfl) (fun h4=>cn (al (cf h4 (ar (ar (ar (cf h3 (cf h2 (ar (ar (ar (ar (ar (cf h1 (cf h0 (ar hn))))))))))))))) (cn (al (ar (cf h4 (ar (ar (ar (cf h3 (cf h2 (ar (ar (ar (ar (ar (cf h1 (cf h0 (ar hn)))))))))))))))) (cn (al (ar (ar (cf h4 (ar (ar (ar (cf h3 (cf h2 (ar (ar (ar (ar (ar (cf h1 (cf h0 (ar hn))))))))))))))))) (lf (cF h0 (cF h1 (cF h2 (cF h3 (cF h4 rfl))))) rfl))))))))))))))))))
theorem k3:CtrOk Tryz.prog c3 3:=cx (tc k4 (tc k5 (tc k6 (tc k7 (tc k8 (tc k9 (tc k10 (tc k11 (tc k12 (tc k13 tn)))))))))) mix_ok 8 (fn:=Tryz.f3) (c:=(Tryz.f3.body.getD .skip)) (grs:=[]) (rh:=.k) Tryz.func3 rfl (by kernel_rfl) noLam fun vs bs q h hn=>by
 unfold g3 at h
 split at h <;> cases h
 exact ⟨_,rfl,p3 _ _ _ _ (hn _ (List.mem_singleton.2 rfl))⟩
end
end Go.Proofs.YtpfipoimpmlmoaaGreatDoor
