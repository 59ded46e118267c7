/-
 Contracts of functions: models, equations by the kernel, contracts. Conditions: none.
-/
import Derived.Test.YtpfipoimpmlmoaaGreatDoorJSyY
import Derived.Test.YtpfipoimpmlmoaaGreatDoorJSyKo
import Derived.Test.YtpfipoimpmlmoaaGreatDoorJSyIt
import Derived.Test.YtpfipoimpmlmoaaGreatDoorJSyHd
import Derived.Test.YtpfipoimpmlmoaaGreatDoorJSyOr
import Derived.Test.YtpfipoimpmlmoaaGreatDoorJBase
import Derived.KernelRfl
namespace Go.Proofs.YtpfipoimpmlmoaaGreatDoor
open Go Go.Sy
noncomputable section
set_option linter.unusedVariables false
set_option linter.unusedSimpArgs false
set_option maxRecDepth 100000
set_option maxHeartbeats 2000000
attribute [local irreducible] Go.IntKind.wrap Int.tdiv Int.tmod Int.fdiv
open Go.Sy renaming tabOk_cons→tc,tabOk_nil→tn,cnd_need→cn,leaf_of→lf,cnd_gg→cg,cnd_gg2→ch,cond_f→cf,cond_t→ct,cnd_of→co,callOf→ca,roundOf→ro,cnd_not→nn,lams_cons→lc,lams_nil→ln,condT→cT,condF→cF,need1→n1,resOf→rs,and_l→al,and_r→ar,or_gg→og,ctr_of→cx,loop_blk→lb
open Go.IntKind renaming i64→Z
open Go.Sy.SV renaming int→V
open Go.Sy.Kd renaming int→W
def bt64104_0:ByteArray:={ data:=#[0,1,2,2,3,3,3,3,4,4,4,4,4,4,4,4,5,5,5,5,5,5,5,5,5,5,5,5,5,5,5,5,6,6,6,6,6,6,6,6,6,6,6,6,6,6,6,6,6,6,6,6,6,6,6,6,6,6,6,6,6,6,6,6,7,7,7,7,7,7,7,7,7,7,7,7,7,7,7,7,7,7,7,7,7,7,7,7,7,7,7,7,7,7,7,7,7,7,7,7,7,7,7,7,7,7,7,7,7,7,7,7,7,7,7,7,7,7,7,7,7,7,7,7,7,7,7,7,8,8,8,8,8,8,8,8,8,8,8,8,8,8,8,8,8,8,8,8,8,8,8,8,8,8,8,8,8,8,8,8,8,8,8,8,8,8,8,8,8,8,8,8,8,8,8,8,8,8,8,8,8,8,8,8,8,8,8,8,8,8,8,8,8,8,8,8,8,8,8,8,8,8,8,8,8,8,8,8,8,8,8,8,8,8,8,8,8,8,8,8,8,8,8,8,8,8,8,8,8,8,8,8,8,8,8,8,8,8,8,8,8,8,8,8,8,8,8,8,8,8,8,8,8,8,8,8] }
def bt36767_1:ByteArray:={ data:=(([0,1,2,2,3,3,3,3,4,4,4,4,4,4,4,4,5,5,5,5,5,5,5,5,5,5,5,5,5,5,5,5,6,6,6,6,6,6,6,6,6,6,6,6,6,6,6,6,6,6,6,6,6,6,6,6,6,6,6,6,6,6,6,6].append [7,7,7,7,7,7,7,7,7,7,7,7,7,7,7,7,7,7,7,7,7,7,7,7,7,7,7,7,7,7,7,7,7,7,7,7,7,7,7,7,7,7,7,7,7,7,7,7,7,7,7,7,7,7,7,7,7,7,7,7,7,7,7,7]).append ([8,8,8,8,8,8,8,8,8,8,8,8,8,8,8,8,8,8,8,8,8,8,8,8,8,8,8,8,8,8,8,8,8,8,8,8,8,8,8,8,8,8,8,8,8,8,8,8,8,8,8,8,8,8,8,8,8,8,8,8,8,8,8,8].append [8,8,8,8,8,8,8,8,8,8,8,8,8,8,8,8,8,8,8,8,8,8,8,8,8,8,8,8,8,8,8,8,8,8,8,8,8,8,8,8,8,8,8,8,8,8,8,8,8,8,8,8,8,8,8,8,8,8,8,8,8,8,8,8])).toArray }
def bt14506_2:ByteArray:={ data:=(([(0:UInt8),(1:UInt8),(2:UInt8),(2:UInt8),(3:UInt8),(3:UInt8),(3:UInt8),(3:UInt8),(4:UInt8),(4:UInt8),(4:UInt8),(4:UInt8),(4:UInt8),(4:UInt8),(4:UInt8),(4:UInt8),(5:UInt8),(5:UInt8),(5:UInt8),(5:UInt8),(5:UInt8),(5:UInt8),(5:UInt8),(5:UInt8),(5:UInt8),(5:UInt8),(5:UInt8),(5:UInt8),(5:UInt8),(5:UInt8),(5:UInt8),(5:UInt8),(6:UInt8),(6:UInt8),(6:UInt8),(6:UInt8),(6:UInt8),(6:UInt8),(6:UInt8),(6:UInt8),(6:UInt8),(6:UInt8),(6:UInt8),(6:UInt8),(6:UInt8),(6:UInt8),(6:UInt8),(6:UInt8),(6:UInt8),(6:UInt8),(6:UInt8),(6:UInt8),(6:UInt8),(6:UInt8),(6:UInt8),(6:UInt8),(6:UInt8),(6:UInt8),(6:UInt8),(6:UInt8),(6:UInt8),(6:UInt8),(6:UInt8),(6:UInt8)].append [(7:UInt8),(7:UInt8),(7:UInt8),(7:UInt8),(7:UInt8),(7:UInt8),(7:UInt8),(7:UInt8),(7:UInt8),(7:UInt8),(7:UInt8),(7:UInt8),(7:UInt8),(7:UInt8),(7:UInt8),(7:UInt8),(7:UInt8),(7:UInt8),(7:UInt8),(7:UInt8),(7:UInt8),(7:UInt8),(7:UInt8),(7:UInt8),(7:UInt8),(7:UInt8),(7:UInt8),(7:UInt8),(7:UInt8),(7:UInt8),(7:UInt8),(7:UInt8),(7:UInt8),(7:UInt8),(7:UInt8),(7:UInt8),(7:UInt8),(7:UInt8),(7:UInt8),(7:UInt8),(7:UInt8),(7:UInt8),(7:UInt8),(7:UInt8),(7:UInt8),(7:UInt8),(7:UInt8),(7:UInt8),(7:UInt8),(7:UInt8),(7:UInt8),(7:UInt8),(7:UInt8),(7:UInt8),(7:UInt8),(7:UInt8),(7:UInt8),(7:UInt8),(7:UInt8),(7:UInt8),(7:UInt8),(7:UInt8),(7:UInt8),(7:UInt8)]).append ([(8:UInt8),(8:UInt8),(8:UInt8),(8:UInt8),(8:UInt8),(8:UInt8),(8:UInt8),(8:UInt8),(8:UInt8),(8:UInt8),(8:UInt8),(8:UInt8),(8:UInt8),(8:UInt8),(8:UInt8),(8:UInt8),(8:UInt8),(8:UInt8),(8:UInt8),(8:UInt8),(8:UInt8),(8:UInt8),(8:UInt8),(8:UInt8),(8:UInt8),(8:UInt8),(8:UInt8),(8:UInt8),(8:UInt8),(8:UInt8),(8:UInt8),(8:UInt8),(8:UInt8),(8:UInt8),(8:UInt8),(8:UInt8),(8:UInt8),(8:UInt8),(8:UInt8),(8:UInt8),(8:UInt8),(8:UInt8),(8:UInt8),(8:UInt8),(8:UInt8),(8:UInt8),(8:UInt8),(8:UInt8),(8:UInt8),(8:UInt8),(8:UInt8),(8:UInt8),(8:UInt8),(8:UInt8),(8:UInt8),(8:UInt8),(8:UInt8),(8:UInt8),(8:UInt8),(8:UInt8),(8:UInt8),(8:UInt8),(8:UInt8),(8:UInt8)].append [(8:UInt8),(8:UInt8),(8:UInt8),(8:UInt8),(8:UInt8),(8:UInt8),(8:UInt8),(8:UInt8),(8:UInt8),(8:UInt8),(8:UInt8),(8:UInt8),(8:UInt8),(8:UInt8),(8:UInt8),(8:UInt8),(8:UInt8),(8:UInt8),(8:UInt8),(8:UInt8),(8:UInt8),(8:UInt8),(8:UInt8),(8:UInt8),(8:UInt8),(8:UInt8),(8:UInt8),(8:UInt8),(8:UInt8),(8:UInt8),(8:UInt8),(8:UInt8),(8:UInt8),(8:UInt8),(8:UInt8),(8:UInt8),(8:UInt8),(8:UInt8),(8:UInt8),(8:UInt8),(8:UInt8),(8:UInt8),(8:UInt8),(8:UInt8),(8:UInt8),(8:UInt8),(8:UInt8),(8:UInt8),(8:UInt8),(8:UInt8),(8:UInt8),(8:UInt8),(8:UInt8),(8:UInt8),(8:UInt8),(8:UInt8),(8:UInt8),(8:UInt8),(8:UInt8),(8:UInt8),(8:UInt8),(8:UInt8),(8:UInt8),(8:UInt8)])).toArray }
def bt8314_0:ByteArray:={ data:=(([0,1,2,2,3,3,3,3,4,4,4,4,4,4,4,4,5,5,5,5,5,5,5,5,5,5,5,5,5,5,5,5,6,6,6,6,6,6,6,6,6,6,6,6,6,6,6,6,6,6,6,6,6,6,6,6,6,6,6,6,6,6,6,6].append [7,7,7,7,7,7,7,7,7,7,7,7,7,7,7,7,7,7,7,7,7,7,7,7,7,7,7,7,7,7,7,7,7,7,7,7,7,7,7,7,7,7,7,7,7,7,7,7,7,7,7,7,7,7,7,7,7,7,7,7,7,7,7,7]).append ([8,8,8,8,8,8,8,8,8,8,8,8,8,8,8,8,8,8,8,8,8,8,8,8,8,8,8,8,8,8,8,8,8,8,8,8,8,8,8,8,8,8,8,8,8,8,8,8,8,8,8,8,8,8,8,8,8,8,8,8,8,8,8,8].append [8,8,8,8,8,8,8,8,8,8,8,8,8,8,8,8,8,8,8,8,8,8,8,8,8,8,8,8,8,8,8,8,8,8,8,8,8,8,8,8,8,8,8,8,8,8,8,8,8,8,8,8,8,8,8,8,8,8,8,8,8,8,8,8])).toArray }
def bt78892_1:ByteArray:={ data:=#[0,1,2,2,3,3,3,3,4,4,4,4,4,4,4,4,5,5,5,5,5,5,5,5,5,5,5,5,5,5,5,5,6,6,6,6,6,6,6,6,6,6,6,6,6,6,6,6,6,6,6,6,6,6,6,6,6,6,6,6,6,6,6,6,7,7,7,7,7,7,7,7,7,7,7,7,7,7,7,7,7,7,7,7,7,7,7,7,7,7,7,7,7,7,7,7,7,7,7,7,7,7,7,7,7,7,7,7,7,7,7,7,7,7,7,7,7,7,7,7,7,7,7,7,7,7,7,7,8,8,8,8,8,8,8,8,8,8,8,8,8,8,8,8,8,8,8,8,8,8,8,8,8,8,8,8,8,8,8,8,8,8,8,8,8,8,8,8,8,8,8,8,8,8,8,8,8,8,8,8,8,8,8,8,8,8,8,8,8,8,8,8,8,8,8,8,8,8,8,8,8,8,8,8,8,8,8,8,8,8,8,8,8,8,8,8,8,8,8,8,8,8,8,8,8,8,8,8,8,8,8,8,8,8,8,8,8,8,8,8,8,8,8,8,8,8,8,8,8,8,8,8,8,8,8,8] }
def bt67477_2:ByteArray:={ data:=(([(0:UInt8),(1:UInt8),(2:UInt8),(2:UInt8),(3:UInt8),(3:UInt8),(3:UInt8),(3:UInt8),(4:UInt8),(4:UInt8),(4:UInt8),(4:UInt8),(4:UInt8),(4:UInt8),(4:UInt8),(4:UInt8),(5:UInt8),(5:UInt8),(5:UInt8),(5:UInt8),(5:UInt8),(5:UInt8),(5:UInt8),(5:UInt8),(5:UInt8),(5:UInt8),(5:UInt8),(5:UInt8),(5:UInt8),(5:UInt8),(5:UInt8),(5:UInt8),(6:UInt8),(6:UInt8),(6:UInt8),(6:UInt8),(6:UInt8),(6:UInt8),(6:UInt8),(6:UInt8),(6:UInt8),(6:UInt8),(6:UInt8),(6:UInt8),(6:UInt8),(6:UInt8),(6:UInt8),(6:UInt8),(6:UInt8),(6:UInt8),(6:UInt8),(6:UInt8),(6:UInt8),(6:UInt8),(6:UInt8),(6:UInt8),(6:UInt8),(6:UInt8),(6:UInt8),(6:UInt8),(6:UInt8),(6:UInt8),(6:UInt8),(6:UInt8)].append [(7:UInt8),(7:UInt8),(7:UInt8),(7:UInt8),(7:UInt8),(7:UInt8),(7:UInt8),(7:UInt8),(7:UInt8),(7:UInt8),(7:UInt8),(7:UInt8),(7:UInt8),(7:UInt8),(7:UInt8),(7:UInt8),(7:UInt8),(7:UInt8),(7:UInt8),(7:UInt8),(7:UInt8),(7:UInt8),(7:UInt8),(7:UInt8),(7:UInt8),(7:UInt8),(7:UInt8),(7:UInt8),(7:UInt8),(7:UInt8),(7:UInt8),(7:UInt8),(7:UInt8),(7:UInt8),(7:UInt8),(7:UInt8),(7:UInt8),(7:UInt8),(7:UInt8),(7:UInt8),(7:UInt8),(7:UInt8),(7:UInt8),(7:UInt8),(7:UInt8),(7:UInt8),(7:UInt8),(7:UInt8),(7:UInt8),(7:UInt8),(7:UInt8),(7:UInt8),(7:UInt8),(7:UInt8),(7:UInt8),(7:UInt8),(7:UInt8),(7:UInt8),(7:UInt8),(7:UInt8),(7:UInt8),(7:UInt8),(7:UInt8),(7:UInt8)]).append ([(8:UInt8),(8:UInt8),(8:UInt8),(8:UInt8),(8:UInt8),(8:UInt8),(8:UInt8),(8:UInt8),(8:UInt8),(8:UInt8),(8:UInt8),(8:UInt8),(8:UInt8),(8:UInt8),(8:UInt8),(8:UInt8),(8:UInt8),(8:UInt8),(8:UInt8),(8:UInt8),(8:UInt8),(8:UInt8),(8:UInt8),(8:UInt8),(8:UInt8),(8:UInt8),(8:UInt8),(8:UInt8),(8:UInt8),(8:UInt8),(8:UInt8),(8:UInt8),(8:UInt8),(8:UInt8),(8:UInt8),(8:UInt8),(8:UInt8),(8:UInt8),(8:UInt8),(8:UInt8),(8:UInt8),(8:UInt8),(8:UInt8),(8:UInt8),(8:UInt8),(8:UInt8),(8:UInt8),(8:UInt8),(8:UInt8),(8:UInt8),(8:UInt8),(8:UInt8),(8:UInt8),(8:UInt8),(8:UInt8),(8:UInt8),(8:UInt8),(8:UInt8),(8:UInt8),(8:UInt8),(8:UInt8),(8:UInt8),(8:UInt8),(8:UInt8)].append [(8:UInt8),(8:UInt8),(8:UInt8),(8:UInt8),(8:UInt8),(8:UInt8),(8:UInt8),(8:UInt8),(8:UInt8),(8:UInt8),(8:UInt8),(8:UInt8),(8:UInt8),(8:UInt8),(8:UInt8),(8:UInt8),(8:UInt8),(8:UInt8),(8:UInt8),(8:UInt8),(8:UInt8),(8:UInt8),(8:UInt8),(8:UInt8),(8:UInt8),(8:UInt8),(8:UInt8),(8:UInt8),(8:UInt8),(8:UInt8),(8:UInt8),(8:UInt8),(8:UInt8),(8:UInt8),(8:UInt8),(8:UInt8),(8:UInt8),(8:UInt8),(8:UInt8),(8:UInt8),(8:UInt8),(8:UInt8),(8:UInt8),(8:UInt8),(8:UInt8),(8:UInt8),(8:UInt8),(8:UInt8),(8:UInt8),(8:UInt8),(8:UInt8),(8:UInt8),(8:UInt8),(8:UInt8),(8:UInt8),(8:UInt8),(8:UInt8),(8:UInt8),(8:UInt8),(8:UInt8),(8:UInt8),(8:UInt8),(8:UInt8),(8:UInt8)])).toArray }
/-! ### shotline/shotlinebase.Within -/
def m25 (a b d:Int):Bool :=
 (bif (decide (b≤a)) then (decide (a≤d)) else false)
def q25 (r:Bool):SV × List Blk × List Blk:=(.bool r,[],[])
def g25:GF:=fun vs bs=>match vs,bs with
 | [V Z a,V Z b,V Z d],[]=>some (rs 0 (q25 (m25 a b d)) [])
 | _,_=>none
def c25:Ctr:=genC [.k,.k,.k] g25
theorem k25:CtrOk Tryz.prog c25 25:=cx tn mix_ok 8 (fn:=Tryz.f25) (c:=(Tryz.f25.body.getD .skip)) (grs:=[]) (rh:=.k) Tryz.func25 rfl (by kernel_rfl) noLam fun vs bs q h hn=>by
 unfold g25 at h
 split at h <;> cases h
 rename_i a b d
 exact ⟨_,rfl,ca (fun R=>(R (.bool (bif (decide (b≤a)) then (decide (a≤d)) else false)) [] [])) (fun R=>by kernel_rfl) (lf rfl rfl)⟩
/-! ### shotline/site.within -/
def m27 (a b d:Int):Bool :=
 (bif (decide (b≤a)) then (decide (a≤d)) else false)
def q27 (r:Bool):SV × List Blk × List Blk:=(.bool r,[],[])
def g27:GF:=fun vs bs=>match vs,bs with
 | [V Z a,V Z b,V Z d],[]=>some (rs 0 (q27 (m27 a b d)) [])
 | _,_=>none
def c27:Ctr:=genC [.k,.k,.k] g27
theorem k27:CtrOk Tryz.prog c27 27:=cx tn mix_ok 8 (fn:=Tryz.f27) (c:=(Tryz.f27.body.getD .skip)) (grs:=[]) (rh:=.k) Tryz.func27 rfl (by kernel_rfl) noLam fun vs bs q h hn=>by
 unfold g27 at h
 split at h <;> cases h
 rename_i a b d
 exact ⟨_,rfl,ca (fun R=>(R (.bool (bif (decide (b≤a)) then (decide (a≤d)) else false)) [] [])) (fun R=>by kernel_rfl) (lf rfl rfl)⟩
/-! ### shotline/site.down -/
def m65 (b a:Int):Int :=
 (cond (decide (b<(0:Int))) (Z.wrap (0 - (Z.wrap ((Z.wrap ((Z.wrap ((Z.wrap (0 - b))+a)) - 1)).tdiv a)))) (Z.wrap (b.tdiv a)))
def n65 (b a:Int):Bool :=
 (cond (decide (b<(0:Int))) ((bif (decide (a=0)) then false else true)&&true) ((bif (decide (a=0)) then false else true)&&true))
def q65 (r:Int):SV × List Blk × List Blk:=(V Z r,[],[])
def g65:GF:=fun vs bs=>match vs,bs with
 | [V Z b,V Z a],[]=>some (rs 0 (q65 (m65 b a)) [n65 b a])
 | _,_=>none
def c65:Ctr:=genC [.k,.k] g65
theorem k65:CtrOk Tryz.prog c65 65:=cx tn mix_ok 8 (fn:=Tryz.f65) (c:=(Tryz.f65.body.getD .skip)) (grs:=[]) (rh:=.k) Tryz.func65 rfl (by kernel_rfl) noLam fun vs bs q h hn=>by
 unfold g65 at h
 split at h <;> cases h
 rename_i b a
 have hn:=n1 hn
 exact ⟨_,rfl,ca (fun R=>(cnd (decide (b<(0:Int)))
 (cnd (bif (decide (a=0)) then false else true)
 (R (V Z (Z.wrap (0 - (Z.wrap ((Z.wrap ((Z.wrap ((Z.wrap (0 - b))+a)) - 1)).tdiv a))))) [] [])
  False)
 (cnd (bif (decide (a=0)) then false else true)
 (R (V Z (Z.wrap (b.tdiv a))) [] [])
  False))) (fun R=>by kernel_rfl) (co (fun h0=>cn (al (ct h0 hn)) (lf (cT h0 rfl) rfl)) (fun h0=>cn (al (cf h0 hn)) (lf (cF h0 rfl) rfl)))⟩
/-! ### shotline/site.negated -/
def m88 (a b:Int):Int × Int :=
 ((Z.wrap (0 - b)),(Z.wrap (0 - a)))
def q88 (r:Int × Int):SV × List Blk × List Blk:=(.agg [V Z r.1,V Z r.2],[],[])
def g88:GF:=fun vs bs=>match vs,bs with
 | [.agg [V Z a,V Z b]],[]=>some (rs 0 (q88 (m88 a b)) [])
 | _,_=>none
def c88:Ctr:=genC [.k] g88
theorem k88:CtrOk Tryz.prog c88 88:=cx tn mix_ok 8 (fn:=Tryz.f88) (c:=(Tryz.f88.body.getD .skip)) (grs:=[]) (rh:=.k) Tryz.func88 rfl (by kernel_rfl) noLam fun vs bs q h hn=>by
 unfold g88 at h
 split at h <;> cases h
 rename_i a b
 exact ⟨_,rfl,ca (fun R=>(R (.agg [V Z (Z.wrap (0 - b)),V Z (Z.wrap (0 - a))]) [] [])) (fun R=>by kernel_rfl) (lf rfl rfl)⟩
/-! ### shotline/site.root -/
def l85_0 (d:Int):Nat→Int→Int→Option (Int)
 | 0,_,_=>none
 | f+1,g,a=>(cond (decide (a<g)) (cond (bif (decide (a=0)) then false else true) (l85_0 d f a (Z.wrap ((Z.wrap (a+(Z.wrap (d.tdiv a)))).tdiv 2))) none) (some g))
abbrev o85_0 (d g a:Int):Option (Int):=l85_0 d (d.toNat+g.toNat+a.toNat+8) g a
def e85_0 (d r:Int) (K:XR):Prop:=K (XE.exit 0) [V Z r] []
def g85_0:LSum:=fun s k=>match czv 0 23 [0,3,4] 0 [] s with
 | some ([V Z d,V Z g,V Z a],[])=>needs [(o85_0 d g a).isSome] (e85_0 d ((o85_0 d g a).getD default) fun e vs bs=>inBlk 0 k e (mkSt 0 23 [3] vs 0 bs))
 | _=>False
theorem z85_0:LOk Tryz.prog g85_0 (.block 0 (bodyAt (Tryz.f85.body.getD .skip) 0)):=by
 refine lb (ι:=Int × Int × Int) (fuel:=8) (na:=0) (nt:=23) (nx:=0) (Lh:=[0,3,4]) (Le:=[3]) (gl:=[]) tn mix_ok noLam rfl (fun f (d,g,a) K=>GG default (e85_0 d) K (l85_0 d f g a)) (fun (d,g,a)=>[V Z d,V Z g,V Z a]) (fun (d,g,a)=>[]) (fun (_,_,_) K=>gg_none) ?_ ?_
 ·rintro f ⟨d,g,a⟩ K hG
  refine ro (fun R=>(cnd (decide (a<g))
 (cnd (bif (decide (a=0)) then false else true)
 (R (XE.normal) [V Z d,V Z a,V Z (Z.wrap ((Z.wrap (a+(Z.wrap (d.tdiv a)))).tdiv 2))] [])
  False)
 (R (XE.exit 0) [V Z g] []))) (fun R=>by kernel_rfl) ?_
  exact ch hG (fun h0=>cg h0 fun h1=>⟨(_,_,_),rfl,rfl,h1⟩) (fun h0=>h0.2)
 ·intro s k h
  unfold g85_0 at h
  split at h <;> try exact h.elim
  rename_i e1
  rw [needs_iff] at h
  exact ⟨_,e1,_,(_,_,_),rfl,rfl,h.1 _ (List.mem_singleton.2 rfl),h.2⟩
def m85 (b:Int):Int :=
 (cond (decide (b<(2:Int))) b ((o85_0 b b (Z.wrap ((Z.wrap (b+1)).tdiv 2))).getD default))
def n85 (b:Int):Bool :=
 (cond (decide (b<(2:Int))) true (((o85_0 b b (Z.wrap ((Z.wrap (b+1)).tdiv 2))).isSome)&&true))
def q85 (r:Int):SV × List Blk × List Blk:=(V Z r,[],[])
def g85:GF:=fun vs bs=>match vs,bs with
 | [V Z b],[]=>some (rs 0 (q85 (m85 b)) [n85 b])
 | _,_=>none
def c85:Ctr:=genC [.k] g85
theorem k85:CtrOk Tryz.prog c85 85:=cx tn mix_ok 8 (fn:=Tryz.f85) (c:=(Tryz.f85.body.getD .skip)) (grs:=[]) (rh:=.k) Tryz.func85 rfl (by kernel_rfl) (lam_of rfl (lc z85_0 ln)) fun vs bs q h hn=>by
 unfold g85 at h
 split at h <;> cases h
 rename_i b
 have hn:=n1 hn
 exact ⟨_,rfl,ca (fun R=>(cnd (decide (b<(2:Int)))
 (R (V Z b) [] [])
 (cnd ((o85_0 b b (Z.wrap ((Z.wrap (b+1)).tdiv 2))).isSome)
 (R (V Z ((o85_0 b b (Z.wrap ((Z.wrap (b+1)).tdiv 2))).getD default)) [] [])
  False))) (fun R=>by kernel_rfl) (co (fun h0=>lf (cT h0 rfl) rfl) (fun h0=>cn (al (cf h0 hn)) (lf (cF h0 rfl) rfl)))⟩

/-! ### shotline/site.isMinute -/
def m37 (a:Int):Bool :=
 (m27 a 0 1000000)
def q37 (r:Bool):SV × List Blk × List Blk:=(.bool r,[],[])
def g37:GF:=fun vs bs=>match vs,bs with
 | [V Z a],[]=>some (rs 0 (q37 (m37 a)) [])
 | _,_=>none
def c37:Ctr:=genC [.k] g37
theorem k37:CtrOk Tryz.prog c37 37:=cx (tc k27 tn) mix_ok 8 (fn:=Tryz.f37) (c:=(Tryz.f37.body.getD .skip)) (grs:=[]) (rh:=.k) Tryz.func37 rfl (by kernel_rfl) noLam fun vs bs q h hn=>by
 unfold g37 at h
 split at h <;> cases h
 rename_i a
 exact ⟨_,rfl,ca (fun R=>(R (.bool (m27 a 0 1000000)) [] [])) (fun R=>by kernel_rfl) (lf rfl rfl)⟩
/-! ### shotline/site.isWave -/
def m30 (a b d:Int):Bool :=
 (bif (bif (m27 a 0 100000) then (m27 b 1 100000) else false) then (m27 d 0 4095) else false)
def q30 (r:Bool):SV × List Blk × List Blk:=(.bool r,[],[])
def g30:GF:=fun vs bs=>match vs,bs with
 | [.agg [V Z a,V Z b,V Z d]],[]=>some (rs 0 (q30 (m30 a b d)) [])
 | _,_=>none
def c30:Ctr:=genC [.k] g30
theorem k30:CtrOk Tryz.prog c30 30:=cx (tc k27 tn) mix_ok 8 (fn:=Tryz.f30) (c:=(Tryz.f30.body.getD .skip)) (grs:=[]) (rh:=.k) Tryz.func30 rfl (by kernel_rfl) noLam fun vs bs q h hn=>by
 unfold g30 at h
 split at h <;> cases h
 rename_i a b d
 exact ⟨_,rfl,ca (fun R=>(R (.bool (bif (bif (m27 a 0 100000) then (m27 b 1 100000) else false) then (m27 d 0 4095) else false)) [] [])) (fun R=>by kernel_rfl) (lf rfl rfl)⟩
/-! ### shotline/site.up -/
def m66 (a b:Int):Int :=
 (Z.wrap (0 - (m65 (Z.wrap (0 - a)) b)))
def n66 (a b:Int):Bool :=
 ((n65 (Z.wrap (0 - a)) b)&&true)
def q66 (r:Int):SV × List Blk × List Blk:=(V Z r,[],[])
def g66:GF:=fun vs bs=>match vs,bs with
 | [V Z a,V Z b],[]=>some (rs 0 (q66 (m66 a b)) [n66 a b])
 | _,_=>none
def c66:Ctr:=genC [.k,.k] g66
theorem k66:CtrOk Tryz.prog c66 66:=cx (tc k65 tn) mix_ok 8 (fn:=Tryz.f66) (c:=(Tryz.f66.body.getD .skip)) (grs:=[]) (rh:=.k) Tryz.func66 rfl (by kernel_rfl) noLam fun vs bs q h hn=>by
 unfold g66 at h
 split at h <;> cases h
 rename_i a b
 have hn:=n1 hn
 exact ⟨_,rfl,ca (fun R=>(cnd (n65 (Z.wrap (0 - a)) b)
 (R (V Z (Z.wrap (0 - (m65 (Z.wrap (0 - a)) b)))) [] [])
 False)) (fun R=>by kernel_rfl) (cn (al hn) (lf rfl rfl))⟩
/-! ### shotline/site.rootUp -/
def m86 (a:Int):Int :=
 (cond (decide ((Z.wrap ((m85 a) * (m85 a)))<a)) (Z.wrap ((m85 a)+1)) (m85 a))
def n86 (a:Int):Bool :=
 ((n85 a)&&true)
def q86 (r:Int):SV × List Blk × List Blk:=(V Z r,[],[])
def g86:GF:=fun vs bs=>match vs,bs with
 | [V Z a],[]=>some (rs 0 (q86 (m86 a)) [n86 a])
 | _,_=>none
def c86:Ctr:=genC [.k] g86
theorem k86:CtrOk Tryz.prog c86 86:=cx (tc k85 tn) mix_ok 8 (fn:=Tryz.f86) (c:=(Tryz.f86.body.getD .skip)) (grs:=[]) (rh:=.k) Tryz.func86 rfl (by kernel_rfl) noLam fun vs bs q h hn=>by
 unfold g86 at h
 split at h <;> cases h
 rename_i a
 have hn:=n1 hn
 exact ⟨_,rfl,ca (fun R=>(cnd (n85 a)
 (cnd (decide ((Z.wrap ((m85 a) * (m85 a)))<a))
 (R (V Z (Z.wrap ((m85 a)+1))) [] [])
 (R (V Z (m85 a)) [] []))
 False)) (fun R=>by kernel_rfl) (cn (al hn) (co (fun h0=>lf (cT h0 rfl) rfl) (fun h0=>lf (cF h0 rfl) rfl)))⟩
/-! ### shotline/shotlineref08.CheckWave -/
def m26 (a b d:Int):Int :=
 (cond (bif (bif (bif (m25 a 0 100000) then false else true) then true else (bif (m25 b 1 100000) then false else true)) then true else (bif (m25 d 0 4095) then false else true)) 2 0)
def q26 (r:Int):SV × List Blk × List Blk:=(V Z r,[],[])
def g26:GF:=fun vs bs=>match vs,bs with
 | [.agg [V Z a,V Z b,V Z d]],[]=>some (rs 0 (q26 (m26 a b d)) [])
 | _,_=>none
def c26:Ctr:=genC [.k] g26
theorem k26:CtrOk Tryz.prog c26 26:=cx (tc k25 tn) mix_ok 8 (fn:=Tryz.f26) (c:=(Tryz.f26.body.getD .skip)) (grs:=[]) (rh:=.k) Tryz.func26 rfl (by kernel_rfl) noLam fun vs bs q h hn=>by
 unfold g26 at h
 split at h <;> cases h
 rename_i a b d
 exact ⟨_,rfl,ca (fun R=>(cnd (bif (bif (bif (m25 a 0 100000) then false else true) then true else (bif (m25 b 1 100000) then false else true)) then true else (bif (m25 d 0 4095) then false else true))
 (R (V Z 2) [] [])
 (R (V Z 0) [] []))) (fun R=>by kernel_rfl) (co (fun h0=>lf (cT h0 rfl) rfl) (fun h0=>lf (cF h0 rfl) rfl))⟩

/-! ### shotline/site.angle -/
def m63 (e a b d:Int):Int × Int :=
 ((m65 ((Z.wrap ((Z.wrap (b * a))+(Z.wrap (4096 * d)))).tmod (Z.wrap (4096 * a))) a),(m66 ((Z.wrap ((Z.wrap (b * a))+(Z.wrap (4096 * d)))).tmod (Z.wrap (4096 * a))) a))
def n63 (e a b d:Int):Bool :=
 ((bif (decide ((Z.wrap (4096 * a))=0)) then false else true)&&((n65 ((Z.wrap ((Z.wrap (b * a))+(Z.wrap (4096 * d)))).tmod (Z.wrap (4096 * a))) a)&&((n66 ((Z.wrap ((Z.wrap (b * a))+(Z.wrap (4096 * d)))).tmod (Z.wrap (4096 * a))) a)&&true)))
def q63 (r:Int × Int):SV × List Blk × List Blk:=(.agg [V Z r.1,V Z r.2],[],[])
def g63:GF:=fun vs bs=>match vs,bs with
 | [.agg [V Z e,V Z a,V Z b],V Z d],[]=>some (rs 0 (q63 (m63 e a b d)) [n63 e a b d])
 | _,_=>none
def c63:Ctr:=genC [.k,.k] g63
theorem k63:CtrOk Tryz.prog c63 63:=cx (tc k65 (tc k66 tn)) mix_ok 8 (fn:=Tryz.f63) (c:=(Tryz.f63.body.getD .skip)) (grs:=[]) (rh:=.k) Tryz.func63 rfl (by kernel_rfl) noLam fun vs bs q h hn=>by
 unfold g63 at h
 split at h <;> cases h
 rename_i e a b d
 have hn:=n1 hn
 exact ⟨_,rfl,ca (fun R => 
 let a0:=((Z.wrap ((Z.wrap (b * a))+(Z.wrap (4096 * d)))).tmod (Z.wrap (4096 * a)))
 (cnd (bif (decide ((Z.wrap (4096 * a))=0)) then false else true)
 (cnd (n65 a0 a)
 (cnd (n66 a0 a)
 (R (.agg [V Z (m65 a0 a),V Z (m66 a0 a)]) [] [])
  False)
  False)
 False)) (fun R=>by kernel_rfl) (cn (al hn) (cn (al (ar hn)) (cn (al (ar (ar hn))) (lf rfl rfl))))⟩
/-! ### shotline/shotlinelaw08.few -/
def m5 (e:Int) (b:Nat) (d:Dat):Bool :=
 (bif (decide ((↑b:Int)≤4)) then true else (bif (decide ((10:Int)<(↑b:Int))) then (decide ((↑b:Int)≤12)) else false))
def q5 (r:Bool):SV × List Blk × List Blk:=(.bool r,[],[])
def g5:GF:=fun vs bs=>match vs,bs with
 | [.agg [V Z e,.ro [W Z,W Z,W Z] b d]],[]=>some (rs 0 (q5 (m5 e b d)) [])
 | _,_=>none
def c5:Ctr:=genC [.a [.k,.ro [W Z,W Z,W Z]]] g5
theorem k5:CtrOk Tryz.prog c5 5:=cx tn mix_ok 8 (fn:=Tryz.f5) (c:=(Tryz.f5.body.getD .skip)) (grs:=[]) (rh:=.k) Tryz.func5 rfl (by kernel_rfl) noLam fun vs bs q h hn=>by
 unfold g5 at h
 split at h <;> cases h
 rename_i e b d
 exact ⟨_,rfl,ca (fun R=>(R (.bool (bif (decide ((↑b:Int)≤4)) then true else (bif (decide ((10:Int)<(↑b:Int))) then (decide ((↑b:Int)≤12)) else false))) [] [])) (fun R=>by kernel_rfl) (lf rfl rfl)⟩
/-! ### shotline/shotlineref08.CheckTide -/
def l8_0 (g:Int) (d:Nat) (b:Dat):Nat→Int→Option (Bool × (Int) × (Unit))
 | 0,_=>none
 | f+1,j=>(cond (decide (j<(↑d:Int))) (cond (decide (0≤j∧j<↑d)) (cond (bif (decide ((m26 (b.ii j.toNat 0) (b.ii j.toNat (0+1)) (b.ii j.toNat ((0+1)+1)))=0)) then false else true) (some (true,(m26 (b.ii j.toNat 0) (b.ii j.toNat (0+1)) (b.ii j.toNat ((0+1)+1))),default)) (l8_0 g d b f (Z.wrap (j+1)))) none) (some (false,default,())))
abbrev o8_0 (g:Int) (d:Nat) (b:Dat) (j:Int):Option (Bool × (Int) × (Unit)):=l8_0 g d b (j.toNat+g.toNat+d+8) j
def e8_0 (g:Int) (d:Nat) (b:Dat) (r:Bool × (Int) × (Unit)) (K:XR):Prop:=cnd r.1 (K (XE.ret) [V Z r.2.1] [.cells 24 [V Z g,.ro [W Z,W Z,W Z] d b]]) (K (XE.exit 0) [.any] [.cells 24 [V Z g,.ro [W Z,W Z,W Z] d b]])
def g8_0:LSum:=fun s k=>match czv 0 29 [1,3] 1 [] s with
 | some ([.ptr 0 0,V Z j],[.cells 24 [V Z g,.ro [W Z,W Z,W Z] d b]])=>needs [(o8_0 g d b j).isSome] (e8_0 g d b ((o8_0 g d b j).getD default) fun e vs bs=>inBlk 0 k e (mkSt 0 29 [2] vs 1 bs))
 | _=>False
theorem z8_0:LOk Tryz.prog g8_0 (.block 0 (bodyAt (Tryz.f8.body.getD .skip) 0)):=by
 refine lb (ι:=Int × Int × Nat × Dat) (fuel:=8) (na:=0) (nt:=29) (nx:=1) (Lh:=[1,3]) (Le:=[2]) (gl:=[]) (tc k25 (tc k26 tn)) mix_ok noLam rfl (fun f (j,g,d,b) K=>GG default (e8_0 g d b) K (l8_0 g d b f j)) (fun (j,g,d,b)=>[.ptr 0 0,V Z j]) (fun (j,g,d,b)=>[.cells 24 [V Z g,.ro [W Z,W Z,W Z] d b]]) (fun (_,_,_,_) K=>gg_none) ?_ ?_
 ·rintro f ⟨j,g,d,b⟩ K hG
  refine ro (fun R => 
 let a0:=(m26 (b.ii j.toNat 0) (b.ii j.toNat (0+1)) (b.ii j.toNat ((0+1)+1)))
 (cnd (decide (j<(↑d:Int)))
 (cnd (decide (0≤j∧j<↑d))
 (cnd (bif (decide (a0=0)) then false else true)
 (R (XE.ret) [V Z a0] [.cells 24 [V Z g,.ro [W Z,W Z,W Z] d b]])
 (R (XE.normal) [.ptr 0 0,V Z (Z.wrap (j+1))] [.cells 24 [V Z g,.ro [W Z,W Z,W Z] d b]]))
  False)
 (R (XE.exit 0) [.any] [.cells 24 [V Z g,.ro [W Z,W Z,W Z] d b]]))) (fun R=>by kernel_rfl) ?_
  exact ch hG (fun h0=>cg h0 fun h1=>ch h1 (fun h2=>h2.2) (fun h2=>⟨(_,_,_,_),rfl,rfl,h2⟩)) (fun h0=>h0.2)
 ·intro s k h
  unfold g8_0 at h
  split at h <;> try exact h.elim
  rename_i e1
  rw [needs_iff] at h
  exact ⟨_,e1,_,(_,_,_,_),rfl,rfl,h.1 _ (List.mem_singleton.2 rfl),h.2⟩
def m8 (l:Int) (i:Nat) (m:Dat):Int :=
 (cond (bif (m25 l (-100000) 100000) then false else true) 2 (cond (decide ((10:Int)<(↑i:Int))) 8 (cond ((o8_0 l i m 0).getD default).1 ((o8_0 l i m 0).getD default).2.1 0)))
def n8 (l:Int) (i:Nat) (m:Dat):Bool :=
 (cond (bif (m25 l (-100000) 100000) then false else true) true (cond (decide ((10:Int)<(↑i:Int))) true (((o8_0 l i m 0).isSome)&&true)))
def q8 (r:Int):SV × List Blk × List Blk:=(V Z r,[],[])
def g8:GF:=fun vs bs=>match vs,bs with
 | [.agg [V Z l,.ro [W Z,W Z,W Z] i m]],[]=>some (rs 0 (q8 (m8 l i m)) [n8 l i m])
 | _,_=>none
def c8:Ctr:=genC [.a [.k,.ro [W Z,W Z,W Z]]] g8
theorem k8:CtrOk Tryz.prog c8 8:=cx (tc k25 (tc k26 tn)) mix_ok 8 (fn:=Tryz.f8) (c:=(Tryz.f8.body.getD .skip)) (grs:=[]) (rh:=.k) Tryz.func8 rfl (by kernel_rfl) (lam_of rfl (lc z8_0 ln)) fun vs bs q h hn=>by
 unfold g8 at h
 split at h <;> cases h
 rename_i l i m
 have hn:=n1 hn
 exact ⟨_,rfl,ca (fun R=>(cnd (bif (m25 l (-100000) 100000) then false else true)
 (R (V Z 2) [] [])
 (cnd (decide ((10:Int)<(↑i:Int)))
 (R (V Z 8) [] [])
 (cnd ((o8_0 l i m 0).isSome)
 (cnd ((o8_0 l i m 0).getD default).1
 (R (V Z ((o8_0 l i m 0).getD default).2.1) [] [])
 (R (V Z 0) [] []))
  False)))) (fun R=>by kernel_rfl) (co (fun h0=>lf (cT h0 rfl) rfl) (fun h0=>co (fun h1=>lf (cF h0 (cT h1 rfl)) rfl) (fun h1=>cn (al (cf h1 (cf h0 hn))) (co (fun h2=>lf (cF h0 (cF h1 (cT h2 rfl))) rfl) (fun h2=>lf (cF h0 (cF h1 (cF h2 rfl))) rfl)))))⟩

/-! ### (shotline/site.ray).turned -/
def m117 (a b d e g i j l:Int):Int × Int × Int × Int :=
 ((imax 0 (m65 (Z.wrap ((Z.wrap (a * g)) - (Z.wrap (e * l)))) 100000000)),(m66 (Z.wrap ((Z.wrap (b * i)) - (Z.wrap (d * j)))) 100000000),(m65 (Z.wrap ((Z.wrap (d * g))+(Z.wrap (a * j)))) 100000000),(imin 100000000 (m66 (Z.wrap ((Z.wrap (e * i))+(Z.wrap (b * l)))) 100000000)))
def n117 (a b d e g i j l:Int):Bool :=
 ((n65 (Z.wrap ((Z.wrap (a * g)) - (Z.wrap (e * l)))) 100000000)&&((n66 (Z.wrap ((Z.wrap (b * i)) - (Z.wrap (d * j)))) 100000000)&&((n65 (Z.wrap ((Z.wrap (d * g))+(Z.wrap (a * j)))) 100000000)&&((n66 (Z.wrap ((Z.wrap (e * i))+(Z.wrap (b * l)))) 100000000)&&true))))
def q117 (r:Int × Int × Int × Int):SV × List Blk × List Blk:=(.agg [V Z r.1,V Z r.2.1,V Z r.2.2.1,V Z r.2.2.2],[],[])
def g117:GF:=fun vs bs=>match vs,bs with
 | [.agg [V Z a,V Z b,V Z d,V Z e],.agg [V Z g,V Z i,V Z j,V Z l]],[]=>some (rs 0 (q117 (m117 a b d e g i j l)) [n117 a b d e g i j l])
 | _,_=>none
def c117:Ctr:=genC [.k,.k] g117
theorem k117:CtrOk Tryz.prog c117 117:=cx (tc k65 (tc k66 tn)) mix_ok 8 (fn:=Tryz.f117) (c:=(Tryz.f117.body.getD .skip)) (grs:=[]) (rh:=.k) Tryz.func117 rfl (by kernel_rfl) noLam fun vs bs q h hn=>by
 unfold g117 at h
 split at h <;> cases h
 rename_i a b d e g i j l
 have hn:=n1 hn
 exact ⟨_,rfl,ca (fun R=>(cnd (n65 (Z.wrap ((Z.wrap (a * g)) - (Z.wrap (e * l)))) 100000000)
 (cnd (n66 (Z.wrap ((Z.wrap (b * i)) - (Z.wrap (d * j)))) 100000000)
 (cnd (n65 (Z.wrap ((Z.wrap (d * g))+(Z.wrap (a * j)))) 100000000)
 (cnd (n66 (Z.wrap ((Z.wrap (e * i))+(Z.wrap (b * l)))) 100000000)
 (R (.agg [V Z (imax 0 (m65 (Z.wrap ((Z.wrap (a * g)) - (Z.wrap (e * l)))) 100000000)),V Z (m66 (Z.wrap ((Z.wrap (b * i)) - (Z.wrap (d * j)))) 100000000),V Z (m65 (Z.wrap ((Z.wrap (d * g))+(Z.wrap (a * j)))) 100000000),V Z (imin 100000000 (m66 (Z.wrap ((Z.wrap (e * i))+(Z.wrap (b * l)))) 100000000))]) [] [])
   False)
  False)
  False)
 False)) (fun R=>by kernel_rfl) (cn (al hn) (cn (al (ar hn)) (cn (al (ar (ar hn))) (cn (al (ar (ar (ar hn)))) (lf rfl rfl)))))⟩

/-! ### shotline/site.CheckTide$1 -/
def m29 (a b d:Int):Bool :=
 (bif (m30 a b d) then false else true)
def q29 (r:Bool):SV × List Blk × List Blk:=(.bool r,[],[])
def g29:GF:=fun vs bs=>match vs,bs with
 | [.agg [V Z a,V Z b,V Z d]],[]=>some (rs 0 (q29 (m29 a b d)) [])
 | _,_=>none
def c29:Ctr:=genC [.k] g29
theorem k29:CtrOk Tryz.prog c29 29:=cx (tc k30 tn) mix_ok 8 (fn:=Tryz.f29) (c:=(Tryz.f29.body.getD .skip)) (grs:=[]) (rh:=.k) Tryz.func29 rfl (by kernel_rfl) noLam fun vs bs q h hn=>by
 unfold g29 at h
 split at h <;> cases h
 rename_i a b d
 exact ⟨_,rfl,ca (fun R=>(R (.bool (bif (m30 a b d) then false else true)) [] [])) (fun R=>by kernel_rfl) (lf rfl rfl)⟩
/-! ### shotline/site.Join$1 -/
def m42 (a d b e:Int):Int :=
 (Z.wrap (a - b))
def q42 (r:Int):SV × List Blk × List Blk:=(V Z r,[],[])
def g42:GF:=fun vs bs=>match vs,bs with
 | [.agg [V Z a,V Z d],.agg [V Z b,V Z e]],[]=>some (rs 0 (q42 (m42 a d b e)) [])
 | _,_=>none
def c42:Ctr:=genC [.k,.k] g42
theorem k42:CtrOk Tryz.prog c42 42:=cx tn mix_ok 8 (fn:=Tryz.f42) (c:=(Tryz.f42.body.getD .skip)) (grs:=[]) (rh:=.k) Tryz.func42 rfl (by kernel_rfl) noLam fun vs bs q h hn=>by
 unfold g42 at h
 split at h <;> cases h
 rename_i a d b e
 exact ⟨_,rfl,ca (fun R=>(R (V Z (Z.wrap (a - b))) [] [])) (fun R=>by kernel_rfl) (lf rfl rfl)⟩

/-! ### slices.IndexFunc[[]shotline/api.TideWave,shotline/api.TideWave] -/
def l53c29_0 (b:Nat) (a:Dat) (i:Int):Nat→Int→Option (Bool × (Int) × (Unit))
 | 0,_=>none
 | f+1,d=>(cond (decide (d<i)) (cond (decide (0≤d∧d<↑b)) (cond (m29 (a.ii d.toNat 0) (a.ii d.toNat (0+1)) (a.ii d.toNat ((0+1)+1))) (some (true,d,default)) (l53c29_0 b a i f (Z.wrap (d+1)))) none) (some (false,default,())))
abbrev o53c29_0 (b:Nat) (a:Dat) (i d:Int):Option (Bool × (Int) × (Unit)):=l53c29_0 b a i (b+i.toNat+d.toNat+8) d
def e53c29_0 (b:Nat) (a:Dat) (i:Int) (r:Bool × (Int) × (Unit)) (K:XR):Prop:=cnd r.1 (K (XE.ret) [V Z r.2.1] []) (K (XE.exit 0) [.any] [])
def g53c29_0:LSum:=fun s k=>match czv 0 19 [0,1,7,8] 0 [] s with
 | some ([.ro [W Z,W Z,W Z] b a,.fn 29 [],V Z i,V Z d],[])=>needs [(o53c29_0 b a i d).isSome] (e53c29_0 b a i ((o53c29_0 b a i d).getD default) fun e vs bs=>inBlk 0 k e (mkSt 0 19 [4] vs 0 bs))
 | _=>False
theorem z53c29_0:LOk Tryz.prog g53c29_0 (.block 0 (bodyAt (Tryz.f53.body.getD .skip) 0)):=by
 refine lb (ι:=Nat × Dat × Int × Int) (fuel:=8) (na:=0) (nt:=19) (nx:=0) (Lh:=[0,1,7,8]) (Le:=[4]) (gl:=[]) (tc k29 tn) mix_ok noLam rfl (fun f (b,a,i,d) K=>GG default (e53c29_0 b a i) K (l53c29_0 b a i f d)) (fun (b,a,i,d)=>[.ro [W Z,W Z,W Z] b a,.fn 29 [],V Z i,V Z d]) (fun (b,a,i,d)=>[]) (fun (_,_,_,_) K=>gg_none) ?_ ?_
 ·rintro f ⟨b,a,i,d⟩ K hG
  refine ro (fun R=>(cnd (decide (d<i))
 (cnd (decide (0≤d∧d<↑b))
 (cnd (m29 (a.ii d.toNat 0) (a.ii d.toNat (0+1)) (a.ii d.toNat ((0+1)+1)))
 (R (XE.ret) [V Z d] [])
 (R (XE.normal) [.ro [W Z,W Z,W Z] b a,.fn 29 [],V Z i,V Z (Z.wrap (d+1))] []))
  False)
 (R (XE.exit 0) [.any] []))) (fun R=>by kernel_rfl) ?_
  exact ch hG (fun h0=>cg h0 fun h1=>ch h1 (fun h2=>h2.2) (fun h2=>⟨(_,_,_,_),rfl,rfl,h2⟩)) (fun h0=>h0.2)
 ·intro s k h
  unfold g53c29_0 at h
  split at h <;> try exact h.elim
  rename_i e1
  rw [needs_iff] at h
  exact ⟨_,e1,_,(_,_,_,_),rfl,rfl,h.1 _ (List.mem_singleton.2 rfl),h.2⟩
def m53c29 (g:Nat) (j:Dat):Int :=
 (cond ((o53c29_0 g j (↑g:Int) 0).getD default).1 ((o53c29_0 g j (↑g:Int) 0).getD default).2.1 (-1))
def n53c29 (g:Nat) (j:Dat):Bool :=
 (((o53c29_0 g j (↑g:Int) 0).isSome)&&true)
def q53c29 (r:Int):SV × List Blk × List Blk:=(V Z r,[],[])
def g53c29:GF:=fun vs bs=>match vs,bs with
 | [.ro [W Z,W Z,W Z] g j,.fn 29 []],[]=>some (rs 0 (q53c29 (m53c29 g j)) [n53c29 g j])
 | _,_=>none
def c53c29:Ctr:=genC [.ro [W Z,W Z,W Z],.f []] g53c29
theorem k53c29:CtrOk Tryz.prog c53c29 53:=cx (tc k29 tn) mix_ok 8 (fn:=Tryz.f53) (c:=(Tryz.f53.body.getD .skip)) (grs:=[]) (rh:=.k) Tryz.func53 rfl (by kernel_rfl) (lam_of rfl (lc z53c29_0 ln)) fun vs bs q h hn=>by
 unfold g53c29 at h
 split at h <;> cases h
 rename_i g j
 have hn:=n1 hn
 exact ⟨_,rfl,ca (fun R=>(cnd ((o53c29_0 g j (↑g:Int) 0).isSome)
 (cnd ((o53c29_0 g j (↑g:Int) 0).getD default).1
 (R (V Z ((o53c29_0 g j (↑g:Int) 0).getD default).2.1) [] [])
 (R (V Z (-1)) [] []))
 False)) (fun R=>by kernel_rfl) (cn (al hn) (co (fun h0=>lf (cT h0 rfl) rfl) (fun h0=>lf (cF h0 rfl) rfl)))⟩

/-! ### (*shotline/site.circle).ray -/
def l87_0 (b:Dat) (t l m n o:Int):Nat→Int→Int→Int→Int→Int→Option (Int × Int × Int × Int)
 | 0,_,_,_,_,_=>none
 | f+1,a,d,g,i,j=>(cond (decide (a≤10)) (cond (decide (0≤a)) (cond (bif (decide ((Z.wrap (↑((BitVec.ofInt Z.bits t &&& BitVec.ofInt Z.bits (Int.fdiv 1024 (2 ^ (min a.toNat Z.bits)))).toNat):Int))=0)) then false else true) (cond (decide (0≤a∧a<↑11)) (cond (decide (a<(↑11:Int))) (cond (n117 d g i j (b.ii a.toNat 0) (b.ii a.toNat (0+1)) (b.ii a.toNat ((0+1)+1)) (b.ii a.toNat (((0+1)+1)+1))) (l87_0 b t l m n o f (Z.wrap (a+1)) (m117 d g i j (b.ii a.toNat 0) (b.ii a.toNat (0+1)) (b.ii a.toNat ((0+1)+1)) (b.ii a.toNat (((0+1)+1)+1))).1 (m117 d g i j (b.ii a.toNat 0) (b.ii a.toNat (0+1)) (b.ii a.toNat ((0+1)+1)) (b.ii a.toNat (((0+1)+1)+1))).2.1 (m117 d g i j (b.ii a.toNat 0) (b.ii a.toNat (0+1)) (b.ii a.toNat ((0+1)+1)) (b.ii a.toNat (((0+1)+1)+1))).2.2.1 (m117 d g i j (b.ii a.toNat 0) (b.ii a.toNat (0+1)) (b.ii a.toNat ((0+1)+1)) (b.ii a.toNat (((0+1)+1)+1))).2.2.2) none) none) none) (l87_0 b t l m n o f (Z.wrap (a+1)) d g i j)) none) (some (d,g,i,j)))
abbrev o87_0 (b:Dat) (t l m n o a d g i j:Int):Option (Int × Int × Int × Int):=l87_0 b t l m n o (30+t.toNat) a d g i j
def e87_0 (b:Dat) (t l m n o:Int) (r:Int × Int × Int × Int) (K:XR):Prop:=K (XE.exit 0) [.ptr 0 0,.ptr 1 0] [.cells 143 [V Z l,V Z m,V Z n,V Z o],.cells 143 [V Z r.1,V Z r.2.1,V Z r.2.2.1,V Z r.2.2.2]]
def g87_0:LSum:=fun s k=>match czv 0 26 [0,1,4,5,6] 2 [] s with
 | some ([.ra [W Z,W Z,W Z,W Z] 11 b,V Z t,.ptr 0 0,.ptr 1 0,V Z a],[.cells 143 [V Z l,V Z m,V Z n,V Z o],.cells 143 [V Z d,V Z g,V Z i,V Z j]])=>needs [(o87_0 b t l m n o a d g i j).isSome] (e87_0 b t l m n o ((o87_0 b t l m n o a d g i j).getD default) fun e vs bs=>inBlk 0 k e (mkSt 0 26 [4,5] vs 2 bs))
 | _=>False
theorem z87_0:LOk Tryz.prog g87_0 (.block 0 (bodyAt (Tryz.f87.body.getD .skip) 0)):=by
 refine lb (ι:=Dat × Int × Int × Int × Int × Int × Int × Int × Int × Int × Int) (fuel:=8) (na:=0) (nt:=26) (nx:=2) (Lh:=[0,1,4,5,6]) (Le:=[4,5]) (gl:=[]) (tc k117 tn) mix_ok noLam rfl (fun f (b,t,a,l,m,n,o,d,g,i,j) K=>GG default (e87_0 b t l m n o) K (l87_0 b t l m n o f a d g i j)) (fun (b,t,a,l,m,n,o,d,g,i,j)=>[.ra [W Z,W Z,W Z,W Z] 11 b,V Z t,.ptr 0 0,.ptr 1 0,V Z a]) (fun (b,t,a,l,m,n,o,d,g,i,j)=>[.cells 143 [V Z l,V Z m,V Z n,V Z o],.cells 143 [V Z d,V Z g,V Z i,V Z j]]) (fun (_,_,_,_,_,_,_,_,_,_,_) K=>gg_none) ?_ ?_
 ·rintro f ⟨b,t,a,l,m,n,o,d,g,i,j⟩ K hG
  refine ro (fun R => 
 let a0:=(m117 d g i j (b.ii a.toNat 0) (b.ii a.toNat (0+1)) (b.ii a.toNat ((0+1)+1)) (b.ii a.toNat (((0+1)+1)+1)))
 (cnd (decide (a≤10))
 (cnd (decide (0≤a))
 (cnd (bif (decide ((Z.wrap (↑((BitVec.ofInt Z.bits t &&& BitVec.ofInt Z.bits (Int.fdiv 1024 (2 ^ (min a.toNat Z.bits)))).toNat):Int))=0)) then false else true)
 (cnd (decide (0≤a∧a<↑11))
 (cnd (decide (a<(↑11:Int)))
 (cnd (n117 d g i j (b.ii a.toNat 0) (b.ii a.toNat (0+1)) (b.ii a.toNat ((0+1)+1)) (b.ii a.toNat (((0+1)+1)+1)))
 (R (XE.normal) [.ra [W Z,W Z,W Z,W Z] 11 b,V Z t,.ptr 0 0,.ptr 1 0,V Z (Z.wrap (a+1))] [.cells 143 [V Z l,V Z m,V Z n,V Z o],.cells 143 [V Z a0.1,V Z a0.2.1,V Z a0.2.2.1,V Z a0.2.2.2]])
    False)
   False)
   False)
 (R (XE.normal) [.ra [W Z,W Z,W Z,W Z] 11 b,V Z t,.ptr 0 0,.ptr 1 0,V Z (Z.wrap (a+1))] [.cells 143 [V Z l,V Z m,V Z n,V Z o],.cells 143 [V Z d,V Z g,V Z i,V Z j]]))
  False)
 (R (XE.exit 0) [.ptr 0 0,.ptr 1 0] [.cells 143 [V Z l,V Z m,V Z n,V Z o],.cells 143 [V Z d,V Z g,V Z i,V Z j]]))) (fun R=>by kernel_rfl) ?_
  exact ch hG (fun h0=>cg h0 fun h1=>ch h1 (fun h2=>cg h2 fun h3=>cg h3 fun h4=>cg h4 fun h5=>⟨(_,_,_,_,_,_,_,_,_,_,_),rfl,rfl,h5⟩) (fun h2=>⟨(_,_,_,_,_,_,_,_,_,_,_),rfl,rfl,h2⟩)) (fun h0=>h0.2)
 ·intro s k h
  unfold g87_0 at h
  split at h <;> try exact h.elim
  rename_i e1
  rw [needs_iff] at h
  exact ⟨_,e1,_,(_,_,_,_,_,_,_,_,_,_,_),rfl,rfl,h.1 _ (List.mem_singleton.2 rfl),h.2⟩
def m87 (p:Dat) (u:Int):Int × Int × Int × Int :=
 (((o87_0 p u 0 0 0 0 1 100000000 100000000 0 0).getD default).1,((o87_0 p u 0 0 0 0 1 100000000 100000000 0 0).getD default).2.1,((o87_0 p u 0 0 0 0 1 100000000 100000000 0 0).getD default).2.2.1,((o87_0 p u 0 0 0 0 1 100000000 100000000 0 0).getD default).2.2.2)
def n87 (p:Dat) (u:Int):Bool :=
 (((o87_0 p u 0 0 0 0 1 100000000 100000000 0 0).isSome)&&true)
def q87 (r:Int × Int × Int × Int):SV × List Blk × List Blk:=(.agg [V Z r.1,V Z r.2.1,V Z r.2.2.1,V Z r.2.2.2],[],[])
def g87:GF:=fun vs bs=>match vs,bs with
 | [.ra [W Z,W Z,W Z,W Z] 11 p,V Z u],[]=>some (rs 0 (q87 (m87 p u)) [n87 p u])
 | _,_=>none
def c87:Ctr:=genC [.ra [W Z,W Z,W Z,W Z] 11,.k] g87
theorem k87:CtrOk Tryz.prog c87 87:=cx (tc k117 tn) mix_ok 8 (fn:=Tryz.f87) (c:=(Tryz.f87.body.getD .skip)) (grs:=[]) (rh:=.k) Tryz.func87 rfl (by kernel_rfl) (lam_of rfl (lc z87_0 ln)) fun vs bs q h hn=>by
 unfold g87 at h
 split at h <;> cases h
 rename_i p u
 have hn:=n1 hn
 exact ⟨_,rfl,ca (fun R=>(cnd ((o87_0 p u 0 0 0 0 1 100000000 100000000 0 0).isSome)
 (R (.agg [V Z ((o87_0 p u 0 0 0 0 1 100000000 100000000 0 0).getD default).1,V Z ((o87_0 p u 0 0 0 0 1 100000000 100000000 0 0).getD default).2.1,V Z ((o87_0 p u 0 0 0 0 1 100000000 100000000 0 0).getD default).2.2.1,V Z ((o87_0 p u 0 0 0 0 1 100000000 100000000 0 0).getD default).2.2.2]) [] [])
 False)) (fun R=>by kernel_rfl) (cn (al hn) (lf rfl rfl))⟩
/-! ### slices.ContainsFunc[[]shotline/api.TideWave,shotline/api.TideWave] -/
def m28c29 (a:Nat) (b:Dat):Bool :=
 (decide (0≤(m53c29 a b)))
def n28c29 (a:Nat) (b:Dat):Bool :=
 ((n53c29 a b)&&true)
def q28c29 (r:Bool):SV × List Blk × List Blk:=(.bool r,[],[])
def g28c29:GF:=fun vs bs=>match vs,bs with
 | [.ro [W Z,W Z,W Z] a b,.fn 29 []],[]=>some (rs 0 (q28c29 (m28c29 a b)) [n28c29 a b])
 | _,_=>none
def c28c29:Ctr:=genC [.ro [W Z,W Z,W Z],.f []] g28c29
theorem k28c29:CtrOk Tryz.prog c28c29 28:=cx (tc k29 (tc k53c29 tn)) mix_ok 8 (fn:=Tryz.f28) (c:=(Tryz.f28.body.getD .skip)) (grs:=[]) (rh:=.k) Tryz.func28 rfl (by kernel_rfl) noLam fun vs bs q h hn=>by
 unfold g28c29 at h
 split at h <;> cases h
 rename_i a b
 have hn:=n1 hn
 exact ⟨_,rfl,ca (fun R=>(cnd (n53c29 a b)
 (R (.bool (decide (0≤(m53c29 a b)))) [] [])
 False)) (fun R=>by kernel_rfl) (cn (al hn) (lf rfl rfl))⟩

/-! ### shotline/site.CheckTide -/
def m9 (e:Int) (b:Nat) (d:Dat):Int :=
 (cond (bif (m27 e (-100000) 100000) then false else true) 2 (cond (decide ((10:Int)<(↑b:Int))) 8 (cond (m28c29 b d) 2 0)))
def n9 (e:Int) (b:Nat) (d:Dat):Bool :=
 (cond (bif (m27 e (-100000) 100000) then false else true) true (cond (decide ((10:Int)<(↑b:Int))) true ((n28c29 b d)&&true)))
def q9 (r:Int):SV × List Blk × List Blk:=(V Z r,[],[])
def g9:GF:=fun vs bs=>match vs,bs with
 | [.agg [V Z e,.ro [W Z,W Z,W Z] b d]],[]=>some (rs 0 (q9 (m9 e b d)) [n9 e b d])
 | _,_=>none
def c9:Ctr:=genC [.a [.k,.ro [W Z,W Z,W Z]]] g9
theorem k9:CtrOk Tryz.prog c9 9:=cx (tc k27 (tc k28c29 (tc k29 tn))) mix_ok 8 (fn:=Tryz.f9) (c:=(Tryz.f9.body.getD .skip)) (grs:=[]) (rh:=.k) Tryz.func9 rfl (by kernel_rfl) noLam fun vs bs q h hn=>by
 unfold g9 at h
 split at h <;> cases h
 rename_i e b d
 have hn:=n1 hn
 exact ⟨_,rfl,ca (fun R=>(cnd (bif (m27 e (-100000) 100000) then false else true)
 (R (V Z 2) [] [])
 (cnd (decide ((10:Int)<(↑b:Int)))
 (R (V Z 8) [] [])
 (cnd (n28c29 b d)
 (cnd (m28c29 b d)
 (R (V Z 2) [] [])
 (R (V Z 0) [] []))
  False)))) (fun R=>by kernel_rfl) (co (fun h0=>lf (cT h0 rfl) rfl) (fun h0=>co (fun h1=>lf (cF h0 (cT h1 rfl)) rfl) (fun h1=>cn (al (cf h1 (cf h0 hn))) (co (fun h2=>lf (cF h0 (cF h1 (cT h2 rfl))) rfl) (fun h2=>lf (cF h0 (cF h1 (cF h2 rfl))) rfl)))))⟩
/-! ### (*shotline/site.circle).cos -/
def m64 (a:Dat) (b:Int):Int × Int :=
 (cond (decide (((Z.wrap (b.tdiv 1024)).tmod 4)=0)) ((m87 a (b.tmod 1024)).1,(m87 a (b.tmod 1024)).2.1) (cond (decide (((Z.wrap (b.tdiv 1024)).tmod 4)=1)) ((m88 (m87 a (b.tmod 1024)).2.2.1 (m87 a (b.tmod 1024)).2.2.2).1,(m88 (m87 a (b.tmod 1024)).2.2.1 (m87 a (b.tmod 1024)).2.2.2).2) (cond (decide (((Z.wrap (b.tdiv 1024)).tmod 4)=2)) ((m88 (m87 a (b.tmod 1024)).1 (m87 a (b.tmod 1024)).2.1).1,(m88 (m87 a (b.tmod 1024)).1 (m87 a (b.tmod 1024)).2.1).2) ((m87 a (b.tmod 1024)).2.2.1,(m87 a (b.tmod 1024)).2.2.2))))
def n64 (a:Dat) (b:Int):Bool :=
 ((n87 a (b.tmod 1024))&&true)
def q64 (r:Int × Int):SV × List Blk × List Blk:=(.agg [V Z r.1,V Z r.2],[],[])
def g64:GF:=fun vs bs=>match vs,bs with
 | [.ra [W Z,W Z,W Z,W Z] 11 a,V Z b],[]=>some (rs 0 (q64 (m64 a b)) [n64 a b])
 | _,_=>none
def c64:Ctr:=genC [.ra [W Z,W Z,W Z,W Z] 11,.k] g64
theorem k64:CtrOk Tryz.prog c64 64:=cx (tc k87 (tc k88 tn)) mix_ok 8 (fn:=Tryz.f64) (c:=(Tryz.f64.body.getD .skip)) (grs:=[]) (rh:=.k) Tryz.func64 rfl (by kernel_rfl) noLam fun vs bs q h hn=>by
 unfold g64 at h
 split at h <;> cases h
 rename_i a b
 have hn:=n1 hn
 exact ⟨_,rfl,ca (fun R => 
 let a0:=(m87 a (b.tmod 1024))
 let b0:=((Z.wrap (b.tdiv 1024)).tmod 4)
 (cnd (n87 a (b.tmod 1024))
 (cnd (decide (b0=0))
 (R (.agg [V Z a0.1,V Z a0.2.1]) [] [])
 (cnd (decide (b0=1))
 (R (.agg [V Z (m88 a0.2.2.1 a0.2.2.2).1,V Z (m88 a0.2.2.1 a0.2.2.2).2]) [] [])
 (cnd (decide (b0=2))
 (R (.agg [V Z (m88 a0.1 a0.2.1).1,V Z (m88 a0.1 a0.2.1).2]) [] [])
 (R (.agg [V Z a0.2.2.1,V Z a0.2.2.2]) [] []))))
 False)) (fun R=>by kernel_rfl) (cn (al hn) (co (fun h0=>lf (cT h0 rfl) rfl) (fun h0=>co (fun h1=>lf (cF h0 (cT h1 rfl)) rfl) (fun h1=>co (fun h2=>lf (cF h0 (cF h1 (cT h2 rfl))) rfl) (fun h2=>lf (cF h0 (cF h1 (cF h2 rfl))) rfl)))))⟩

/-! ### shotline/shotlinelaw08.own -/
def m7 (e:Int) (b:Nat) (d:Dat):Int × Nat × Dat :=
 (e,(0+b),((datS [] 3).app 0 d))
def n7 (e:Int) (b:Nat) (d:Dat):Bool :=
 ((decide ((0+b)≤1073741824))&&((decide ((0+(0+b))≤(0+b)))&&true))
def q7 (r:Int × Nat × Dat):SV × List Blk × List Blk:=(.agg [V Z r.1,.ro [W Z,W Z,W Z] r.2.1 r.2.2],[],[])
def g7:GF:=fun vs bs=>match vs,bs with
 | [.agg [V Z e,.ro [W Z,W Z,W Z] b d]],[]=>some (rs 0 (q7 (m7 e b d)) [n7 e b d])
 | _,_=>none
def c7:Ctr:=genC [.a [.k,.ro [W Z,W Z,W Z]]] g7
theorem k7:CtrOk Tryz.prog c7 7:=cx tn mix_ok 8 (fn:=Tryz.f7) (c:=(Tryz.f7.body.getD .skip)) (grs:=[]) (rh:=.t [.k,.ro [W Z,W Z,W Z]]) Tryz.func7 rfl (by kernel_rfl) noLam fun vs bs q h hn=>by
 unfold g7 at h
 split at h <;> cases h
 rename_i e b d
 have hn:=n1 hn
 exact ⟨_,rfl,ca (fun R=>(cnd (decide ((0+b)≤1073741824))
 (cnd (decide ((0+(0+b))≤(0+b)))
 (R (.agg [V Z e,.ro [W Z,W Z,W Z] (0+b) ((datS [] 3).app 0 d)]) [] [])
  False)
 False)) (fun R=>by kernel_rfl) (cn (al hn) (cn (al (ar hn)) (lf rfl rfl)))⟩

/-! ### (*shotline/site.tide).level -/
def l38_0 (u:Int) (i:Nat) (a:Dat) (v n:Int) (t j:Dat) (o p:Int):Nat→Int→Int→Int→Option (Int × Int)
 | 0,_,_,_=>none
 | f+1,w,x,b=>(cond (decide (b<v)) (cond (decide (0≤b∧b<↑i)) (cond (n63 (a.ii b.toNat 0) (a.ii b.toNat 1) (a.ii b.toNat 2) u) (cond (n64 j (m63 (a.ii b.toNat 0) (a.ii b.toNat 1) (a.ii b.toNat 2) u).1) (cond (n64 j (m63 (a.ii b.toNat 0) (a.ii b.toNat 1) (a.ii b.toNat 2) u).2) (l38_0 u i a v n t j o p f (Z.wrap (w+(Z.wrap ((a.ii b.toNat 0) * (imin (m64 j (m63 (a.ii b.toNat 0) (a.ii b.toNat 1) (a.ii b.toNat 2) u).1).1 (m64 j (m63 (a.ii b.toNat 0) (a.ii b.toNat 1) (a.ii b.toNat 2) u).2).1))))) (Z.wrap (x+(Z.wrap ((a.ii b.toNat 0) * (imax (m64 j (m63 (a.ii b.toNat 0) (a.ii b.toNat 1) (a.ii b.toNat 2) u).1).2 (m64 j (m63 (a.ii b.toNat 0) (a.ii b.toNat 1) (a.ii b.toNat 2) u).2).2))))) (Z.wrap (b+1))) none) none) none) none) (some (w,x)))
abbrev o38_0 (u:Int) (i:Nat) (a:Dat) (v n:Int) (t j:Dat) (o p w x b:Int):Option (Int × Int):=l38_0 u i a v n t j o p (u.toNat+w.toNat+x.toNat+i+v.toNat+b.toNat+n.toNat+o.toNat+p.toNat+8) w x b
def e38_0 (u:Int) (i:Nat) (a:Dat) (v n:Int) (t j:Dat) (o p:Int) (r:Int × Int) (K:XR):Prop:=K (XE.exit 0) [.ptr 0 0,.ptr 1 0,V Z r.1,V Z r.2] [.cells 123 [V Z n,.ro [W Z,W Z,W Z] i t,.ra [W Z,W Z,W Z,W Z] 11 j],.cells 41 [V Z o,V Z p]]
def g38_0:LSum:=fun s k=>match czv 1 77 [0,1,4,5,6,16,17,18] 2 [] s with
 | some ([.ptr 0 0,V Z u,.ptr 1 0,V Z w,V Z x,.ro [W Z,W Z,W Z] i a,V Z v,V Z b],[.cells 123 [V Z n,.ro [W Z,W Z,W Z] b0_1 t,.ra [W Z,W Z,W Z,W Z] 11 j],.cells 41 [V Z o,V Z p]])=>needs [decide (i=b0_1),(o38_0 u i a v n t j o p w x b).isSome] (e38_0 u i a v n t j o p ((o38_0 u i a v n t j o p w x b).getD default) fun e vs bs=>inBlk 0 k e (mkSt 1 77 [0,4,5,6] vs 2 bs))
 | _=>False
theorem z38_0:LOk Tryz.prog g38_0 (.block 0 (bodyAt (Tryz.f38.body.getD .skip) 0)):=by
 refine lb (ι:=Int × Int × Int × Nat × Dat × Int × Int × Int × Dat × Dat × Int × Int) (fuel:=8) (na:=1) (nt:=77) (nx:=2) (Lh:=[0,1,4,5,6,16,17,18]) (Le:=[0,4,5,6]) (gl:=[]) (tc k64 (tc k63 (tc k65 (tc k66 tn)))) mix_ok noLam rfl (fun f (u,w,x,i,a,v,b,n,t,j,o,p) K=>GG default (e38_0 u i a v n t j o p) K (l38_0 u i a v n t j o p f w x b)) (fun (u,w,x,i,a,v,b,n,t,j,o,p)=>[.ptr 0 0,V Z u,.ptr 1 0,V Z w,V Z x,.ro [W Z,W Z,W Z] i a,V Z v,V Z b]) (fun (u,w,x,i,a,v,b,n,t,j,o,p)=>[.cells 123 [V Z n,.ro [W Z,W Z,W Z] i t,.ra [W Z,W Z,W Z,W Z] 11 j],.cells 41 [V Z o,V Z p]]) (fun (_,_,_,_,_,_,_,_,_,_,_,_) K=>gg_none) ?_ ?_
 ·rintro f ⟨u,w,x,i,a,v,b,n,t,j,o,p⟩ K hG
  refine ro (fun R => 
 let a0:=(m63 (a.ii b.toNat 0) (a.ii b.toNat 1) (a.ii b.toNat 2) u)
 (cnd (decide (b<v))
 (cnd (decide (0≤b∧b<↑i))
 (cnd (n63 (a.ii b.toNat 0) (a.ii b.toNat 1) (a.ii b.toNat 2) u)
 (cnd (n64 j a0.1)
 (cnd (n64 j a0.2)
 (R (XE.normal) [.ptr 0 0,V Z u,.ptr 1 0,V Z (Z.wrap (w+(Z.wrap ((a.ii b.toNat 0) * (imin (m64 j a0.1).1 (m64 j a0.2).1))))),V Z (Z.wrap (x+(Z.wrap ((a.ii b.toNat 0) * (imax (m64 j a0.1).2 (m64 j a0.2).2))))),.ro [W Z,W Z,W Z] i a,V Z v,V Z (Z.wrap (b+1))] [.cells 123 [V Z n,.ro [W Z,W Z,W Z] i t,.ra [W Z,W Z,W Z,W Z] 11 j],.cells 41 [V Z o,V Z p]])
   False)
   False)
  False)
  False)
 (R (XE.exit 0) [.ptr 0 0,.ptr 1 0,V Z w,V Z x] [.cells 123 [V Z n,.ro [W Z,W Z,W Z] i t,.ra [W Z,W Z,W Z,W Z] 11 j],.cells 41 [V Z o,V Z p]]))) (fun R=>by kernel_rfl) ?_
  exact ch hG (fun h0=>cg h0 fun h1=>cg h1 fun h2=>cg h2 fun h3=>cg h3 fun h4=>⟨(_,_,_,_,_,_,_,_,_,_,_,_),rfl,rfl,h4⟩) (fun h0=>h0.2)
 ·intro s k h
  unfold g38_0 at h
  split at h <;> try exact h.elim
  rename_i e1
  rw [needs_iff] at h
  have hq:=h.1
  simp only [List.mem_cons,forall_eq_or_imp,decide_eq_true_eq,List.not_mem_nil,false_imp_iff,implies_true,and_true] at hq
  obtain ⟨rfl,hq⟩:=hq
  exact ⟨_,e1,_,(_,_,_,_,_,_,_,_,_,_,_,_),rfl,rfl,hq,h.2⟩
def m38 (m:Int) (d:Nat) (g l:Dat) (y:Int):Int × Int × Int × Nat × Dat × Dat :=
 ((Z.wrap (m+(m65 ((o38_0 y d g (↑d:Int) m g l 0 0 0 0 0).getD default).1 100000000))),(Z.wrap (m+(m66 ((o38_0 y d g (↑d:Int) m g l 0 0 0 0 0).getD default).2 100000000))),m,d,g,l)
def n38 (m:Int) (d:Nat) (g l:Dat) (y:Int):Bool :=
 (((o38_0 y d g (↑d:Int) m g l 0 0 0 0 0).isSome)&&((n65 ((o38_0 y d g (↑d:Int) m g l 0 0 0 0 0).getD default).1 100000000)&&((n66 ((o38_0 y d g (↑d:Int) m g l 0 0 0 0 0).getD default).2 100000000)&&true)))
def q38 (r:Int × Int × Int × Nat × Dat × Dat):SV × List Blk × List Blk:=(.agg [V Z r.1,V Z r.2.1],[.cells 123 [V Z r.2.2.1,.ro [W Z,W Z,W Z] r.2.2.2.1 r.2.2.2.2.1,.ra [W Z,W Z,W Z,W Z] 11 r.2.2.2.2.2]],[])
def g38:GF:=fun vs bs=>match vs,bs with
 | [.ptr 0 0,V Z y],[.cells 123 [V Z m,.ro [W Z,W Z,W Z] d g,.ra [W Z,W Z,W Z,W Z] 11 l]]=>some (rs 1 (q38 (m38 m d g l y)) [n38 m d g l y])
 | _,_=>none
def c38:Ctr:=genC [.c [.k,.ro [W Z,W Z,W Z],.ra [W Z,W Z,W Z,W Z] 11],.k] g38
theorem k38:CtrOk Tryz.prog c38 38:=cx (tc k64 (tc k63 (tc k65 (tc k66 tn)))) mix_ok 8 (fn:=Tryz.f38) (c:=(Tryz.f38.body.getD .skip)) (grs:=[]) (rh:=.k) Tryz.func38 rfl (by kernel_rfl) (lam_of rfl (lc z38_0 ln)) fun vs bs q h hn=>by
 unfold g38 at h
 split at h <;> cases h
 rename_i y m d g l
 have hn:=n1 hn
 exact ⟨_,rfl,ca (fun R => 
 let a0:=((o38_0 y d g (↑d:Int) m g l 0 0 0 0 0).getD default)
 (cnd (decide (d=d))
 (cnd ((o38_0 y d g (↑d:Int) m g l 0 0 0 0 0).isSome)
 (cnd (n65 a0.1 100000000)
 (cnd (n66 a0.2 100000000)
 (R (.agg [V Z (Z.wrap (m+(m65 a0.1 100000000))),V Z (Z.wrap (m+(m66 a0.2 100000000)))]) [.cells 123 [V Z m,.ro [W Z,W Z,W Z] d g,.ra [W Z,W Z,W Z,W Z] 11 l]] [])
   False)
  False)
  False)
 False)) (fun R=>by kernel_rfl) (cn (decide_eq_true rfl) (cn (al hn) (cn (al (ar hn)) (cn (al (ar (ar hn))) (lf rfl rfl)))))⟩

/-! ### shotline/site.CheckWindows -/
def l67_0 (d:Nat) (g b:Dat) (l:Int):Nat→Int→Option (Bool × (Int) × (Unit))
 | 0,_=>none
 | f+1,a=>(cond (decide (a<l)) (cond (decide (0≤a∧a<↑d)) (cond (bif (bif (m37 (b.ii a.toNat 0)) then false else true) then true else (bif (m37 (b.ii a.toNat 1)) then false else true)) (some (true,2,default)) (cond (decide ((b.ii a.toNat 1)<(b.ii a.toNat 0))) (some (true,9,default)) (cond (bif (bif (decide ((0:Int)<a)) then false else true) then true else (decide (0≤Z.wrap (a - 1)∧Z.wrap (a - 1)<(↑d:Int)))) (cond (bif (decide ((0:Int)<a)) then (decide ((b.ii a.toNat 0)≤(Z.wrap ((g.ii ((Z.wrap (a - 1)).toNat) 1)+1)))) else false) (some (true,13,default)) (l67_0 d g b l f (Z.wrap (a+1)))) none))) none) (some (false,default,())))
abbrev o67_0 (d:Nat) (g b:Dat) (l a:Int):Option (Bool × (Int) × (Unit)):=l67_0 d g b l (d+l.toNat+a.toNat+8) a
def e67_0 (d:Nat) (g b:Dat) (l:Int) (r:Bool × (Int) × (Unit)) (K:XR):Prop:=cnd r.1 (K (XE.ret) [V Z r.2.1] []) (K (XE.exit 0) [.any] [])
def g67_0:LSum:=fun s k=>match czv 0 48 [0,8,9,10] 0 [] s with
 | some ([.ro [W Z,W Z] d g,.ro [W Z,W Z] t8_0 b,V Z l,V Z a],[])=>needs [decide (d=t8_0),(o67_0 d g b l a).isSome] (e67_0 d g b l ((o67_0 d g b l a).getD default) fun e vs bs=>inBlk 0 k e (mkSt 0 48 [2] vs 0 bs))
 | _=>False
theorem z67_0:LOk Tryz.prog g67_0 (.block 0 (bodyAt (Tryz.f67.body.getD .skip) 0)):=by
 refine lb (ι:=Nat × Dat × Dat × Int × Int) (fuel:=8) (na:=0) (nt:=48) (nx:=0) (Lh:=[0,8,9,10]) (Le:=[2]) (gl:=[]) (tc k37 tn) mix_ok noLam rfl (fun f (d,g,b,l,a) K=>GG default (e67_0 d g b l) K (l67_0 d g b l f a)) (fun (d,g,b,l,a)=>[.ro [W Z,W Z] d g,.ro [W Z,W Z] d b,V Z l,V Z a]) (fun (d,g,b,l,a)=>[]) (fun (_,_,_,_,_) K=>gg_none) ?_ ?_
 ·rintro f ⟨d,g,b,l,a⟩ K hG
  refine ro (fun R=>(cnd (decide (a<l))
 (cnd (decide (0≤a∧a<↑d))
 (cnd (bif (bif (m37 (b.ii a.toNat 0)) then false else true) then true else (bif (m37 (b.ii a.toNat 1)) then false else true))
 (R (XE.ret) [V Z 2] [])
 (cnd (decide ((b.ii a.toNat 1)<(b.ii a.toNat 0)))
 (R (XE.ret) [V Z 9] [])
 (cnd (bif (bif (decide ((0:Int)<a)) then false else true) then true else (decide (0≤Z.wrap (a - 1)∧Z.wrap (a - 1)<(↑d:Int))))
 (cnd (bif (decide ((0:Int)<a)) then (decide ((b.ii a.toNat 0)≤(Z.wrap ((g.ii ((Z.wrap (a - 1)).toNat) 1)+1)))) else false)
 (R (XE.ret) [V Z 13] [])
 (R (XE.normal) [.ro [W Z,W Z] d g,.ro [W Z,W Z] d b,V Z l,V Z (Z.wrap (a+1))] []))
   False)))
  False)
 (R (XE.exit 0) [.any] []))) (fun R=>by kernel_rfl) ?_
  exact ch hG (fun h0=>cg h0 fun h1=>ch h1 (fun h2=>h2.2) (fun h2=>ch h2 (fun h3=>h3.2) (fun h3=>cg h3 fun h4=>ch h4 (fun h5=>h5.2) (fun h5=>⟨(_,_,_,_,_),rfl,rfl,h5⟩)))) (fun h0=>h0.2)
 ·intro s k h
  unfold g67_0 at h
  split at h <;> try exact h.elim
  rename_i e1
  rw [needs_iff] at h
  have hq:=h.1
  simp only [List.mem_cons,forall_eq_or_imp,decide_eq_true_eq,List.not_mem_nil,false_imp_iff,implies_true,and_true] at hq
  obtain ⟨rfl,hq⟩:=hq
  exact ⟨_,e1,_,(_,_,_,_,_),rfl,rfl,hq,h.2⟩
def m67 (i:Nat) (j:Dat):Int :=
 (cond (decide ((60:Int)<(↑i:Int))) 8 (cond ((o67_0 i j j (↑i:Int) 0).getD default).1 ((o67_0 i j j (↑i:Int) 0).getD default).2.1 0))
def n67 (i:Nat) (j:Dat):Bool :=
 (cond (decide ((60:Int)<(↑i:Int))) true (((o67_0 i j j (↑i:Int) 0).isSome)&&true))
def q67 (r:Int):SV × List Blk × List Blk:=(V Z r,[],[])
def g67:GF:=fun vs bs=>match vs,bs with
 | [.ro [W Z,W Z] i j],[]=>some (rs 0 (q67 (m67 i j)) [n67 i j])
 | _,_=>none
def c67:Ctr:=genC [.ro [W Z,W Z]] g67
theorem k67:CtrOk Tryz.prog c67 67:=cx (tc k37 tn) mix_ok 8 (fn:=Tryz.f67) (c:=(Tryz.f67.body.getD .skip)) (grs:=[]) (rh:=.k) Tryz.func67 rfl (by kernel_rfl) (lam_of rfl (lc z67_0 ln)) fun vs bs q h hn=>by
 unfold g67 at h
 split at h <;> cases h
 rename_i i j
 have hn:=n1 hn
 exact ⟨_,rfl,ca (fun R=>(cnd (decide ((60:Int)<(↑i:Int)))
 (R (V Z 8) [] [])
 (cnd (decide (i=i))
 (cnd ((o67_0 i j j (↑i:Int) 0).isSome)
 (cnd ((o67_0 i j j (↑i:Int) 0).getD default).1
 (R (V Z ((o67_0 i j j (↑i:Int) 0).getD default).2.1) [] [])
 (R (V Z 0) [] []))
  False)
  False))) (fun R=>by kernel_rfl) (co (fun h0=>lf (cT h0 rfl) rfl) (fun h0=>cn (decide_eq_true rfl) (cn (al (cf h0 hn)) (co (fun h1=>lf (cF h0 (cT h1 rfl)) rfl) (fun h1=>lf (cF h0 (cF h1 rfl)) rfl)))))⟩
/-! ### shotline/site.isPlace -/
def m46 (b:Nat) (d:Dat) (e:Nat) (g:Dat) (i:Int):Bool :=
 (m27 i 0 (Z.wrap ((↑b:Int) - 1)))
def q46 (r:Bool):SV × List Blk × List Blk:=(.bool r,[],[])
def g46:GF:=fun vs bs=>match vs,bs with
 | [.agg [.ro [.str] b d,.ro [.sl [W Z]] e g],V Z i],[]=>some (rs 0 (q46 (m46 b d e g i)) [])
 | _,_=>none
def c46:Ctr:=genC [.a [.ro [.str],.ro [.sl [W Z]]],.k] g46
theorem k46:CtrOk Tryz.prog c46 46:=cx (tc k27 tn) mix_ok 8 (fn:=Tryz.f46) (c:=(Tryz.f46.body.getD .skip)) (grs:=[]) (rh:=.k) Tryz.func46 rfl (by kernel_rfl) noLam fun vs bs q h hn=>by
 unfold g46 at h
 split at h <;> cases h
 rename_i b d e g i
 exact ⟨_,rfl,ca (fun R=>(R (.bool (m27 i 0 (Z.wrap ((↑b:Int) - 1)))) [] [])) (fun R=>by kernel_rfl) (lf rfl rfl)⟩
/-! ### shotline/site.nearest -/
def l47_0 (b:Nat) (d a:Dat) (l:Int):Nat→Int→Int→Option (Int)
 | 0,_,_=>none
 | f+1,i,g=>(cond (decide (g<l)) (cond (decide (0≤g∧g<↑b)) (cond (bif (bif (bif (bif (a.bb g.toNat 2) then (bif (a.bb g.toNat 3) then false else true) else false) then (bif (decide (i<0)) then false else true) else false) then false else true) then true else (decide (0≤i∧i<↑b))) (cond (bif (bif (a.bb g.toNat 2) then (bif (a.bb g.toNat 3) then false else true) else false) then (bif (decide (i<0)) then true else (decide ((a.ii g.toNat 1)<(d.ii i.toNat 1)))) else false) (l47_0 b d a l f g (Z.wrap (g+1))) (l47_0 b d a l f i (Z.wrap (g+1)))) none) none) (some i))
abbrev o47_0 (b:Nat) (d a:Dat) (l i g:Int):Option (Int):=l47_0 b d a l (b+i.toNat+l.toNat+g.toNat+8) i g
def e47_0 (b:Nat) (d a:Dat) (l r:Int) (K:XR):Prop:=K (XE.exit 0) [V Z r] []
def g47_0:LSum:=fun s k=>match czv 0 37 [0,3,6,7,8] 0 [] s with
 | some ([.ro [W Z,W Z,.bool,.bool] b d,V Z i,.ro [W Z,W Z,.bool,.bool] t6_0 a,V Z l,V Z g],[])=>needs [decide (b=t6_0),(o47_0 b d a l i g).isSome] (e47_0 b d a l ((o47_0 b d a l i g).getD default) fun e vs bs=>inBlk 0 k e (mkSt 0 37 [3] vs 0 bs))
 | _=>False
theorem z47_0:LOk Tryz.prog g47_0 (.block 0 (bodyAt (Tryz.f47.body.getD .skip) 0)):=by
 refine lb (ι:=Nat × Dat × Int × Dat × Int × Int) (fuel:=8) (na:=0) (nt:=37) (nx:=0) (Lh:=[0,3,6,7,8]) (Le:=[3]) (gl:=[]) tn mix_ok noLam rfl (fun f (b,d,i,a,l,g) K=>GG default (e47_0 b d a l) K (l47_0 b d a l f i g)) (fun (b,d,i,a,l,g)=>[.ro [W Z,W Z,.bool,.bool] b d,V Z i,.ro [W Z,W Z,.bool,.bool] b a,V Z l,V Z g]) (fun (b,d,i,a,l,g)=>[]) (fun (_,_,_,_,_,_) K=>gg_none) ?_ ?_
 ·rintro f ⟨b,d,i,a,l,g⟩ K hG
  refine ro (fun R => 
 let a0:=(bif (a.bb g.toNat 2) then (bif (a.bb g.toNat 3) then false else true) else false)
 (cnd (decide (g<l))
 (cnd (decide (0≤g∧g<↑b))
 (cnd (bif (bif (bif a0 then (bif (decide (i<0)) then false else true) else false) then false else true) then true else (decide (0≤i∧i<↑b)))
 (cnd (bif a0 then (bif (decide (i<0)) then true else (decide ((a.ii g.toNat 1)<(d.ii i.toNat 1)))) else false)
 (R (XE.normal) [.ro [W Z,W Z,.bool,.bool] b d,V Z g,.ro [W Z,W Z,.bool,.bool] b a,V Z l,V Z (Z.wrap (g+1))] [])
 (R (XE.normal) [.ro [W Z,W Z,.bool,.bool] b d,V Z i,.ro [W Z,W Z,.bool,.bool] b a,V Z l,V Z (Z.wrap (g+1))] []))
  False)
  False)
 (R (XE.exit 0) [V Z i] []))) (fun R=>by kernel_rfl) ?_
  exact ch hG (fun h0=>cg h0 fun h1=>cg h1 fun h2=>ch h2 (fun h3=>⟨(_,_,_,_,_,_),rfl,rfl,h3⟩) (fun h3=>⟨(_,_,_,_,_,_),rfl,rfl,h3⟩)) (fun h0=>h0.2)
 ·intro s k h
  unfold g47_0 at h
  split at h <;> try exact h.elim
  rename_i e1
  rw [needs_iff] at h
  have hq:=h.1
  simp only [List.mem_cons,forall_eq_or_imp,decide_eq_true_eq,List.not_mem_nil,false_imp_iff,implies_true,and_true] at hq
  obtain ⟨rfl,hq⟩:=hq
  exact ⟨_,e1,_,(_,_,_,_,_,_),rfl,rfl,hq,h.2⟩
def m47 (j:Nat) (m:Dat):Int :=
 ((o47_0 j m m (↑j:Int) (-1) 0).getD 0)
def n47 (j:Nat) (m:Dat):Bool :=
 (((o47_0 j m m (↑j:Int) (-1) 0).isSome)&&true)
def q47 (r:Int):SV × List Blk × List Blk:=(V Z r,[],[])
def g47:GF:=fun vs bs=>match vs,bs with
 | [.ro [W Z,W Z,.bool,.bool] j m],[]=>some (rs 0 (q47 (m47 j m)) [n47 j m])
 | _,_=>none
def c47:Ctr:=genC [.ro [W Z,W Z,.bool,.bool]] g47
theorem k47:CtrOk Tryz.prog c47 47:=cx tn mix_ok 8 (fn:=Tryz.f47) (c:=(Tryz.f47.body.getD .skip)) (grs:=[]) (rh:=.k) Tryz.func47 rfl (by kernel_rfl) (lam_of rfl (lc z47_0 ln)) fun vs bs q h hn=>by
 unfold g47 at h
 split at h <;> cases h
 rename_i j m
 have hn:=n1 hn
 exact ⟨_,rfl,ca (fun R=>(cnd (decide (j=j))
 (cnd ((o47_0 j m m (↑j:Int) (-1) 0).isSome)
 (R (V Z ((o47_0 j m m (↑j:Int) (-1) 0).getD 0)) [] [])
  False)
 False)) (fun R=>by kernel_rfl) (cn (decide_eq_true rfl) (cn (al hn) (lf rfl rfl)))⟩
/-! ### shotline/shotlinebase.Ranges -/
def l20_0 (a:Nat) (b:Dat) (g:Nat) (d:Dat):Nat→Int→Option (Bool × (Bool) × (Unit))
 | 0,_=>none
 | f+1,i=>(cond (decide (i<(↑a:Int))) (cond (decide (0≤i∧i<↑a)) (cond (decide (0≤i∧i<↑g)) (cond (bif (bif (decide ((b.ii i.toNat 0)=(d.ii i.toNat 0))) then (bif (decide ((b.ii i.toNat 1)=(d.ii i.toNat 1))) then true else false) else false) then false else true) (some (true,false,default)) (l20_0 a b g d f (Z.wrap (i+1)))) none) none) (some (false,default,())))
abbrev o20_0 (a:Nat) (b:Dat) (g:Nat) (d:Dat) (i:Int):Option (Bool × (Bool) × (Unit)):=l20_0 a b g d (a+g+i.toNat+8) i
def e20_0 (a:Nat) (b:Dat) (g:Nat) (d:Dat) (r:Bool × (Bool) × (Unit)) (K:XR):Prop:=cnd r.1 (K (XE.ret) [.bool r.2.1] []) (K (XE.exit 0) [.any] [])
def g20_0:LSum:=fun s k=>match czv 0 26 [0,1,5] 0 [] s with
 | some ([.ro [W Z,W Z] a b,.ro [W Z,W Z] g d,V Z i],[])=>needs [(o20_0 a b g d i).isSome] (e20_0 a b g d ((o20_0 a b g d i).getD default) fun e vs bs=>inBlk 0 k e (mkSt 0 26 [4] vs 0 bs))
 | _=>False
theorem z20_0:LOk Tryz.prog g20_0 (.block 0 (bodyAt (Tryz.f20.body.getD .skip) 0)):=by
 refine lb (ι:=Nat × Dat × Nat × Dat × Int) (fuel:=8) (na:=0) (nt:=26) (nx:=0) (Lh:=[0,1,5]) (Le:=[4]) (gl:=[]) tn mix_ok noLam rfl (fun f (a,b,g,d,i) K=>GG default (e20_0 a b g d) K (l20_0 a b g d f i)) (fun (a,b,g,d,i)=>[.ro [W Z,W Z] a b,.ro [W Z,W Z] g d,V Z i]) (fun (a,b,g,d,i)=>[]) (fun (_,_,_,_,_) K=>gg_none) ?_ ?_
 ·rintro f ⟨a,b,g,d,i⟩ K hG
  refine ro (fun R=>(cnd (decide (i<(↑a:Int)))
 (cnd (decide (0≤i∧i<↑a))
 (cnd (decide (0≤i∧i<↑g))
 (cnd (bif (bif (decide ((b.ii i.toNat 0)=(d.ii i.toNat 0))) then (bif (decide ((b.ii i.toNat 1)=(d.ii i.toNat 1))) then true else false) else false) then false else true)
 (R (XE.ret) [.bool false] [])
 (R (XE.normal) [.ro [W Z,W Z] a b,.ro [W Z,W Z] g d,V Z (Z.wrap (i+1))] []))
  False)
  False)
 (R (XE.exit 0) [.any] []))) (fun R=>by kernel_rfl) ?_
  exact ch hG (fun h0=>cg h0 fun h1=>cg h1 fun h2=>ch h2 (fun h3=>h3.2) (fun h3=>⟨(_,_,_,_,_),rfl,rfl,h3⟩)) (fun h0=>h0.2)
 ·intro s k h
  unfold g20_0 at h
  split at h <;> try exact h.elim
  rename_i e1
  rw [needs_iff] at h
  exact ⟨_,e1,_,(_,_,_,_,_),rfl,rfl,h.1 _ (List.mem_singleton.2 rfl),h.2⟩
def m20 (j:Nat) (m:Dat) (l:Nat) (n:Dat):Bool :=
 (cond (bif (decide ((↑j:Int)=(↑l:Int))) then false else true) false (cond ((o20_0 j m l n 0).getD default).1 ((o20_0 j m l n 0).getD default).2.1 true))
def n20 (j:Nat) (m:Dat) (l:Nat) (n:Dat):Bool :=
 (cond (bif (decide ((↑j:Int)=(↑l:Int))) then false else true) true (((o20_0 j m l n 0).isSome)&&true))
def q20 (r:Bool):SV × List Blk × List Blk:=(.bool r,[],[])
def g20:GF:=fun vs bs=>match vs,bs with
 | [.ro [W Z,W Z] j m,.ro [W Z,W Z] l n],[]=>some (rs 0 (q20 (m20 j m l n)) [n20 j m l n])
 | _,_=>none
def c20:Ctr:=genC [.ro [W Z,W Z],.ro [W Z,W Z]] g20
theorem k20:CtrOk Tryz.prog c20 20:=cx tn mix_ok 8 (fn:=Tryz.f20) (c:=(Tryz.f20.body.getD .skip)) (grs:=[]) (rh:=.k) Tryz.func20 rfl (by kernel_rfl) (lam_of rfl (lc z20_0 ln)) fun vs bs q h hn=>by
 unfold g20 at h
 split at h <;> cases h
 rename_i j m l n
 have hn:=n1 hn
 exact ⟨_,rfl,ca (fun R=>(cnd (bif (decide ((↑j:Int)=(↑l:Int))) then false else true)
 (R (.bool false) [] [])
 (cnd ((o20_0 j m l n 0).isSome)
 (cnd ((o20_0 j m l n 0).getD default).1
 (R (.bool ((o20_0 j m l n 0).getD default).2.1) [] [])
 (R (.bool true) [] []))
  False))) (fun R=>by kernel_rfl) (co (fun h0=>lf (cT h0 rfl) rfl) (fun h0=>cn (al (cf h0 hn)) (co (fun h1=>lf (cF h0 (cT h1 rfl)) rfl) (fun h1=>lf (cF h0 (cF h1 rfl)) rfl))))⟩

/-! ### math/bits.Len64 -/
def t98_0 (a:Int):Int:=(a.fdiv 4294967296).fdiv 65536
def t98_1 (a:Int):ByteArray:=bt64104_0
def U98 (a z0:Int) (z1:ByteArray) (R:SV→List Blk→List Blk→Prop):Prop :=
 (cnd (decide (4294967296≤a))
 (cnd (decide (65536≤(a.fdiv 4294967296)))
 (cnd (decide (256≤z0))
 (cnd (decide (0≤IntKind.u8.wrap (((a.fdiv (2 ^ min (Int.toNat 32) IntKind.u64.bits)).fdiv (2 ^ min (Int.toNat 16) IntKind.u64.bits)).fdiv (2 ^ min (Int.toNat 8) IntKind.u64.bits))∧IntKind.u8.wrap (((a.fdiv (2 ^ min (Int.toNat 32) IntKind.u64.bits)).fdiv (2 ^ min (Int.toNat 16) IntKind.u64.bits)).fdiv (2 ^ min (Int.toNat 8) IntKind.u64.bits))<(↑bt36767_1.size:Int)))
 (R (V Z (Z.wrap (56+(Z.wrap (byteAt z1 ((IntKind.u8.wrap (z0.fdiv 256)).toNat)))))) [] [])
   False)
 (cnd (decide (0≤IntKind.u8.wrap ((a.fdiv (2 ^ min (Int.toNat 32) IntKind.u64.bits)).fdiv (2 ^ min (Int.toNat 16) IntKind.u64.bits))∧IntKind.u8.wrap ((a.fdiv (2 ^ min (Int.toNat 32) IntKind.u64.bits)).fdiv (2 ^ min (Int.toNat 16) IntKind.u64.bits))<(↑bt36767_1.size:Int)))
 (R (V Z (Z.wrap (48+(Z.wrap (byteAt z1 ((IntKind.u8.wrap z0).toNat)))))) [] [])
   False))
 (cnd (decide (256≤(a.fdiv 4294967296)))
 (cnd (decide (0≤IntKind.u8.wrap ((a.fdiv (2 ^ min (Int.toNat 32) IntKind.u64.bits)).fdiv (2 ^ min (Int.toNat 8) IntKind.u64.bits))∧IntKind.u8.wrap ((a.fdiv (2 ^ min (Int.toNat 32) IntKind.u64.bits)).fdiv (2 ^ min (Int.toNat 8) IntKind.u64.bits))<(↑bt36767_1.size:Int)))
 (R (V Z (Z.wrap (40+(Z.wrap (byteAt z1 ((IntKind.u8.wrap ((a.fdiv 4294967296).fdiv 256)).toNat)))))) [] [])
   False)
 (cnd (decide (0≤IntKind.u8.wrap (a.fdiv (2 ^ min (Int.toNat 32) IntKind.u64.bits))∧IntKind.u8.wrap (a.fdiv (2 ^ min (Int.toNat 32) IntKind.u64.bits))<(↑bt36767_1.size:Int)))
 (R (V Z (Z.wrap (32+(Z.wrap (byteAt z1 ((IntKind.u8.wrap (a.fdiv 4294967296)).toNat)))))) [] [])
   False)))
 (cnd (decide (65536≤a))
 (cnd (decide (256≤(a.fdiv 65536)))
 (cnd (decide (0≤IntKind.u8.wrap ((a.fdiv (2 ^ min (Int.toNat 16) IntKind.u64.bits)).fdiv (2 ^ min (Int.toNat 8) IntKind.u64.bits))∧IntKind.u8.wrap ((a.fdiv (2 ^ min (Int.toNat 16) IntKind.u64.bits)).fdiv (2 ^ min (Int.toNat 8) IntKind.u64.bits))<(↑bt36767_1.size:Int)))
 (R (V Z (Z.wrap (24+(Z.wrap (byteAt z1 ((IntKind.u8.wrap ((a.fdiv 65536).fdiv 256)).toNat)))))) [] [])
   False)
 (cnd (decide (0≤IntKind.u8.wrap (a.fdiv (2 ^ min (Int.toNat 16) IntKind.u64.bits))∧IntKind.u8.wrap (a.fdiv (2 ^ min (Int.toNat 16) IntKind.u64.bits))<(↑bt36767_1.size:Int)))
 (R (V Z (Z.wrap (16+(Z.wrap (byteAt z1 ((IntKind.u8.wrap (a.fdiv 65536)).toNat)))))) [] [])
   False))
 (cnd (decide (256≤a))
 (cnd (decide (0≤IntKind.u8.wrap (a.fdiv (2 ^ min (Int.toNat 8) IntKind.u64.bits))∧IntKind.u8.wrap (a.fdiv (2 ^ min (Int.toNat 8) IntKind.u64.bits))<(↑bt36767_1.size:Int)))
 (R (V Z (Z.wrap (8+(Z.wrap (byteAt z1 ((IntKind.u8.wrap (a.fdiv 256)).toNat)))))) [] [])
   False)
 (cnd (decide ((0:Int)≤IntKind.u8.wrap a∧IntKind.u8.wrap a<(↑bt14506_2.size:Int)))
 (R (V Z (Z.wrap (0+(Z.wrap (byteAt z1 ((IntKind.u8.wrap a).toNat)))))) [] [])
   False))))
def w98 (a z0:Int) (z1:ByteArray):Int :=
 (cond (decide (4294967296≤a)) (cond (decide (65536≤(a.fdiv 4294967296))) (cond (decide (256≤z0)) (Z.wrap (56+(Z.wrap (byteAt z1 ((IntKind.u8.wrap (z0.fdiv 256)).toNat))))) (Z.wrap (48+(Z.wrap (byteAt z1 ((IntKind.u8.wrap z0).toNat)))))) (cond (decide (256≤(a.fdiv 4294967296))) (Z.wrap (40+(Z.wrap (byteAt z1 ((IntKind.u8.wrap ((a.fdiv 4294967296).fdiv 256)).toNat))))) (Z.wrap (32+(Z.wrap (byteAt z1 ((IntKind.u8.wrap (a.fdiv 4294967296)).toNat))))))) (cond (decide (65536≤a)) (cond (decide (256≤(a.fdiv 65536))) (Z.wrap (24+(Z.wrap (byteAt z1 ((IntKind.u8.wrap ((a.fdiv 65536).fdiv 256)).toNat))))) (Z.wrap (16+(Z.wrap (byteAt z1 ((IntKind.u8.wrap (a.fdiv 65536)).toNat)))))) (cond (decide (256≤a)) (Z.wrap (8+(Z.wrap (byteAt z1 ((IntKind.u8.wrap (a.fdiv 256)).toNat))))) (Z.wrap (0+(Z.wrap (byteAt z1 ((IntKind.u8.wrap a).toNat))))))))
def v98 (a z0:Int) (z1:ByteArray):Bool :=
 (cond (decide (4294967296≤a)) (cond (decide (65536≤(a.fdiv 4294967296))) (cond (decide (256≤z0)) ((decide (0≤IntKind.u8.wrap (((a.fdiv (2 ^ min (Int.toNat 32) IntKind.u64.bits)).fdiv (2 ^ min (Int.toNat 16) IntKind.u64.bits)).fdiv (2 ^ min (Int.toNat 8) IntKind.u64.bits))∧IntKind.u8.wrap (((a.fdiv (2 ^ min (Int.toNat 32) IntKind.u64.bits)).fdiv (2 ^ min (Int.toNat 16) IntKind.u64.bits)).fdiv (2 ^ min (Int.toNat 8) IntKind.u64.bits))<(↑bt36767_1.size:Int)))&&true) ((decide (0≤IntKind.u8.wrap ((a.fdiv (2 ^ min (Int.toNat 32) IntKind.u64.bits)).fdiv (2 ^ min (Int.toNat 16) IntKind.u64.bits))∧IntKind.u8.wrap ((a.fdiv (2 ^ min (Int.toNat 32) IntKind.u64.bits)).fdiv (2 ^ min (Int.toNat 16) IntKind.u64.bits))<(↑bt36767_1.size:Int)))&&true)) (cond (decide (256≤(a.fdiv 4294967296))) ((decide (0≤IntKind.u8.wrap ((a.fdiv (2 ^ min (Int.toNat 32) IntKind.u64.bits)).fdiv (2 ^ min (Int.toNat 8) IntKind.u64.bits))∧IntKind.u8.wrap ((a.fdiv (2 ^ min (Int.toNat 32) IntKind.u64.bits)).fdiv (2 ^ min (Int.toNat 8) IntKind.u64.bits))<(↑bt36767_1.size:Int)))&&true) ((decide (0≤IntKind.u8.wrap (a.fdiv (2 ^ min (Int.toNat 32) IntKind.u64.bits))∧IntKind.u8.wrap (a.fdiv (2 ^ min (Int.toNat 32) IntKind.u64.bits))<(↑bt36767_1.size:Int)))&&true))) (cond (decide (65536≤a)) (cond (decide (256≤(a.fdiv 65536))) ((decide (0≤IntKind.u8.wrap ((a.fdiv (2 ^ min (Int.toNat 16) IntKind.u64.bits)).fdiv (2 ^ min (Int.toNat 8) IntKind.u64.bits))∧IntKind.u8.wrap ((a.fdiv (2 ^ min (Int.toNat 16) IntKind.u64.bits)).fdiv (2 ^ min (Int.toNat 8) IntKind.u64.bits))<(↑bt36767_1.size:Int)))&&true) ((decide (0≤IntKind.u8.wrap (a.fdiv (2 ^ min (Int.toNat 16) IntKind.u64.bits))∧IntKind.u8.wrap (a.fdiv (2 ^ min (Int.toNat 16) IntKind.u64.bits))<(↑bt36767_1.size:Int)))&&true)) (cond (decide (256≤a)) ((decide (0≤IntKind.u8.wrap (a.fdiv (2 ^ min (Int.toNat 8) IntKind.u64.bits))∧IntKind.u8.wrap (a.fdiv (2 ^ min (Int.toNat 8) IntKind.u64.bits))<(↑bt36767_1.size:Int)))&&true) ((decide ((0:Int)≤IntKind.u8.wrap a∧IntKind.u8.wrap a<(↑bt14506_2.size:Int)))&&true))))
def m98 (a:Int):Int:=w98 a (t98_0 a) (t98_1 a)
def n98 (a:Int):Bool:=v98 a (t98_0 a) (t98_1 a)
def q98 (r:Int):SV × List Blk × List Blk:=(V Z r,[],[])
def g98:GF:=fun vs bs=>match vs,bs with
 | [.int .u64 a],[]=>some (rs 0 (q98 (m98 a)) [n98 a])
 | _,_=>none
def c98:Ctr:=genC [.k] g98
theorem u98 (a z0:Int) (z1:ByteArray) (hn:v98 a z0 z1=true):U98 a z0 z1 (fun v U N=>(v,U,N)=q98 (w98 a z0 z1)) :=
 co (fun h0=>co (fun h1=>co (fun h2=>cn (al (ct h2 (ct h1 (ct h0 hn)))) (lf (cT h0 (cT h1 (cT h2 rfl))) rfl)) (fun h2=>cn (al (cf h2 (ct h1 (ct h0 hn)))) (lf (cT h0 (cT h1 (cF h2 rfl))) rfl))) (fun h1=>co (fun h2=>cn (al (ct h2 (cf h1 (ct h0 hn)))) (lf (cT h0 (cF h1 (cT h2 rfl))) rfl)) (fun h2=>cn (al (cf h2 (cf h1 (ct h0 hn)))) (lf (cT h0 (cF h1 (cF h2 rfl))) rfl)))) (fun h0=>co (fun h1=>co (fun h2=>cn (al (ct h2 (ct h1 (cf h0 hn)))) (lf (cF h0 (cT h1 (cT h2 rfl))) rfl)) (fun h2=>cn (al (cf h2 (ct h1 (cf h0 hn)))) (lf (cF h0 (cT h1 (cF h2 rfl))) rfl))) (fun h1=>co (fun h2=>cn (al (ct h2 (cf h1 (cf h0 hn)))) (lf (cF h0 (cF h1 (cT h2 rfl))) rfl)) (fun h2=>cn (al (cf h2 (cf h1 (cf h0 hn)))) (lf (cF h0 (cF h1 (cF h2 rfl))) rfl))))
theorem k98:CtrOk Tryz.prog c98 98:=cx tn mix_ok 8 (fn:=Tryz.f98) (c:=(Tryz.f98.body.getD .skip)) (grs:=[]) (rh:=.k) Tryz.func98 rfl (by kernel_rfl) noLam fun vs bs q h hn=>by
 unfold g98 at h
 split at h <;> cases h
 rename_i a
 have hn:=n1 hn
 exact ⟨_,rfl,ca (fun R=>U98 a (t98_0 a) (t98_1 a) R) (fun R=>by kernel_rfl) (u98 a (t98_0 a) (t98_1 a) hn)⟩
/-! ### shotline/site.isName -/
def l71_0 (d:Nat) (a:Dat) (g:Int):Nat→Int→Option (Bool × (Bool) × (Unit))
 | 0,_=>none
 | f+1,b=>(cond (decide (b<g)) (cond (decide (0≤b∧b<↑d)) (cond (bif (bif (bif (bif (decide (97≤(a.ii b.toNat 0))) then (decide ((a.ii b.toNat 0)≤122)) else false) then true else (bif (decide (65≤(a.ii b.toNat 0))) then (decide ((a.ii b.toNat 0)≤90)) else false)) then false else true) then (bif (decide (b=0)) then true else (bif (bif (decide ((a.ii b.toNat 0)=45)) then false else true) then (bif (decide ((a.ii b.toNat 0)<48)) then true else (decide (57<(a.ii b.toNat 0)))) else false)) else false) (some (true,false,default)) (l71_0 d a g f (Z.wrap (b+1)))) none) (some (false,default,())))
abbrev o71_0 (d:Nat) (a:Dat) (g b:Int):Option (Bool × (Bool) × (Unit)):=l71_0 d a g (d+g.toNat+b.toNat+8) b
def e71_0 (d:Nat) (a:Dat) (g:Int) (r:Bool × (Bool) × (Unit)) (K:XR):Prop:=cnd r.1 (K (XE.ret) [.bool r.2.1] []) (K (XE.exit 0) [.any] [])
def g71_0:LSum:=fun s k=>match czv 0 54 [14,15,16] 0 [] s with
 | some ([.ro [.int .u8] d a,V Z g,V Z b],[])=>needs [(o71_0 d a g b).isSome] (e71_0 d a g ((o71_0 d a g b).getD default) fun e vs bs=>inBlk 0 k e (mkSt 0 54 [2] vs 0 bs))
 | _=>False
theorem z71_0:LOk Tryz.prog g71_0 (.block 0 (bodyAt (Tryz.f71.body.getD .skip) 0)):=by
 refine lb (ι:=Nat × Dat × Int × Int) (fuel:=8) (na:=0) (nt:=54) (nx:=0) (Lh:=[14,15,16]) (Le:=[2]) (gl:=[]) tn mix_ok noLam rfl (fun f (d,a,g,b) K=>GG default (e71_0 d a g) K (l71_0 d a g f b)) (fun (d,a,g,b)=>[.ro [.int .u8] d a,V Z g,V Z b]) (fun (d,a,g,b)=>[]) (fun (_,_,_,_) K=>gg_none) ?_ ?_
 ·rintro f ⟨d,a,g,b⟩ K hG
  refine ro (fun R=>(cnd (decide (b<g))
 (cnd (decide (0≤b∧b<↑d))
 (cnd (bif (bif (bif (bif (decide (97≤(a.ii b.toNat 0))) then (decide ((a.ii b.toNat 0)≤122)) else false) then true else (bif (decide (65≤(a.ii b.toNat 0))) then (decide ((a.ii b.toNat 0)≤90)) else false)) then false else true) then (bif (decide (b=0)) then true else (bif (bif (decide ((a.ii b.toNat 0)=45)) then false else true) then (bif (decide ((a.ii b.toNat 0)<48)) then true else (decide (57<(a.ii b.toNat 0)))) else false)) else false)
 (R (XE.ret) [.bool false] [])
 (R (XE.normal) [.ro [.int .u8] d a,V Z g,V Z (Z.wrap (b+1))] []))
  False)
 (R (XE.exit 0) [.any] []))) (fun R=>by kernel_rfl) ?_
  exact ch hG (fun h0=>cg h0 fun h1=>ch h1 (fun h2=>h2.2) (fun h2=>⟨(_,_,_,_),rfl,rfl,h2⟩)) (fun h0=>h0.2)
 ·intro s k h
  unfold g71_0 at h
  split at h <;> try exact h.elim
  rename_i e1
  rw [needs_iff] at h
  exact ⟨_,e1,_,(_,_,_,_),rfl,rfl,h.1 _ (List.mem_singleton.2 rfl),h.2⟩
def m71 (i:ByteArray):Bool :=
 (cond (bif (decide (i=({ data:=#[] }:ByteArray))) then true else (decide (12<(↑i.size:Int)))) false (cond ((o71_0 i.size ({ ii:=fun q x=>(↑(i.data.toList.getD q 0).toNat:Int),ss:=noDat.ss,bb:=noDat.bb,sn:=noDat.sn,sd:=noDat.sd }) (↑i.size:Int) 0).getD default).1 ((o71_0 i.size ({ ii:=fun q x=>(↑(i.data.toList.getD q 0).toNat:Int),ss:=noDat.ss,bb:=noDat.bb,sn:=noDat.sn,sd:=noDat.sd }) (↑i.size:Int) 0).getD default).2.1 true))
def n71 (i:ByteArray):Bool :=
 (cond (bif (decide (i=({ data:=#[] }:ByteArray))) then true else (decide (12<(↑i.size:Int)))) true (((o71_0 i.size ({ ii:=fun q x=>(↑(i.data.toList.getD q 0).toNat:Int),ss:=noDat.ss,bb:=noDat.bb,sn:=noDat.sn,sd:=noDat.sd }) (↑i.size:Int) 0).isSome)&&true))
def q71 (r:Bool):SV × List Blk × List Blk:=(.bool r,[],[])
def g71:GF:=fun vs bs=>match vs,bs with
 | [.str i],[]=>some (rs 0 (q71 (m71 i)) [n71 i])
 | _,_=>none
def c71:Ctr:=genC [.k] g71
theorem k71:CtrOk Tryz.prog c71 71:=cx tn mix_ok 8 (fn:=Tryz.f71) (c:=(Tryz.f71.body.getD .skip)) (grs:=[]) (rh:=.k) Tryz.func71 rfl (by kernel_rfl) (lam_of rfl (lc z71_0 ln)) fun vs bs q h hn=>by
 unfold g71 at h
 split at h <;> cases h
 rename_i i
 have hn:=n1 hn
 exact ⟨_,rfl,ca (fun R=>(cnd (bif (decide (i=({ data:=#[] }:ByteArray))) then true else (decide (12<(↑i.size:Int))))
 (R (.bool false) [] [])
 (cnd ((o71_0 i.size ({ ii:=fun q x=>(↑(i.data.toList.getD q 0).toNat:Int),ss:=noDat.ss,bb:=noDat.bb,sn:=noDat.sn,sd:=noDat.sd }) (↑i.size:Int) 0).isSome)
 (cnd ((o71_0 i.size ({ ii:=fun q x=>(↑(i.data.toList.getD q 0).toNat:Int),ss:=noDat.ss,bb:=noDat.bb,sn:=noDat.sn,sd:=noDat.sd }) (↑i.size:Int) 0).getD default).1
 (R (.bool ((o71_0 i.size ({ ii:=fun q x=>(↑(i.data.toList.getD q 0).toNat:Int),ss:=noDat.ss,bb:=noDat.bb,sn:=noDat.sn,sd:=noDat.sd }) (↑i.size:Int) 0).getD default).2.1) [] [])
 (R (.bool true) [] []))
  False))) (fun R=>by kernel_rfl) (co (fun h0=>lf (cT h0 rfl) rfl) (fun h0=>cn (al (cf h0 hn)) (co (fun h1=>lf (cF h0 (cT h1 rfl)) rfl) (fun h1=>lf (cF h0 (cF h1 rfl)) rfl))))⟩
/-! ### shotline/site.CheckChart$1 -/
def m74 (a:Nat) (d b:Dat):Bool :=
 (bif (decide ((↑a:Int)=(b.ii 0 0))) then false else true)
def q74 (r:Bool):SV × List Blk × List Blk:=(.bool r,[],[])
def g74:GF:=fun vs bs=>match vs,bs with
 | [.ro [W Z] a d,.rp [W Z] b 0 0],[]=>some (rs 0 (q74 (m74 a d b)) [])
 | _,_=>none
def c74:Ctr:=genC [.ro [W Z],.rp [W Z]] g74
theorem k74:CtrOk Tryz.prog c74 74:=cx tn mix_ok 8 (fn:=Tryz.f74) (c:=(Tryz.f74.body.getD .skip)) (grs:=[]) (rh:=.k) Tryz.func74 rfl (by kernel_rfl) noLam fun vs bs q h hn=>by
 unfold g74 at h
 split at h <;> cases h
 rename_i a d b
 exact ⟨_,rfl,ca (fun R=>(R (.bool (bif (decide ((↑a:Int)=(b.ii 0 0))) then false else true)) [] [])) (fun R=>by kernel_rfl) (lf rfl rfl)⟩
/-! ### (*shotline/site.windows).add -/
def m43 (a ma0_0:Nat) (b:Dat) (d e:Int):Nat × Nat × Dat :=
 (cond (bif (decide ((0:Int)<(↑a:Int))) then (decide (d≤(Z.wrap ((b.ii ((Z.wrap ((↑a:Int) - 1)).toNat) 1)+1)))) else false) (a,ma0_0,(b.upd ((Z.wrap ((↑a:Int) - 1)).toNat) 1 [V Z (imax (b.ii ((Z.wrap ((↑a:Int) - 1)).toNat) 1) e)])) ((a+1),(a+1),(b.app a (datS [V Z d,V Z e] 2))))
def n43 (a ma0_0:Nat) (b:Dat) (d e:Int):Bool :=
 ((bif (bif (decide ((0:Int)<(↑a:Int))) then false else true) then true else (decide (0≤Z.wrap ((↑a:Int) - 1)∧Z.wrap ((↑a:Int) - 1)<(↑a:Int))))&&((bif (bif (decide ((0:Int)<(↑a:Int))) then false else true) then true else (decide (((Z.wrap ((↑a:Int) - 1)).toNat)<ma0_0)))&&(cond (bif (decide ((0:Int)<(↑a:Int))) then (decide (d≤(Z.wrap ((b.ii ((Z.wrap ((↑a:Int) - 1)).toNat) 1)+1)))) else false) ((decide (0≤Z.wrap ((↑a:Int) - 1)∧Z.wrap ((↑a:Int) - 1)<(↑a:Int)))&&((decide (((Z.wrap ((↑a:Int) - 1)).toNat)<ma0_0))&&((decide (0≤Z.wrap ((↑a:Int) - 1)∧Z.wrap ((↑a:Int) - 1)<(↑a:Int)))&&((decide (((Z.wrap ((↑a:Int) - 1)).toNat)<ma0_0))&&true)))) ((decide (a≤ma0_0))&&((decide ((a+1)≤1073741824))&&true)))))
def q43 (r:Nat × Nat × Dat):SV × List Blk × List Blk:=(.tup [],[.cells 98 [.gr 2 2 r.1],.unk],[.row 41 [W Z,W Z] r.2.1 r.2.2])
def g43:GF:=fun vs bs=>match vs,bs with
 | [.ptr 0 0,.agg [V Z d,V Z e]],[.cells 98 [.gr 1 2 a],.row 41 [W Z,W Z] ma0_0 b]=>some (rs 2 (q43 (m43 a ma0_0 b d e)) [n43 a ma0_0 b d e])
 | _,_=>none
def c43:Ctr:=genC [.c [.gr 41 [W Z,W Z]],.k] g43
theorem k43:CtrOk Tryz.prog c43 43:=cx tn mix_ok 8 (fn:=Tryz.f43) (c:=(Tryz.f43.body.getD .skip)) (grs:=[1]) (rh:=.k) Tryz.func43 rfl (by kernel_rfl) noLam fun vs bs q h hn=>by
 unfold g43 at h
 split at h <;> cases h
 rename_i d e a ma0_0 b
 have hn:=n1 hn
 exact ⟨_,rfl,ca (fun R => 
 let a0:=(decide (0≤Z.wrap ((↑a:Int) - 1)∧Z.wrap ((↑a:Int) - 1)<(↑a:Int)))
 let b0:=((Z.wrap ((↑a:Int) - 1)).toNat)
 let c0:=(decide ((0:Int)<(↑a:Int)))
 (cnd (bif (bif c0 then false else true) then true else a0)
 (cnd (bif (bif c0 then false else true) then true else (decide (b0<ma0_0)))
 (cnd (bif c0 then (decide (d≤(Z.wrap ((b.ii b0 1)+1)))) else false)
 (cnd a0
 (cnd (decide (b0<ma0_0))
 (cnd a0
 (cnd (decide (b0<ma0_0))
 (R (.tup []) [.cells 98 [.gr 2 2 a],.unk] [.row 41 [W Z,W Z] ma0_0 (b.upd b0 1 [V Z (imax (b.ii b0 1) e)])])
    False)
    False)
   False)
   False)
 (cnd (decide (a≤ma0_0))
 (cnd (decide ((a+1)≤1073741824))
 (R (.tup []) [.cells 98 [.gr 2 2 (a+1)],.unk] [.row 41 [W Z,W Z] (a+1) (b.app a (datS [V Z d,V Z e] 2))])
   False)
   False))
  False)
 False)) (fun R=>by kernel_rfl) (cn (al hn) (cn (al (ar hn)) (co (fun h0=>cn (al (ct h0 (ar (ar hn)))) (cn (al (ar (ct h0 (ar (ar hn))))) (cn (al (ar (ar (ct h0 (ar (ar hn)))))) (cn (al (ar (ar (ar (ct h0 (ar (ar hn))))))) (lf (cT h0 rfl) rfl))))) (fun h0=>cn (al (cf h0 (ar (ar hn)))) (cn (al (ar (cf h0 (ar (ar hn))))) (lf (cF h0 rfl) rfl))))))⟩

/-! ### slices.Index[[]string,string] -/
def l99_0 (a:Nat) (b:Dat) (i:ByteArray) (j:Int):Nat→Int→Option (Bool × (Int) × (Unit))
 | 0,_=>none
 | f+1,g=>(cond (decide (g<j)) (cond (decide (0≤g∧g<↑a)) (cond (decide (i=(b.ss g.toNat 0))) (some (true,g,default)) (l99_0 a b i j f (Z.wrap (g+1)))) none) (some (false,default,())))
abbrev o99_0 (a:Nat) (b:Dat) (i:ByteArray) (j g:Int):Option (Bool × (Int) × (Unit)):=l99_0 a b i j (a+i.size+j.toNat+g.toNat+8) g
def e99_0 (a:Nat) (b:Dat) (i:ByteArray) (j:Int) (r:Bool × (Int) × (Unit)) (K:XR):Prop:=cnd r.1 (K (XE.ret) [V Z r.2.1] []) (K (XE.exit 0) [.any] [])
def g99_0:LSum:=fun s k=>match czv 0 19 [0,1,7,8] 0 [] s with
 | some ([.ro [.str] a b,.str i,V Z j,V Z g],[])=>needs [(o99_0 a b i j g).isSome] (e99_0 a b i j ((o99_0 a b i j g).getD default) fun e vs bs=>inBlk 0 k e (mkSt 0 19 [4] vs 0 bs))
 | _=>False
theorem z99_0:LOk Tryz.prog g99_0 (.block 0 (bodyAt (Tryz.f99.body.getD .skip) 0)):=by
 refine lb (ι:=Nat × Dat × ByteArray × Int × Int) (fuel:=8) (na:=0) (nt:=19) (nx:=0) (Lh:=[0,1,7,8]) (Le:=[4]) (gl:=[]) tn mix_ok noLam rfl (fun f (a,b,i,j,g) K=>GG default (e99_0 a b i j) K (l99_0 a b i j f g)) (fun (a,b,i,j,g)=>[.ro [.str] a b,.str i,V Z j,V Z g]) (fun (a,b,i,j,g)=>[]) (fun (_,_,_,_,_) K=>gg_none) ?_ ?_
 ·rintro f ⟨a,b,i,j,g⟩ K hG
  refine ro (fun R=>(cnd (decide (g<j))
 (cnd (decide (0≤g∧g<↑a))
 (cnd (decide (i=(b.ss g.toNat 0)))
 (R (XE.ret) [V Z g] [])
 (R (XE.normal) [.ro [.str] a b,.str i,V Z j,V Z (Z.wrap (g+1))] []))
  False)
 (R (XE.exit 0) [.any] []))) (fun R=>by kernel_rfl) ?_
  exact ch hG (fun h0=>cg h0 fun h1=>ch h1 (fun h2=>h2.2) (fun h2=>⟨(_,_,_,_,_),rfl,rfl,h2⟩)) (fun h0=>h0.2)
 ·intro s k h
  unfold g99_0 at h
  split at h <;> try exact h.elim
  rename_i e1
  rw [needs_iff] at h
  exact ⟨_,e1,_,(_,_,_,_,_),rfl,rfl,h.1 _ (List.mem_singleton.2 rfl),h.2⟩
def m99 (d:Nat) (l:Dat) (m:ByteArray):Int :=
 (cond ((o99_0 d l m (↑d:Int) 0).getD default).1 ((o99_0 d l m (↑d:Int) 0).getD default).2.1 (-1))
def n99 (d:Nat) (l:Dat) (m:ByteArray):Bool :=
 (((o99_0 d l m (↑d:Int) 0).isSome)&&true)
def q99 (r:Int):SV × List Blk × List Blk:=(V Z r,[],[])
def g99:GF:=fun vs bs=>match vs,bs with
 | [.ro [.str] d l,.str m],[]=>some (rs 0 (q99 (m99 d l m)) [n99 d l m])
 | _,_=>none
def c99:Ctr:=genC [.ro [.str],.k] g99
theorem k99:CtrOk Tryz.prog c99 99:=cx tn mix_ok 8 (fn:=Tryz.f99) (c:=(Tryz.f99.body.getD .skip)) (grs:=[]) (rh:=.k) Tryz.func99 rfl (by kernel_rfl) (lam_of rfl (lc z99_0 ln)) fun vs bs q h hn=>by
 unfold g99 at h
 split at h <;> cases h
 rename_i d l m
 have hn:=n1 hn
 exact ⟨_,rfl,ca (fun R=>(cnd ((o99_0 d l m (↑d:Int) 0).isSome)
 (cnd ((o99_0 d l m (↑d:Int) 0).getD default).1
 (R (V Z ((o99_0 d l m (↑d:Int) 0).getD default).2.1) [] [])
 (R (V Z (-1)) [] []))
 False)) (fun R=>by kernel_rfl) (cn (al hn) (co (fun h0=>lf (cT h0 rfl) rfl) (fun h0=>lf (cF h0 rfl) rfl)))⟩
/-! ### slices.IndexFunc[[][]int,[]int] -/
def l100c74_0 (b:Nat) (a j:Dat) (i:Int):Nat→Int→Option (Bool × (Int) × (Unit))
 | 0,_=>none
 | f+1,d=>(cond (decide (d<i)) (cond (decide (0≤d∧d<↑b)) (cond (m74 (a.sn d.toNat 0) (a.sub d.toNat 0) j) (some (true,d,default)) (l100c74_0 b a j i f (Z.wrap (d+1)))) none) (some (false,default,())))
abbrev o100c74_0 (b:Nat) (a j:Dat) (i d:Int):Option (Bool × (Int) × (Unit)):=l100c74_0 b a j i (b+i.toNat+d.toNat+8) d
def e100c74_0 (b:Nat) (a j:Dat) (i:Int) (r:Bool × (Int) × (Unit)) (K:XR):Prop:=cnd r.1 (K (XE.ret) [V Z r.2.1] []) (K (XE.exit 0) [.any] [])
def g100c74_0:LSum:=fun s k=>match czv 0 19 [0,1,7,8] 0 [] s with
 | some ([.ro [.sl [W Z]] b a,.fn 74 [.rp [W Z] j 0 0],V Z i,V Z d],[])=>needs [(o100c74_0 b a j i d).isSome] (e100c74_0 b a j i ((o100c74_0 b a j i d).getD default) fun e vs bs=>inBlk 0 k e (mkSt 0 19 [4] vs 0 bs))
 | _=>False
theorem z100c74_0:LOk Tryz.prog g100c74_0 (.block 0 (bodyAt (Tryz.f100.body.getD .skip) 0)):=by
 refine lb (ι:=Nat × Dat × Dat × Int × Int) (fuel:=8) (na:=0) (nt:=19) (nx:=0) (Lh:=[0,1,7,8]) (Le:=[4]) (gl:=[]) (tc k74 tn) mix_ok noLam rfl (fun f (b,a,j,i,d) K=>GG default (e100c74_0 b a j i) K (l100c74_0 b a j i f d)) (fun (b,a,j,i,d)=>[.ro [.sl [W Z]] b a,.fn 74 [.rp [W Z] j 0 0],V Z i,V Z d]) (fun (b,a,j,i,d)=>[]) (fun (_,_,_,_,_) K=>gg_none) ?_ ?_
 ·rintro f ⟨b,a,j,i,d⟩ K hG
  refine ro (fun R=>(cnd (decide (d<i))
 (cnd (decide (0≤d∧d<↑b))
 (cnd (m74 (a.sn d.toNat 0) (a.sub d.toNat 0) j)
 (R (XE.ret) [V Z d] [])
 (R (XE.normal) [.ro [.sl [W Z]] b a,.fn 74 [.rp [W Z] j 0 0],V Z i,V Z (Z.wrap (d+1))] []))
  False)
 (R (XE.exit 0) [.any] []))) (fun R=>by kernel_rfl) ?_
  exact ch hG (fun h0=>cg h0 fun h1=>ch h1 (fun h2=>h2.2) (fun h2=>⟨(_,_,_,_,_),rfl,rfl,h2⟩)) (fun h0=>h0.2)
 ·intro s k h
  unfold g100c74_0 at h
  split at h <;> try exact h.elim
  rename_i e1
  rw [needs_iff] at h
  exact ⟨_,e1,_,(_,_,_,_,_),rfl,rfl,h.1 _ (List.mem_singleton.2 rfl),h.2⟩
def m100c74 (g:Nat) (l da1c0:Dat):Int :=
 (cond ((o100c74_0 g l da1c0 (↑g:Int) 0).getD default).1 ((o100c74_0 g l da1c0 (↑g:Int) 0).getD default).2.1 (-1))
def n100c74 (g:Nat) (l da1c0:Dat):Bool :=
 (((o100c74_0 g l da1c0 (↑g:Int) 0).isSome)&&true)
def q100c74 (r:Int):SV × List Blk × List Blk:=(V Z r,[],[])
def g100c74:GF:=fun vs bs=>match vs,bs with
 | [.ro [.sl [W Z]] g l,.fn 74 [.rp [W Z] da1c0 0 0]],[]=>some (rs 0 (q100c74 (m100c74 g l da1c0)) [n100c74 g l da1c0])
 | _,_=>none
def c100c74:Ctr:=genC [.ro [.sl [W Z]],.f [.rp [W Z]]] g100c74
theorem k100c74:CtrOk Tryz.prog c100c74 100:=cx (tc k74 tn) mix_ok 8 (fn:=Tryz.f100) (c:=(Tryz.f100.body.getD .skip)) (grs:=[]) (rh:=.k) Tryz.func100 rfl (by kernel_rfl) (lam_of rfl (lc z100c74_0 ln)) fun vs bs q h hn=>by
 unfold g100c74 at h
 split at h <;> cases h
 rename_i g l da1c0
 have hn:=n1 hn
 exact ⟨_,rfl,ca (fun R=>(cnd ((o100c74_0 g l da1c0 (↑g:Int) 0).isSome)
 (cnd ((o100c74_0 g l da1c0 (↑g:Int) 0).getD default).1
 (R (V Z ((o100c74_0 g l da1c0 (↑g:Int) 0).getD default).2.1) [] [])
 (R (V Z (-1)) [] []))
 False)) (fun R=>by kernel_rfl) (cn (al hn) (co (fun h0=>lf (cT h0 rfl) rfl) (fun h0=>lf (cF h0 rfl) rfl)))⟩
/-! ### shotline/site.checkLists -/
def l39_0 (b:Nat) (a:Dat) (i:Int):Nat→Int→Option (Bool × (Int) × (Unit))
 | 0,_=>none
 | f+1,d=>(cond (decide (d<i)) (cond (decide (0≤d∧d<↑b)) (cond (n67 (a.sn d.toNat 0) (a.sub d.toNat 0)) (cond (bif (decide ((m67 (a.sn d.toNat 0) (a.sub d.toNat 0))=0)) then false else true) (some (true,(m67 (a.sn d.toNat 0) (a.sub d.toNat 0)),default)) (l39_0 b a i f (Z.wrap (d+1)))) none) none) (some (false,default,())))
abbrev o39_0 (b:Nat) (a:Dat) (i d:Int):Option (Bool × (Int) × (Unit)):=l39_0 b a i (b+i.toNat+d.toNat+8) d
def e39_0 (b:Nat) (a:Dat) (i:Int) (r:Bool × (Int) × (Unit)) (K:XR):Prop:=cnd r.1 (K (XE.ret) [V Z r.2.1] []) (K (XE.exit 0) [.any] [])
def g39_0:LSum:=fun s k=>match czv 0 18 [6,7,8] 0 [] s with
 | some ([.ro [.sl [W Z,W Z]] b a,V Z i,V Z d],[])=>needs [(o39_0 b a i d).isSome] (e39_0 b a i ((o39_0 b a i d).getD default) fun e vs bs=>inBlk 0 k e (mkSt 0 18 [2] vs 0 bs))
 | _=>False
theorem z39_0:LOk Tryz.prog g39_0 (.block 0 (bodyAt (Tryz.f39.body.getD .skip) 0)):=by
 refine lb (ι:=Nat × Dat × Int × Int) (fuel:=8) (na:=0) (nt:=18) (nx:=0) (Lh:=[6,7,8]) (Le:=[2]) (gl:=[]) (tc k67 tn) mix_ok noLam rfl (fun f (b,a,i,d) K=>GG default (e39_0 b a i) K (l39_0 b a i f d)) (fun (b,a,i,d)=>[.ro [.sl [W Z,W Z]] b a,V Z i,V Z d]) (fun (b,a,i,d)=>[]) (fun (_,_,_,_) K=>gg_none) ?_ ?_
 ·rintro f ⟨b,a,i,d⟩ K hG
  refine ro (fun R=>(cnd (decide (d<i))
 (cnd (decide (0≤d∧d<↑b))
 (cnd (n67 (a.sn d.toNat 0) (a.sub d.toNat 0))
 (cnd (bif (decide ((m67 (a.sn d.toNat 0) (a.sub d.toNat 0))=0)) then false else true)
 (R (XE.ret) [V Z (m67 (a.sn d.toNat 0) (a.sub d.toNat 0))] [])
 (R (XE.normal) [.ro [.sl [W Z,W Z]] b a,V Z i,V Z (Z.wrap (d+1))] []))
  False)
  False)
 (R (XE.exit 0) [.any] []))) (fun R=>by kernel_rfl) ?_
  exact ch hG (fun h0=>cg h0 fun h1=>cg h1 fun h2=>ch h2 (fun h3=>h3.2) (fun h3=>⟨(_,_,_,_),rfl,rfl,h3⟩)) (fun h0=>h0.2)
 ·intro s k h
  unfold g39_0 at h
  split at h <;> try exact h.elim
  rename_i e1
  rw [needs_iff] at h
  exact ⟨_,e1,_,(_,_,_,_),rfl,rfl,h.1 _ (List.mem_singleton.2 rfl),h.2⟩
def m39 (g:Nat) (j:Dat):Int :=
 (cond ((o39_0 g j (↑g:Int) 0).getD default).1 ((o39_0 g j (↑g:Int) 0).getD default).2.1 0)
def n39 (g:Nat) (j:Dat):Bool :=
 (((o39_0 g j (↑g:Int) 0).isSome)&&true)
def q39 (r:Int):SV × List Blk × List Blk:=(V Z r,[],[])
def g39:GF:=fun vs bs=>match vs,bs with
 | [.ro [.sl [W Z,W Z]] g j],[]=>some (rs 0 (q39 (m39 g j)) [n39 g j])
 | _,_=>none
def c39:Ctr:=genC [.ro [.sl [W Z,W Z]]] g39
theorem k39:CtrOk Tryz.prog c39 39:=cx (tc k67 tn) mix_ok 8 (fn:=Tryz.f39) (c:=(Tryz.f39.body.getD .skip)) (grs:=[]) (rh:=.k) Tryz.func39 rfl (by kernel_rfl) (lam_of rfl (lc z39_0 ln)) fun vs bs q h hn=>by
 unfold g39 at h
 split at h <;> cases h
 rename_i g j
 have hn:=n1 hn
 exact ⟨_,rfl,ca (fun R=>(cnd ((o39_0 g j (↑g:Int) 0).isSome)
 (cnd ((o39_0 g j (↑g:Int) 0).getD default).1
 (R (V Z ((o39_0 g j (↑g:Int) 0).getD default).2.1) [] [])
 (R (V Z 0) [] []))
 False)) (fun R=>by kernel_rfl) (cn (al hn) (co (fun h0=>lf (cT h0 rfl) rfl) (fun h0=>lf (cF h0 rfl) rfl)))⟩
/-! ### shotline/shotlinelaw08.Tide -/
def m15 :Int × Dat :=
 (200,(datS [V Z 100,V Z 4096,V Z 0] 3))
def q15 (r:Int × Dat):SV × List Blk × List Blk:=(.agg [V Z r.1,.ro [W Z,W Z,W Z] 1 r.2],[],[])
def g15:GF:=fun vs bs=>match vs,bs with
 | [],[]=>some (rs 0 (q15 (m15)) [])
 | _,_=>none
def c15:Ctr:=genC [] g15
theorem k15:CtrOk Tryz.prog c15 15:=cx tn mix_ok 8 (fn:=Tryz.f15) (c:=(Tryz.f15.body.getD .skip)) (grs:=[]) (rh:=.t [.k,.ro [W Z,W Z,W Z]]) Tryz.func15 rfl (by kernel_rfl) noLam fun vs bs q h hn=>by
 unfold g15 at h
 split at h <;> cases h
 exact ⟨_,rfl,ca (fun R=>(R (.agg [V Z 200,.ro [W Z,W Z,W Z] 1 (datS [V Z 100,V Z 4096,V Z 0] 3)]) [] [])) (fun R=>by kernel_rfl) (lf rfl rfl)⟩

/-! ### math/bits.Len32 -/
def m97 (a:Int):Int :=
 (cond (decide (65536≤a)) (cond (decide (256≤(a.fdiv 65536))) (Z.wrap (24+(Z.wrap (byteAt (bt78892_1) ((IntKind.u8.wrap ((a.fdiv 65536).fdiv 256)).toNat))))) (Z.wrap (16+(Z.wrap (byteAt (bt78892_1) ((IntKind.u8.wrap (a.fdiv 65536)).toNat)))))) (cond (decide (256≤a)) (Z.wrap (8+(Z.wrap (byteAt (bt78892_1) ((IntKind.u8.wrap (a.fdiv 256)).toNat))))) (Z.wrap (0+(Z.wrap (byteAt (bt78892_1) ((IntKind.u8.wrap a).toNat)))))))
def n97 (a:Int):Bool :=
 (cond (decide (65536≤a)) (cond (decide (256≤(a.fdiv 65536))) ((decide (0≤IntKind.u8.wrap ((a.fdiv (2 ^ min (Int.toNat 16) IntKind.u32.bits)).fdiv (2 ^ min (Int.toNat 8) IntKind.u32.bits))∧IntKind.u8.wrap ((a.fdiv (2 ^ min (Int.toNat 16) IntKind.u32.bits)).fdiv (2 ^ min (Int.toNat 8) IntKind.u32.bits))<(↑bt8314_0.size:Int)))&&true) ((decide (0≤IntKind.u8.wrap (a.fdiv (2 ^ min (Int.toNat 16) IntKind.u32.bits))∧IntKind.u8.wrap (a.fdiv (2 ^ min (Int.toNat 16) IntKind.u32.bits))<(↑bt8314_0.size:Int)))&&true)) (cond (decide (256≤a)) ((decide (0≤IntKind.u8.wrap (a.fdiv (2 ^ min (Int.toNat 8) IntKind.u32.bits))∧IntKind.u8.wrap (a.fdiv (2 ^ min (Int.toNat 8) IntKind.u32.bits))<(↑bt8314_0.size:Int)))&&true) ((decide ((0:Int)≤IntKind.u8.wrap a∧IntKind.u8.wrap a<(↑bt67477_2.size:Int)))&&true)))
def q97 (r:Int):SV × List Blk × List Blk:=(V Z r,[],[])
def g97:GF:=fun vs bs=>match vs,bs with
 | [.int .u32 a],[]=>some (rs 0 (q97 (m97 a)) [n97 a])
 | _,_=>none
def c97:Ctr:=genC [.k] g97
theorem k97:CtrOk Tryz.prog c97 97:=cx tn mix_ok 8 (fn:=Tryz.f97) (c:=(Tryz.f97.body.getD .skip)) (grs:=[]) (rh:=.k) Tryz.func97 rfl (by kernel_rfl) noLam fun vs bs q h hn=>by
 unfold g97 at h
 split at h <;> cases h
 rename_i a
 have hn:=n1 hn
 exact ⟨_,rfl,ca (fun R => 
 let a0:=(a.fdiv (2 ^ min (Int.toNat 16) IntKind.u32.bits))
 let b0:=(2 ^ min (Int.toNat 8) IntKind.u32.bits)
 (cnd (decide (65536≤a))
 (cnd (decide (256≤(a.fdiv 65536)))
 (cnd (decide (0≤IntKind.u8.wrap (a0.fdiv b0)∧IntKind.u8.wrap (a0.fdiv b0)<(↑bt8314_0.size:Int)))
 (R (V Z (Z.wrap (24+(Z.wrap (byteAt (bt78892_1) ((IntKind.u8.wrap ((a.fdiv 65536).fdiv 256)).toNat)))))) [] [])
  False)
 (cnd (decide (0≤IntKind.u8.wrap a0∧IntKind.u8.wrap a0<(↑bt8314_0.size:Int)))
 (R (V Z (Z.wrap (16+(Z.wrap (byteAt (bt78892_1) ((IntKind.u8.wrap (a.fdiv 65536)).toNat)))))) [] [])
  False))
 (cnd (decide (256≤a))
 (cnd (decide (0≤IntKind.u8.wrap (a.fdiv b0)∧IntKind.u8.wrap (a.fdiv b0)<(↑bt8314_0.size:Int)))
 (R (V Z (Z.wrap (8+(Z.wrap (byteAt (bt78892_1) ((IntKind.u8.wrap (a.fdiv 256)).toNat)))))) [] [])
  False)
 (cnd (decide ((0:Int)≤IntKind.u8.wrap a∧IntKind.u8.wrap a<(↑bt67477_2.size:Int)))
 (R (V Z (Z.wrap (0+(Z.wrap (byteAt (bt78892_1) ((IntKind.u8.wrap a).toNat)))))) [] [])
  False)))) (fun R=>by kernel_rfl) (co (fun h0=>co (fun h1=>cn (al (ct h1 (ct h0 hn))) (lf (cT h0 (cT h1 rfl)) rfl)) (fun h1=>cn (al (cf h1 (ct h0 hn))) (lf (cT h0 (cF h1 rfl)) rfl))) (fun h0=>co (fun h1=>cn (al (ct h1 (cf h0 hn))) (lf (cF h0 (cT h1 rfl)) rfl)) (fun h1=>cn (al (cf h1 (cf h0 hn))) (lf (cF h0 (cF h1 rfl)) rfl))))⟩
/-! ### shotline/shotlinelaw08.Chart -/
def m18 :Dat × Dat :=
 ((datS [SV.str ({ data:=#[97] }:ByteArray),SV.str ({ data:=#[98] }:ByteArray),SV.str ({ data:=#[99] }:ByteArray)] 1),(datS [SV.ro [Kd.int Z] 3 (datS [V Z 0,V Z 10,V Z 30] 1),SV.ro [Kd.int Z] 3 (datS [V Z 10,V Z 0,V Z 10] 1),SV.ro [Kd.int Z] 3 (datS [V Z 30,V Z 10,V Z 0] 1)] 1))
def q18 (r:Dat × Dat):SV × List Blk × List Blk:=(.agg [.ro [.str] 3 r.1,.ro [.sl [W Z]] 3 r.2],[],[])
def g18:GF:=fun vs bs=>match vs,bs with
 | [],[]=>some (rs 0 (q18 (m18)) [])
 | _,_=>none
def c18:Ctr:=genC [] g18
theorem k18:CtrOk Tryz.prog c18 18:=cx (tc kSeal tn) mix_ok 8 (fn:=Tryz.f18) (c:=(Tryz.f18.body.getD .skip)) (grs:=[]) (rh:=.t [.ro [.str],.ro [.sl [W Z]]]) Tryz.func18 rfl (by kernel_rfl) noLam fun vs bs q h hn=>by
 unfold g18 at h
 split at h <;> cases h
 exact ⟨_,rfl,ca (fun R=>(R (.agg [.ro [.str] 3 (datS [SV.str ({ data:=#[97] }:ByteArray),SV.str ({ data:=#[98] }:ByteArray),SV.str ({ data:=#[99] }:ByteArray)] 1),.ro [.sl [W Z]] 3 (datS [SV.ro [Kd.int Z] 3 (datS [V Z 0,V Z 10,V Z 30] 1),SV.ro [Kd.int Z] 3 (datS [V Z 10,V Z 0,V Z 10] 1),SV.ro [Kd.int Z] 3 (datS [V Z 30,V Z 10,V Z 0] 1)] 1)]) [] [])) (fun R=>by kernel_rfl) (lf rfl rfl)⟩
/-! ### slices.Contains[[]string,string] -/
def m72 (a:Nat) (b:Dat) (d:ByteArray):Bool :=
 (decide (0≤(m99 a b d)))
def n72 (a:Nat) (b:Dat) (d:ByteArray):Bool :=
 ((n99 a b d)&&true)
def q72 (r:Bool):SV × List Blk × List Blk:=(.bool r,[],[])
def g72:GF:=fun vs bs=>match vs,bs with
 | [.ro [.str] a b,.str d],[]=>some (rs 0 (q72 (m72 a b d)) [n72 a b d])
 | _,_=>none
def c72:Ctr:=genC [.ro [.str],.k] g72
theorem k72:CtrOk Tryz.prog c72 72:=cx (tc k99 tn) mix_ok 8 (fn:=Tryz.f72) (c:=(Tryz.f72.body.getD .skip)) (grs:=[]) (rh:=.k) Tryz.func72 rfl (by kernel_rfl) noLam fun vs bs q h hn=>by
 unfold g72 at h
 split at h <;> cases h
 rename_i a b d
 have hn:=n1 hn
 exact ⟨_,rfl,ca (fun R=>(cnd (n99 a b d)
 (R (.bool (decide (0≤(m99 a b d)))) [] [])
 False)) (fun R=>by kernel_rfl) (cn (al hn) (lf rfl rfl))⟩
/-! ### slices.ContainsFunc[[][]int,[]int] -/
def m73c74 (a:Nat) (b da1c0:Dat):Bool :=
 (decide (0≤(m100c74 a b da1c0)))
def n73c74 (a:Nat) (b da1c0:Dat):Bool :=
 ((n100c74 a b da1c0)&&true)
def q73c74 (r:Bool):SV × List Blk × List Blk:=(.bool r,[],[])
def g73c74:GF:=fun vs bs=>match vs,bs with
 | [.ro [.sl [W Z]] a b,.fn 74 [.rp [W Z] da1c0 0 0]],[]=>some (rs 0 (q73c74 (m73c74 a b da1c0)) [n73c74 a b da1c0])
 | _,_=>none
def c73c74:Ctr:=genC [.ro [.sl [W Z]],.f [.rp [W Z]]] g73c74
theorem k73c74:CtrOk Tryz.prog c73c74 73:=cx (tc k74 (tc k100c74 tn)) mix_ok 8 (fn:=Tryz.f73) (c:=(Tryz.f73.body.getD .skip)) (grs:=[]) (rh:=.k) Tryz.func73 rfl (by kernel_rfl) noLam fun vs bs q h hn=>by
 unfold g73c74 at h
 split at h <;> cases h
 rename_i a b da1c0
 have hn:=n1 hn
 exact ⟨_,rfl,ca (fun R=>(cnd (n100c74 a b da1c0)
 (R (.bool (decide (0≤(m100c74 a b da1c0)))) [] [])
 False)) (fun R=>by kernel_rfl) (cn (al hn) (lf rfl rfl))⟩

/-! ### math/bits.Len -/
def m70 (a:Int):Int :=
 (m98 a)
def n70 (a:Int):Bool :=
 ((n98 a)&&true)
def q70 (r:Int):SV × List Blk × List Blk:=(V Z r,[],[])
def g70:GF:=fun vs bs=>match vs,bs with
 | [.int .u64 a],[]=>some (rs 0 (q70 (m70 a)) [n70 a])
 | _,_=>none
def c70:Ctr:=genC [.k] g70
theorem k70:CtrOk Tryz.prog c70 70:=cx (tc k97 (tc k98 tn)) mix_ok 8 (fn:=Tryz.f70) (c:=(Tryz.f70.body.getD .skip)) (grs:=[]) (rh:=.k) Tryz.func70 rfl (by kernel_rfl) noLam fun vs bs q h hn=>by
 unfold g70 at h
 split at h <;> cases h
 rename_i a
 have hn:=n1 hn
 exact ⟨_,rfl,ca (fun R=>(cnd (n98 a)
 (R (V Z (m98 a)) [] [])
 False)) (fun R=>by kernel_rfl) (cn (al hn) (lf rfl rfl))⟩
/-! ### shotline/site.CheckChart -/
def l45_0 (o:Nat) (v:Dat) (D:Int) (g:Dat) (x:Nat) (j:Dat) (i:Int):Nat→Int→Option (Bool × (Int) × (Unit))
 | 0,_=>none
 | f+1,w=>(cond (decide (w<D)) (cond (decide (0≤w∧w<↑o)) (cond (n71 (v.ss w.toNat 0)) (cond (bif (m71 (v.ss w.toNat 0)) then false else true) (some (true,4,default)) (cond (decide ((0:Int)≤(0:Int)∧(0:Int)≤w∧w≤(↑o:Int))) (cond (n72 ((w - 0).toNat) g (v.ss w.toNat 0)) (cond (m72 ((w - 0).toNat) g (v.ss w.toNat 0)) (some (true,5,default)) (l45_0 o v D g x j i f (Z.wrap (w+1)))) none) none)) none) none) (some (false,default,())))
abbrev o45_0 (o:Nat) (v:Dat) (D:Int) (g:Dat) (x:Nat) (j:Dat) (i w:Int):Option (Bool × (Int) × (Unit)):=l45_0 o v D g x j i (o+D.toNat+w.toNat+x+i.toNat+8) w
def e45_0 (o:Nat) (v:Dat) (D:Int) (g:Dat) (x:Nat) (j:Dat) (i:Int) (r:Bool × (Int) × (Unit)) (K:XR):Prop:=cnd r.1 (K (XE.ret) [.ptr 0 0,V Z r.2.1,.ptr 1 0] [.cells 54 [.ro [.str] o g,.ro [.sl [W Z]] x j],.cells 3 [V Z i]]) (K (XE.exit 0) [.ptr 0 0,.any,.ptr 1 0] [.cells 54 [.ro [.str] o g,.ro [.sl [W Z]] x j],.cells 3 [V Z i]])
def g45_0:LSum:=fun s k=>match czv 0 75 [1,3,16,17,18] 2 [] s with
 | some ([.ptr 0 0,.ptr 1 0,.ro [.str] o v,V Z D,V Z w],[.cells 54 [.ro [.str] A g,.ro [.sl [W Z]] x j],.cells 3 [V Z i]])=>needs [decide (o=A),(o45_0 o v D g x j i w).isSome] (e45_0 o v D g x j i ((o45_0 o v D g x j i w).getD default) fun e vs bs=>inBlk 0 k e (mkSt 0 75 [1,2,3] vs 2 bs))
 | _=>False
theorem z45_0:LOk Tryz.prog g45_0 (.block 0 (bodyAt (Tryz.f45.body.getD .skip) 0)):=by
 refine lb (ι:=Nat × Dat × Int × Int × Dat × Nat × Dat × Int) (fuel:=8) (na:=0) (nt:=75) (nx:=2) (Lh:=[1,3,16,17,18]) (Le:=[1,2,3]) (gl:=[]) (tc k71 (tc k72 (tc k73c74 (tc k74 (tc k27 tn))))) mix_ok noLam rfl (fun f (o,v,D,w,g,x,j,i) K=>GG default (e45_0 o v D g x j i) K (l45_0 o v D g x j i f w)) (fun (o,v,D,w,g,x,j,i)=>[.ptr 0 0,.ptr 1 0,.ro [.str] o v,V Z D,V Z w]) (fun (o,v,D,w,g,x,j,i)=>[.cells 54 [.ro [.str] o g,.ro [.sl [W Z]] x j],.cells 3 [V Z i]]) (fun (_,_,_,_,_,_,_,_) K=>gg_none) ?_ ?_
 ·rintro f ⟨o,v,D,w,g,x,j,i⟩ K hG
  refine ro (fun R=>(cnd (decide (w<D))
 (cnd (decide (0≤w∧w<↑o))
 (cnd (n71 (v.ss w.toNat 0))
 (cnd (bif (m71 (v.ss w.toNat 0)) then false else true)
 (R (XE.ret) [.ptr 0 0,V Z 4,.ptr 1 0] [.cells 54 [.ro [.str] o g,.ro [.sl [W Z]] x j],.cells 3 [V Z i]])
 (cnd (decide ((0:Int)≤(0:Int)∧(0:Int)≤w∧w≤(↑o:Int)))
 (cnd (n72 ((w - 0).toNat) g (v.ss w.toNat 0))
 (cnd (m72 ((w - 0).toNat) g (v.ss w.toNat 0))
 (R (XE.ret) [.ptr 0 0,V Z 5,.ptr 1 0] [.cells 54 [.ro [.str] o g,.ro [.sl [W Z]] x j],.cells 3 [V Z i]])
 (R (XE.normal) [.ptr 0 0,.ptr 1 0,.ro [.str] o v,V Z D,V Z (Z.wrap (w+1))] [.cells 54 [.ro [.str] o g,.ro [.sl [W Z]] x j],.cells 3 [V Z i]]))
    False)
   False))
  False)
  False)
 (R (XE.exit 0) [.ptr 0 0,.any,.ptr 1 0] [.cells 54 [.ro [.str] o g,.ro [.sl [W Z]] x j],.cells 3 [V Z i]]))) (fun R=>by kernel_rfl) ?_
  exact ch hG (fun h0=>cg h0 fun h1=>cg h1 fun h2=>ch h2 (fun h3=>h3.2) (fun h3=>cg h3 fun h4=>cg h4 fun h5=>ch h5 (fun h6=>h6.2) (fun h6=>⟨(_,_,_,_,_,_,_,_),rfl,rfl,h6⟩))) (fun h0=>h0.2)
 ·intro s k h
  unfold g45_0 at h
  split at h <;> try exact h.elim
  rename_i e1
  rw [needs_iff] at h
  have hq:=h.1
  simp only [List.mem_cons,forall_eq_or_imp,decide_eq_true_eq,List.not_mem_nil,false_imp_iff,implies_true,and_true] at hq
  obtain ⟨rfl,hq⟩:=hq
  exact ⟨_,e1,_,(_,_,_,_,_,_,_,_),rfl,rfl,hq,h.2⟩
def l45_5 (F:Int) (b:Nat) (d:Dat) (t m:Int) (z:Nat) (y:Dat) (E:Int) (g j:Dat) (i:Int):Nat→Int→Option (Bool × (Int) × (Unit))
 | 0,_=>none
 | f+1,C=>(cond (decide (C<E)) (cond (decide (0≤C∧C<↑z)) (cond (bif (m27 (y.ii C.toNat 0) (-1) 10000) then false else true) (some (true,2,default)) (cond (bif (decide (F=C)) then (bif (decide ((y.ii C.toNat 0)=0)) then false else true) else false) (some (true,3,default)) (l45_5 F b d t m z y E g j i f (Z.wrap (C+1))))) none) (some (false,default,())))
abbrev o45_5 (F:Int) (b:Nat) (d:Dat) (t m:Int) (z:Nat) (y:Dat) (E:Int) (g j:Dat) (i C:Int):Option (Bool × (Int) × (Unit)):=l45_5 F b d t m z y E g j i (F.toNat+b+t.toNat+m.toNat+z+E.toNat+C.toNat+i.toNat+8) C
def e45_5 (F:Int) (b:Nat) (d:Dat) (t m:Int) (z:Nat) (y:Dat) (E:Int) (g j:Dat) (i:Int) (r:Bool × (Int) × (Unit)) (K:XR):Prop:=cnd r.1 (K (XE.ret) [V Z r.2.1,.ro [.sl [W Z]] b d,V Z t,V Z m] [.cells 54 [.ro [.str] b g,.ro [.sl [W Z]] b j],.cells 3 [V Z i]]) (K (XE.exit 5) [.any,.ro [.sl [W Z]] b d,V Z t,V Z m] [.cells 54 [.ro [.str] b g,.ro [.sl [W Z]] b j],.cells 3 [V Z i]])
def g45_5:LSum:=fun s k=>match czv 0 75 [6,47,48,49,54,55,56] 2 [] s with
 | some ([V Z F,.ro [.sl [W Z]] b d,V Z t,V Z m,.ro [W Z] z y,V Z E,V Z C],[.cells 54 [.ro [.str] A g,.ro [.sl [W Z]] x j],.cells 3 [V Z i]])=>needs [decide (b=A),decide (b=x),(o45_5 F b d t m z y E g j i C).isSome] (e45_5 F b d t m z y E g j i ((o45_5 F b d t m z y E g j i C).getD default) fun e vs bs=>inBlk 5 k e (mkSt 0 75 [2,47,48,49] vs 2 bs))
 | _=>False
theorem z45_5:LOk Tryz.prog g45_5 (.block 5 (bodyAt (Tryz.f45.body.getD .skip) 5)):=by
 refine lb (ι:=Int × Nat × Dat × Int × Int × Nat × Dat × Int × Int × Dat × Dat × Int) (fuel:=8) (na:=0) (nt:=75) (nx:=2) (Lh:=[6,47,48,49,54,55,56]) (Le:=[2,47,48,49]) (gl:=[]) (tc k71 (tc k72 (tc k73c74 (tc k74 (tc k27 tn))))) mix_ok (lam_of rfl (lc z45_0 ln)) rfl (fun f (F,b,d,t,m,z,y,E,C,g,j,i) K=>GG default (e45_5 F b d t m z y E g j i) K (l45_5 F b d t m z y E g j i f C)) (fun (F,b,d,t,m,z,y,E,C,g,j,i)=>[V Z F,.ro [.sl [W Z]] b d,V Z t,V Z m,.ro [W Z] z y,V Z E,V Z C]) (fun (F,b,d,t,m,z,y,E,C,g,j,i)=>[.cells 54 [.ro [.str] b g,.ro [.sl [W Z]] b j],.cells 3 [V Z i]]) (fun (_,_,_,_,_,_,_,_,_,_,_,_) K=>gg_none) ?_ ?_
 ·rintro f ⟨F,b,d,t,m,z,y,E,C,g,j,i⟩ K hG
  refine ro (fun R=>(cnd (decide (C<E))
 (cnd (decide (0≤C∧C<↑z))
 (cnd (bif (m27 (y.ii C.toNat 0) (-1) 10000) then false else true)
 (R (XE.ret) [V Z 2,.ro [.sl [W Z]] b d,V Z t,V Z m] [.cells 54 [.ro [.str] b g,.ro [.sl [W Z]] b j],.cells 3 [V Z i]])
 (cnd (bif (decide (F=C)) then (bif (decide ((y.ii C.toNat 0)=0)) then false else true) else false)
 (R (XE.ret) [V Z 3,.ro [.sl [W Z]] b d,V Z t,V Z m] [.cells 54 [.ro [.str] b g,.ro [.sl [W Z]] b j],.cells 3 [V Z i]])
 (R (XE.normal) [V Z F,.ro [.sl [W Z]] b d,V Z t,V Z m,.ro [W Z] z y,V Z E,V Z (Z.wrap (C+1))] [.cells 54 [.ro [.str] b g,.ro [.sl [W Z]] b j],.cells 3 [V Z i]])))
  False)
 (R (XE.exit 5) [.any,.ro [.sl [W Z]] b d,V Z t,V Z m] [.cells 54 [.ro [.str] b g,.ro [.sl [W Z]] b j],.cells 3 [V Z i]]))) (fun R=>by kernel_rfl) ?_
  exact ch hG (fun h0=>cg h0 fun h1=>ch h1 (fun h2=>h2.2) (fun h2=>ch h2 (fun h3=>h3.2) (fun h3=>⟨(_,_,_,_,_,_,_,_,_,_,_,_),rfl,rfl,h3⟩))) (fun h0=>h0.2)
 ·intro s k h
  unfold g45_5 at h
  split at h <;> try exact h.elim
  rename_i e1
  rw [needs_iff] at h
  have hq:=h.1
  simp only [List.mem_cons,forall_eq_or_imp,decide_eq_true_eq,List.not_mem_nil,false_imp_iff,implies_true,and_true] at hq
  obtain ⟨rfl,rfl,hq⟩:=hq
  exact ⟨_,e1,_,(_,_,_,_,_,_,_,_,_,_,_,_),rfl,rfl,hq,h.2⟩
def l45_3 (b:Nat) (d:Dat) (t:Int) (g j:Dat) (i:Int):Nat→Int→Nat→Option (Bool × (Int) × (Nat))
 | 0,_,_=>none
 | f+1,m,A=>(cond (decide (m<t)) (cond (decide (0≤m∧m<↑b)) (cond (decide (b=A)) (cond ((o45_5 m b d t m (d.sn m.toNat 0) (d.sub m.toNat 0) (↑(d.sn m.toNat 0):Int) g j i 0).isSome) (cond ((o45_5 m b d t m (d.sn m.toNat 0) (d.sub m.toNat 0) (↑(d.sn m.toNat 0):Int) g j i 0).getD default).1 (some (true,((o45_5 m b d t m (d.sn m.toNat 0) (d.sub m.toNat 0) (↑(d.sn m.toNat 0):Int) g j i 0).getD default).2.1,default)) (l45_3 b d t g j i f (Z.wrap (m+1)) b)) none) none) none) (some (false,default,A)))
abbrev o45_3 (b:Nat) (d:Dat) (t:Int) (g j:Dat) (i m:Int) (A:Nat):Option (Bool × (Int) × (Nat)):=l45_3 b d t g j i (b+t.toNat+m.toNat+A+i.toNat+8) m A
def e45_3 (b:Nat) (d:Dat) (t:Int) (g j:Dat) (i:Int) (r:Bool × (Int) × (Nat)) (K:XR):Prop:=cnd r.1 (K (XE.ret) [V Z r.2.1] [.cells 54 [.ro [.str] b g,.ro [.sl [W Z]] b j],.cells 3 [V Z i]]) (K (XE.exit 3) [.any] [.cells 54 [.ro [.str] r.2.2 g,.ro [.sl [W Z]] b j],.cells 3 [V Z i]])
def g45_3:LSum:=fun s k=>match czv 0 75 [47,48,49] 2 [] s with
 | some ([.ro [.sl [W Z]] b d,V Z t,V Z m],[.cells 54 [.ro [.str] A g,.ro [.sl [W Z]] x j],.cells 3 [V Z i]])=>needs [decide (b=x),(o45_3 b d t g j i m A).isSome] (e45_3 b d t g j i ((o45_3 b d t g j i m A).getD default) fun e vs bs=>inBlk 3 k e (mkSt 0 75 [2] vs 2 bs))
 | _=>False
theorem z45_3:LOk Tryz.prog g45_3 (.block 3 (bodyAt (Tryz.f45.body.getD .skip) 3)):=by
 refine lb (ι:=Nat × Dat × Int × Int × Nat × Dat × Dat × Int) (fuel:=8) (na:=0) (nt:=75) (nx:=2) (Lh:=[47,48,49]) (Le:=[2]) (gl:=[]) (tc k71 (tc k72 (tc k73c74 (tc k74 (tc k27 tn))))) mix_ok (lam_of rfl (lc z45_0 (lc z45_5 ln))) rfl (fun f (b,d,t,m,A,g,j,i) K=>GG default (e45_3 b d t g j i) K (l45_3 b d t g j i f m A)) (fun (b,d,t,m,A,g,j,i)=>[.ro [.sl [W Z]] b d,V Z t,V Z m]) (fun (b,d,t,m,A,g,j,i)=>[.cells 54 [.ro [.str] A g,.ro [.sl [W Z]] b j],.cells 3 [V Z i]]) (fun (_,_,_,_,_,_,_,_) K=>gg_none) ?_ ?_
 ·rintro f ⟨b,d,t,m,A,g,j,i⟩ K hG
  refine ro (fun R => 
 let a0:=(o45_5 m b d t m (d.sn m.toNat 0) (d.sub m.toNat 0) (↑(d.sn m.toNat 0):Int) g j i 0)
 (cnd (decide (m<t))
 (cnd (decide (0≤m∧m<↑b))
 (cnd (decide (b=A))
 (cnd (decide (b=b))
 (cnd (a0.isSome)
 (cnd (a0.getD default).1
 (R (XE.ret) [V Z (a0.getD default).2.1] [.cells 54 [.ro [.str] b g,.ro [.sl [W Z]] b j],.cells 3 [V Z i]])
 (R (XE.normal) [.ro [.sl [W Z]] b d,V Z t,V Z (Z.wrap (m+1))] [.cells 54 [.ro [.str] b g,.ro [.sl [W Z]] b j],.cells 3 [V Z i]]))
   False)
   False)
  False)
  False)
 (R (XE.exit 3) [.any] [.cells 54 [.ro [.str] A g,.ro [.sl [W Z]] b j],.cells 3 [V Z i]]))) (fun R=>by kernel_rfl) ?_
  exact ch hG (fun h0=>cg h0 fun h1=>cg h1 fun h2=>cn (decide_eq_true rfl) (cg h2 fun h3=>ch h3 (fun h4=>h4.2) (fun h4=>⟨(_,_,_,_,_,_,_,_),rfl,rfl,h4⟩))) (fun h0=>h0.2)
 ·intro s k h
  unfold g45_3 at h
  split at h <;> try exact h.elim
  rename_i e1
  rw [needs_iff] at h
  have hq:=h.1
  simp only [List.mem_cons,forall_eq_or_imp,decide_eq_true_eq,List.not_mem_nil,false_imp_iff,implies_true,and_true] at hq
  obtain ⟨rfl,hq⟩:=hq
  exact ⟨_,e1,_,(_,_,_,_,_,_,_,_),rfl,rfl,hq,h.2⟩
def m45 (l:Nat) (u:Dat) (n:Nat) (p:Dat):Int :=
 (cond (decide (12<(↑l:Int))) 8 (cond ((o45_0 l u (↑l:Int) u n p (↑l:Int) 0).getD default).1 ((o45_0 l u (↑l:Int) u n p (↑l:Int) 0).getD default).2.1 (cond (bif (bif (decide ((↑n:Int)=(↑l:Int))) then false else true) then true else (m73c74 n p (datC [V Z (↑l:Int)]))) 10 (cond ((o45_3 n p (↑n:Int) u p (↑l:Int) 0 l).getD default).1 ((o45_3 n p (↑n:Int) u p (↑l:Int) 0 l).getD default).2.1 0))))
def n45 (l:Nat) (u:Dat) (n:Nat) (p:Dat):Bool :=
 (cond (decide (12<(↑l:Int))) true (((o45_0 l u (↑l:Int) u n p (↑l:Int) 0).isSome)&&(cond ((o45_0 l u (↑l:Int) u n p (↑l:Int) 0).getD default).1 true ((bif (bif (bif (bif (decide ((↑n:Int)=(↑l:Int))) then false else true) then false else true) then false else true) then true else (n73c74 n p (datC [V Z (↑l:Int)])))&&(cond (bif (bif (decide ((↑n:Int)=(↑l:Int))) then false else true) then true else (m73c74 n p (datC [V Z (↑l:Int)]))) true (((o45_3 n p (↑n:Int) u p (↑l:Int) 0 l).isSome)&&true))))))
def q45 (r:Int):SV × List Blk × List Blk:=(V Z r,[],[])
def g45:GF:=fun vs bs=>match vs,bs with
 | [.agg [.ro [.str] l u,.ro [.sl [W Z]] n p]],[]=>some (rs 0 (q45 (m45 l u n p)) [n45 l u n p])
 | _,_=>none
def c45:Ctr:=genC [.a [.ro [.str],.ro [.sl [W Z]]]] g45
theorem k45:CtrOk Tryz.prog c45 45:=cx (tc k71 (tc k72 (tc k73c74 (tc k74 (tc k27 tn))))) mix_ok 8 (fn:=Tryz.f45) (c:=(Tryz.f45.body.getD .skip)) (grs:=[]) (rh:=.k) Tryz.func45 rfl (by kernel_rfl) (lam_of rfl (lc z45_0 (lc z45_5 (lc z45_3 ln)))) fun vs bs q h hn=>by
 unfold g45 at h
 split at h <;> cases h
 rename_i l u n p
 have hn:=n1 hn
 exact ⟨_,rfl,ca (fun R => 
 let a0:=(o45_0 l u (↑l:Int) u n p (↑l:Int) 0)
 let b0:=(o45_3 n p (↑n:Int) u p (↑l:Int) 0 l)
 let c0:=(bif (decide ((↑n:Int)=(↑l:Int))) then false else true)
 (cnd (decide (12<(↑l:Int)))
 (R (V Z 8) [] [])
 (cnd (decide (l=l))
 (cnd (a0.isSome)
 (cnd (a0.getD default).1
 (R (V Z (a0.getD default).2.1) [] [])
 (cnd (bif (bif (bif c0 then false else true) then false else true) then true else (n73c74 n p (datC [V Z (↑l:Int)])))
 (cnd (bif c0 then true else (m73c74 n p (datC [V Z (↑l:Int)])))
 (R (V Z 10) [] [])
 (cnd (decide (n=n))
 (cnd (b0.isSome)
 (cnd (b0.getD default).1
 (R (V Z (b0.getD default).2.1) [] [])
 (R (V Z 0) [] []))
     False)
    False))
   False))
  False)
  False))) (fun R=>by kernel_rfl) (co (fun h0=>lf (cT h0 rfl) rfl) (fun h0=>cn (decide_eq_true rfl) (cn (al (cf h0 hn)) (co (fun h1=>lf (cF h0 (cT h1 rfl)) rfl) (fun h1=>cn (al (cf h1 (ar (cf h0 hn)))) (co (fun h2=>lf (cF h0 (cF h1 (cT h2 rfl))) rfl) (fun h2=>cn (decide_eq_true rfl) (cn (al (cf h2 (ar (cf h1 (ar (cf h0 hn)))))) (co (fun h3=>lf (cF h0 (cF h1 (cF h2 (cT h3 rfl)))) rfl) (fun h3=>lf (cF h0 (cF h1 (cF h2 (cF h3 rfl)))) rfl))))))))))⟩

/-! ### slices.Grow[[]shotline/api.Range,shotline/api.Range] -/
theorem x68 (a:Int) (R:SV→List Blk→List Blk→Prop):exec Tryz.prog [] (fun _=>none) 8 (Tryz.f68.body.getD .skip) (initS Tryz.f68.ntmps [.nsl,V Z a] 0 (memOf [])) (retK Tryz.prog Tryz.f68.results.toList (outK 0 (List.range 0) [] (.k) fun v U N=>R v U N)) =
 (cnd (decide (a<0))
 False
 (cnd (decide ((0:Int)<(Z.wrap (a - 0))))
 (cnd (decide (0≤Z.wrap (a - Z.wrap (0 - 0))∧Z.wrap (a - Z.wrap (0 - 0))≤1073741824))
 (R (.gr 0 2 0) [] [.row 41 [W Z,W Z] (Z.wrap (a - Z.wrap (0 - 0))).toNat (datC [V Z 0,V Z 0])])
  False)
 (R (.nsl) [] []))):=by kernel_rfl
def m68a (a:Int):Nat × Dat :=
 ((Z.wrap (a - Z.wrap (0 - 0))).toNat,(datC [V Z 0,V Z 0]))
def n68a (a:Int):Bool :=
 (!(decide (a<0))&&((decide ((0:Int)<(Z.wrap (a - 0))))&&((decide (0≤Z.wrap (a - Z.wrap (0 - 0))∧Z.wrap (a - Z.wrap (0 - 0))≤1073741824))&&true)))
def q68a (r:Nat × Dat):SV × List Blk × List Blk:=(.gr 0 2 0,[],[.row 41 [W Z,W Z] r.1 r.2])
def g68a:GF:=fun vs bs=>match vs,bs with
 | [.nsl,V Z a],[]=>some (rs 0 (q68a (m68a a)) [n68a a])
 | _,_=>none
def c68a:Ctr:=genC [.k,.k] g68a
theorem k68a:CtrOk Tryz.prog c68a 68:=cx tn mix_ok 8 (fn:=Tryz.f68) (c:=(Tryz.f68.body.getD .skip)) (grs:=[]) (rh:=.k) Tryz.func68 rfl (by kernel_rfl) noLam fun vs bs q h hn=>by
 unfold g68a at h
 split at h <;> cases h
 rename_i a
 have hn:=n1 hn
 exact ⟨_,rfl,propOf (x68 a _) (nn (not_l hn) (co (fun _=>cn (al (ar (not_r hn))) (lf rfl rfl)) (fun h0=>(Bool.false_ne_true (h0.symm.trans (al (not_r hn)))).elim)))⟩
def n68b (a:Int):Bool :=
 (!(decide (a<0))&&(!(decide ((0:Int)<(Z.wrap (a - 0))))&&true))
def q68b:SV × List Blk × List Blk:=(.nsl,[],[])
def g68b:GF:=fun vs bs=>match vs,bs with
 | [.nsl,V Z a],[]=>some (rs 0 q68b [n68b a])
 | _,_=>none
def c68b:Ctr:=genC [.k,.k] g68b
theorem k68b:CtrOk Tryz.prog c68b 68:=cx tn mix_ok 8 (fn:=Tryz.f68) (c:=(Tryz.f68.body.getD .skip)) (grs:=[]) (rh:=.k) Tryz.func68 rfl (by kernel_rfl) noLam fun vs bs q h hn=>by
 unfold g68b at h
 split at h <;> cases h
 rename_i a
 have hn:=n1 hn
 exact ⟨_,rfl,propOf (x68 a _) (nn (not_l hn) (co (fun h0=>(Bool.false_ne_true ((not_l (not_r hn)).symm.trans h0)).elim) (fun _=>rfl)))⟩

/-! ### slices.Grow,of nothing: both outcomes -/
def n68 (a:Int):Bool:=decide (0≤a∧a≤1073741824)
def c68:Ctr:=fun off _ args=>match args with
 | [.nsl,V Z a]=>some { v:=.gr off 2 0,news:=[.row 41 [W Z,W Z] 0 noDat],need:=[n68 a] }
 | _=>none
theorem k68:CtrOk Tryz.prog c68 68:=by
 refine ⟨k68a.1,fun B M ρ mem off args r hr hn hf xs w hd hm hB hfr=>?_⟩
 unfold c68 at hr
 split at hr <;> cases hr
 rename_i a
 have hn1:0≤a∧a≤1073741824:=by simpa [n68] using hn (n68 a) (List.mem_singleton.2 rfl)
 have w0:Z.wrap (0 - 0)=0:=by rw [IntKind.wrap_i64];omega
 have w1:Z.wrap (a - 0)=a:=by rw [IntKind.wrap_i64];omega
 by_cases h0:0<a
 ·have ha:n68a a=true:=by
   unfold n68a
   rw [w0,w1]
   simp [h0,hn1]
  refine (k68a.2 B M ρ mem off [.nsl,V Z a] { v:=.gr off 2 0,news:=[.row 41 [W Z,W Z] (m68a a).1 (m68a a).2],need:=[n68a a] } rfl (fun b hb=>by cases List.mem_singleton.1 hb;exact ha) ⟨fun u hu=>by simp at hu,fun u hu=>by simp at hu⟩ xs w hd hm hB hfr).mono ?_
  rintro e w' ⟨x,ρ',rfl,hp⟩
  refine ⟨x,ρ',rfl,hp.val,hp.ext,hp.old,hp.os,hp.tape,hp.output,hp.size,hp.keep,hp.odn,fun u hu=>by simp at hu,fun j b hj hk=>?_,fun j j' b b' m m' hne hj hj'=>?_⟩
  ·cases j with
   | succ j=>simp at hj
   | zero =>
    simp at hj;subst hj
    obtain ⟨g1,_⟩:=hp.new 0 _ rfl rfl
    refine ⟨fun m hmm=>?_,fun _=>rfl⟩
    obtain ⟨a1',a2,a3,a4⟩:=g1 m hmm
    obtain ⟨b1,b2,b3,b4⟩:=a2
    exact ⟨a1',⟨b1,Nat.zero_le _,b3,fun q hq=>absurd hq (Nat.not_lt_zero _)⟩,a3,a4.imp id fun ⟨u,hu,_⟩=>by simp at hu⟩
  ·cases j <;> cases j' <;> simp at hj hj' hne
 ·have hb:n68b a=true:=by
   unfold n68b
   rw [w1]
   simp [h0]
   omega
  refine (k68b.2 B M ρ mem off [.nsl,V Z a] { v:=.nsl,need:=[n68b a] } rfl (fun b hb'=>by cases List.mem_singleton.1 hb';exact hb) ⟨fun u hu=>by simp at hu,fun u hu=>by simp at hu⟩ xs w hd hm hB (fun j hj=>by simp at hj)).mono ?_
  rintro e w' ⟨x,ρ',rfl,hp⟩
  have hx:x=.slice none 0 0:=hp.val
  refine ⟨x,ρ',rfl,.inl ⟨rfl,none,hx⟩,hp.ext,fun i _=>hp.old i (by simp;omega),hp.os,hp.tape,hp.output,hp.size,fun b hb _=>hp.keep b hb fun u hu=>by simp at hu,hp.odn,fun u hu=>by simp at hu,fun j b hj hk=>?_,fun j j' b b' m m' hne hj hj'=>?_⟩
  ·cases j with
   | succ j=>simp at hj
   | zero =>
    simp at hj;subst hj
    refine ⟨fun m hmm=>?_,fun _=>rfl⟩
    rw [hp.old (off+0) (by simp),hfr 0 (by simp)] at hmm
    cases hmm
  ·cases j <;> cases j' <;> simp at hj hj' hne

/-! ### slices.Concat[[]shotline/api.Range,shotline/api.Range] -/
def l40_0 (b:Nat) (l i:Dat) (p:Int):Nat→Int→Int→Option (Int)
 | 0,_,_=>none
 | f+1,v,m=>(cond (decide (m<p)) (cond (decide (0≤m∧m<↑b)) (cond (decide ((Z.wrap (v+(↑(i.sn m.toNat 0):Int)))<0)) none (l40_0 b l i p f (Z.wrap (v+(↑(i.sn m.toNat 0):Int))) (Z.wrap (m+1)))) none) (some v))
abbrev o40_0 (b:Nat) (l i:Dat) (p v m:Int):Option (Int):=l40_0 b l i p (b+v.toNat+p.toNat+m.toNat+8) v m
def e40_0 (b:Nat) (l i:Dat) (p r:Int) (K:XR):Prop:=K (XE.exit 0) [.ro [.sl [W Z,W Z]] b l,V Z r] []
def g40_0:LSum:=fun s k=>match czv 0 36 [0,3,9,10,11] 0 [] s with
 | some ([.ro [.sl [W Z,W Z]] b l,V Z v,.ro [.sl [W Z,W Z]] t9_0 i,V Z p,V Z m],[])=>needs [decide (b=t9_0),(o40_0 b l i p v m).isSome] (e40_0 b l i p ((o40_0 b l i p v m).getD default) fun e vs bs=>inBlk 0 k e (mkSt 0 36 [0,3] vs 0 bs))
 | _=>False
theorem z40_0:LOk Tryz.prog g40_0 (.block 0 (bodyAt (Tryz.f40.body.getD .skip) 0)):=by
 refine lb (ι:=Nat × Dat × Int × Dat × Int × Int) (fuel:=8) (na:=0) (nt:=36) (nx:=0) (Lh:=[0,3,9,10,11]) (Le:=[0,3]) (gl:=[]) (tc k68 tn) mix_ok noLam rfl (fun f (b,l,v,i,p,m) K=>GG default (e40_0 b l i p) K (l40_0 b l i p f v m)) (fun (b,l,v,i,p,m)=>[.ro [.sl [W Z,W Z]] b l,V Z v,.ro [.sl [W Z,W Z]] b i,V Z p,V Z m]) (fun (b,l,v,i,p,m)=>[]) (fun (_,_,_,_,_,_) K=>gg_none) ?_ ?_
 ·rintro f ⟨b,l,v,i,p,m⟩ K hG
  refine ro (fun R=>(cnd (decide (m<p))
 (cnd (decide (0≤m∧m<↑b))
 (cnd (decide ((Z.wrap (v+(↑(i.sn m.toNat 0):Int)))<0))
  False
 (R (XE.normal) [.ro [.sl [W Z,W Z]] b l,V Z (Z.wrap (v+(↑(i.sn m.toNat 0):Int))),.ro [.sl [W Z,W Z]] b i,V Z p,V Z (Z.wrap (m+1))] []))
  False)
 (R (XE.exit 0) [.ro [.sl [W Z,W Z]] b l,V Z v] []))) (fun R=>by kernel_rfl) ?_
  exact ch hG (fun h0=>cg h0 fun h1=>ch h1 (fun h2=>absurd h2 gg_none) (fun h2=>⟨(_,_,_,_,_,_),rfl,rfl,h2⟩)) (fun h0=>h0.2)
 ·intro s k h
  unfold g40_0 at h
  split at h <;> try exact h.elim
  rename_i e1
  rw [needs_iff] at h
  have hq:=h.1
  simp only [List.mem_cons,forall_eq_or_imp,decide_eq_true_eq,List.not_mem_nil,false_imp_iff,implies_true,and_true] at hq
  obtain ⟨rfl,hq⟩:=hq
  exact ⟨_,e1,_,(_,_,_,_,_,_),rfl,rfl,hq,h.2⟩
def l40_2 (d:Nat) (a:Dat) (t:Int):Nat→Nat→Int→Dat→Option (Nat × Nat × Dat)
 | 0,_,_,_=>none
 | f+1,u,j,o=>(cond (decide (j<t)) (cond (decide (0≤j∧j<↑d)) (cond (decide ((u+(a.sn j.toNat 0))≤1073741824)) (l40_2 d a t f (u+a.sn j.toNat 0) (Z.wrap (j+1)) (o.app u (a.sub j.toNat 0))) none) none) (some (u,u,o)))
abbrev o40_2 (d:Nat) (a:Dat) (t:Int) (u:Nat) (j:Int) (o:Dat):Option (Nat × Nat × Dat):=l40_2 d a t (u+d+t.toNat+j.toNat+8) u j o
def e40_2 (d:Nat) (a:Dat) (t:Int) (r:Nat × Nat × Dat) (K:XR):Prop:=K (XE.exit 2) [.gr 0 2 r.1] [.row 41 [W Z,W Z] r.2.1 r.2.2]
def g40_2:LSum:=fun s k=>match czv 0 36 [6,25,26,27] 1 [⟨true,6,0,0,41,[W Z,W Z]⟩] s with
 | some ([.gr 0 2 u,.ro [.sl [W Z,W Z]] d a,V Z t,V Z j],[.row 41 [W Z,W Z] b0_0 o])=>needs [decide (u=b0_0),(o40_2 d a t u j o).isSome] (e40_2 d a t ((o40_2 d a t u j o).getD default) fun e vs bs=>inBlk 2 k e (mkSt 0 36 [6] vs 1 bs))
 | _=>False
theorem z40_2:LOk Tryz.prog g40_2 (.block 2 (bodyAt (Tryz.f40.body.getD .skip) 2)):=by
 refine lb (ι:=Nat × Nat × Dat × Int × Int × Dat) (fuel:=8) (na:=0) (nt:=36) (nx:=1) (Lh:=[6,25,26,27]) (Le:=[6]) (gl:=[⟨true,6,0,0,41,[W Z,W Z]⟩]) (tc k68 tn) mix_ok (lam_of rfl (lc z40_0 ln)) rfl (fun f (u,d,a,t,j,o) K=>GG default (e40_2 d a t) K (l40_2 d a t f u j o)) (fun (u,d,a,t,j,o)=>[.gr 0 2 u,.ro [.sl [W Z,W Z]] d a,V Z t,V Z j]) (fun (u,d,a,t,j,o)=>[.row 41 [W Z,W Z] u o]) (fun (_,_,_,_,_,_) K=>gg_none) ?_ ?_
 ·rintro f ⟨u,d,a,t,j,o⟩ K hG
  refine ro (fun R=>(cnd (decide (j<t))
 (cnd (decide (0≤j∧j<↑d))
 (cnd (decide (u≤u))
 (cnd (decide ((u+(a.sn j.toNat 0))≤1073741824))
 (R (XE.normal) [.gr 0 2 (u+a.sn j.toNat 0),.ro [.sl [W Z,W Z]] d a,V Z t,V Z (Z.wrap (j+1))] [.row 41 [W Z,W Z] (u+a.sn j.toNat 0) (o.app u (a.sub j.toNat 0))])
   False)
  False)
  False)
 (R (XE.exit 2) [.gr 0 2 u] [.row 41 [W Z,W Z] u o]))) (fun R=>by kernel_rfl) ?_
  exact ch hG (fun h0=>cg h0 fun h1=>cn (decide_eq_true (Nat.le_refl _)) (cg h1 fun h2=>⟨(_,_,_,_,_,_),rfl,rfl,h2⟩)) (fun h0=>h0.2)
 ·intro s k h
  unfold g40_2 at h
  split at h <;> try exact h.elim
  rename_i e1
  rw [needs_iff] at h
  have hq:=h.1
  simp only [List.mem_cons,forall_eq_or_imp,decide_eq_true_eq,List.not_mem_nil,false_imp_iff,implies_true,and_true] at hq
  obtain ⟨rfl,hq⟩:=hq
  exact ⟨_,e1,_,(_,_,_,_,_,_),rfl,rfl,hq,h.2⟩
def m40 (g:Nat) (n:Dat):Nat × Nat × Dat :=
 (((o40_2 g n (↑g:Int) 0 0 noDat).getD default).1,((o40_2 g n (↑g:Int) 0 0 noDat).getD default).2.1,((o40_2 g n (↑g:Int) 0 0 noDat).getD default).2.2)
def n40 (g:Nat) (n:Dat):Bool :=
 (((o40_0 g n n (↑g:Int) 0 0).isSome)&&((n68 ((o40_0 g n n (↑g:Int) 0 0).getD 0))&&(((o40_2 g n (↑g:Int) 0 0 noDat).isSome)&&true)))
def q40 (r:Nat × Nat × Dat):SV × List Blk × List Blk:=(.gr 0 2 r.1,[],[.row 41 [W Z,W Z] r.2.1 r.2.2])
def g40:GF:=fun vs bs=>match vs,bs with
 | [.ro [.sl [W Z,W Z]] g n],[]=>some (rs 0 (q40 (m40 g n)) [n40 g n])
 | _,_=>none
def c40:Ctr:=genC [.ro [.sl [W Z,W Z]]] g40
theorem k40:CtrOk Tryz.prog c40 40:=cx (tc k68 tn) mix_ok 8 (fn:=Tryz.f40) (c:=(Tryz.f40.body.getD .skip)) (grs:=[]) (rh:=.k) Tryz.func40 rfl (by kernel_rfl) (lam_of rfl (lc z40_0 (lc z40_2 ln))) fun vs bs q h hn=>by
 unfold g40 at h
 split at h <;> cases h
 rename_i g n
 have hn:=n1 hn
 exact ⟨_,rfl,ca (fun R=>(cnd (decide (g=g))
 (cnd ((o40_0 g n n (↑g:Int) 0 0).isSome)
 (cnd (n68 ((o40_0 g n n (↑g:Int) 0 0).getD 0))
 (cnd ((o40_2 g n (↑g:Int) 0 0 noDat).isSome)
 (R (.gr 0 2 ((o40_2 g n (↑g:Int) 0 0 noDat).getD default).1) [] [.row 41 [W Z,W Z] ((o40_2 g n (↑g:Int) 0 0 noDat).getD default).2.1 ((o40_2 g n (↑g:Int) 0 0 noDat).getD default).2.2])
   False)
  False)
  False)
 False)) (fun R=>by kernel_rfl) (cn (decide_eq_true rfl) (cn (al hn) (cn (al (ar hn)) (cn (al (ar (ar hn))) (lf rfl rfl)))))⟩

/-! ### slices.Reverse[[]int,int] -/
def l48_0 (i a:Nat):Nat→Int→Int→Dat→Option (Dat)
 | 0,_,_,_=>none
 | f+1,d,g,b=>(cond (decide (d<g)) (cond (decide (0≤g∧g<↑i)) (cond (decide (g.toNat<a)) (cond (decide (0≤d∧d<↑i)) (cond (decide (d.toNat<a)) (cond (decide (0≤d∧d<↑i)) (cond (decide (d.toNat<a)) (cond (decide (0≤g∧g<↑i)) (cond (decide (g.toNat<a)) (l48_0 i a f (Z.wrap (d+1)) (Z.wrap (g - 1)) ((b.upd d.toNat 0 [V Z (b.ii g.toNat 0)]).upd g.toNat 0 [V Z (b.ii d.toNat 0)])) none) none) none) none) none) none) none) none) (some b))
abbrev o48_0 (i a:Nat) (d g:Int) (b:Dat):Option (Dat):=l48_0 i a (i+d.toNat+g.toNat+a+8) d g b
def e48_0 (i a:Nat) (r:Dat) (K:XR):Prop:=K (XE.exit 0) [] [.row 3 [W Z] a r]
def g48_0:LSum:=fun s k=>match czv 1 28 [0,2,3] 1 [] s with
 | some ([.gr 0 1 i,V Z d,V Z g],[.row 3 [W Z] a b])=>needs [(o48_0 i a d g b).isSome] (e48_0 i a ((o48_0 i a d g b).getD default) fun e vs bs=>inBlk 0 k e (mkSt 1 28 [] vs 1 bs))
 | _=>False
theorem z48_0:LOk Tryz.prog g48_0 (.block 0 (bodyAt (Tryz.f48.body.getD .skip) 0)):=by
 refine lb (ι:=Nat × Int × Int × Nat × Dat) (fuel:=8) (na:=1) (nt:=28) (nx:=1) (Lh:=[0,2,3]) (Le:=[]) (gl:=[]) tn mix_ok noLam rfl (fun f (i,d,g,a,b) K=>GG default (e48_0 i a) K (l48_0 i a f d g b)) (fun (i,d,g,a,b)=>[.gr 0 1 i,V Z d,V Z g]) (fun (i,d,g,a,b)=>[.row 3 [W Z] a b]) (fun (_,_,_,_,_) K=>gg_none) ?_ ?_
 ·rintro f ⟨i,d,g,a,b⟩ K hG
  refine ro (fun R=>(cnd (decide (d<g))
 (cnd (decide (0≤g∧g<↑i))
 (cnd (decide (g.toNat<a))
 (cnd (decide (0≤d∧d<↑i))
 (cnd (decide (d.toNat<a))
 (cnd (decide (0≤d∧d<↑i))
 (cnd (decide (d.toNat<a))
 (cnd (decide (0≤g∧g<↑i))
 (cnd (decide (g.toNat<a))
 (R (XE.normal) [.gr 0 1 i,V Z (Z.wrap (d+1)),V Z (Z.wrap (g - 1))] [.row 3 [W Z] a ((b.upd d.toNat 0 [V Z (b.ii g.toNat 0)]).upd g.toNat 0 [V Z (b.ii d.toNat 0)])])
     False)
     False)
    False)
    False)
   False)
   False)
  False)
  False)
 (R (XE.exit 0) [] [.row 3 [W Z] a b]))) (fun R=>by kernel_rfl) ?_
  exact ch hG (fun h0=>cg h0 fun h1=>cg h1 fun h2=>cg h2 fun h3=>cg h3 fun h4=>cg h4 fun h5=>cg h5 fun h6=>cg h6 fun h7=>cg h7 fun h8=>⟨(_,_,_,_,_),rfl,rfl,h8⟩) (fun h0=>h0.2)
 ·intro s k h
  unfold g48_0 at h
  split at h <;> try exact h.elim
  rename_i e1
  rw [needs_iff] at h
  exact ⟨_,e1,_,(_,_,_,_,_),rfl,rfl,h.1 _ (List.mem_singleton.2 rfl),h.2⟩
def m48 (j ma0:Nat) (l:Dat):Nat × Dat :=
 (ma0,((o48_0 j ma0 0 (Z.wrap ((↑j:Int) - 1)) l).getD default))
def n48 (j ma0:Nat) (l:Dat):Bool :=
 (((o48_0 j ma0 0 (Z.wrap ((↑j:Int) - 1)) l).isSome)&&true)
def q48 (r:Nat × Dat):SV × List Blk × List Blk:=(.tup [],[.row 3 [W Z] r.1 r.2],[])
def g48:GF:=fun vs bs=>match vs,bs with
 | [.gr 0 1 j],[.row 3 [W Z] ma0 l]=>some (rs 1 (q48 (m48 j ma0 l)) [n48 j ma0 l])
 | _,_=>none
def c48:Ctr:=genC [.gr 3 [W Z]] g48
theorem k48:CtrOk Tryz.prog c48 48:=cx tn mix_ok 8 (fn:=Tryz.f48) (c:=(Tryz.f48.body.getD .skip)) (grs:=[]) (rh:=.k) Tryz.func48 rfl (by kernel_rfl) (lam_of rfl (lc z48_0 ln)) fun vs bs q h hn=>by
 unfold g48 at h
 split at h <;> cases h
 rename_i j ma0 l
 have hn:=n1 hn
 exact ⟨_,rfl,ca (fun R=>(cnd ((o48_0 j ma0 0 (Z.wrap ((↑j:Int) - 1)) l).isSome)
 (R (.tup []) [.row 3 [W Z] ma0 ((o48_0 j ma0 0 (Z.wrap ((↑j:Int) - 1)) l).getD default)] [])
 False)) (fun R=>by kernel_rfl) (cn (al hn) (lf rfl rfl))⟩
/-! ### slices.insertionSortCmpFunc[shotline/api.Range] -/
def l89c42_2 (g:Nat) (i l j:Int) (a:Nat):Nat→Int→Dat→Option (Dat)
 | 0,_,_=>none
 | f+1,d,b=>(cond (bif (bif (decide (i<d)) then false else true) then true else (decide (0≤d∧d<↑g))) (cond (bif (bif (decide (i<d)) then false else true) then true else (decide (d.toNat<a))) (cond (bif (bif (decide (i<d)) then false else true) then true else (decide (0≤Z.wrap (d - 1)∧Z.wrap (d - 1)<(↑g:Int)))) (cond (bif (bif (decide (i<d)) then false else true) then true else (decide (((Z.wrap (d - 1)).toNat)<a))) (cond (bif (decide (i<d)) then (decide ((m42 (b.ii d.toNat 0) (b.ii d.toNat 1) (b.ii ((Z.wrap (d - 1)).toNat) 0) (b.ii ((Z.wrap (d - 1)).toNat) 1))<0)) else false) (cond (decide (0≤Z.wrap (d - 1)∧Z.wrap (d - 1)<(↑g:Int))) (cond (decide (((Z.wrap (d - 1)).toNat)<a)) (cond (decide (0≤d∧d<↑g)) (cond (decide (d.toNat<a)) (cond (decide (0≤d∧d<↑g)) (cond (decide (d.toNat<a)) (cond (decide (0≤Z.wrap (d - 1)∧Z.wrap (d - 1)<(↑g:Int))) (cond (decide (((Z.wrap (d - 1)).toNat)<a)) (l89c42_2 g i l j a f (Z.wrap (d - 1)) ((b.upd d.toNat 0 [V Z (b.ii ((Z.wrap (d - 1)).toNat) 0),V Z (b.ii ((Z.wrap (d - 1)).toNat) 1)]).upd ((Z.wrap (d - 1)).toNat) 0 [V Z (b.ii d.toNat 0),V Z (b.ii d.toNat 1)])) none) none) none) none) none) none) none) none) (some b)) none) none) none) none)
abbrev o89c42_2 (g:Nat) (i l j:Int) (a:Nat) (d:Int) (b:Dat):Option (Dat):=l89c42_2 g i l j a (g+i.toNat+l.toNat+j.toNat+d.toNat+a+8) d b
def e89c42_2 (g:Nat) (i l j:Int) (a:Nat) (r:Dat) (K:XR):Prop:=K (XE.exit 2) [.gr 0 2 g,V Z i,V Z l,.fn 42 [],V Z j] [.row 41 [W Z,W Z] a r]
def g89c42_2:LSum:=fun s k=>match czv 1 53 [0,1,2,3,8,9] 1 [] s with
 | some ([.gr 0 2 g,V Z i,V Z l,.fn 42 [],V Z j,V Z d],[.row 41 [W Z,W Z] a b])=>needs [(o89c42_2 g i l j a d b).isSome] (e89c42_2 g i l j a ((o89c42_2 g i l j a d b).getD default) fun e vs bs=>inBlk 2 k e (mkSt 1 53 [0,1,2,3,8] vs 1 bs))
 | _=>False
theorem z89c42_2:LOk Tryz.prog g89c42_2 (.block 2 (bodyAt (Tryz.f89.body.getD .skip) 2)):=by
 refine lb (ι:=Nat × Int × Int × Int × Int × Nat × Dat) (fuel:=8) (na:=1) (nt:=53) (nx:=1) (Lh:=[0,1,2,3,8,9]) (Le:=[0,1,2,3,8]) (gl:=[]) (tc k42 tn) mix_ok noLam rfl (fun f (g,i,l,j,d,a,b) K=>GG default (e89c42_2 g i l j a) K (l89c42_2 g i l j a f d b)) (fun (g,i,l,j,d,a,b)=>[.gr 0 2 g,V Z i,V Z l,.fn 42 [],V Z j,V Z d]) (fun (g,i,l,j,d,a,b)=>[.row 41 [W Z,W Z] a b]) (fun (_,_,_,_,_,_,_) K=>gg_none) ?_ ?_
 ·rintro f ⟨g,i,l,j,d,a,b⟩ K hG
  refine ro (fun R => 
 let a0:=((Z.wrap (d - 1)).toNat)
 let b0:=(decide (0≤Z.wrap (d - 1)∧Z.wrap (d - 1)<(↑g:Int)))
 let c0:=(bif (decide (i<d)) then false else true)
 let d0:=(decide (0≤d∧d<↑g))
 (cnd (bif c0 then true else d0)
 (cnd (bif c0 then true else (decide (d.toNat<a)))
 (cnd (bif c0 then true else b0)
 (cnd (bif c0 then true else (decide (a0<a)))
 (cnd (bif (decide (i<d)) then (decide ((m42 (b.ii d.toNat 0) (b.ii d.toNat 1) (b.ii a0 0) (b.ii a0 1))<0)) else false)
 (cnd b0
 (cnd (decide (a0<a))
 (cnd d0
 (cnd (decide (d.toNat<a))
 (cnd d0
 (cnd (decide (d.toNat<a))
 (cnd b0
 (cnd (decide (a0<a))
 (R (XE.normal) [.gr 0 2 g,V Z i,V Z l,.fn 42 [],V Z j,V Z (Z.wrap (d - 1))] [.row 41 [W Z,W Z] a ((b.upd d.toNat 0 [V Z (b.ii a0 0),V Z (b.ii a0 1)]).upd a0 0 [V Z (b.ii d.toNat 0),V Z (b.ii d.toNat 1)])])
       False)
       False)
      False)
      False)
     False)
     False)
    False)
    False)
 (R (XE.exit 2) [.gr 0 2 g,V Z i,V Z l,.fn 42 [],V Z j] [.row 41 [W Z,W Z] a b]))
   False)
  False)
  False)
 False)) (fun R=>by kernel_rfl) ?_
  exact cg hG fun h0=>cg h0 fun h1=>cg h1 fun h2=>cg h2 fun h3=>ch h3 (fun h4=>cg h4 fun h5=>cg h5 fun h6=>cg h6 fun h7=>cg h7 fun h8=>cg h8 fun h9=>cg h9 fun h10=>cg h10 fun h11=>cg h11 fun h12=>⟨(_,_,_,_,_,_,_),rfl,rfl,h12⟩) (fun h4=>h4.2)
 ·intro s k h
  unfold g89c42_2 at h
  split at h <;> try exact h.elim
  rename_i e1
  rw [needs_iff] at h
  exact ⟨_,e1,_,(_,_,_,_,_,_,_),rfl,rfl,h.1 _ (List.mem_singleton.2 rfl),h.2⟩
def l89c42_0 (g:Nat) (i l:Int) (a:Nat):Nat→Int→Dat→Option (Dat)
 | 0,_,_=>none
 | f+1,j,b=>(cond (decide (j<l)) (cond ((o89c42_2 g i l j a j b).isSome) (l89c42_0 g i l a f (Z.wrap (j+1)) ((o89c42_2 g i l j a j b).getD default)) none) (some b))
abbrev o89c42_0 (g:Nat) (i l:Int) (a:Nat) (j:Int) (b:Dat):Option (Dat):=l89c42_0 g i l a (g+i.toNat+l.toNat+j.toNat+a+8) j b
def e89c42_0 (g:Nat) (i l:Int) (a:Nat) (r:Dat) (K:XR):Prop:=K (XE.exit 0) [] [.row 41 [W Z,W Z] a r]
def g89c42_0:LSum:=fun s k=>match czv 1 53 [0,1,2,3,8] 1 [] s with
 | some ([.gr 0 2 g,V Z i,V Z l,.fn 42 [],V Z j],[.row 41 [W Z,W Z] a b])=>needs [(o89c42_0 g i l a j b).isSome] (e89c42_0 g i l a ((o89c42_0 g i l a j b).getD default) fun e vs bs=>inBlk 0 k e (mkSt 1 53 [] vs 1 bs))
 | _=>False
theorem z89c42_0:LOk Tryz.prog g89c42_0 (.block 0 (bodyAt (Tryz.f89.body.getD .skip) 0)):=by
 refine lb (ι:=Nat × Int × Int × Int × Nat × Dat) (fuel:=8) (na:=1) (nt:=53) (nx:=1) (Lh:=[0,1,2,3,8]) (Le:=[]) (gl:=[]) (tc k42 tn) mix_ok (lam_of rfl (lc z89c42_2 ln)) rfl (fun f (g,i,l,j,a,b) K=>GG default (e89c42_0 g i l a) K (l89c42_0 g i l a f j b)) (fun (g,i,l,j,a,b)=>[.gr 0 2 g,V Z i,V Z l,.fn 42 [],V Z j]) (fun (g,i,l,j,a,b)=>[.row 41 [W Z,W Z] a b]) (fun (_,_,_,_,_,_) K=>gg_none) ?_ ?_
 ·rintro f ⟨g,i,l,j,a,b⟩ K hG
  refine ro (fun R=>(cnd (decide (j<l))
 (cnd ((o89c42_2 g i l j a j b).isSome)
 (R (XE.normal) [.gr 0 2 g,V Z i,V Z l,.fn 42 [],V Z (Z.wrap (j+1))] [.row 41 [W Z,W Z] a ((o89c42_2 g i l j a j b).getD default)])
  False)
 (R (XE.exit 0) [] [.row 41 [W Z,W Z] a b]))) (fun R=>by kernel_rfl) ?_
  exact ch hG (fun h0=>cg h0 fun h1=>⟨(_,_,_,_,_,_),rfl,rfl,h1⟩) (fun h0=>h0.2)
 ·intro s k h
  unfold g89c42_0 at h
  split at h <;> try exact h.elim
  rename_i e1
  rw [needs_iff] at h
  exact ⟨_,e1,_,(_,_,_,_,_,_),rfl,rfl,h.1 _ (List.mem_singleton.2 rfl),h.2⟩
def m89c42 (m ma0:Nat) (n:Dat) (o p:Int):Nat × Dat :=
 (ma0,((o89c42_0 m o p ma0 (Z.wrap (o+1)) n).getD default))
def n89c42 (m ma0:Nat) (n:Dat) (o p:Int):Bool :=
 (((o89c42_0 m o p ma0 (Z.wrap (o+1)) n).isSome)&&true)
def q89c42 (r:Nat × Dat):SV × List Blk × List Blk:=(.tup [],[.row 41 [W Z,W Z] r.1 r.2],[])
def g89c42:GF:=fun vs bs=>match vs,bs with
 | [.gr 0 2 m,V Z o,V Z p,.fn 42 []],[.row 41 [W Z,W Z] ma0 n]=>some (rs 1 (q89c42 (m89c42 m ma0 n o p)) [n89c42 m ma0 n o p])
 | _,_=>none
def c89c42:Ctr:=genC [.gr 41 [W Z,W Z],.k,.k,.f []] g89c42
theorem k89c42:CtrOk Tryz.prog c89c42 89:=cx (tc k42 tn) mix_ok 8 (fn:=Tryz.f89) (c:=(Tryz.f89.body.getD .skip)) (grs:=[]) (rh:=.k) Tryz.func89 rfl (by kernel_rfl) (lam_of rfl (lc z89c42_2 (lc z89c42_0 ln))) fun vs bs q h hn=>by
 unfold g89c42 at h
 split at h <;> cases h
 rename_i m o p ma0 n
 have hn:=n1 hn
 exact ⟨_,rfl,ca (fun R=>(cnd ((o89c42_0 m o p ma0 (Z.wrap (o+1)) n).isSome)
 (R (.tup []) [.row 41 [W Z,W Z] ma0 ((o89c42_0 m o p ma0 (Z.wrap (o+1)) n).getD default)] [])
 False)) (fun R=>by kernel_rfl) (cn (al hn) (lf rfl rfl))⟩

/-! ### slices.pdqsortCmpFunc[shotline/api.Range] -/
def m69c42 (a ma0:Nat) (b:Dat) (d e g:Int):Nat × Dat :=
 ((m89c42 a ma0 b d e).1,(m89c42 a ma0 b d e).2)
def n69c42 (a ma0:Nat) (b:Dat) (d e g:Int):Bool :=
 ((decide ((Z.wrap (e - d))≤12))&&((n89c42 a ma0 b d e)&&true))
def q69c42 (r:Nat × Dat):SV × List Blk × List Blk:=(.tup [],[.row 41 [W Z,W Z] r.1 r.2],[])
def g69c42:GF:=fun vs bs=>match vs,bs with
 | [.gr 0 2 a,V Z d,V Z e,V Z g,.fn 42 []],[.row 41 [W Z,W Z] ma0 b]=>some (rs 1 (q69c42 (m69c42 a ma0 b d e g)) [n69c42 a ma0 b d e g])
 | _,_=>none
def c69c42:Ctr:=genC [.gr 41 [W Z,W Z],.k,.k,.k,.f []] g69c42
theorem k69c42:CtrOk Tryz.prog c69c42 69:=cx (tc k42 (tc k89c42 tn)) mix_ok 8 (fn:=Tryz.f69) (c:=(Tryz.f69.body.getD .skip)) (grs:=[]) (rh:=.k) Tryz.func69 rfl (by kernel_rfl) noLam fun vs bs q h hn=>by
 unfold g69c42 at h
 split at h <;> cases h
 rename_i a d e g ma0 b
 have hn:=n1 hn
 exact ⟨_,rfl,ca (fun R=>(cnd (decide ((Z.wrap (e - d))≤12))
 (cnd (n89c42 a ma0 b d e)
 (R (.tup []) [.row 41 [W Z,W Z] (m89c42 a ma0 b d e).1 (m89c42 a ma0 b d e).2] [])
  False)
 (cnd (decide (g=0))
  False
  False))) (fun R=>by kernel_rfl) (co (fun _=>cn (al (ar hn)) (lf rfl rfl)) (fun h0=>(Bool.false_ne_true (h0.symm.trans (al hn))).elim))⟩

/-! ### slices.SortFunc[[]shotline/api.Range,shotline/api.Range] -/
def m41c42 (a ma0:Nat) (b:Dat):Nat × Dat :=
 ((m69c42 a ma0 b 0 (↑a:Int) (m70 (IntKind.u64.wrap (↑a:Int)))).1,(m69c42 a ma0 b 0 (↑a:Int) (m70 (IntKind.u64.wrap (↑a:Int)))).2)
def n41c42 (a ma0:Nat) (b:Dat):Bool :=
 ((n70 (IntKind.u64.wrap (↑a:Int)))&&((n69c42 a ma0 b 0 (↑a:Int) (m70 (IntKind.u64.wrap (↑a:Int))))&&true))
def q41c42 (r:Nat × Dat):SV × List Blk × List Blk:=(.tup [],[.row 41 [W Z,W Z] r.1 r.2],[])
def g41c42:GF:=fun vs bs=>match vs,bs with
 | [.gr 0 2 a,.fn 42 []],[.row 41 [W Z,W Z] ma0 b]=>some (rs 1 (q41c42 (m41c42 a ma0 b)) [n41c42 a ma0 b])
 | _,_=>none
def c41c42:Ctr:=genC [.gr 41 [W Z,W Z],.f []] g41c42
theorem k41c42:CtrOk Tryz.prog c41c42 41:=cx (tc k42 (tc k69c42 (tc k70 tn))) mix_ok 8 (fn:=Tryz.f41) (c:=(Tryz.f41.body.getD .skip)) (grs:=[]) (rh:=.k) Tryz.func41 rfl (by kernel_rfl) noLam fun vs bs q h hn=>by
 unfold g41c42 at h
 split at h <;> cases h
 rename_i a ma0 b
 have hn:=n1 hn
 exact ⟨_,rfl,ca (fun R=>(cnd (n70 (IntKind.u64.wrap (↑a:Int)))
 (cnd (n69c42 a ma0 b 0 (↑a:Int) (m70 (IntKind.u64.wrap (↑a:Int))))
 (R (.tup []) [.row 41 [W Z,W Z] (m69c42 a ma0 b 0 (↑a:Int) (m70 (IntKind.u64.wrap (↑a:Int)))).1 (m69c42 a ma0 b 0 (↑a:Int) (m70 (IntKind.u64.wrap (↑a:Int)))).2] [])
  False)
 False)) (fun R=>by kernel_rfl) (cn (al hn) (cn (al (ar hn)) (lf rfl rfl)))⟩

/-! ### shotline/site.Way -/
def l17_2 (A:Int) (l:Nat) (n:Int) (C:Nat) (x:Dat) (F:Int) (p:Nat) (u:Dat) (o:Nat) (j:Dat) (z:Nat):Nat→Int→Dat→Option (Dat)
 | 0,_,_=>none
 | f+1,v,m=>(cond (decide (v<F)) (cond (decide (0≤v∧v<↑C)) (cond (decide (0≤n∧n<↑l)) (cond (decide (n.toNat<z)) (cond (bif (bif (decide (0≤(x.ii v.toNat 0))) then false else true) then true else (decide (0≤v∧v<↑l))) (cond (bif (bif (decide (0≤(x.ii v.toNat 0))) then false else true) then true else (decide (v.toNat<z))) (cond (bif (bif (bif (decide (0≤(x.ii v.toNat 0))) then (bif (m.bb v.toNat 3) then false else true) else false) then false else true) then true else (decide (0≤v∧v<↑l))) (cond (bif (bif (bif (decide (0≤(x.ii v.toNat 0))) then (bif (m.bb v.toNat 3) then false else true) else false) then false else true) then true else (decide (v.toNat<z))) (cond (bif (bif (bif (bif (decide (0≤(x.ii v.toNat 0))) then (bif (m.bb v.toNat 3) then false else true) else false) then (bif (bif (m.bb v.toNat 2) then false else true) then false else true) else false) then false else true) then true else (decide (0≤v∧v<↑l))) (cond (bif (bif (bif (bif (decide (0≤(x.ii v.toNat 0))) then (bif (m.bb v.toNat 3) then false else true) else false) then (bif (bif (m.bb v.toNat 2) then false else true) then false else true) else false) then false else true) then true else (decide (v.toNat<z))) (cond (bif (bif (decide (0≤(x.ii v.toNat 0))) then (bif (m.bb v.toNat 3) then false else true) else false) then (bif (bif (m.bb v.toNat 2) then false else true) then true else (decide ((Z.wrap ((m.ii n.toNat 1)+(x.ii v.toNat 0)))<(m.ii v.toNat 1)))) else false) (cond (decide (0≤v∧v<↑l)) (cond (decide (v.toNat<z)) (l17_2 A l n C x F p u o j z f (Z.wrap (v+1)) (m.upd v.toNat 0 [V Z n,V Z (Z.wrap ((m.ii n.toNat 1)+(x.ii v.toNat 0))),SV.bool true,SV.bool false])) none) none) (l17_2 A l n C x F p u o j z f (Z.wrap (v+1)) m)) none) none) none) none) none) none) none) none) none) (some m))
abbrev o17_2 (A:Int) (l:Nat) (n:Int) (C:Nat) (x:Dat) (F:Int) (p:Nat) (u:Dat) (o:Nat) (j:Dat) (z:Nat) (v:Int) (m:Dat):Option (Dat):=l17_2 A l n C x F p u o j z (A.toNat+l+n.toNat+C+F.toNat+v.toNat+p+o+z+8) v m
def e17_2 (A:Int) (l:Nat) (n:Int) (C:Nat) (x:Dat) (F:Int) (p:Nat) (u:Dat) (o:Nat) (j:Dat) (z:Nat) (r:Dat) (K:XR):Prop:=K (XE.exit 2) [V Z A,.ptr 0 0,.own 1 4 l] [.cells 54 [.ro [.str] p u,.ro [.sl [W Z]] o j],.row 105 [W Z,W Z,.bool,.bool] z r]
def g17_2:LSum:=fun s k=>match czv 0 128 [2,3,10,11,54,55,56] 2 [] s with
 | some ([V Z A,.ptr 0 0,.own 1 4 l,V Z n,.ro [W Z] C x,V Z F,V Z v],[.cells 54 [.ro [.str] p u,.ro [.sl [W Z]] o j],.row 105 [W Z,W Z,.bool,.bool] z m])=>needs [(o17_2 A l n C x F p u o j z v m).isSome] (e17_2 A l n C x F p u o j z ((o17_2 A l n C x F p u o j z v m).getD default) fun e vs bs=>inBlk 2 k e (mkSt 0 128 [2,3,10] vs 2 bs))
 | _=>False
theorem z17_2:LOk Tryz.prog g17_2 (.block 2 (bodyAt (Tryz.f17.body.getD .skip) 2)):=by
 refine lb (ι:=Int × Nat × Int × Nat × Dat × Int × Int × Nat × Dat × Nat × Dat × Nat × Dat) (fuel:=8) (na:=0) (nt:=128) (nx:=2) (Lh:=[2,3,10,11,54,55,56]) (Le:=[2,3,10]) (gl:=[]) (tc k45 (tc k46 (tc k47 (tc k48 tn)))) mix_ok noLam rfl (fun f (A,l,n,C,x,F,v,p,u,o,j,z,m) K=>GG default (e17_2 A l n C x F p u o j z) K (l17_2 A l n C x F p u o j z f v m)) (fun (A,l,n,C,x,F,v,p,u,o,j,z,m)=>[V Z A,.ptr 0 0,.own 1 4 l,V Z n,.ro [W Z] C x,V Z F,V Z v]) (fun (A,l,n,C,x,F,v,p,u,o,j,z,m)=>[.cells 54 [.ro [.str] p u,.ro [.sl [W Z]] o j],.row 105 [W Z,W Z,.bool,.bool] z m]) (fun (_,_,_,_,_,_,_,_,_,_,_,_,_) K=>gg_none) ?_ ?_
 ·rintro f ⟨A,l,n,C,x,F,v,p,u,o,j,z,m⟩ K hG
  refine ro (fun R => 
 let a0:=(bif (decide (0≤(x.ii v.toNat 0))) then (bif (m.bb v.toNat 3) then false else true) else false)
 let b0:=(bif (bif a0 then (bif (bif (m.bb v.toNat 2) then false else true) then false else true) else false) then false else true)
 let c0:=(decide (0≤v∧v<↑l))
 let d0:=(bif (decide (0≤(x.ii v.toNat 0))) then false else true)
 let e0:=(decide (v.toNat<z))
 (cnd (decide (v<F))
 (cnd (decide (0≤v∧v<↑C))
 (cnd (decide (0≤n∧n<↑l))
 (cnd (decide (n.toNat<z))
 (cnd (bif d0 then true else c0)
 (cnd (bif d0 then true else e0)
 (cnd (bif (bif a0 then false else true) then true else c0)
 (cnd (bif (bif a0 then false else true) then true else e0)
 (cnd (bif b0 then true else c0)
 (cnd (bif b0 then true else e0)
 (cnd (bif a0 then (bif (bif (m.bb v.toNat 2) then false else true) then true else (decide ((Z.wrap ((m.ii n.toNat 1)+(x.ii v.toNat 0)))<(m.ii v.toNat 1)))) else false)
 (cnd c0
 (cnd e0
 (R (XE.normal) [V Z A,.ptr 0 0,.own 1 4 l,V Z n,.ro [W Z] C x,V Z F,V Z (Z.wrap (v+1))] [.cells 54 [.ro [.str] p u,.ro [.sl [W Z]] o j],.row 105 [W Z,W Z,.bool,.bool] z (m.upd v.toNat 0 [V Z n,V Z (Z.wrap ((m.ii n.toNat 1)+(x.ii v.toNat 0))),SV.bool true,SV.bool false])])
       False)
       False)
 (R (XE.normal) [V Z A,.ptr 0 0,.own 1 4 l,V Z n,.ro [W Z] C x,V Z F,V Z (Z.wrap (v+1))] [.cells 54 [.ro [.str] p u,.ro [.sl [W Z]] o j],.row 105 [W Z,W Z,.bool,.bool] z m]))
      False)
     False)
     False)
    False)
    False)
   False)
   False)
  False)
  False)
 (R (XE.exit 2) [V Z A,.ptr 0 0,.own 1 4 l] [.cells 54 [.ro [.str] p u,.ro [.sl [W Z]] o j],.row 105 [W Z,W Z,.bool,.bool] z m]))) (fun R=>by kernel_rfl) ?_
  exact ch hG (fun h0=>cg h0 fun h1=>cg h1 fun h2=>cg h2 fun h3=>cg h3 fun h4=>cg h4 fun h5=>cg h5 fun h6=>cg h6 fun h7=>cg h7 fun h8=>cg h8 fun h9=>ch h9 (fun h10=>cg h10 fun h11=>cg h11 fun h12=>⟨(_,_,_,_,_,_,_,_,_,_,_,_,_),rfl,rfl,h12⟩) (fun h10=>⟨(_,_,_,_,_,_,_,_,_,_,_,_,_),rfl,rfl,h10⟩)) (fun h0=>h0.2)
 ·intro s k h
  unfold g17_2 at h
  split at h <;> try exact h.elim
  rename_i e1
  rw [needs_iff] at h
  exact ⟨_,e1,_,(_,_,_,_,_,_,_,_,_,_,_,_,_),rfl,rfl,h.1 _ (List.mem_singleton.2 rfl),h.2⟩
def l17_0 (A:Int) (l p:Nat) (u:Dat) (o:Nat) (j:Dat):Nat→Int→Dat→Option (Dat)
 | 0,_,_=>none
 | f+1,n,m=>(cond (decide (0≤n)) (cond (decide (0≤n∧n<↑l)) (cond (decide (n.toNat<l)) (cond (decide (0≤n∧n<↑o)) (cond ((o17_2 A l n (j.sn n.toNat 0) (j.sub n.toNat 0) (↑(j.sn n.toNat 0):Int) p u o j l 0 (m.upd n.toNat 3 [SV.bool true])).isSome) (cond (decide ((0+l)≤l)) (cond (n47 l ((o17_2 A l n (j.sn n.toNat 0) (j.sub n.toNat 0) (↑(j.sn n.toNat 0):Int) p u o j l 0 (m.upd n.toNat 3 [SV.bool true])).getD default)) (l17_0 A l p u o j f (m47 l ((o17_2 A l n (j.sn n.toNat 0) (j.sub n.toNat 0) (↑(j.sn n.toNat 0):Int) p u o j l 0 (m.upd n.toNat 3 [SV.bool true])).getD default)) ((o17_2 A l n (j.sn n.toNat 0) (j.sub n.toNat 0) (↑(j.sn n.toNat 0):Int) p u o j l 0 (m.upd n.toNat 3 [SV.bool true])).getD default)) none) none) none) none) none) none) (some m))
abbrev o17_0 (A:Int) (l p:Nat) (u:Dat) (o:Nat) (j:Dat) (n:Int) (m:Dat):Option (Dat):=l17_0 A l p u o j (A.toNat+l+n.toNat+p+o+8) n m
def e17_0 (A:Int) (l p:Nat) (u:Dat) (o:Nat) (j r:Dat) (K:XR):Prop:=K (XE.exit 0) [V Z A,.own 1 4 l] [.cells 54 [.ro [.str] p u,.ro [.sl [W Z]] o j],.row 105 [W Z,W Z,.bool,.bool] l r]
def g17_0:LSum:=fun s k=>match czv 0 128 [2,3,10,11] 2 [] s with
 | some ([V Z A,.ptr 0 0,.own 1 4 l,V Z n],[.cells 54 [.ro [.str] p u,.ro [.sl [W Z]] o j],.row 105 [W Z,W Z,.bool,.bool] z m])=>needs [decide (l=z),(o17_0 A l p u o j n m).isSome] (e17_0 A l p u o j ((o17_0 A l p u o j n m).getD default) fun e vs bs=>inBlk 0 k e (mkSt 0 128 [2,10] vs 2 bs))
 | _=>False
theorem z17_0:LOk Tryz.prog g17_0 (.block 0 (bodyAt (Tryz.f17.body.getD .skip) 0)):=by
 refine lb (ι:=Int × Nat × Int × Nat × Dat × Nat × Dat × Dat) (fuel:=8) (na:=0) (nt:=128) (nx:=2) (Lh:=[2,3,10,11]) (Le:=[2,10]) (gl:=[]) (tc k45 (tc k46 (tc k47 (tc k48 tn)))) mix_ok (lam_of rfl (lc z17_2 ln)) rfl (fun f (A,l,n,p,u,o,j,m) K=>GG default (e17_0 A l p u o j) K (l17_0 A l p u o j f n m)) (fun (A,l,n,p,u,o,j,m)=>[V Z A,.ptr 0 0,.own 1 4 l,V Z n]) (fun (A,l,n,p,u,o,j,m)=>[.cells 54 [.ro [.str] p u,.ro [.sl [W Z]] o j],.row 105 [W Z,W Z,.bool,.bool] l m]) (fun (_,_,_,_,_,_,_,_) K=>gg_none) ?_ ?_
 ·rintro f ⟨A,l,n,p,u,o,j,m⟩ K hG
  refine ro (fun R => 
 let a0:=(o17_2 A l n (j.sn n.toNat 0) (j.sub n.toNat 0) (↑(j.sn n.toNat 0):Int) p u o j l 0 (m.upd n.toNat 3 [SV.bool true]))
 (cnd (decide (0≤n))
 (cnd (decide (0≤n∧n<↑l))
 (cnd (decide (n.toNat<l))
 (cnd (decide (0≤n∧n<↑o))
 (cnd (a0.isSome)
 (cnd (decide ((0+l)≤l))
 (cnd (n47 l (a0.getD default))
 (R (XE.normal) [V Z A,.ptr 0 0,.own 1 4 l,V Z (m47 l (a0.getD default))] [.cells 54 [.ro [.str] p u,.ro [.sl [W Z]] o j],.row 105 [W Z,W Z,.bool,.bool] l (a0.getD default)])
    False)
    False)
   False)
   False)
  False)
  False)
 (R (XE.exit 0) [V Z A,.own 1 4 l] [.cells 54 [.ro [.str] p u,.ro [.sl [W Z]] o j],.row 105 [W Z,W Z,.bool,.bool] l m]))) (fun R=>by kernel_rfl) ?_
  exact ch hG (fun h0=>cg h0 fun h1=>cg h1 fun h2=>cg h2 fun h3=>cg h3 fun h4=>cg h4 fun h5=>cg h5 fun h6=>⟨(_,_,_,_,_,_,_,_),rfl,rfl,h6⟩) (fun h0=>h0.2)
 ·intro s k h
  unfold g17_0 at h
  split at h <;> try exact h.elim
  rename_i e1
  rw [needs_iff] at h
  have hq:=h.1
  simp only [List.mem_cons,forall_eq_or_imp,decide_eq_true_eq,List.not_mem_nil,false_imp_iff,implies_true,and_true] at hq
  obtain ⟨rfl,hq⟩:=hq
  exact ⟨_,e1,_,(_,_,_,_,_,_,_,_),rfl,rfl,hq,h.2⟩
def l17_4 (A:Int) (l p:Nat) (u:Dat) (o:Nat) (j m:Dat):Nat→Nat→Int→Dat→Option (Nat × Nat × Dat)
 | 0,_,_,_=>none
 | f+1,D,E,G=>(cond (decide (0≤E)) (cond (decide ((D+1)≤1073741824)) (cond (decide (0≤E∧E<↑l)) (cond (decide (E.toNat<l)) (l17_4 A l p u o j m f (D+1) (m.ii E.toNat 0) (G.app D (datS [V Z E] 1))) none) none) none) (some (D,D,G)))
abbrev o17_4 (A:Int) (l p:Nat) (u:Dat) (o:Nat) (j m:Dat) (D:Nat) (E:Int) (G:Dat):Option (Nat × Nat × Dat):=l17_4 A l p u o j m (A.toNat+l+D+E.toNat+p+o+8) D E G
def e17_4 (A:Int) (l p:Nat) (u:Dat) (o:Nat) (j m:Dat) (r:Nat × Nat × Dat) (K:XR):Prop:=K (XE.exit 4) [V Z A,.own 1 4 l,.gr 2 1 r.1] [.cells 54 [.ro [.str] p u,.ro [.sl [W Z]] o j],.row 105 [W Z,W Z,.bool,.bool] l m,.row 3 [W Z] r.2.1 r.2.2]
def g17_4:LSum:=fun s k=>match czv 0 128 [2,10,15,16] 3 [⟨true,15,0,2,3,[W Z]⟩] s with
 | some ([V Z A,.own 1 4 l,.gr 2 1 D,V Z E],[.cells 54 [.ro [.str] p u,.ro [.sl [W Z]] o j],.row 105 [W Z,W Z,.bool,.bool] z m,.row 3 [W Z] b2_0 G])=>needs [decide (l=z),decide (D=b2_0),(o17_4 A l p u o j m D E G).isSome] (e17_4 A l p u o j m ((o17_4 A l p u o j m D E G).getD default) fun e vs bs=>inBlk 4 k e (mkSt 0 128 [2,10,15] vs 3 bs))
 | _=>False
theorem z17_4:LOk Tryz.prog g17_4 (.block 4 (bodyAt (Tryz.f17.body.getD .skip) 4)):=by
 refine lb (ι:=Int × Nat × Nat × Int × Nat × Dat × Nat × Dat × Dat × Dat) (fuel:=8) (na:=0) (nt:=128) (nx:=3) (Lh:=[2,10,15,16]) (Le:=[2,10,15]) (gl:=[⟨true,15,0,2,3,[W Z]⟩]) (tc k45 (tc k46 (tc k47 (tc k48 tn)))) mix_ok (lam_of rfl (lc z17_2 (lc z17_0 ln))) rfl (fun f (A,l,D,E,p,u,o,j,m,G) K=>GG default (e17_4 A l p u o j m) K (l17_4 A l p u o j m f D E G)) (fun (A,l,D,E,p,u,o,j,m,G)=>[V Z A,.own 1 4 l,.gr 2 1 D,V Z E]) (fun (A,l,D,E,p,u,o,j,m,G)=>[.cells 54 [.ro [.str] p u,.ro [.sl [W Z]] o j],.row 105 [W Z,W Z,.bool,.bool] l m,.row 3 [W Z] D G]) (fun (_,_,_,_,_,_,_,_,_,_) K=>gg_none) ?_ ?_
 ·rintro f ⟨A,l,D,E,p,u,o,j,m,G⟩ K hG
  refine ro (fun R=>(cnd (decide (0≤E))
 (cnd (decide (D≤D))
 (cnd (decide ((D+1)≤1073741824))
 (cnd (decide (0≤E∧E<↑l))
 (cnd (decide (E.toNat<l))
 (R (XE.normal) [V Z A,.own 1 4 l,.gr 2 1 (D+1),V Z (m.ii E.toNat 0)] [.cells 54 [.ro [.str] p u,.ro [.sl [W Z]] o j],.row 105 [W Z,W Z,.bool,.bool] l m,.row 3 [W Z] (D+1) (G.app D (datS [V Z E] 1))])
   False)
   False)
  False)
  False)
 (R (XE.exit 4) [V Z A,.own 1 4 l,.gr 2 1 D] [.cells 54 [.ro [.str] p u,.ro [.sl [W Z]] o j],.row 105 [W Z,W Z,.bool,.bool] l m,.row 3 [W Z] D G]))) (fun R=>by kernel_rfl) ?_
  exact ch hG (fun h0=>cn (decide_eq_true (Nat.le_refl _)) (cg h0 fun h1=>cg h1 fun h2=>cg h2 fun h3=>⟨(_,_,_,_,_,_,_,_,_,_),rfl,rfl,h3⟩)) (fun h0=>h0.2)
 ·intro s k h
  unfold g17_4 at h
  split at h <;> try exact h.elim
  rename_i e1
  rw [needs_iff] at h
  have hq:=h.1
  simp only [List.mem_cons,forall_eq_or_imp,decide_eq_true_eq,List.not_mem_nil,false_imp_iff,implies_true,and_true] at hq
  obtain ⟨rfl,rfl,hq⟩:=hq
  exact ⟨_,e1,_,(_,_,_,_,_,_,_,_,_,_),rfl,rfl,hq,h.2⟩
def m17 (b:Nat) (d:Dat) (g:Nat) (i:Dat) (y w:Int):Nat × Dat × Int × Int :=
 (cond (bif (decide ((m45 b d g i)=0)) then false else true) (0,noDat,0,(m45 b d g i)) (cond (bif (bif (m46 b d g i y) then false else true) then true else (bif (m46 b d g i w) then false else true)) (0,noDat,0,6) (cond (bif (((o17_0 w ((↑b:Int).toNat) b d g i (m47 ((↑b:Int).toNat) ((datC [V Z 0,V Z 0,SV.bool false,SV.bool false]).upd y.toNat 0 [V Z (-1),V Z 0,SV.bool true,SV.bool false])) ((datC [V Z 0,V Z 0,SV.bool false,SV.bool false]).upd y.toNat 0 [V Z (-1),V Z 0,SV.bool true,SV.bool false])).getD default).bb w.toNat 3) then false else true) (0,noDat,0,12) (((o17_4 w ((↑b:Int).toNat) b d g i ((o17_0 w ((↑b:Int).toNat) b d g i (m47 ((↑b:Int).toNat) ((datC [V Z 0,V Z 0,SV.bool false,SV.bool false]).upd y.toNat 0 [V Z (-1),V Z 0,SV.bool true,SV.bool false])) ((datC [V Z 0,V Z 0,SV.bool false,SV.bool false]).upd y.toNat 0 [V Z (-1),V Z 0,SV.bool true,SV.bool false])).getD default) 0 w noDat).getD default).1,(m48 ((o17_4 w ((↑b:Int).toNat) b d g i ((o17_0 w ((↑b:Int).toNat) b d g i (m47 ((↑b:Int).toNat) ((datC [V Z 0,V Z 0,SV.bool false,SV.bool false]).upd y.toNat 0 [V Z (-1),V Z 0,SV.bool true,SV.bool false])) ((datC [V Z 0,V Z 0,SV.bool false,SV.bool false]).upd y.toNat 0 [V Z (-1),V Z 0,SV.bool true,SV.bool false])).getD default) 0 w noDat).getD default).1 ((o17_4 w ((↑b:Int).toNat) b d g i ((o17_0 w ((↑b:Int).toNat) b d g i (m47 ((↑b:Int).toNat) ((datC [V Z 0,V Z 0,SV.bool false,SV.bool false]).upd y.toNat 0 [V Z (-1),V Z 0,SV.bool true,SV.bool false])) ((datC [V Z 0,V Z 0,SV.bool false,SV.bool false]).upd y.toNat 0 [V Z (-1),V Z 0,SV.bool true,SV.bool false])).getD default) 0 w noDat).getD default).2.1 ((o17_4 w ((↑b:Int).toNat) b d g i ((o17_0 w ((↑b:Int).toNat) b d g i (m47 ((↑b:Int).toNat) ((datC [V Z 0,V Z 0,SV.bool false,SV.bool false]).upd y.toNat 0 [V Z (-1),V Z 0,SV.bool true,SV.bool false])) ((datC [V Z 0,V Z 0,SV.bool false,SV.bool false]).upd y.toNat 0 [V Z (-1),V Z 0,SV.bool true,SV.bool false])).getD default) 0 w noDat).getD default).2.2).2,(((o17_0 w ((↑b:Int).toNat) b d g i (m47 ((↑b:Int).toNat) ((datC [V Z 0,V Z 0,SV.bool false,SV.bool false]).upd y.toNat 0 [V Z (-1),V Z 0,SV.bool true,SV.bool false])) ((datC [V Z 0,V Z 0,SV.bool false,SV.bool false]).upd y.toNat 0 [V Z (-1),V Z 0,SV.bool true,SV.bool false])).getD default).ii w.toNat 1),0))))
def n17 (b:Nat) (d:Dat) (g:Nat) (i:Dat) (y w:Int):Bool :=
 ((n45 b d g i)&&(cond (bif (decide ((m45 b d g i)=0)) then false else true) true (cond (bif (bif (m46 b d g i y) then false else true) then true else (bif (m46 b d g i w) then false else true)) true ((decide (0≤(↑b:Int)∧(↑b:Int)≤(↑b:Int)∧(↑b:Int)≤1073741824))&&((decide (0≤y∧y<(↑(↑b:Int).toNat:Int)))&&((decide (y.toNat<((↑b:Int).toNat)))&&((decide ((0+((↑b:Int).toNat))≤((↑b:Int).toNat)))&&((n47 ((↑b:Int).toNat) ((datC [V Z 0,V Z 0,SV.bool false,SV.bool false]).upd y.toNat 0 [V Z (-1),V Z 0,SV.bool true,SV.bool false]))&&(((o17_0 w ((↑b:Int).toNat) b d g i (m47 ((↑b:Int).toNat) ((datC [V Z 0,V Z 0,SV.bool false,SV.bool false]).upd y.toNat 0 [V Z (-1),V Z 0,SV.bool true,SV.bool false])) ((datC [V Z 0,V Z 0,SV.bool false,SV.bool false]).upd y.toNat 0 [V Z (-1),V Z 0,SV.bool true,SV.bool false])).isSome)&&((decide (0≤w∧w<(↑(↑b:Int).toNat:Int)))&&((decide (w.toNat<((↑b:Int).toNat)))&&(cond (bif (((o17_0 w ((↑b:Int).toNat) b d g i (m47 ((↑b:Int).toNat) ((datC [V Z 0,V Z 0,SV.bool false,SV.bool false]).upd y.toNat 0 [V Z (-1),V Z 0,SV.bool true,SV.bool false])) ((datC [V Z 0,V Z 0,SV.bool false,SV.bool false]).upd y.toNat 0 [V Z (-1),V Z 0,SV.bool true,SV.bool false])).getD default).bb w.toNat 3) then false else true) true (((o17_4 w ((↑b:Int).toNat) b d g i ((o17_0 w ((↑b:Int).toNat) b d g i (m47 ((↑b:Int).toNat) ((datC [V Z 0,V Z 0,SV.bool false,SV.bool false]).upd y.toNat 0 [V Z (-1),V Z 0,SV.bool true,SV.bool false])) ((datC [V Z 0,V Z 0,SV.bool false,SV.bool false]).upd y.toNat 0 [V Z (-1),V Z 0,SV.bool true,SV.bool false])).getD default) 0 w noDat).isSome)&&((n48 ((o17_4 w ((↑b:Int).toNat) b d g i ((o17_0 w ((↑b:Int).toNat) b d g i (m47 ((↑b:Int).toNat) ((datC [V Z 0,V Z 0,SV.bool false,SV.bool false]).upd y.toNat 0 [V Z (-1),V Z 0,SV.bool true,SV.bool false])) ((datC [V Z 0,V Z 0,SV.bool false,SV.bool false]).upd y.toNat 0 [V Z (-1),V Z 0,SV.bool true,SV.bool false])).getD default) 0 w noDat).getD default).1 ((o17_4 w ((↑b:Int).toNat) b d g i ((o17_0 w ((↑b:Int).toNat) b d g i (m47 ((↑b:Int).toNat) ((datC [V Z 0,V Z 0,SV.bool false,SV.bool false]).upd y.toNat 0 [V Z (-1),V Z 0,SV.bool true,SV.bool false])) ((datC [V Z 0,V Z 0,SV.bool false,SV.bool false]).upd y.toNat 0 [V Z (-1),V Z 0,SV.bool true,SV.bool false])).getD default) 0 w noDat).getD default).2.1 ((o17_4 w ((↑b:Int).toNat) b d g i ((o17_0 w ((↑b:Int).toNat) b d g i (m47 ((↑b:Int).toNat) ((datC [V Z 0,V Z 0,SV.bool false,SV.bool false]).upd y.toNat 0 [V Z (-1),V Z 0,SV.bool true,SV.bool false])) ((datC [V Z 0,V Z 0,SV.bool false,SV.bool false]).upd y.toNat 0 [V Z (-1),V Z 0,SV.bool true,SV.bool false])).getD default) 0 w noDat).getD default).2.2)&&((decide (0≤w∧w<(↑(↑b:Int).toNat:Int)))&&((decide (w.toNat<((↑b:Int).toNat)))&&((decide ((0+((o17_4 w ((↑b:Int).toNat) b d g i ((o17_0 w ((↑b:Int).toNat) b d g i (m47 ((↑b:Int).toNat) ((datC [V Z 0,V Z 0,SV.bool false,SV.bool false]).upd y.toNat 0 [V Z (-1),V Z 0,SV.bool true,SV.bool false])) ((datC [V Z 0,V Z 0,SV.bool false,SV.bool false]).upd y.toNat 0 [V Z (-1),V Z 0,SV.bool true,SV.bool false])).getD default) 0 w noDat).getD default).1)≤(m48 ((o17_4 w ((↑b:Int).toNat) b d g i ((o17_0 w ((↑b:Int).toNat) b d g i (m47 ((↑b:Int).toNat) ((datC [V Z 0,V Z 0,SV.bool false,SV.bool false]).upd y.toNat 0 [V Z (-1),V Z 0,SV.bool true,SV.bool false])) ((datC [V Z 0,V Z 0,SV.bool false,SV.bool false]).upd y.toNat 0 [V Z (-1),V Z 0,SV.bool true,SV.bool false])).getD default) 0 w noDat).getD default).1 ((o17_4 w ((↑b:Int).toNat) b d g i ((o17_0 w ((↑b:Int).toNat) b d g i (m47 ((↑b:Int).toNat) ((datC [V Z 0,V Z 0,SV.bool false,SV.bool false]).upd y.toNat 0 [V Z (-1),V Z 0,SV.bool true,SV.bool false])) ((datC [V Z 0,V Z 0,SV.bool false,SV.bool false]).upd y.toNat 0 [V Z (-1),V Z 0,SV.bool true,SV.bool false])).getD default) 0 w noDat).getD default).2.1 ((o17_4 w ((↑b:Int).toNat) b d g i ((o17_0 w ((↑b:Int).toNat) b d g i (m47 ((↑b:Int).toNat) ((datC [V Z 0,V Z 0,SV.bool false,SV.bool false]).upd y.toNat 0 [V Z (-1),V Z 0,SV.bool true,SV.bool false])) ((datC [V Z 0,V Z 0,SV.bool false,SV.bool false]).upd y.toNat 0 [V Z (-1),V Z 0,SV.bool true,SV.bool false])).getD default) 0 w noDat).getD default).2.2).1))&&true)))))))))))))))))
def q17 (r:Nat × Dat × Int × Int):SV × List Blk × List Blk:=(.tup [.ro [W Z] r.1 r.2.1,V Z r.2.2.1,V Z r.2.2.2],[],[])
def g17:GF:=fun vs bs=>match vs,bs with
 | [.agg [.ro [.str] b d,.ro [.sl [W Z]] g i],V Z y,V Z w],[]=>some (rs 0 (q17 (m17 b d g i y w)) [n17 b d g i y w])
 | _,_=>none
def c17:Ctr:=genC [.a [.ro [.str],.ro [.sl [W Z]]],.k,.k] g17
theorem k17:CtrOk Tryz.prog c17 17:=cx (tc k45 (tc k46 (tc k47 (tc k48 tn)))) mix_ok 8 (fn:=Tryz.f17) (c:=(Tryz.f17.body.getD .skip)) (grs:=[]) (rh:=.t [.ro [W Z],.k,.k]) Tryz.func17 rfl (by kernel_rfl) (lam_of rfl (lc z17_2 (lc z17_0 (lc z17_4 ln)))) fun vs bs q h hn=>by
 unfold g17 at h
 split at h <;> cases h
 rename_i b d g i y w
 have hn:=n1 hn
 exact ⟨_,rfl,ca (fun R => 
 let c0:=((↑b:Int).toNat)
 let a0:=(o17_0 w c0 b d g i (m47 c0 ((datC [V Z 0,V Z 0,SV.bool false,SV.bool false]).upd y.toNat 0 [V Z (-1),V Z 0,SV.bool true,SV.bool false])) ((datC [V Z 0,V Z 0,SV.bool false,SV.bool false]).upd y.toNat 0 [V Z (-1),V Z 0,SV.bool true,SV.bool false]))
 let b0:=((o17_4 w c0 b d g i (a0.getD default) 0 w noDat).getD default)
 let d0:=(decide (0≤w∧w<(↑(↑b:Int).toNat:Int)))
 (cnd (n45 b d g i)
 (cnd (bif (decide ((m45 b d g i)=0)) then false else true)
 (R (.tup [.ro [W Z] 0 noDat,V Z 0,V Z (m45 b d g i)]) [] [])
 (cnd (bif (bif (m46 b d g i y) then false else true) then true else (bif (m46 b d g i w) then false else true))
 (R (.tup [.ro [W Z] 0 noDat,V Z 0,V Z 6]) [] [])
 (cnd (decide (0≤(↑b:Int)∧(↑b:Int)≤(↑b:Int)∧(↑b:Int)≤1073741824))
 (cnd (decide (0≤y∧y<(↑(↑b:Int).toNat:Int)))
 (cnd (decide (y.toNat<c0))
 (cnd (decide ((0+c0)≤c0))
 (cnd (n47 c0 ((datC [V Z 0,V Z 0,SV.bool false,SV.bool false]).upd y.toNat 0 [V Z (-1),V Z 0,SV.bool true,SV.bool false]))
 (cnd (decide (c0=c0))
 (cnd (a0.isSome)
 (cnd d0
 (cnd (decide (w.toNat<c0))
 (cnd (bif ((a0.getD default).bb w.toNat 3) then false else true)
 (R (.tup [.ro [W Z] 0 noDat,V Z 0,V Z 12]) [] [])
 (cnd (decide (c0=c0))
 (cnd ((o17_4 w c0 b d g i (a0.getD default) 0 w noDat).isSome)
 (cnd (n48 b0.1 b0.2.1 b0.2.2)
 (cnd d0
 (cnd (decide (w.toNat<c0))
 (cnd (decide ((0+b0.1)≤(m48 b0.1 b0.2.1 b0.2.2).1))
 (R (.tup [.ro [W Z] b0.1 (m48 b0.1 b0.2.1 b0.2.2).2,V Z ((a0.getD default).ii w.toNat 1),V Z 0]) [] [])
          False)
          False)
         False)
         False)
        False)
        False))
       False)
      False)
      False)
     False)
     False)
    False)
    False)
   False)
   False)))
 False)) (fun R=>by kernel_rfl) (cn (al hn) (co (fun h0=>lf (cT h0 rfl) rfl) (fun h0=>co (fun h1=>lf (cF h0 (cT h1 rfl)) rfl) (fun h1=>cn (al (cf h1 (cf h0 (ar hn)))) (cn (al (ar (cf h1 (cf h0 (ar hn))))) (cn (al (ar (ar (cf h1 (cf h0 (ar hn)))))) (cn (al (ar (ar (ar (cf h1 (cf h0 (ar hn))))))) (cn (al (ar (ar (ar (ar (cf h1 (cf h0 (ar hn)))))))) (cn (decide_eq_true rfl) (cn (al (ar (ar (ar (ar (ar (cf h1 (cf h0 (ar hn))))))))) (cn (al (ar (ar (ar (ar (ar (ar (cf h1 (cf h0 (ar hn)))))))))) (cn (al (ar (ar (ar (ar (ar (ar (ar (cf h1 (cf h0 (ar hn))))))))))) (co (fun h2=>lf (cF h0 (cF h1 (cT h2 rfl))) rfl) (fun h2=>cn (decide_eq_true rfl) (cn (al (cf h2 (ar (ar (ar (ar (ar (ar (ar (ar (cf h1 (cf h0 (ar hn))))))))))))) (cn (al (ar (cf h2 (ar (ar (ar (ar (ar (ar (ar (ar (cf h1 (cf h0 (ar hn)))))))))))))) (cn (al (ar (ar (cf h2 (ar (ar (ar (ar (ar (ar (ar (ar (cf h1 (cf h0 (ar hn))))))))))))))) (cn (al (ar (ar (ar (cf h2 (ar (ar (ar (ar (ar (ar (ar (ar (cf h1 (cf h0 (ar hn)))))))))))))))) (cn (al (ar (ar (ar (ar (cf h2 (ar (ar (ar (ar (ar (ar (ar (ar (cf h1 (cf h0 (ar hn))))))))))))))))) (lf (cF h0 (cF h1 (cF h2 rfl))) rfl))))))))))))))))))))⟩

end
end Go.Proofs.YtpfipoimpmlmoaaGreatDoor
