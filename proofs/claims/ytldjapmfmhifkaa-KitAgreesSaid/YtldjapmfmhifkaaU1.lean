/-
 Contracts of functions: models, equations by the kernel, contracts. Conditions: none.
-/
import Derived.Test.YtldjapmfmhifkaaUSyY
import Derived.Test.YtldjapmfmhifkaaUSyKo
import Derived.Test.YtldjapmfmhifkaaUSyRm
import Derived.Test.YtldjapmfmhifkaaUSyHand
import Derived.Test.YtldjapmfmhifkaaUSyMe
import Derived.Test.YtldjapmfmhifkaaUSyAnr
import Derived.Test.YtldjapmfmhifkaaUSyStep
import Derived.Test.YtldjapmfmhifkaaUSySc
import Derived.Test.YtldjapmfmhifkaaUBase
import Derived.Test.YtldjapmfmhifkaaUPLoop
import Derived.KernelRfl
namespace Go.Proofs.Ytldjapmfmhifkaa
open Go Go.Sy
noncomputable section
set_option linter.unusedVariables false
set_option linter.unusedSimpArgs false
set_option maxRecDepth 100000
set_option maxHeartbeats 2000000
attribute [local irreducible] Go.IntKind.wrap Int.tdiv Int.tmod Int.fdiv
open Go.Sy renaming tabOk_cons->tc,tabOk_nil->tn,cnd_need->cn,leaf_of->lf,cnd_gg->cg,cnd_gg2->ch,cond_f->cf,cond_t->ct,cnd_of->co,callOf->ca,roundOf->ro,cnd_not->nn,lams_cons->lc,lams_nil->ln,condT->cT,condF->cF,need1->n1,resOf->rs,and_l->al,and_r->ar,or_gg->og,ctr_of->cx,loop_blk->lb
open Go.IntKind renaming i64->Z
open Go.Sy.SV renaming int->V
open Go.Sy.Kd renaming int->W
open Decidable renaming decide->aq
open Inhabited renaming default->ax
open Bool renaming false->az,true->aj
open Option renaming some->ak,none->aw
/-! ### cmp.isNaN[int] -/
def m104(a:Int):Bool :=
 (cond (aq (a=a)) az aj)
def q104(r:Bool):SV × List Blk × List Blk:=(.bool r,[],[])
def g104:GF:=fun vs bs=>match vs,bs with
 | [V Z a],[]=>ak (rs 0 (q104 (m104 a)) [])
 | _,_=>aw
def c104:Ctr:=genC [.k] g104
theorem k104:CtrOk Try.prog c104 104:=cx tn mix_ok 8 (fn:=Try.f104) (c:=(Try.f104.body.getD .skip)) (grs:=[]) (rh:=.k) Try.func104 rfl (by kernel_rfl) noLam fun vs bs q h hn=>by
 unfold g104 at h
 split at h <;> cases h
 rename_i a
 exact ⟨_,rfl,ca (fun R=>(R (.bool (cond (aq (a=a)) az aj)) [] [])) (fun R=>by kernel_rfl) (lf rfl rfl)⟩
/-! ### shotline/kit.within -/
def m83(a b d:Int):Bool :=
 (bif (aq (b<=a)) then (aq (a<=d)) else az)
def q83(r:Bool):SV × List Blk × List Blk:=(.bool r,[],[])
def g83:GF:=fun vs bs=>match vs,bs with
 | [V Z a,V Z b,V Z d],[]=>ak (rs 0 (q83 (m83 a b d)) [])
 | _,_=>aw
def c83:Ctr:=genC [.k,.k,.k] g83
theorem k83:CtrOk Try.prog c83 83:=cx tn mix_ok 8 (fn:=Try.f83) (c:=(Try.f83.body.getD .skip)) (grs:=[]) (rh:=.k) Try.func83 rfl (by kernel_rfl) noLam fun vs bs q h hn=>by
 unfold g83 at h
 split at h <;> cases h
 rename_i a b d
 exact ⟨_,rfl,ca (fun R=>(R (.bool (bif (aq (b<=a)) then (aq (a<=d)) else az)) [] [])) (fun R=>by kernel_rfl) (lf rfl rfl)⟩
/-! ### shotline/kit.isName -/
def l105_0(i:ByteArray)(b:Nat)(a:Dat)(j:Int):Nat->Int->Option (Bool × (Bool) × (Unit))
 | 0,_=>aw
 | f+1,d=>(cond (aq (d<j)) (cond (aq (0<=d/\d<↑b)) (cond (bif (cond (bif (bif (aq (97<=(a.ii d.toNat 0))) then (aq ((a.ii d.toNat 0)<=122)) else az) then aj else (bif (aq (65<=(a.ii d.toNat 0))) then (aq ((a.ii d.toNat 0)<=90)) else az)) az aj) then (bif (aq (d=0)) then aj else (bif (cond (aq ((a.ii d.toNat 0)=45)) az aj) then (bif (aq ((a.ii d.toNat 0)<48)) then aj else (aq (57<(a.ii d.toNat 0)))) else az)) else az) (ak (aj,az,ax)) (l105_0 i b a j f (Z.wrap (d+1)))) aw) (ak (az,ax,())))
abbrev o105_0(i:ByteArray)(b:Nat)(a:Dat)(j d:Int):Option (Bool × (Bool) × (Unit)):=l105_0 i b a j (i.size+b+j.toNat+d.toNat+8) d
def e105_0(i:ByteArray)(b:Nat)(a:Dat)(j:Int)(r:Bool × (Bool) × (Unit))(K:XR):Prop:=cnd r.1 (K (XE.ret) [.str i,.bool r.2.1] []) (K (XE.exit 0) [.str i,.any] [])
def g105_0:LSum:=fun s k=>match czv 0 54 [0,7,8,9] 0 [] s with
 | ak ([.str i,.ro [.int .u8] b a,V Z j,V Z d],[])=>needs [(o105_0 i b a j d).isSome] (e105_0 i b a j ((o105_0 i b a j d).getD ax) fun e vs bs=>inBlk 0 k e (mkSt 0 54 [0,2] vs 0 bs))
 | _=>False
theorem z105_0:LOk Try.prog g105_0 (.block 0 (bodyAt (Try.f105.body.getD .skip) 0)):=by
 refine lb (ι:=ByteArray × Nat × Dat × Int × Int) (fuel:=8) (na:=0) (nt:=54) (nx:=0) (Lh:=[0,7,8,9]) (Le:=[0,2]) (gl:=[]) tn mix_ok noLam rfl (fun f (i,b,a,j,d) K=>GG ax (e105_0 i b a j) K (l105_0 i b a j f d)) (fun (i,b,a,j,d)=>[.str i,.ro [.int .u8] b a,V Z j,V Z d]) (fun (i,b,a,j,d)=>[]) (fun (_,_,_,_,_) K=>gg_none) ?_ ?_
 ·rintro f ⟨i,b,a,j,d⟩ K hG
  refine ro (fun R=>(cnd (aq (d<j))
 (cnd (aq (0<=d/\d<↑b))
 (cnd (bif (cond (bif (bif (aq (97<=(a.ii d.toNat 0))) then (aq ((a.ii d.toNat 0)<=122)) else az) then aj else (bif (aq (65<=(a.ii d.toNat 0))) then (aq ((a.ii d.toNat 0)<=90)) else az)) az aj) then (bif (aq (d=0)) then aj else (bif (cond (aq ((a.ii d.toNat 0)=45)) az aj) then (bif (aq ((a.ii d.toNat 0)<48)) then aj else (aq (57<(a.ii d.toNat 0)))) else az)) else az)
 (R (XE.ret) [.str i,.bool az] [])
 (R (XE.normal) [.str i,.ro [.int .u8] b a,V Z j,V Z (Z.wrap (d+1))] []))
  False)
 (R (XE.exit 0) [.str i,.any] []))) (fun R=>by kernel_rfl) ?_
  exact ch hG (fun h0=>cg h0 fun h1=>ch h1 (fun h2=>h2.2) (fun h2=>⟨(_,_,_,_,_),rfl,rfl,h2⟩)) (fun h0=>h0.2)
 ·intro s k h
  unfold g105_0 at h
  split at h <;> try exact h.elim
  rename_i e1
  rw [needs_iff] at h
  exact ⟨_,e1,_,(_,_,_,_,_),rfl,rfl,h.1 _ (List.mem_singleton.2 rfl),h.2⟩
def m105(g:ByteArray):Bool :=
 (cond ((o105_0 g g.size ({ ii:=fun q x=>(↑(g.data.toList.getD q 0).toNat:Int),ss:=noDat.ss,bb:=noDat.bb,sn:=noDat.sn,sd:=noDat.sd }) (↑g.size:Int) 0).getD ax).1 ((o105_0 g g.size ({ ii:=fun q x=>(↑(g.data.toList.getD q 0).toNat:Int),ss:=noDat.ss,bb:=noDat.bb,sn:=noDat.sn,sd:=noDat.sd }) (↑g.size:Int) 0).getD ax).2.1 (bif (cond (aq (g=({ data:=#[] }:ByteArray))) az aj) then (aq ((↑g.size:Int)<=12)) else az))
def n105(g:ByteArray):Bool :=
 (((o105_0 g g.size ({ ii:=fun q x=>(↑(g.data.toList.getD q 0).toNat:Int),ss:=noDat.ss,bb:=noDat.bb,sn:=noDat.sn,sd:=noDat.sd }) (↑g.size:Int) 0).isSome)&&aj)
def q105(r:Bool):SV × List Blk × List Blk:=(.bool r,[],[])
def g105:GF:=fun vs bs=>match vs,bs with
 | [.str g],[]=>ak (rs 0 (q105 (m105 g)) [n105 g])
 | _,_=>aw
def c105:Ctr:=genC [.k] g105
theorem k105:CtrOk Try.prog c105 105:=cx tn mix_ok 8 (fn:=Try.f105) (c:=(Try.f105.body.getD .skip)) (grs:=[]) (rh:=.k) Try.func105 rfl (by kernel_rfl) (lam_of rfl (lc z105_0 ln)) fun vs bs q h hn=>by
 unfold g105 at h
 split at h <;> cases h
 rename_i g
 have hn:=n1 hn
 exact ⟨_,rfl,ca (fun R=>(cnd ((o105_0 g g.size ({ ii:=fun q x=>(↑(g.data.toList.getD q 0).toNat:Int),ss:=noDat.ss,bb:=noDat.bb,sn:=noDat.sn,sd:=noDat.sd }) (↑g.size:Int) 0).isSome)
 (cnd ((o105_0 g g.size ({ ii:=fun q x=>(↑(g.data.toList.getD q 0).toNat:Int),ss:=noDat.ss,bb:=noDat.bb,sn:=noDat.sn,sd:=noDat.sd }) (↑g.size:Int) 0).getD ax).1
 (R (.bool ((o105_0 g g.size ({ ii:=fun q x=>(↑(g.data.toList.getD q 0).toNat:Int),ss:=noDat.ss,bb:=noDat.bb,sn:=noDat.sn,sd:=noDat.sd }) (↑g.size:Int) 0).getD ax).2.1) [] [])
 (R (.bool (bif (cond (aq (g=({ data:=#[] }:ByteArray))) az aj) then (aq ((↑g.size:Int)<=12)) else az)) [] []))
 False)) (fun R=>by kernel_rfl) (cn (al hn) (co (fun h0=>lf (cT h0 rfl) rfl) (fun h0=>lf (cF h0 rfl) rfl)))⟩
/-! ### shotline/kit.item$1 -/
def m101(a:ByteArray)(d e:Int)(b:Dat):Bool :=
 (aq (a=(b.ss 0 0)))
def q101(r:Bool):SV × List Blk × List Blk:=(.bool r,[],[])
def g101:GF:=fun vs bs=>match vs,bs with
 | [.agg [.str a,V Z d,V Z e],.rp [.str] b 0 0],[]=>ak (rs 0 (q101 (m101 a d e b)) [])
 | _,_=>aw
def c101:Ctr:=genC [.k,.rp [.str]] g101
theorem k101:CtrOk Try.prog c101 101:=cx tn mix_ok 8 (fn:=Try.f101) (c:=(Try.f101.body.getD .skip)) (grs:=[]) (rh:=.k) Try.func101 rfl (by kernel_rfl) noLam fun vs bs q h hn=>by
 unfold g101 at h
 split at h <;> cases h
 rename_i a d e b
 exact ⟨_,rfl,ca (fun R=>(R (.bool (aq (a=(b.ss 0 0)))) [] [])) (fun R=>by kernel_rfl) (lf rfl rfl)⟩
/-! ### shotline/kit.rule$1 -/
def m114(a:ByteArray)(d e g:Int)(b:Dat):Bool :=
 (aq (a=(b.ss 0 0)))
def q114(r:Bool):SV × List Blk × List Blk:=(.bool r,[],[])
def g114:GF:=fun vs bs=>match vs,bs with
 | [.agg [.str a,V Z d,V Z e,V Z g],.rp [.str] b 0 0],[]=>ak (rs 0 (q114 (m114 a d e g b)) [])
 | _,_=>aw
def c114:Ctr:=genC [.k,.rp [.str]] g114
theorem k114:CtrOk Try.prog c114 114:=cx tn mix_ok 8 (fn:=Try.f114) (c:=(Try.f114.body.getD .skip)) (grs:=[]) (rh:=.k) Try.func114 rfl (by kernel_rfl) noLam fun vs bs q h hn=>by
 unfold g114 at h
 split at h <;> cases h
 rename_i a d e g b
 exact ⟨_,rfl,ca (fun R=>(R (.bool (aq (a=(b.ss 0 0)))) [] [])) (fun R=>by kernel_rfl) (lf rfl rfl)⟩
/-! ### (*shotline/kit.check).fails -/
def m93(d:Dat)(e:ByteArray)(g a b i:Int):Int × Bool :=
 (cond (cond (d.3 0 (0+1+1)) az aj) (0,aj) (cond (bif (cond (aq (a=0)) az aj) then (aq (a<(Z.wrap (i - (d.ii 0 0))))) else az) (1,aj) (cond (bif (cond (aq (b=0)) az aj) then (aq (b<=(d.ii 0 1))) else az) (2,aj) (0,az))))
def q93(r:Int × Bool):SV × List Blk × List Blk:=(.tup [V Z r.1,.bool r.2],[],[])
def g93:GF:=fun vs bs=>match vs,bs with
 | [.rp [W Z,W Z,.bool] d 0 0,.agg [.str e,V Z g,V Z a,V Z b],V Z i],[]=>ak (rs 0 (q93 (m93 d e g a b i)) [])
 | _,_=>aw
def c93:Ctr:=genC [.rp [W Z,W Z,.bool],.k,.k] g93
theorem k93:CtrOk Try.prog c93 93:=cx tn mix_ok 8 (fn:=Try.f93) (c:=(Try.f93.body.getD .skip)) (grs:=[]) (rh:=.k) Try.func93 rfl (by kernel_rfl) noLam fun vs bs q h hn=>by
 unfold g93 at h
 split at h <;> cases h
 rename_i d e g a b i
 exact ⟨_,rfl,ca (fun R=>(cnd (cond (d.3 0 (0+1+1)) az aj)
 (R (.tup [V Z 0,.bool aj]) [] [])
 (cnd (bif (cond (aq (a=0)) az aj) then (aq (a<(Z.wrap (i - (d.ii 0 0))))) else az)
 (R (.tup [V Z 1,.bool aj]) [] [])
 (cnd (bif (cond (aq (b=0)) az aj) then (aq (b<=(d.ii 0 1))) else az)
 (R (.tup [V Z 2,.bool aj]) [] [])
 (R (.tup [V Z 0,.bool az]) [] []))))) (fun R=>by kernel_rfl) (co (fun h0=>lf (cT h0 rfl) rfl) (fun h0=>co (fun h1=>lf (cF h0 (cT h1 rfl)) rfl) (fun h1=>co (fun h2=>lf (cF h0 (cF h1 (cT h2 rfl))) rfl) (fun h2=>lf (cF h0 (cF h1 (cF h2 rfl))) rfl))))⟩
/-! ### shotline/shotlinebase.Within -/
def m47(a b d:Int):Bool :=
 (bif (aq (b<=a)) then (aq (a<=d)) else az)
def q47(r:Bool):SV × List Blk × List Blk:=(.bool r,[],[])
def g47:GF:=fun vs bs=>match vs,bs with
 | [V Z a,V Z b,V Z d],[]=>ak (rs 0 (q47 (m47 a b d)) [])
 | _,_=>aw
def c47:Ctr:=genC [.k,.k,.k] g47
theorem k47:CtrOk Try.prog c47 47:=cx tn mix_ok 8 (fn:=Try.f47) (c:=(Try.f47.body.getD .skip)) (grs:=[]) (rh:=.k) Try.func47 rfl (by kernel_rfl) noLam fun vs bs q h hn=>by
 unfold g47 at h
 split at h <;> cases h
 rename_i a b d
 exact ⟨_,rfl,ca (fun R=>(R (.bool (bif (aq (b<=a)) then (aq (a<=d)) else az)) [] [])) (fun R=>by kernel_rfl) (lf rfl rfl)⟩
/-! ### shotline/shotlinebase.IsName -/
def l94_0(b:ByteArray):Nat->Int->Option (Bool × (Bool) × (Unit))
 | 0,_=>aw
 | f+1,a=>(cond (aq (a<(↑b.size:Int))) (cond (aq (0<=a/\a<(↑b.size:Int))) (cond (bif (cond (bif (bif (aq (97<=(byteAt b a.toNat))) then (aq ((byteAt b a.toNat)<=122)) else az) then aj else (bif (aq (65<=(byteAt b a.toNat))) then (aq ((byteAt b a.toNat)<=90)) else az)) az aj) then (bif (aq (a=0)) then aj else (bif (cond (aq ((byteAt b a.toNat)=45)) az aj) then (bif (aq ((byteAt b a.toNat)<48)) then aj else (aq (57<(byteAt b a.toNat)))) else az)) else az) (ak (aj,az,ax)) (l94_0 b f (Z.wrap (a+1)))) aw) (ak (az,ax,())))
abbrev o94_0(b:ByteArray)(a:Int):Option (Bool × (Bool) × (Unit)):=l94_0 b (b.size+a.toNat+8) a
def e94_0(b:ByteArray)(r:Bool × (Bool) × (Unit))(K:XR):Prop:=cnd r.1 (K (XE.ret) [.bool r.2.1] []) (K (XE.exit 0) [.any] [])
def g94_0:LSum:=fun s k=>match czv 0 55 [0,3] 0 [] s with
 | ak ([.str b,V Z a],[])=>needs [(o94_0 b a).isSome] (e94_0 b ((o94_0 b a).getD ax) fun e vs bs=>inBlk 0 k e (mkSt 0 55 [2] vs 0 bs))
 | _=>False
theorem z94_0:LOk Try.prog g94_0 (.block 0 (bodyAt (Try.f94.body.getD .skip) 0)):=by
 refine lb (ι:=ByteArray × Int) (fuel:=8) (na:=0) (nt:=55) (nx:=0) (Lh:=[0,3]) (Le:=[2]) (gl:=[]) tn mix_ok noLam rfl (fun f (b,a) K=>GG ax (e94_0 b) K (l94_0 b f a)) (fun (b,a)=>[.str b,V Z a]) (fun (b,a)=>[]) (fun (_,_) K=>gg_none) ?_ ?_
 ·rintro f ⟨b,a⟩ K hG
  refine ro (fun R => 
 let a0:=(byteAt b a.toNat)
 (cnd (aq (a<(↑b.size:Int)))
 (cnd (aq (0<=a/\a<(↑b.size:Int)))
 (cnd (bif (cond (bif (bif (aq (97<=a0)) then (aq (a0<=122)) else az) then aj else (bif (aq (65<=a0)) then (aq (a0<=90)) else az)) az aj) then (bif (aq (a=0)) then aj else (bif (cond (aq (a0=45)) az aj) then (bif (aq (a0<48)) then aj else (aq (57<a0))) else az)) else az)
 (R (XE.ret) [.bool az] [])
 (R (XE.normal) [.str b,V Z (Z.wrap (a+1))] []))
  False)
 (R (XE.exit 0) [.any] []))) (fun R=>by kernel_rfl) ?_
  exact ch hG (fun h0=>cg h0 fun h1=>ch h1 (fun h2=>h2.2) (fun h2=>⟨(_,_),rfl,rfl,h2⟩)) (fun h0=>h0.2)
 ·intro s k h
  unfold g94_0 at h
  split at h <;> try exact h.elim
  rename_i e1
  rw [needs_iff] at h
  exact ⟨_,e1,_,(_,_),rfl,rfl,h.1 _ (List.mem_singleton.2 rfl),h.2⟩
def m94(d:ByteArray):Bool :=
 (cond (bif (aq ((↑d.size:Int)<1)) then aj else (aq (12<(↑d.size:Int)))) az (cond ((o94_0 d 0).getD ax).1 ((o94_0 d 0).getD ax).2.1 aj))
def n94(d:ByteArray):Bool :=
 (cond (bif (aq ((↑d.size:Int)<1)) then aj else (aq (12<(↑d.size:Int)))) aj (((o94_0 d 0).isSome)&&aj))
def q94(r:Bool):SV × List Blk × List Blk:=(.bool r,[],[])
def g94:GF:=fun vs bs=>match vs,bs with
 | [.str d],[]=>ak (rs 0 (q94 (m94 d)) [n94 d])
 | _,_=>aw
def c94:Ctr:=genC [.k] g94
theorem k94:CtrOk Try.prog c94 94:=cx tn mix_ok 8 (fn:=Try.f94) (c:=(Try.f94.body.getD .skip)) (grs:=[]) (rh:=.k) Try.func94 rfl (by kernel_rfl) (lam_of rfl (lc z94_0 ln)) fun vs bs q h hn=>by
 unfold g94 at h
 split at h <;> cases h
 rename_i d
 have hn:=n1 hn
 exact ⟨_,rfl,ca (fun R=>(cnd (bif (aq ((↑d.size:Int)<1)) then aj else (aq (12<(↑d.size:Int))))
 (R (.bool az) [] [])
 (cnd ((o94_0 d 0).isSome)
 (cnd ((o94_0 d 0).getD ax).1
 (R (.bool ((o94_0 d 0).getD ax).2.1) [] [])
 (R (.bool aj) [] []))
  False))) (fun R=>by kernel_rfl) (co (fun h0=>lf (cT h0 rfl) rfl) (fun h0=>cn (al (cf h0 hn)) (co (fun h1=>lf (cF h0 (cT h1 rfl)) rfl) (fun h1=>lf (cF h0 (cF h1 rfl)) rfl))))⟩
/-! ### shotline/shotlinelaw07.slim -/
def m37(e g:Int)(a b d:ByteArray)(i:Bool):Bool :=
 (bif (bif (aq ((↑a.size:Int)<=20)) then (aq ((↑b.size:Int)<=20)) else az) then (aq ((↑d.size:Int)<=20)) else az)
def q37(r:Bool):SV × List Blk × List Blk:=(.bool r,[],[])
def g37:GF:=fun vs bs=>match vs,bs with
 | [.agg [V Z e,V Z g,.str a,.str b,.str d,.bool i]],[]=>ak (rs 0 (q37 (m37 e g a b d i)) [])
 | _,_=>aw
def c37:Ctr:=genC [.k] g37
theorem k37:CtrOk Try.prog c37 37:=cx tn mix_ok 8 (fn:=Try.f37) (c:=(Try.f37.body.getD .skip)) (grs:=[]) (rh:=.k) Try.func37 rfl (by kernel_rfl) noLam fun vs bs q h hn=>by
 unfold g37 at h
 split at h <;> cases h
 rename_i e g a b d i
 exact ⟨_,rfl,ca (fun R=>(R (.bool (bif (bif (aq ((↑a.size:Int)<=20)) then (aq ((↑b.size:Int)<=20)) else az) then (aq ((↑d.size:Int)<=20)) else az)) [] [])) (fun R=>by kernel_rfl) (lf rfl rfl)⟩
/-! ### shotline/shotlinebase.Texts -/
def l34_0(a:Nat)(d:Dat)(b:Nat)(g:Dat):Nat->Int->Option (Bool × (Bool) × (Unit))
 | 0,_=>aw
 | f+1,i=>(cond (aq (i<(a:Int))) (cond (aq (0<=i/\i<↑a)) (cond (aq (0<=i/\i<↑b)) (cond (cond (aq ((d.ss i.toNat 0)=(g.ss i.toNat 0))) az aj) (ak (aj,az,ax)) (l34_0 a d b g f (Z.wrap (i+1)))) aw) aw) (ak (az,ax,())))
abbrev o34_0(a:Nat)(d:Dat)(b:Nat)(g:Dat)(i:Int):Option (Bool × (Bool) × (Unit)):=l34_0 a d b g (a+b+i.toNat+8) i
def e34_0(a:Nat)(d:Dat)(b:Nat)(g:Dat)(r:Bool × (Bool) × (Unit))(K:XR):Prop:=cnd r.1 (K (XE.ret) [.bool r.2.1] []) (K (XE.exit 0) [.any] [])
def g34_0:LSum:=fun s k=>match czv 0 26 [0,1,5] 0 [] s with
 | ak ([.ro [.str] a d,.ro [.str] b g,V Z i],[])=>needs [(o34_0 a d b g i).isSome] (e34_0 a d b g ((o34_0 a d b g i).getD ax) fun e vs bs=>inBlk 0 k e (mkSt 0 26 [4] vs 0 bs))
 | _=>False
theorem z34_0:LOk Try.prog g34_0 (.block 0 (bodyAt (Try.f34.body.getD .skip) 0)):=by
 refine lb (ι:=Nat × Dat × Nat × Dat × Int) (fuel:=8) (na:=0) (nt:=26) (nx:=0) (Lh:=[0,1,5]) (Le:=[4]) (gl:=[]) tn mix_ok noLam rfl (fun f (a,d,b,g,i) K=>GG ax (e34_0 a d b g) K (l34_0 a d b g f i)) (fun (a,d,b,g,i)=>[.ro [.str] a d,.ro [.str] b g,V Z i]) (fun (a,d,b,g,i)=>[]) (fun (_,_,_,_,_) K=>gg_none) ?_ ?_
 ·rintro f ⟨a,d,b,g,i⟩ K hG
  refine ro (fun R=>(cnd (aq (i<(a:Int)))
 (cnd (aq (0<=i/\i<↑a))
 (cnd (aq (0<=i/\i<↑b))
 (cnd (cond (aq ((d.ss i.toNat 0)=(g.ss i.toNat 0))) az aj)
 (R (XE.ret) [.bool az] [])
 (R (XE.normal) [.ro [.str] a d,.ro [.str] b g,V Z (Z.wrap (i+1))] []))
  False)
  False)
 (R (XE.exit 0) [.any] []))) (fun R=>by kernel_rfl) ?_
  exact ch hG (fun h0=>cg h0 fun h1=>cg h1 fun h2=>ch h2 (fun h3=>h3.2) (fun h3=>⟨(_,_,_,_,_),rfl,rfl,h3⟩)) (fun h0=>h0.2)
 ·intro s k h
  unfold g34_0 at h
  split at h <;> try exact h.elim
  rename_i e1
  rw [needs_iff] at h
  exact ⟨_,e1,_,(_,_,_,_,_),rfl,rfl,h.1 _ (List.mem_singleton.2 rfl),h.2⟩
def m34(j:Nat)(m:Dat)(l:Nat)(n:Dat):Bool :=
 (cond (cond (aq ((j:Int)=(l:Int))) az aj) az (cond ((o34_0 j m l n 0).getD ax).1 ((o34_0 j m l n 0).getD ax).2.1 aj))
def n34(j:Nat)(m:Dat)(l:Nat)(n:Dat):Bool :=
 (cond (cond (aq ((j:Int)=(l:Int))) az aj) aj (((o34_0 j m l n 0).isSome)&&aj))
def q34(r:Bool):SV × List Blk × List Blk:=(.bool r,[],[])
def g34:GF:=fun vs bs=>match vs,bs with
 | [.ro [.str] j m,.ro [.str] l n],[]=>ak (rs 0 (q34 (m34 j m l n)) [n34 j m l n])
 | _,_=>aw
def c34:Ctr:=genC [.ro [.str],.ro [.str]] g34
theorem k34:CtrOk Try.prog c34 34:=cx tn mix_ok 8 (fn:=Try.f34) (c:=(Try.f34.body.getD .skip)) (grs:=[]) (rh:=.k) Try.func34 rfl (by kernel_rfl) (lam_of rfl (lc z34_0 ln)) fun vs bs q h hn=>by
 unfold g34 at h
 split at h <;> cases h
 rename_i j m l n
 have hn:=n1 hn
 exact ⟨_,rfl,ca (fun R=>(cnd (cond (aq ((j:Int)=(l:Int))) az aj)
 (R (.bool az) [] [])
 (cnd ((o34_0 j m l n 0).isSome)
 (cnd ((o34_0 j m l n 0).getD ax).1
 (R (.bool ((o34_0 j m l n 0).getD ax).2.1) [] [])
 (R (.bool aj) [] []))
  False))) (fun R=>by kernel_rfl) (co (fun h0=>lf (cT h0 rfl) rfl) (fun h0=>cn (al (cf h0 hn)) (co (fun h1=>lf (cF h0 (cT h1 rfl)) rfl) (fun h1=>lf (cF h0 (cF h1 rfl)) rfl))))⟩
/-! ### shotline/shotlineref07.Copy -/
def m20(b:Nat)(e:Dat)(d:Nat)(g:Dat):Nat × Dat × Nat × Dat :=
 ((0+b),((datS [] 3).app 0 e),(0+d),((datS [] 4).app 0 g))
def n20(b:Nat)(e:Dat)(d:Nat)(g:Dat):Bool :=
 ((aq ((0+b)<=1073741824))&&((aq ((0+d)<=1073741824))&&((aq ((0+(0+b))<=(0+b)))&&((aq ((0+(0+d))<=(0+d)))&&aj))))
def q20(r:Nat × Dat × Nat × Dat):SV × List Blk × List Blk:=(.agg [.ro [.str,W Z,W Z] r.1 r.2.1,.ro [.str,W Z,W Z,W Z] r.2.2.1 r.2.2.2],[],[])
def g20:GF:=fun vs bs=>match vs,bs with
 | [.agg [.ro [.str,W Z,W Z] b e,.ro [.str,W Z,W Z,W Z] d g]],[]=>ak (rs 0 (q20 (m20 b e d g)) [n20 b e d g])
 | _,_=>aw
def c20:Ctr:=genC [.a [.ro [.str,W Z,W Z],.ro [.str,W Z,W Z,W Z]]] g20
theorem k20:CtrOk Try.prog c20 20:=cx tn mix_ok 8 (fn:=Try.f20) (c:=(Try.f20.body.getD .skip)) (grs:=[]) (rh:=.t [.ro [.str,W Z,W Z],.ro [.str,W Z,W Z,W Z]]) Try.func20 rfl (by kernel_rfl) noLam fun vs bs q h hn=>by
 unfold g20 at h
 split at h <;> cases h
 rename_i b e d g
 have hn:=n1 hn
 exact ⟨_,rfl,ca (fun R=>(cnd (aq ((0+b)<=1073741824))
 (cnd (aq ((0+d)<=1073741824))
 (cnd (aq ((0+(0+b))<=(0+b)))
 (cnd (aq ((0+(0+d))<=(0+d)))
 (R (.agg [.ro [.str,W Z,W Z] (0+b) ((datS [] 3).app 0 e),.ro [.str,W Z,W Z,W Z] (0+d) ((datS [] 4).app 0 g)]) [] [])
   False)
  False)
  False)
 False)) (fun R=>by kernel_rfl) (cn (al hn) (cn (al (ar hn)) (cn (al (ar (ar hn))) (cn (al (ar (ar (ar hn)))) (lf rfl rfl)))))⟩
/-! ### shotline/shotlinelaw07.events -/
def m21(a:Nat)(b:Dat):Nat × Dat :=
 ((0+a),((datS [] 6).app 0 b))
def n21(a:Nat)(b:Dat):Bool :=
 ((aq ((0+a)<=1073741824))&&((aq ((0+(0+a))<=(0+a)))&&aj))
def q21(r:Nat × Dat):SV × List Blk × List Blk:=(.ro [W Z,W Z,.str,.str,.str,.bool] r.1 r.2,[],[])
def g21:GF:=fun vs bs=>match vs,bs with
 | [.ro [W Z,W Z,.str,.str,.str,.bool] a b],[]=>ak (rs 0 (q21 (m21 a b)) [n21 a b])
 | _,_=>aw
def c21:Ctr:=genC [.ro [W Z,W Z,.str,.str,.str,.bool]] g21
theorem k21:CtrOk Try.prog c21 21:=cx tn mix_ok 8 (fn:=Try.f21) (c:=(Try.f21.body.getD .skip)) (grs:=[]) (rh:=.ro [W Z,W Z,.str,.str,.str,.bool]) Try.func21 rfl (by kernel_rfl) noLam fun vs bs q h hn=>by
 unfold g21 at h
 split at h <;> cases h
 rename_i a b
 have hn:=n1 hn
 exact ⟨_,rfl,ca (fun R=>(cnd (aq ((0+a)<=1073741824))
 (cnd (aq ((0+(0+a))<=(0+a)))
 (R (.ro [W Z,W Z,.str,.str,.str,.bool] (0+a) ((datS [] 6).app 0 b)) [] [])
  False)
 False)) (fun R=>by kernel_rfl) (cn (al hn) (cn (al (ar hn)) (lf rfl rfl)))⟩
/-! ### shotline/shotlinelaw07.Shed -/
def m60 :Dat × Dat :=
 ((datS [SV.str ({ data:=#[99,49] }:ByteArray),V Z 3,V Z 0,SV.str ({ data:=#[97] }:ByteArray),V Z 1,V Z 0,SV.str ({ data:=#[98] }:ByteArray),V Z 1,V Z 0,SV.str ({ data:=#[114] }:ByteArray),V Z 2,V Z 100] 3),(datS [SV.str ({ data:=#[116,101,115,116] }:ByteArray),V Z 1,V Z 1000,V Z 0,SV.str ({ data:=#[115,101,114,118,105,99,101] }:ByteArray),V Z 2,V Z 365,V Z 2] 4))
def q60(r:Dat × Dat):SV × List Blk × List Blk:=(.agg [.ro [.str,W Z,W Z] 4 r.1,.ro [.str,W Z,W Z,W Z] 2 r.2],[],[])
def g60:GF:=fun vs bs=>match vs,bs with
 | [],[]=>ak (rs 0 (q60 (m60)) [])
 | _,_=>aw
def c60:Ctr:=genC [] g60
theorem k60:CtrOk Try.prog c60 60:=cx tn mix_ok 8 (fn:=Try.f60) (c:=(Try.f60.body.getD .skip)) (grs:=[]) (rh:=.t [.ro [.str,W Z,W Z],.ro [.str,W Z,W Z,W Z]]) Try.func60 rfl (by kernel_rfl) noLam fun vs bs q h hn=>by
 unfold g60 at h
 split at h <;> cases h
 exact ⟨_,rfl,ca (fun R=>(R (.agg [.ro [.str,W Z,W Z] 4 (datS [SV.str ({ data:=#[99,49] }:ByteArray),V Z 3,V Z 0,SV.str ({ data:=#[97] }:ByteArray),V Z 1,V Z 0,SV.str ({ data:=#[98] }:ByteArray),V Z 1,V Z 0,SV.str ({ data:=#[114] }:ByteArray),V Z 2,V Z 100] 3),.ro [.str,W Z,W Z,W Z] 2 (datS [SV.str ({ data:=#[116,101,115,116] }:ByteArray),V Z 1,V Z 1000,V Z 0,SV.str ({ data:=#[115,101,114,118,105,99,101] }:ByteArray),V Z 2,V Z 365,V Z 2] 4)]) [] [])) (fun R=>by kernel_rfl) (lf rfl rfl)⟩
/-! ### shotline/shotlinelaw07.Diary -/
def m61 :Dat :=
 (datS [V Z 2,V Z 5,SV.str ({ data:=#[97] }:ByteArray),SV.str ({ data:=#[] }:ByteArray),SV.str ({ data:=#[99,49] }:ByteArray),SV.bool az,V Z 2,V Z 6,SV.str ({ data:=#[98] }:ByteArray),SV.str ({ data:=#[] }:ByteArray),SV.str ({ data:=#[97] }:ByteArray),SV.bool az,V Z 4,V Z 7,SV.str ({ data:=#[99,49] }:ByteArray),SV.str ({ data:=#[] }:ByteArray),SV.str ({ data:=#[] }:ByteArray),SV.bool az] 6)
def q61(r:Dat):SV × List Blk × List Blk:=(.ro [W Z,W Z,.str,.str,.str,.bool] 3 r,[],[])
def g61:GF:=fun vs bs=>match vs,bs with
 | [],[]=>ak (rs 0 (q61 (m61)) [])
 | _,_=>aw
def c61:Ctr:=genC [] g61
theorem k61:CtrOk Try.prog c61 61:=cx tn mix_ok 8 (fn:=Try.f61) (c:=(Try.f61.body.getD .skip)) (grs:=[]) (rh:=.ro [W Z,W Z,.str,.str,.str,.bool]) Try.func61 rfl (by kernel_rfl) noLam fun vs bs q h hn=>by
 unfold g61 at h
 split at h <;> cases h
 exact ⟨_,rfl,ca (fun R => 
 let a0:=({ data:=#[] }:ByteArray)
 let b0:=({ data:=#[99,49] }:ByteArray)
 (R (.ro [W Z,W Z,.str,.str,.str,.bool] 3 (datS [V Z 2,V Z 5,SV.str ({ data:=#[97] }:ByteArray),SV.str a0,SV.str b0,SV.bool az,V Z 2,V Z 6,SV.str ({ data:=#[98] }:ByteArray),SV.str a0,SV.str ({ data:=#[97] }:ByteArray),SV.bool az,V Z 4,V Z 7,SV.str b0,SV.str a0,SV.str a0,SV.bool az] 6)) [] [])) (fun R=>by kernel_rfl) (lf rfl rfl)⟩
/-! ### shotline/shotlinelaw07.sameReasons -/
def l26_0(d:Nat)(a:Dat)(i:Nat)(b:Dat):Nat->Int->Option (Bool × (Bool) × (Unit))
 | 0,_=>aw
 | f+1,g=>(cond (aq (g<(d:Int))) (cond (aq (0<=g/\g<↑d)) (cond (aq (0<=g/\g<↑i)) (cond (cond (bif (aq ((a.ii g.toNat 0)=(b.ii g.toNat 0))) then (bif (aq ((a.ss g.toNat 1)=(b.ss g.toNat 1))) then (bif (bif (aq ((a.ss g.toNat 2)=(b.ss g.toNat 2))) then (bif (aq ((a.ii g.toNat 3)=(b.ii g.toNat 3))) then aj else az) else az) then aj else az) else az) else az) az aj) (ak (aj,az,ax)) (l26_0 d a i b f (Z.wrap (g+1)))) aw) aw) (ak (az,ax,())))
abbrev o26_0(d:Nat)(a:Dat)(i:Nat)(b:Dat)(g:Int):Option (Bool × (Bool) × (Unit)):=l26_0 d a i b (d+i+g.toNat+8) g
def e26_0(d:Nat)(a:Dat)(i:Nat)(b:Dat)(r:Bool × (Bool) × (Unit))(K:XR):Prop:=cnd r.1 (K (XE.ret) [.bool r.2.1] []) (K (XE.exit 0) [.any] [])
def g26_0:LSum:=fun s k=>match czv 0 26 [0,1,5] 0 [] s with
 | ak ([.ro [W Z,.str,.str,W Z] d a,.ro [W Z,.str,.str,W Z] i b,V Z g],[])=>needs [(o26_0 d a i b g).isSome] (e26_0 d a i b ((o26_0 d a i b g).getD ax) fun e vs bs=>inBlk 0 k e (mkSt 0 26 [4] vs 0 bs))
 | _=>False
theorem z26_0:LOk Try.prog g26_0 (.block 0 (bodyAt (Try.f26.body.getD .skip) 0)):=by
 refine lb (ι:=Nat × Dat × Nat × Dat × Int) (fuel:=8) (na:=0) (nt:=26) (nx:=0) (Lh:=[0,1,5]) (Le:=[4]) (gl:=[]) tn mix_ok noLam rfl (fun f (d,a,i,b,g) K=>GG ax (e26_0 d a i b) K (l26_0 d a i b f g)) (fun (d,a,i,b,g)=>[.ro [W Z,.str,.str,W Z] d a,.ro [W Z,.str,.str,W Z] i b,V Z g]) (fun (d,a,i,b,g)=>[]) (fun (_,_,_,_,_) K=>gg_none) ?_ ?_
 ·rintro f ⟨d,a,i,b,g⟩ K hG
  refine ro (fun R=>(cnd (aq (g<(d:Int)))
 (cnd (aq (0<=g/\g<↑d))
 (cnd (aq (0<=g/\g<↑i))
 (cnd (cond (bif (aq ((a.ii g.toNat 0)=(b.ii g.toNat 0))) then (bif (aq ((a.ss g.toNat 1)=(b.ss g.toNat 1))) then (bif (bif (aq ((a.ss g.toNat 2)=(b.ss g.toNat 2))) then (bif (aq ((a.ii g.toNat 3)=(b.ii g.toNat 3))) then aj else az) else az) then aj else az) else az) else az) az aj)
 (R (XE.ret) [.bool az] [])
 (R (XE.normal) [.ro [W Z,.str,.str,W Z] d a,.ro [W Z,.str,.str,W Z] i b,V Z (Z.wrap (g+1))] []))
  False)
  False)
 (R (XE.exit 0) [.any] []))) (fun R=>by kernel_rfl) ?_
  exact ch hG (fun h0=>cg h0 fun h1=>cg h1 fun h2=>ch h2 (fun h3=>h3.2) (fun h3=>⟨(_,_,_,_,_),rfl,rfl,h3⟩)) (fun h0=>h0.2)
 ·intro s k h
  unfold g26_0 at h
  split at h <;> try exact h.elim
  rename_i e1
  rw [needs_iff] at h
  exact ⟨_,e1,_,(_,_,_,_,_),rfl,rfl,h.1 _ (List.mem_singleton.2 rfl),h.2⟩
def m26(j:Nat)(m:Dat)(l:Nat)(n:Dat):Bool :=
 (cond (cond (aq ((j:Int)=(l:Int))) az aj) az (cond ((o26_0 j m l n 0).getD ax).1 ((o26_0 j m l n 0).getD ax).2.1 aj))
def n26(j:Nat)(m:Dat)(l:Nat)(n:Dat):Bool :=
 (cond (cond (aq ((j:Int)=(l:Int))) az aj) aj (((o26_0 j m l n 0).isSome)&&aj))
def q26(r:Bool):SV × List Blk × List Blk:=(.bool r,[],[])
def g26:GF:=fun vs bs=>match vs,bs with
 | [.ro [W Z,.str,.str,W Z] j m,.ro [W Z,.str,.str,W Z] l n],[]=>ak (rs 0 (q26 (m26 j m l n)) [n26 j m l n])
 | _,_=>aw
def c26:Ctr:=genC [.ro [W Z,.str,.str,W Z],.ro [W Z,.str,.str,W Z]] g26
theorem k26:CtrOk Try.prog c26 26:=cx tn mix_ok 8 (fn:=Try.f26) (c:=(Try.f26.body.getD .skip)) (grs:=[]) (rh:=.k) Try.func26 rfl (by kernel_rfl) (lam_of rfl (lc z26_0 ln)) fun vs bs q h hn=>by
 unfold g26 at h
 split at h <;> cases h
 rename_i j m l n
 have hn:=n1 hn
 exact ⟨_,rfl,ca (fun R=>(cnd (cond (aq ((j:Int)=(l:Int))) az aj)
 (R (.bool az) [] [])
 (cnd ((o26_0 j m l n 0).isSome)
 (cnd ((o26_0 j m l n 0).getD ax).1
 (R (.bool ((o26_0 j m l n 0).getD ax).2.1) [] [])
 (R (.bool aj) [] []))
  False))) (fun R=>by kernel_rfl) (co (fun h0=>lf (cT h0 rfl) rfl) (fun h0=>cn (al (cf h0 hn)) (co (fun h1=>lf (cF h0 (cT h1 rfl)) rfl) (fun h1=>lf (cF h0 (cF h1 rfl)) rfl))))⟩
/-! ### shotline/shotlinelaw07.sameDues -/
def l54_0(d:Nat)(a:Dat)(g:Nat)(b:Dat):Nat->Int->Option (Bool × (Bool) × (Unit))
 | 0,_=>aw
 | f+1,i=>(cond (aq (i<(d:Int))) (cond (aq (0<=i/\i<↑d)) (cond (aq (0<=i/\i<↑g)) (cond (cond (bif (aq ((a.ss i.toNat 0)=(b.ss i.toNat 0))) then (bif (aq ((a.ss i.toNat 1)=(b.ss i.toNat 1))) then (bif (aq ((a.ii i.toNat 2)=(b.ii i.toNat 2))) then aj else az) else az) else az) az aj) (ak (aj,az,ax)) (l54_0 d a g b f (Z.wrap (i+1)))) aw) aw) (ak (az,ax,())))
abbrev o54_0(d:Nat)(a:Dat)(g:Nat)(b:Dat)(i:Int):Option (Bool × (Bool) × (Unit)):=l54_0 d a g b (d+g+i.toNat+8) i
def e54_0(d:Nat)(a:Dat)(g:Nat)(b:Dat)(r:Bool × (Bool) × (Unit))(K:XR):Prop:=cnd r.1 (K (XE.ret) [.bool r.2.1] []) (K (XE.exit 0) [.any] [])
def g54_0:LSum:=fun s k=>match czv 0 26 [0,1,5] 0 [] s with
 | ak ([.ro [.str,.str,W Z] d a,.ro [.str,.str,W Z] g b,V Z i],[])=>needs [(o54_0 d a g b i).isSome] (e54_0 d a g b ((o54_0 d a g b i).getD ax) fun e vs bs=>inBlk 0 k e (mkSt 0 26 [4] vs 0 bs))
 | _=>False
theorem z54_0:LOk Try.prog g54_0 (.block 0 (bodyAt (Try.f54.body.getD .skip) 0)):=by
 refine lb (ι:=Nat × Dat × Nat × Dat × Int) (fuel:=8) (na:=0) (nt:=26) (nx:=0) (Lh:=[0,1,5]) (Le:=[4]) (gl:=[]) tn mix_ok noLam rfl (fun f (d,a,g,b,i) K=>GG ax (e54_0 d a g b) K (l54_0 d a g b f i)) (fun (d,a,g,b,i)=>[.ro [.str,.str,W Z] d a,.ro [.str,.str,W Z] g b,V Z i]) (fun (d,a,g,b,i)=>[]) (fun (_,_,_,_,_) K=>gg_none) ?_ ?_
 ·rintro f ⟨d,a,g,b,i⟩ K hG
  refine ro (fun R=>(cnd (aq (i<(d:Int)))
 (cnd (aq (0<=i/\i<↑d))
 (cnd (aq (0<=i/\i<↑g))
 (cnd (cond (bif (aq ((a.ss i.toNat 0)=(b.ss i.toNat 0))) then (bif (aq ((a.ss i.toNat 1)=(b.ss i.toNat 1))) then (bif (aq ((a.ii i.toNat 2)=(b.ii i.toNat 2))) then aj else az) else az) else az) az aj)
 (R (XE.ret) [.bool az] [])
 (R (XE.normal) [.ro [.str,.str,W Z] d a,.ro [.str,.str,W Z] g b,V Z (Z.wrap (i+1))] []))
  False)
  False)
 (R (XE.exit 0) [.any] []))) (fun R=>by kernel_rfl) ?_
  exact ch hG (fun h0=>cg h0 fun h1=>cg h1 fun h2=>ch h2 (fun h3=>h3.2) (fun h3=>⟨(_,_,_,_,_),rfl,rfl,h3⟩)) (fun h0=>h0.2)
 ·intro s k h
  unfold g54_0 at h
  split at h <;> try exact h.elim
  rename_i e1
  rw [needs_iff] at h
  exact ⟨_,e1,_,(_,_,_,_,_),rfl,rfl,h.1 _ (List.mem_singleton.2 rfl),h.2⟩
def m54(j:Nat)(m:Dat)(l:Nat)(n:Dat):Bool :=
 (cond (cond (aq ((j:Int)=(l:Int))) az aj) az (cond ((o54_0 j m l n 0).getD ax).1 ((o54_0 j m l n 0).getD ax).2.1 aj))
def n54(j:Nat)(m:Dat)(l:Nat)(n:Dat):Bool :=
 (cond (cond (aq ((j:Int)=(l:Int))) az aj) aj (((o54_0 j m l n 0).isSome)&&aj))
def q54(r:Bool):SV × List Blk × List Blk:=(.bool r,[],[])
def g54:GF:=fun vs bs=>match vs,bs with
 | [.ro [.str,.str,W Z] j m,.ro [.str,.str,W Z] l n],[]=>ak (rs 0 (q54 (m54 j m l n)) [n54 j m l n])
 | _,_=>aw
def c54:Ctr:=genC [.ro [.str,.str,W Z],.ro [.str,.str,W Z]] g54
theorem k54:CtrOk Try.prog c54 54:=cx tn mix_ok 8 (fn:=Try.f54) (c:=(Try.f54.body.getD .skip)) (grs:=[]) (rh:=.k) Try.func54 rfl (by kernel_rfl) (lam_of rfl (lc z54_0 ln)) fun vs bs q h hn=>by
 unfold g54 at h
 split at h <;> cases h
 rename_i j m l n
 have hn:=n1 hn
 exact ⟨_,rfl,ca (fun R=>(cnd (cond (aq ((j:Int)=(l:Int))) az aj)
 (R (.bool az) [] [])
 (cnd ((o54_0 j m l n 0).isSome)
 (cnd ((o54_0 j m l n 0).getD ax).1
 (R (.bool ((o54_0 j m l n 0).getD ax).2.1) [] [])
 (R (.bool aj) [] []))
  False))) (fun R=>by kernel_rfl) (co (fun h0=>lf (cT h0 rfl) rfl) (fun h0=>cn (al (cf h0 hn)) (co (fun h1=>lf (cF h0 (cT h1 rfl)) rfl) (fun h1=>lf (cF h0 (cF h1 rfl)) rfl))))⟩
/-! ### shotline/kit.isDay -/
def m64(a:Int):Bool :=
 (m83 a 0 100000)
def q64(r:Bool):SV × List Blk × List Blk:=(.bool r,[],[])
def g64:GF:=fun vs bs=>match vs,bs with
 | [V Z a],[]=>ak (rs 0 (q64 (m64 a)) [])
 | _,_=>aw
def c64:Ctr:=genC [.k] g64
theorem k64:CtrOk Try.prog c64 64:=cx (tc k83 tn) mix_ok 8 (fn:=Try.f64) (c:=(Try.f64.body.getD .skip)) (grs:=[]) (rh:=.k) Try.func64 rfl (by kernel_rfl) noLam fun vs bs q h hn=>by
 unfold g64 at h
 split at h <;> cases h
 rename_i a
 exact ⟨_,rfl,ca (fun R=>(R (.bool (m83 a 0 100000)) [] [])) (fun R=>by kernel_rfl) (lf rfl rfl)⟩
/-! ### shotline/kit.isKind -/
def m106(a:Int):Bool :=
 (m83 a 1 4)
def q106(r:Bool):SV × List Blk × List Blk:=(.bool r,[],[])
def g106:GF:=fun vs bs=>match vs,bs with
 | [V Z a],[]=>ak (rs 0 (q106 (m106 a)) [])
 | _,_=>aw
def c106:Ctr:=genC [.k] g106
theorem k106:CtrOk Try.prog c106 106:=cx (tc k83 tn) mix_ok 8 (fn:=Try.f106) (c:=(Try.f106.body.getD .skip)) (grs:=[]) (rh:=.k) Try.func106 rfl (by kernel_rfl) noLam fun vs bs q h hn=>by
 unfold g106 at h
 split at h <;> cases h
 rename_i a
 exact ⟨_,rfl,ca (fun R=>(R (.bool (m83 a 1 4)) [] [])) (fun R=>by kernel_rfl) (lf rfl rfl)⟩
/-! ### cmp.Compare[int] -/
def m88(b a:Int):Int :=
 (cond (m104 b) (cond (m104 a) 0 (-1)) (cond (m104 a) 1 (cond (aq (b<a)) (-1) (cond (aq (a<b)) 1 0))))
def q88(r:Int):SV × List Blk × List Blk:=(V Z r,[],[])
def g88:GF:=fun vs bs=>match vs,bs with
 | [V Z b,V Z a],[]=>ak (rs 0 (q88 (m88 b a)) [])
 | _,_=>aw
def c88:Ctr:=genC [.k,.k] g88
theorem k88:CtrOk Try.prog c88 88:=cx (tc k104 tn) mix_ok 8 (fn:=Try.f88) (c:=(Try.f88.body.getD .skip)) (grs:=[]) (rh:=.k) Try.func88 rfl (by kernel_rfl) noLam fun vs bs q h hn=>by
 unfold g88 at h
 split at h <;> cases h
 rename_i b a
 exact ⟨_,rfl,ca (fun R=>(cnd (m104 b)
 (cnd (m104 a)
 (R (V Z 0) [] [])
 (R (V Z (-1)) [] []))
 (cnd (m104 a)
 (R (V Z 1) [] [])
 (cnd (aq (b<a))
 (R (V Z (-1)) [] [])
 (cnd (aq (a<b))
 (R (V Z 1) [] [])
 (R (V Z 0) [] [])))))) (fun R=>by kernel_rfl) (co (fun h0=>co (fun h1=>lf (cT h0 (cT h1 rfl)) rfl) (fun h1=>lf (cT h0 (cF h1 rfl)) rfl)) (fun h0=>co (fun h1=>lf (cF h0 (cT h1 rfl)) rfl) (fun h1=>co (fun h2=>lf (cF h0 (cF h1 (cT h2 rfl))) rfl) (fun h2=>co (fun h3=>lf (cF h0 (cF h1 (cF h2 (cT h3 rfl)))) rfl) (fun h3=>lf (cF h0 (cF h1 (cF h2 (cF h3 rfl)))) rfl)))))⟩
/-! ### shotline/shotlineref07.IsDay -/
def m24(a:Int):Bool :=
 (m47 a 0 100000)
def q24(r:Bool):SV × List Blk × List Blk:=(.bool r,[],[])
def g24:GF:=fun vs bs=>match vs,bs with
 | [V Z a],[]=>ak (rs 0 (q24 (m24 a)) [])
 | _,_=>aw
def c24:Ctr:=genC [.k] g24
theorem k24:CtrOk Try.prog c24 24:=cx (tc k47 tn) mix_ok 8 (fn:=Try.f24) (c:=(Try.f24.body.getD .skip)) (grs:=[]) (rh:=.k) Try.func24 rfl (by kernel_rfl) noLam fun vs bs q h hn=>by
 unfold g24 at h
 split at h <;> cases h
 rename_i a
 exact ⟨_,rfl,ca (fun R=>(R (.bool (m47 a 0 100000)) [] [])) (fun R=>by kernel_rfl) (lf rfl rfl)⟩
/-! ### shotline/shotlineref07.IsKind -/
def m95(a:Int):Bool :=
 (m47 a 1 4)
def q95(r:Bool):SV × List Blk × List Blk:=(.bool r,[],[])
def g95:GF:=fun vs bs=>match vs,bs with
 | [V Z a],[]=>ak (rs 0 (q95 (m95 a)) [])
 | _,_=>aw
def c95:Ctr:=genC [.k] g95
theorem k95:CtrOk Try.prog c95 95:=cx (tc k47 tn) mix_ok 8 (fn:=Try.f95) (c:=(Try.f95.body.getD .skip)) (grs:=[]) (rh:=.k) Try.func95 rfl (by kernel_rfl) noLam fun vs bs q h hn=>by
 unfold g95 at h
 split at h <;> cases h
 rename_i a
 exact ⟨_,rfl,ca (fun R=>(R (.bool (m47 a 1 4)) [] [])) (fun R=>by kernel_rfl) (lf rfl rfl)⟩
/-! ### shotline/shotlinelaw07.Short -/
def l18_0(i:Nat)(b:Dat)(d:Nat)(j:Dat)(g:Nat)(l:Dat):Nat->Int->Option (Bool × (Bool) × (Unit))
 | 0,_=>aw
 | f+1,w=>(cond (aq (w<(d:Int))) (cond (aq (0<=w/\w<↑d)) (cond (aq ((20:Int)<(↑((j.ss w.toNat 0).size):Int))) (ak (aj,az,ax)) (l18_0 i b d j g l f (Z.wrap (w+1)))) aw) (ak (az,ax,())))
abbrev o18_0(i:Nat)(b:Dat)(d:Nat)(j:Dat)(g:Nat)(l:Dat)(w:Int):Option (Bool × (Bool) × (Unit)):=l18_0 i b d j g l (i+w.toNat+d+g+8) w
def e18_0(i:Nat)(b:Dat)(d:Nat)(j:Dat)(g:Nat)(l:Dat)(r:Bool × (Bool) × (Unit))(K:XR):Prop:=cnd r.1 (K (XE.ret) [.ro [W Z,W Z,.str,.str,.str,.bool] i b,.ptr 0 0,.bool r.2.1] [.cells 25 [.ro [.str,W Z,W Z] d j,.ro [.str,W Z,W Z,W Z] g l]]) (K (XE.exit 0) [.ro [W Z,W Z,.str,.str,.str,.bool] i b,.ptr 0 0,.any] [.cells 25 [.ro [.str,W Z,W Z] d j,.ro [.str,W Z,W Z,W Z] g l]])
def g18_0:LSum:=fun s k=>match czv 0 99 [1,2,5] 1 [] s with
 | ak ([.ro [W Z,W Z,.str,.str,.str,.bool] i b,.ptr 0 0,V Z w],[.cells 25 [.ro [.str,W Z,W Z] d j,.ro [.str,W Z,W Z,W Z] g l]])=>needs [(o18_0 i b d j g l w).isSome] (e18_0 i b d j g l ((o18_0 i b d j g l w).getD ax) fun e vs bs=>inBlk 0 k e (mkSt 0 99 [1,2,4] vs 1 bs))
 | _=>False
theorem z18_0:LOk Try.prog g18_0 (.block 0 (bodyAt (Try.f18.body.getD .skip) 0)):=by
 refine lb (ι:=Nat × Dat × Int × Nat × Dat × Nat × Dat) (fuel:=8) (na:=0) (nt:=99) (nx:=1) (Lh:=[1,2,5]) (Le:=[1,2,4]) (gl:=[]) (tc k37 tn) mix_ok noLam rfl (fun f (i,b,w,d,j,g,l) K=>GG ax (e18_0 i b d j g l) K (l18_0 i b d j g l f w)) (fun (i,b,w,d,j,g,l)=>[.ro [W Z,W Z,.str,.str,.str,.bool] i b,.ptr 0 0,V Z w]) (fun (i,b,w,d,j,g,l)=>[.cells 25 [.ro [.str,W Z,W Z] d j,.ro [.str,W Z,W Z,W Z] g l]]) (fun (_,_,_,_,_,_,_) K=>gg_none) ?_ ?_
 ·rintro f ⟨i,b,w,d,j,g,l⟩ K hG
  refine ro (fun R=>(cnd (aq (w<(d:Int)))
 (cnd (aq (0<=w/\w<↑d))
 (cnd (aq ((20:Int)<(↑((j.ss w.toNat 0).size):Int)))
 (R (XE.ret) [.ro [W Z,W Z,.str,.str,.str,.bool] i b,.ptr 0 0,.bool az] [.cells 25 [.ro [.str,W Z,W Z] d j,.ro [.str,W Z,W Z,W Z] g l]])
 (R (XE.normal) [.ro [W Z,W Z,.str,.str,.str,.bool] i b,.ptr 0 0,V Z (Z.wrap (w+1))] [.cells 25 [.ro [.str,W Z,W Z] d j,.ro [.str,W Z,W Z,W Z] g l]]))
  False)
 (R (XE.exit 0) [.ro [W Z,W Z,.str,.str,.str,.bool] i b,.ptr 0 0,.any] [.cells 25 [.ro [.str,W Z,W Z] d j,.ro [.str,W Z,W Z,W Z] g l]]))) (fun R=>by kernel_rfl) ?_
  exact ch hG (fun h0=>cg h0 fun h1=>ch h1 (fun h2=>h2.2) (fun h2=>⟨(_,_,_,_,_,_,_),rfl,rfl,h2⟩)) (fun h0=>h0.2)
 ·intro s k h
  unfold g18_0 at h
  split at h <;> try exact h.elim
  rename_i e1
  rw [needs_iff] at h
  exact ⟨_,e1,_,(_,_,_,_,_,_,_),rfl,rfl,h.1 _ (List.mem_singleton.2 rfl),h.2⟩
def l18_2(i:Nat)(b:Dat)(d:Nat)(j:Dat)(g:Nat)(l:Dat):Nat->Int->Option (Bool × (Bool) × (Unit))
 | 0,_=>aw
 | f+1,x=>(cond (aq (x<(g:Int))) (cond (aq (0<=x/\x<↑g)) (cond (aq ((20:Int)<(↑((l.ss x.toNat 0).size):Int))) (ak (aj,az,ax)) (l18_2 i b d j g l f (Z.wrap (x+1)))) aw) (ak (az,ax,())))
abbrev o18_2(i:Nat)(b:Dat)(d:Nat)(j:Dat)(g:Nat)(l:Dat)(x:Int):Option (Bool × (Bool) × (Unit)):=l18_2 i b d j g l (i+x.toNat+d+g+8) x
def e18_2(i:Nat)(b:Dat)(d:Nat)(j:Dat)(g:Nat)(l:Dat)(r:Bool × (Bool) × (Unit))(K:XR):Prop:=cnd r.1 (K (XE.ret) [.ro [W Z,W Z,.str,.str,.str,.bool] i b,.bool r.2.1] [.cells 25 [.ro [.str,W Z,W Z] d j,.ro [.str,W Z,W Z,W Z] g l]]) (K (XE.exit 2) [.ro [W Z,W Z,.str,.str,.str,.bool] i b,.any] [.cells 25 [.ro [.str,W Z,W Z] d j,.ro [.str,W Z,W Z,W Z] g l]])
def g18_2:LSum:=fun s k=>match czv 0 99 [1,2,6] 1 [] s with
 | ak ([.ro [W Z,W Z,.str,.str,.str,.bool] i b,.ptr 0 0,V Z x],[.cells 25 [.ro [.str,W Z,W Z] d j,.ro [.str,W Z,W Z,W Z] g l]])=>needs [(o18_2 i b d j g l x).isSome] (e18_2 i b d j g l ((o18_2 i b d j g l x).getD ax) fun e vs bs=>inBlk 2 k e (mkSt 0 99 [1,4] vs 1 bs))
 | _=>False
theorem z18_2:LOk Try.prog g18_2 (.block 2 (bodyAt (Try.f18.body.getD .skip) 2)):=by
 refine lb (ι:=Nat × Dat × Int × Nat × Dat × Nat × Dat) (fuel:=8) (na:=0) (nt:=99) (nx:=1) (Lh:=[1,2,6]) (Le:=[1,4]) (gl:=[]) (tc k37 tn) mix_ok (lam_of rfl (lc z18_0 ln)) rfl (fun f (i,b,x,d,j,g,l) K=>GG ax (e18_2 i b d j g l) K (l18_2 i b d j g l f x)) (fun (i,b,x,d,j,g,l)=>[.ro [W Z,W Z,.str,.str,.str,.bool] i b,.ptr 0 0,V Z x]) (fun (i,b,x,d,j,g,l)=>[.cells 25 [.ro [.str,W Z,W Z] d j,.ro [.str,W Z,W Z,W Z] g l]]) (fun (_,_,_,_,_,_,_) K=>gg_none) ?_ ?_
 ·rintro f ⟨i,b,x,d,j,g,l⟩ K hG
  refine ro (fun R=>(cnd (aq (x<(g:Int)))
 (cnd (aq (0<=x/\x<↑g))
 (cnd (aq ((20:Int)<(↑((l.ss x.toNat 0).size):Int)))
 (R (XE.ret) [.ro [W Z,W Z,.str,.str,.str,.bool] i b,.bool az] [.cells 25 [.ro [.str,W Z,W Z] d j,.ro [.str,W Z,W Z,W Z] g l]])
 (R (XE.normal) [.ro [W Z,W Z,.str,.str,.str,.bool] i b,.ptr 0 0,V Z (Z.wrap (x+1))] [.cells 25 [.ro [.str,W Z,W Z] d j,.ro [.str,W Z,W Z,W Z] g l]]))
  False)
 (R (XE.exit 2) [.ro [W Z,W Z,.str,.str,.str,.bool] i b,.any] [.cells 25 [.ro [.str,W Z,W Z] d j,.ro [.str,W Z,W Z,W Z] g l]]))) (fun R=>by kernel_rfl) ?_
  exact ch hG (fun h0=>cg h0 fun h1=>ch h1 (fun h2=>h2.2) (fun h2=>⟨(_,_,_,_,_,_,_),rfl,rfl,h2⟩)) (fun h0=>h0.2)
 ·intro s k h
  unfold g18_2 at h
  split at h <;> try exact h.elim
  rename_i e1
  rw [needs_iff] at h
  exact ⟨_,e1,_,(_,_,_,_,_,_,_),rfl,rfl,h.1 _ (List.mem_singleton.2 rfl),h.2⟩
def l18_4(i:Nat)(b:Dat)(d:Nat)(j:Dat)(g:Nat)(l:Dat):Nat->Int->Option (Bool × (Bool) × (Unit))
 | 0,_=>aw
 | f+1,v=>(cond (aq (v<(i:Int))) (cond (aq (0<=v/\v<↑i)) (cond (cond (m37 (b.ii v.toNat 0) (b.ii v.toNat 1) (b.ss v.toNat 2) (b.ss v.toNat 3) (b.ss v.toNat 4) (b.bb v.toNat 5)) az aj) (ak (aj,az,ax)) (l18_4 i b d j g l f (Z.wrap (v+1)))) aw) (ak (az,ax,())))
abbrev o18_4(i:Nat)(b:Dat)(d:Nat)(j:Dat)(g:Nat)(l:Dat)(v:Int):Option (Bool × (Bool) × (Unit)):=l18_4 i b d j g l (i+v.toNat+d+g+8) v
def e18_4(i:Nat)(b:Dat)(d:Nat)(j:Dat)(g:Nat)(l:Dat)(r:Bool × (Bool) × (Unit))(K:XR):Prop:=cnd r.1 (K (XE.ret) [.bool r.2.1] [.cells 25 [.ro [.str,W Z,W Z] d j,.ro [.str,W Z,W Z,W Z] g l]]) (K (XE.exit 4) [.any] [.cells 25 [.ro [.str,W Z,W Z] d j,.ro [.str,W Z,W Z,W Z] g l]])
def g18_4:LSum:=fun s k=>match czv 0 99 [1,7] 1 [] s with
 | ak ([.ro [W Z,W Z,.str,.str,.str,.bool] i b,V Z v],[.cells 25 [.ro [.str,W Z,W Z] d j,.ro [.str,W Z,W Z,W Z] g l]])=>needs [(o18_4 i b d j g l v).isSome] (e18_4 i b d j g l ((o18_4 i b d j g l v).getD ax) fun e vs bs=>inBlk 4 k e (mkSt 0 99 [4] vs 1 bs))
 | _=>False
theorem z18_4:LOk Try.prog g18_4 (.block 4 (bodyAt (Try.f18.body.getD .skip) 4)):=by
 refine lb (ι:=Nat × Dat × Int × Nat × Dat × Nat × Dat) (fuel:=8) (na:=0) (nt:=99) (nx:=1) (Lh:=[1,7]) (Le:=[4]) (gl:=[]) (tc k37 tn) mix_ok (lam_of rfl (lc z18_0 (lc z18_2 ln))) rfl (fun f (i,b,v,d,j,g,l) K=>GG ax (e18_4 i b d j g l) K (l18_4 i b d j g l f v)) (fun (i,b,v,d,j,g,l)=>[.ro [W Z,W Z,.str,.str,.str,.bool] i b,V Z v]) (fun (i,b,v,d,j,g,l)=>[.cells 25 [.ro [.str,W Z,W Z] d j,.ro [.str,W Z,W Z,W Z] g l]]) (fun (_,_,_,_,_,_,_) K=>gg_none) ?_ ?_
 ·rintro f ⟨i,b,v,d,j,g,l⟩ K hG
  refine ro (fun R=>(cnd (aq (v<(i:Int)))
 (cnd (aq (0<=v/\v<↑i))
 (cnd (cond (m37 (b.ii v.toNat 0) (b.ii v.toNat 1) (b.ss v.toNat 2) (b.ss v.toNat 3) (b.ss v.toNat 4) (b.bb v.toNat 5)) az aj)
 (R (XE.ret) [.bool az] [.cells 25 [.ro [.str,W Z,W Z] d j,.ro [.str,W Z,W Z,W Z] g l]])
 (R (XE.normal) [.ro [W Z,W Z,.str,.str,.str,.bool] i b,V Z (Z.wrap (v+1))] [.cells 25 [.ro [.str,W Z,W Z] d j,.ro [.str,W Z,W Z,W Z] g l]]))
  False)
 (R (XE.exit 4) [.any] [.cells 25 [.ro [.str,W Z,W Z] d j,.ro [.str,W Z,W Z,W Z] g l]]))) (fun R=>by kernel_rfl) ?_
  exact ch hG (fun h0=>cg h0 fun h1=>ch h1 (fun h2=>h2.2) (fun h2=>⟨(_,_,_,_,_,_,_),rfl,rfl,h2⟩)) (fun h0=>h0.2)
 ·intro s k h
  unfold g18_4 at h
  split at h <;> try exact h.elim
  rename_i e1
  rw [needs_iff] at h
  exact ⟨_,e1,_,(_,_,_,_,_,_,_),rfl,rfl,h.1 _ (List.mem_singleton.2 rfl),h.2⟩
def m18(m:Nat)(o:Dat)(n:Nat)(p:Dat)(t:Nat)(u:Dat):Bool :=
 (cond (bif (bif (bif (bif (bif (bif (aq (6<(m:Int))) then (aq ((m:Int)<=30)) else az) then aj else (aq (32<(m:Int)))) then aj else (bif (aq (5<(n:Int))) then (aq ((n:Int)<=20)) else az)) then aj else (aq (22<(n:Int)))) then aj else (bif (aq (12<(t:Int))) then (aq ((t:Int)<=200)) else az)) then aj else (aq (202<(t:Int)))) az (cond ((o18_0 t u m o n p 0).getD ax).1 ((o18_0 t u m o n p 0).getD ax).2.1 (cond ((o18_2 t u m o n p 0).getD ax).1 ((o18_2 t u m o n p 0).getD ax).2.1 (cond ((o18_4 t u m o n p 0).getD ax).1 ((o18_4 t u m o n p 0).getD ax).2.1 aj))))
def n18(m:Nat)(o:Dat)(n:Nat)(p:Dat)(t:Nat)(u:Dat):Bool :=
 (cond (bif (bif (bif (bif (bif (bif (aq (6<(m:Int))) then (aq ((m:Int)<=30)) else az) then aj else (aq (32<(m:Int)))) then aj else (bif (aq (5<(n:Int))) then (aq ((n:Int)<=20)) else az)) then aj else (aq (22<(n:Int)))) then aj else (bif (aq (12<(t:Int))) then (aq ((t:Int)<=200)) else az)) then aj else (aq (202<(t:Int)))) aj (((o18_0 t u m o n p 0).isSome)&&(cond ((o18_0 t u m o n p 0).getD ax).1 aj (((o18_2 t u m o n p 0).isSome)&&(cond ((o18_2 t u m o n p 0).getD ax).1 aj (((o18_4 t u m o n p 0).isSome)&&aj))))))
def q18(r:Bool):SV × List Blk × List Blk:=(.bool r,[],[])
def g18:GF:=fun vs bs=>match vs,bs with
 | [.agg [.ro [.str,W Z,W Z] m o,.ro [.str,W Z,W Z,W Z] n p],.ro [W Z,W Z,.str,.str,.str,.bool] t u],[]=>ak (rs 0 (q18 (m18 m o n p t u)) [n18 m o n p t u])
 | _,_=>aw
def c18:Ctr:=genC [.a [.ro [.str,W Z,W Z],.ro [.str,W Z,W Z,W Z]],.ro [W Z,W Z,.str,.str,.str,.bool]] g18
theorem k18:CtrOk Try.prog c18 18:=cx (tc k37 tn) mix_ok 8 (fn:=Try.f18) (c:=(Try.f18.body.getD .skip)) (grs:=[]) (rh:=.k) Try.func18 rfl (by kernel_rfl) (lam_of rfl (lc z18_0 (lc z18_2 (lc z18_4 ln)))) fun vs bs q h hn=>by
 unfold g18 at h
 split at h <;> cases h
 rename_i m o n p t u
 have hn:=n1 hn
 exact ⟨_,rfl,ca (fun R=>(cnd (bif (bif (bif (bif (bif (bif (aq (6<(m:Int))) then (aq ((m:Int)<=30)) else az) then aj else (aq (32<(m:Int)))) then aj else (bif (aq (5<(n:Int))) then (aq ((n:Int)<=20)) else az)) then aj else (aq (22<(n:Int)))) then aj else (bif (aq (12<(t:Int))) then (aq ((t:Int)<=200)) else az)) then aj else (aq (202<(t:Int))))
 (R (.bool az) [] [])
 (cnd ((o18_0 t u m o n p 0).isSome)
 (cnd ((o18_0 t u m o n p 0).getD ax).1
 (R (.bool ((o18_0 t u m o n p 0).getD ax).2.1) [] [])
 (cnd ((o18_2 t u m o n p 0).isSome)
 (cnd ((o18_2 t u m o n p 0).getD ax).1
 (R (.bool ((o18_2 t u m o n p 0).getD ax).2.1) [] [])
 (cnd ((o18_4 t u m o n p 0).isSome)
 (cnd ((o18_4 t u m o n p 0).getD ax).1
 (R (.bool ((o18_4 t u m o n p 0).getD ax).2.1) [] [])
 (R (.bool aj) [] []))
    False))
   False))
  False))) (fun R=>by kernel_rfl) (co (fun h0=>lf (cT h0 rfl) rfl) (fun h0=>cn (al (cf h0 hn)) (co (fun h1=>lf (cF h0 (cT h1 rfl)) rfl) (fun h1=>cn (al (cf h1 (ar (cf h0 hn)))) (co (fun h2=>lf (cF h0 (cF h1 (cT h2 rfl))) rfl) (fun h2=>cn (al (cf h2 (ar (cf h1 (ar (cf h0 hn)))))) (co (fun h3=>lf (cF h0 (cF h1 (cF h2 (cT h3 rfl)))) rfl) (fun h3=>lf (cF h0 (cF h1 (cF h2 (cF h3 rfl)))) rfl))))))))⟩
/-! ### slices.IndexFunc[[]shotline/api.KitItem,shotline/api.KitItem] -/
def l112c101_0(b:Nat)(a j:Dat)(i:Int):Nat->Int->Option (Bool × (Int) × (Unit))
 | 0,_=>aw
 | f+1,d=>(cond (aq (d<i)) (cond (aq (0<=d/\d<↑b)) (cond (m101 (a.ss d.toNat 0) (a.ii d.toNat 1) (a.ii d.toNat 2) j) (ak (aj,d,ax)) (l112c101_0 b a j i f (Z.wrap (d+1)))) aw) (ak (az,ax,())))
abbrev o112c101_0(b:Nat)(a j:Dat)(i d:Int):Option (Bool × (Int) × (Unit)):=l112c101_0 b a j i (b+i.toNat+d.toNat+8) d
def e112c101_0(b:Nat)(a j:Dat)(i:Int)(r:Bool × (Int) × (Unit))(K:XR):Prop:=cnd r.1 (K (XE.ret) [V Z r.2.1] []) (K (XE.exit 0) [.any] [])
def g112c101_0:LSum:=fun s k=>match czv 0 19 [0,1,7,8] 0 [] s with
 | ak ([.ro [.str,W Z,W Z] b a,.fn 101 [.rp [.str] j 0 0],V Z i,V Z d],[])=>needs [(o112c101_0 b a j i d).isSome] (e112c101_0 b a j i ((o112c101_0 b a j i d).getD ax) fun e vs bs=>inBlk 0 k e (mkSt 0 19 [4] vs 0 bs))
 | _=>False
theorem z112c101_0:LOk Try.prog g112c101_0 (.block 0 (bodyAt (Try.f112.body.getD .skip) 0)):=by
 refine lb (ι:=Nat × Dat × Dat × Int × Int) (fuel:=8) (na:=0) (nt:=19) (nx:=0) (Lh:=[0,1,7,8]) (Le:=[4]) (gl:=[]) (tc k101 tn) mix_ok noLam rfl (fun f (b,a,j,i,d) K=>GG ax (e112c101_0 b a j i) K (l112c101_0 b a j i f d)) (fun (b,a,j,i,d)=>[.ro [.str,W Z,W Z] b a,.fn 101 [.rp [.str] j 0 0],V Z i,V Z d]) (fun (b,a,j,i,d)=>[]) (fun (_,_,_,_,_) K=>gg_none) ?_ ?_
 ·rintro f ⟨b,a,j,i,d⟩ K hG
  refine ro (fun R=>(cnd (aq (d<i))
 (cnd (aq (0<=d/\d<↑b))
 (cnd (m101 (a.ss d.toNat 0) (a.ii d.toNat 1) (a.ii d.toNat 2) j)
 (R (XE.ret) [V Z d] [])
 (R (XE.normal) [.ro [.str,W Z,W Z] b a,.fn 101 [.rp [.str] j 0 0],V Z i,V Z (Z.wrap (d+1))] []))
  False)
 (R (XE.exit 0) [.any] []))) (fun R=>by kernel_rfl) ?_
  exact ch hG (fun h0=>cg h0 fun h1=>ch h1 (fun h2=>h2.2) (fun h2=>⟨(_,_,_,_,_),rfl,rfl,h2⟩)) (fun h0=>h0.2)
 ·intro s k h
  unfold g112c101_0 at h
  split at h <;> try exact h.elim
  rename_i e1
  rw [needs_iff] at h
  exact ⟨_,e1,_,(_,_,_,_,_),rfl,rfl,h.1 _ (List.mem_singleton.2 rfl),h.2⟩
def m112c101(g:Nat)(l da1c0:Dat):Int :=
 (cond ((o112c101_0 g l da1c0 (g:Int) 0).getD ax).1 ((o112c101_0 g l da1c0 (g:Int) 0).getD ax).2.1 (-1))
def n112c101(g:Nat)(l da1c0:Dat):Bool :=
 (((o112c101_0 g l da1c0 (g:Int) 0).isSome)&&aj)
def q112c101(r:Int):SV × List Blk × List Blk:=(V Z r,[],[])
def g112c101:GF:=fun vs bs=>match vs,bs with
 | [.ro [.str,W Z,W Z] g l,.fn 101 [.rp [.str] da1c0 0 0]],[]=>ak (rs 0 (q112c101 (m112c101 g l da1c0)) [n112c101 g l da1c0])
 | _,_=>aw
def c112c101:Ctr:=genC [.ro [.str,W Z,W Z],.f [.rp [.str]]] g112c101
theorem k112c101:CtrOk Try.prog c112c101 112:=cx (tc k101 tn) mix_ok 8 (fn:=Try.f112) (c:=(Try.f112.body.getD .skip)) (grs:=[]) (rh:=.k) Try.func112 rfl (by kernel_rfl) (lam_of rfl (lc z112c101_0 ln)) fun vs bs q h hn=>by
 unfold g112c101 at h
 split at h <;> cases h
 rename_i g l da1c0
 have hn:=n1 hn
 exact ⟨_,rfl,ca (fun R=>(cnd ((o112c101_0 g l da1c0 (g:Int) 0).isSome)
 (cnd ((o112c101_0 g l da1c0 (g:Int) 0).getD ax).1
 (R (V Z ((o112c101_0 g l da1c0 (g:Int) 0).getD ax).2.1) [] [])
 (R (V Z (-1)) [] []))
 False)) (fun R=>by kernel_rfl) (cn (al hn) (co (fun h0=>lf (cT h0 rfl) rfl) (fun h0=>lf (cF h0 rfl) rfl)))⟩
/-! ### slices.IndexFunc[[]shotline/api.KitRule,shotline/api.KitRule] -/
def l128c114_0(b:Nat)(a j:Dat)(i:Int):Nat->Int->Option (Bool × (Int) × (Unit))
 | 0,_=>aw
 | f+1,d=>(cond (aq (d<i)) (cond (aq (0<=d/\d<↑b)) (cond (m114 (a.ss d.toNat 0) (a.ii d.toNat 1) (a.ii d.toNat 2) (a.ii d.toNat 3) j) (ak (aj,d,ax)) (l128c114_0 b a j i f (Z.wrap (d+1)))) aw) (ak (az,ax,())))
abbrev o128c114_0(b:Nat)(a j:Dat)(i d:Int):Option (Bool × (Int) × (Unit)):=l128c114_0 b a j i (b+i.toNat+d.toNat+8) d
def e128c114_0(b:Nat)(a j:Dat)(i:Int)(r:Bool × (Int) × (Unit))(K:XR):Prop:=cnd r.1 (K (XE.ret) [V Z r.2.1] []) (K (XE.exit 0) [.any] [])
def g128c114_0:LSum:=fun s k=>match czv 0 19 [0,1,7,8] 0 [] s with
 | ak ([.ro [.str,W Z,W Z,W Z] b a,.fn 114 [.rp [.str] j 0 0],V Z i,V Z d],[])=>needs [(o128c114_0 b a j i d).isSome] (e128c114_0 b a j i ((o128c114_0 b a j i d).getD ax) fun e vs bs=>inBlk 0 k e (mkSt 0 19 [4] vs 0 bs))
 | _=>False
theorem z128c114_0:LOk Try.prog g128c114_0 (.block 0 (bodyAt (Try.f128.body.getD .skip) 0)):=by
 refine lb (ι:=Nat × Dat × Dat × Int × Int) (fuel:=8) (na:=0) (nt:=19) (nx:=0) (Lh:=[0,1,7,8]) (Le:=[4]) (gl:=[]) (tc k114 tn) mix_ok noLam rfl (fun f (b,a,j,i,d) K=>GG ax (e128c114_0 b a j i) K (l128c114_0 b a j i f d)) (fun (b,a,j,i,d)=>[.ro [.str,W Z,W Z,W Z] b a,.fn 114 [.rp [.str] j 0 0],V Z i,V Z d]) (fun (b,a,j,i,d)=>[]) (fun (_,_,_,_,_) K=>gg_none) ?_ ?_
 ·rintro f ⟨b,a,j,i,d⟩ K hG
  refine ro (fun R=>(cnd (aq (d<i))
 (cnd (aq (0<=d/\d<↑b))
 (cnd (m114 (a.ss d.toNat 0) (a.ii d.toNat 1) (a.ii d.toNat 2) (a.ii d.toNat 3) j)
 (R (XE.ret) [V Z d] [])
 (R (XE.normal) [.ro [.str,W Z,W Z,W Z] b a,.fn 114 [.rp [.str] j 0 0],V Z i,V Z (Z.wrap (d+1))] []))
  False)
 (R (XE.exit 0) [.any] []))) (fun R=>by kernel_rfl) ?_
  exact ch hG (fun h0=>cg h0 fun h1=>ch h1 (fun h2=>h2.2) (fun h2=>⟨(_,_,_,_,_),rfl,rfl,h2⟩)) (fun h0=>h0.2)
 ·intro s k h
  unfold g128c114_0 at h
  split at h <;> try exact h.elim
  rename_i e1
  rw [needs_iff] at h
  exact ⟨_,e1,_,(_,_,_,_,_),rfl,rfl,h.1 _ (List.mem_singleton.2 rfl),h.2⟩
def m128c114(g:Nat)(l da1c0:Dat):Int :=
 (cond ((o128c114_0 g l da1c0 (g:Int) 0).getD ax).1 ((o128c114_0 g l da1c0 (g:Int) 0).getD ax).2.1 (-1))
def n128c114(g:Nat)(l da1c0:Dat):Bool :=
 (((o128c114_0 g l da1c0 (g:Int) 0).isSome)&&aj)
def q128c114(r:Int):SV × List Blk × List Blk:=(V Z r,[],[])
def g128c114:GF:=fun vs bs=>match vs,bs with
 | [.ro [.str,W Z,W Z,W Z] g l,.fn 114 [.rp [.str] da1c0 0 0]],[]=>ak (rs 0 (q128c114 (m128c114 g l da1c0)) [n128c114 g l da1c0])
 | _,_=>aw
def c128c114:Ctr:=genC [.ro [.str,W Z,W Z,W Z],.f [.rp [.str]]] g128c114
theorem k128c114:CtrOk Try.prog c128c114 128:=cx (tc k114 tn) mix_ok 8 (fn:=Try.f128) (c:=(Try.f128.body.getD .skip)) (grs:=[]) (rh:=.k) Try.func128 rfl (by kernel_rfl) (lam_of rfl (lc z128c114_0 ln)) fun vs bs q h hn=>by
 unfold g128c114 at h
 split at h <;> cases h
 rename_i g l da1c0
 have hn:=n1 hn
 exact ⟨_,rfl,ca (fun R=>(cnd ((o128c114_0 g l da1c0 (g:Int) 0).isSome)
 (cnd ((o128c114_0 g l da1c0 (g:Int) 0).getD ax).1
 (R (V Z ((o128c114_0 g l da1c0 (g:Int) 0).getD ax).2.1) [] [])
 (R (V Z (-1)) [] []))
 False)) (fun R=>by kernel_rfl) (cn (al hn) (co (fun h0=>lf (cT h0 rfl) rfl) (fun h0=>lf (cF h0 rfl) rfl)))⟩
/-! ### shotline/shotlineref07.Item -/
def l23_0(p:ByteArray)(b:Nat)(d:Dat)(g:Nat)(i:Dat):Nat->Int->Option (Bool × (Int) × (Unit))
 | 0,_=>aw
 | f+1,o=>(cond (aq (o<(b:Int))) (cond (aq (0<=o/\o<↑b)) (cond (aq ((d.ss o.toNat 0)=p)) (ak (aj,o,ax)) (l23_0 p b d g i f (Z.wrap (o+1)))) aw) (ak (az,ax,())))
abbrev o23_0(p:ByteArray)(b:Nat)(d:Dat)(g:Nat)(i:Dat)(o:Int):Option (Bool × (Int) × (Unit)):=l23_0 p b d g i (p.size+o.toNat+b+g+8) o
def e23_0(p:ByteArray)(b:Nat)(d:Dat)(g:Nat)(i:Dat)(r:Bool × (Int) × (Unit))(K:XR):Prop:=cnd r.1 (K (XE.ret) [V Z r.2.1] [.cells 25 [.ro [.str,W Z,W Z] b d,.ro [.str,W Z,W Z,W Z] g i]]) (K (XE.exit 0) [.any] [.cells 25 [.ro [.str,W Z,W Z] b d,.ro [.str,W Z,W Z,W Z] g i]])
def g23_0:LSum:=fun s k=>match czv 0 22 [1,2,5] 1 [] s with
 | ak ([.str p,.ptr 0 0,V Z o],[.cells 25 [.ro [.str,W Z,W Z] b d,.ro [.str,W Z,W Z,W Z] g i]])=>needs [(o23_0 p b d g i o).isSome] (e23_0 p b d g i ((o23_0 p b d g i o).getD ax) fun e vs bs=>inBlk 0 k e (mkSt 0 22 [4] vs 1 bs))
 | _=>False
theorem z23_0:LOk Try.prog g23_0 (.block 0 (bodyAt (Try.f23.body.getD .skip) 0)):=by
 refine lb (ι:=ByteArray × Int × Nat × Dat × Nat × Dat) (fuel:=8) (na:=0) (nt:=22) (nx:=1) (Lh:=[1,2,5]) (Le:=[4]) (gl:=[]) tn mix_ok noLam rfl (fun f (p,o,b,d,g,i) K=>GG ax (e23_0 p b d g i) K (l23_0 p b d g i f o)) (fun (p,o,b,d,g,i)=>[.str p,.ptr 0 0,V Z o]) (fun (p,o,b,d,g,i)=>[.cells 25 [.ro [.str,W Z,W Z] b d,.ro [.str,W Z,W Z,W Z] g i]]) (fun (_,_,_,_,_,_) K=>gg_none) ?_ ?_
 ·rintro f ⟨p,o,b,d,g,i⟩ K hG
  refine ro (fun R=>(cnd (aq (o<(b:Int)))
 (cnd (aq (0<=o/\o<↑b))
 (cnd (aq ((d.ss o.toNat 0)=p))
 (R (XE.ret) [V Z o] [.cells 25 [.ro [.str,W Z,W Z] b d,.ro [.str,W Z,W Z,W Z] g i]])
 (R (XE.normal) [.str p,.ptr 0 0,V Z (Z.wrap (o+1))] [.cells 25 [.ro [.str,W Z,W Z] b d,.ro [.str,W Z,W Z,W Z] g i]]))
  False)
 (R (XE.exit 0) [.any] [.cells 25 [.ro [.str,W Z,W Z] b d,.ro [.str,W Z,W Z,W Z] g i]]))) (fun R=>by kernel_rfl) ?_
  exact ch hG (fun h0=>cg h0 fun h1=>ch h1 (fun h2=>h2.2) (fun h2=>⟨(_,_,_,_,_,_),rfl,rfl,h2⟩)) (fun h0=>h0.2)
 ·intro s k h
  unfold g23_0 at h
  split at h <;> try exact h.elim
  rename_i e1
  rw [needs_iff] at h
  exact ⟨_,e1,_,(_,_,_,_,_,_),rfl,rfl,h.1 _ (List.mem_singleton.2 rfl),h.2⟩
def m23(j:Nat)(l:Dat)(m:Nat)(n:Dat)(t:ByteArray):Int :=
 (cond ((o23_0 t j l m n 0).getD ax).1 ((o23_0 t j l m n 0).getD ax).2.1 (-1))
def n23(j:Nat)(l:Dat)(m:Nat)(n:Dat)(t:ByteArray):Bool :=
 (((o23_0 t j l m n 0).isSome)&&aj)
def q23(r:Int):SV × List Blk × List Blk:=(V Z r,[],[])
def g23:GF:=fun vs bs=>match vs,bs with
 | [.agg [.ro [.str,W Z,W Z] j l,.ro [.str,W Z,W Z,W Z] m n],.str t],[]=>ak (rs 0 (q23 (m23 j l m n t)) [n23 j l m n t])
 | _,_=>aw
def c23:Ctr:=genC [.a [.ro [.str,W Z,W Z],.ro [.str,W Z,W Z,W Z]],.k] g23
theorem k23:CtrOk Try.prog c23 23:=cx tn mix_ok 8 (fn:=Try.f23) (c:=(Try.f23.body.getD .skip)) (grs:=[]) (rh:=.k) Try.func23 rfl (by kernel_rfl) (lam_of rfl (lc z23_0 ln)) fun vs bs q h hn=>by
 unfold g23 at h
 split at h <;> cases h
 rename_i j l m n t
 have hn:=n1 hn
 exact ⟨_,rfl,ca (fun R=>(cnd ((o23_0 t j l m n 0).isSome)
 (cnd ((o23_0 t j l m n 0).getD ax).1
 (R (V Z ((o23_0 t j l m n 0).getD ax).2.1) [] [])
 (R (V Z (-1)) [] []))
 False)) (fun R=>by kernel_rfl) (cn (al hn) (co (fun h0=>lf (cT h0 rfl) rfl) (fun h0=>lf (cF h0 rfl) rfl)))⟩
/-! ### shotline/shotlineref07.Rule -/
def l96_0(p:ByteArray)(g:Nat)(i:Dat)(b:Nat)(d:Dat):Nat->Int->Option (Bool × (Int) × (Unit))
 | 0,_=>aw
 | f+1,o=>(cond (aq (o<(b:Int))) (cond (aq (0<=o/\o<↑b)) (cond (aq ((d.ss o.toNat 0)=p)) (ak (aj,o,ax)) (l96_0 p g i b d f (Z.wrap (o+1)))) aw) (ak (az,ax,())))
abbrev o96_0(p:ByteArray)(g:Nat)(i:Dat)(b:Nat)(d:Dat)(o:Int):Option (Bool × (Int) × (Unit)):=l96_0 p g i b d (p.size+o.toNat+g+b+8) o
def e96_0(p:ByteArray)(g:Nat)(i:Dat)(b:Nat)(d:Dat)(r:Bool × (Int) × (Unit))(K:XR):Prop:=cnd r.1 (K (XE.ret) [V Z r.2.1] [.cells 25 [.ro [.str,W Z,W Z] g i,.ro [.str,W Z,W Z,W Z] b d]]) (K (XE.exit 0) [.any] [.cells 25 [.ro [.str,W Z,W Z] g i,.ro [.str,W Z,W Z,W Z] b d]])
def g96_0:LSum:=fun s k=>match czv 0 22 [1,2,5] 1 [] s with
 | ak ([.str p,.ptr 0 0,V Z o],[.cells 25 [.ro [.str,W Z,W Z] g i,.ro [.str,W Z,W Z,W Z] b d]])=>needs [(o96_0 p g i b d o).isSome] (e96_0 p g i b d ((o96_0 p g i b d o).getD ax) fun e vs bs=>inBlk 0 k e (mkSt 0 22 [4] vs 1 bs))
 | _=>False
theorem z96_0:LOk Try.prog g96_0 (.block 0 (bodyAt (Try.f96.body.getD .skip) 0)):=by
 refine lb (ι:=ByteArray × Int × Nat × Dat × Nat × Dat) (fuel:=8) (na:=0) (nt:=22) (nx:=1) (Lh:=[1,2,5]) (Le:=[4]) (gl:=[]) tn mix_ok noLam rfl (fun f (p,o,g,i,b,d) K=>GG ax (e96_0 p g i b d) K (l96_0 p g i b d f o)) (fun (p,o,g,i,b,d)=>[.str p,.ptr 0 0,V Z o]) (fun (p,o,g,i,b,d)=>[.cells 25 [.ro [.str,W Z,W Z] g i,.ro [.str,W Z,W Z,W Z] b d]]) (fun (_,_,_,_,_,_) K=>gg_none) ?_ ?_
 ·rintro f ⟨p,o,g,i,b,d⟩ K hG
  refine ro (fun R=>(cnd (aq (o<(b:Int)))
 (cnd (aq (0<=o/\o<↑b))
 (cnd (aq ((d.ss o.toNat 0)=p))
 (R (XE.ret) [V Z o] [.cells 25 [.ro [.str,W Z,W Z] g i,.ro [.str,W Z,W Z,W Z] b d]])
 (R (XE.normal) [.str p,.ptr 0 0,V Z (Z.wrap (o+1))] [.cells 25 [.ro [.str,W Z,W Z] g i,.ro [.str,W Z,W Z,W Z] b d]]))
  False)
 (R (XE.exit 0) [.any] [.cells 25 [.ro [.str,W Z,W Z] g i,.ro [.str,W Z,W Z,W Z] b d]]))) (fun R=>by kernel_rfl) ?_
  exact ch hG (fun h0=>cg h0 fun h1=>ch h1 (fun h2=>h2.2) (fun h2=>⟨(_,_,_,_,_,_),rfl,rfl,h2⟩)) (fun h0=>h0.2)
 ·intro s k h
  unfold g96_0 at h
  split at h <;> try exact h.elim
  rename_i e1
  rw [needs_iff] at h
  exact ⟨_,e1,_,(_,_,_,_,_,_),rfl,rfl,h.1 _ (List.mem_singleton.2 rfl),h.2⟩
def m96(j:Nat)(l:Dat)(m:Nat)(n:Dat)(t:ByteArray):Int :=
 (cond ((o96_0 t j l m n 0).getD ax).1 ((o96_0 t j l m n 0).getD ax).2.1 (-1))
def n96(j:Nat)(l:Dat)(m:Nat)(n:Dat)(t:ByteArray):Bool :=
 (((o96_0 t j l m n 0).isSome)&&aj)
def q96(r:Int):SV × List Blk × List Blk:=(V Z r,[],[])
def g96:GF:=fun vs bs=>match vs,bs with
 | [.agg [.ro [.str,W Z,W Z] j l,.ro [.str,W Z,W Z,W Z] m n],.str t],[]=>ak (rs 0 (q96 (m96 j l m n t)) [n96 j l m n t])
 | _,_=>aw
def c96:Ctr:=genC [.a [.ro [.str,W Z,W Z],.ro [.str,W Z,W Z,W Z]],.k] g96
theorem k96:CtrOk Try.prog c96 96:=cx tn mix_ok 8 (fn:=Try.f96) (c:=(Try.f96.body.getD .skip)) (grs:=[]) (rh:=.k) Try.func96 rfl (by kernel_rfl) (lam_of rfl (lc z96_0 ln)) fun vs bs q h hn=>by
 unfold g96 at h
 split at h <;> cases h
 rename_i j l m n t
 have hn:=n1 hn
 exact ⟨_,rfl,ca (fun R=>(cnd ((o96_0 t j l m n 0).isSome)
 (cnd ((o96_0 t j l m n 0).getD ax).1
 (R (V Z ((o96_0 t j l m n 0).getD ax).2.1) [] [])
 (R (V Z (-1)) [] []))
 False)) (fun R=>by kernel_rfl) (cn (al hn) (co (fun h0=>lf (cT h0 rfl) rfl) (fun h0=>lf (cF h0 rfl) rfl)))⟩
/-! ### shotline/shotlineref07.LastOf -/
def l69_0(g:Nat)(d:Dat)(A C:Int)(i:Nat)(l:Dat)(j:Nat)(m:Dat)(n o:Int)(t:Bool):Nat->Int->Int->Int->Bool->Option (Int × Int × Bool)
 | 0,_,_,_,_=>aw
 | f+1,b,u,v,w=>(cond (aq (b<(g:Int))) (cond (aq (0<=b/\b<↑g)) (cond (aq (0<=A/\A<↑i)) (cond (cond (aq ((d.ss b.toNat 2)=(l.ss A.toNat 0))) az aj) (l69_0 g d A C i l j m n o t f (Z.wrap (b+1)) u v w) (cond (aq (0<=b/\b<↑g)) (cond (bif (cond (aq ((d.ii b.toNat 0)=0)) az aj) then aj else (aq (0<=b/\b<↑g))) (cond (bif (cond (aq ((d.ii b.toNat 0)=0)) az aj) then aj else (aq (0<=C/\C<↑j))) (cond (bif (aq ((d.ii b.toNat 0)=0)) then (aq ((d.ss b.toNat 3)=(m.ss C.toNat 0))) else az) (cond (aq (0<=b/\b<↑g)) (cond (aq (0<=b/\b<↑g)) (cond (aq (0<=b/\b<↑g)) (cond (aq ((d.ii b.toNat 0)=1)) (l69_0 g d A C i l j m n o t f (Z.wrap (b+1)) (d.ii b.toNat 1) 1 (d.3 b.toNat (0+1+1+1+1+1))) (l69_0 g d A C i l j m n o t f (Z.wrap (b+1)) (d.ii b.toNat 1) 0 (d.3 b.toNat (0+1+1+1+1+1)))) aw) aw) aw) (cond (aq (0<=b/\b<↑g)) (cond (aq ((d.ii b.toNat 0)=1)) (l69_0 g d A C i l j m n o t f (Z.wrap (b+1)) u (Z.wrap (v+1)) w) (l69_0 g d A C i l j m n o t f (Z.wrap (b+1)) u v w)) aw)) aw) aw) aw)) aw) aw) (ak (u,v,w)))
abbrev o69_0(g:Nat)(d:Dat)(A C:Int)(i:Nat)(l:Dat)(j:Nat)(m:Dat)(n o:Int)(t:Bool)(b u v:Int)(w:Bool):Option (Int × Int × Bool):=l69_0 g d A C i l j m n o t (g+A.toNat+C.toNat+b.toNat+i+j+n.toNat+o.toNat+u.toNat+v.toNat+8) b u v w
def e69_0(g:Nat)(d:Dat)(A C:Int)(i:Nat)(l:Dat)(j:Nat)(m:Dat)(n o:Int)(t:Bool)(r:Int × Int × Bool)(K:XR):Prop:=K (XE.exit 0) [.ptr 1 0,.ptr 2 0] [.cells 25 [.ro [.str,W Z,W Z] i l,.ro [.str,W Z,W Z,W Z] j m],.cells 117 [V Z n,V Z o,.bool t],.cells 117 [V Z r.1,V Z r.2.1,.bool r.2.2]]
def g69_0:LSum:=fun s k=>match czv 0 78 [1,2,3,4,8,9,10] 3 [] s with
 | ak ([.ro [W Z,W Z,.str,.str,.str,.bool] g d,V Z A,V Z C,.ptr 0 0,.ptr 1 0,.ptr 2 0,V Z b],[.cells 25 [.ro [.str,W Z,W Z] i l,.ro [.str,W Z,W Z,W Z] j m],.cells 117 [V Z n,V Z o,.bool t],.cells 117 [V Z u,V Z v,.bool w]])=>needs [(o69_0 g d A C i l j m n o t b u v w).isSome] (e69_0 g d A C i l j m n o t ((o69_0 g d A C i l j m n o t b u v w).getD ax) fun e vs bs=>inBlk 0 k e (mkSt 0 78 [8,9] vs 3 bs))
 | _=>False
theorem z69_0:LOk Try.prog g69_0 (.block 0 (bodyAt (Try.f69.body.getD .skip) 0)):=by
 refine lb (ι:=Nat × Dat × Int × Int × Int × Nat × Dat × Nat × Dat × Int × Int × Bool × Int × Int × Bool) (fuel:=8) (na:=0) (nt:=78) (nx:=3) (Lh:=[1,2,3,4,8,9,10]) (Le:=[8,9]) (gl:=[]) tn mix_ok noLam rfl (fun f (g,d,A,C,b,i,l,j,m,n,o,t,u,v,w) K=>GG ax (e69_0 g d A C i l j m n o t) K (l69_0 g d A C i l j m n o t f b u v w)) (fun (g,d,A,C,b,i,l,j,m,n,o,t,u,v,w)=>[.ro [W Z,W Z,.str,.str,.str,.bool] g d,V Z A,V Z C,.ptr 0 0,.ptr 1 0,.ptr 2 0,V Z b]) (fun (g,d,A,C,b,i,l,j,m,n,o,t,u,v,w)=>[.cells 25 [.ro [.str,W Z,W Z] i l,.ro [.str,W Z,W Z,W Z] j m],.cells 117 [V Z n,V Z o,.bool t],.cells 117 [V Z u,V Z v,.bool w]]) (fun (_,_,_,_,_,_,_,_,_,_,_,_,_,_,_) K=>gg_none) ?_ ?_
 ·rintro f ⟨g,d,A,C,b,i,l,j,m,n,o,t,u,v,w⟩ K hG
  refine ro (fun R => 
 let a0:=(aq (0<=b/\b<↑g))
 let b0:=(aq ((d.ii b.toNat 0)=0))
 (cnd (aq (b<(g:Int)))
 (cnd a0
 (cnd (aq (0<=A/\A<↑i))
 (cnd (cond (aq ((d.ss b.toNat 2)=(l.ss A.toNat 0))) az aj)
 (R (XE.normal) [.ro [W Z,W Z,.str,.str,.str,.bool] g d,V Z A,V Z C,.ptr 0 0,.ptr 1 0,.ptr 2 0,V Z (Z.wrap (b+1))] [.cells 25 [.ro [.str,W Z,W Z] i l,.ro [.str,W Z,W Z,W Z] j m],.cells 117 [V Z n,V Z o,.bool t],.cells 117 [V Z u,V Z v,.bool w]])
 (cnd a0
 (cnd (bif (cond b0 az aj) then aj else a0)
 (cnd (bif (cond b0 az aj) then aj else (aq (0<=C/\C<↑j)))
 (cnd (bif b0 then (aq ((d.ss b.toNat 3)=(m.ss C.toNat 0))) else az)
 (cnd a0
 (cnd a0
 (cnd a0
 (cnd (aq ((d.ii b.toNat 0)=1))
 (R (XE.normal) [.ro [W Z,W Z,.str,.str,.str,.bool] g d,V Z A,V Z C,.ptr 0 0,.ptr 1 0,.ptr 2 0,V Z (Z.wrap (b+1))] [.cells 25 [.ro [.str,W Z,W Z] i l,.ro [.str,W Z,W Z,W Z] j m],.cells 117 [V Z n,V Z o,.bool t],.cells 117 [V Z (d.ii b.toNat 1),V Z 1,.bool (d.3 b.toNat (0+1+1+1+1+1))]])
 (R (XE.normal) [.ro [W Z,W Z,.str,.str,.str,.bool] g d,V Z A,V Z C,.ptr 0 0,.ptr 1 0,.ptr 2 0,V Z (Z.wrap (b+1))] [.cells 25 [.ro [.str,W Z,W Z] i l,.ro [.str,W Z,W Z,W Z] j m],.cells 117 [V Z n,V Z o,.bool t],.cells 117 [V Z (d.ii b.toNat 1),V Z 0,.bool (d.3 b.toNat (0+1+1+1+1+1))]]))
      False)
      False)
     False)
 (cnd a0
 (cnd (aq ((d.ii b.toNat 0)=1))
 (R (XE.normal) [.ro [W Z,W Z,.str,.str,.str,.bool] g d,V Z A,V Z C,.ptr 0 0,.ptr 1 0,.ptr 2 0,V Z (Z.wrap (b+1))] [.cells 25 [.ro [.str,W Z,W Z] i l,.ro [.str,W Z,W Z,W Z] j m],.cells 117 [V Z n,V Z o,.bool t],.cells 117 [V Z u,V Z (Z.wrap (v+1)),.bool w]])
 (R (XE.normal) [.ro [W Z,W Z,.str,.str,.str,.bool] g d,V Z A,V Z C,.ptr 0 0,.ptr 1 0,.ptr 2 0,V Z (Z.wrap (b+1))] [.cells 25 [.ro [.str,W Z,W Z] i l,.ro [.str,W Z,W Z,W Z] j m],.cells 117 [V Z n,V Z o,.bool t],.cells 117 [V Z u,V Z v,.bool w]]))
     False))
    False)
    False)
   False))
  False)
  False)
 (R (XE.exit 0) [.ptr 1 0,.ptr 2 0] [.cells 25 [.ro [.str,W Z,W Z] i l,.ro [.str,W Z,W Z,W Z] j m],.cells 117 [V Z n,V Z o,.bool t],.cells 117 [V Z u,V Z v,.bool w]]))) (fun R=>by kernel_rfl) ?_
  exact ch hG (fun h0=>cg h0 fun h1=>cg h1 fun h2=>ch h2 (fun h3=>⟨(_,_,_,_,_,_,_,_,_,_,_,_,_,_,_),rfl,rfl,h3⟩) (fun h3=>cg h3 fun h4=>cg h4 fun h5=>cg h5 fun h6=>ch h6 (fun h7=>cg h7 fun h8=>cg h8 fun h9=>cg h9 fun h10=>ch h10 (fun h11=>⟨(_,_,_,_,_,_,_,_,_,_,_,_,_,_,_),rfl,rfl,h11⟩) (fun h11=>⟨(_,_,_,_,_,_,_,_,_,_,_,_,_,_,_),rfl,rfl,h11⟩)) (fun h7=>cg h7 fun h8=>ch h8 (fun h9=>⟨(_,_,_,_,_,_,_,_,_,_,_,_,_,_,_),rfl,rfl,h9⟩) (fun h9=>⟨(_,_,_,_,_,_,_,_,_,_,_,_,_,_,_),rfl,rfl,h9⟩)))) (fun h0=>h0.2)
 ·intro s k h
  unfold g69_0 at h
  split at h <;> try exact h.elim
  rename_i e1
  rw [needs_iff] at h
  exact ⟨_,e1,_,(_,_,_,_,_,_,_,_,_,_,_,_,_,_,_),rfl,rfl,h.1 _ (List.mem_singleton.2 rfl),h.2⟩
def m69(x:Nat)(p:Dat)(y:Nat)(z:Dat)(E:Nat)(F:Dat)(D G:Int):Int × Int × Bool :=
 (((o69_0 E F D G x p y z 0 0 az 0 (p.ii D.toNat 2) 0 aj).getD ax).1,((o69_0 E F D G x p y z 0 0 az 0 (p.ii D.toNat 2) 0 aj).getD ax).2.1,((o69_0 E F D G x p y z 0 0 az 0 (p.ii D.toNat 2) 0 aj).getD ax).2.2)
def n69(x:Nat)(p:Dat)(y:Nat)(z:Dat)(E:Nat)(F:Dat)(D G:Int):Bool :=
 ((aq (0<=D/\D<↑x))&&(((o69_0 E F D G x p y z 0 0 az 0 (p.ii D.toNat 2) 0 aj).isSome)&&aj))
def q69(r:Int × Int × Bool):SV × List Blk × List Blk:=(.agg [V Z r.1,V Z r.2.1,.bool r.2.2],[],[])
def g69:GF:=fun vs bs=>match vs,bs with
 | [.agg [.ro [.str,W Z,W Z] x p,.ro [.str,W Z,W Z,W Z] y z],.ro [W Z,W Z,.str,.str,.str,.bool] E F,V Z D,V Z G],[]=>ak (rs 0 (q69 (m69 x p y z E F D G)) [n69 x p y z E F D G])
 | _,_=>aw
def c69:Ctr:=genC [.a [.ro [.str,W Z,W Z],.ro [.str,W Z,W Z,W Z]],.ro [W Z,W Z,.str,.str,.str,.bool],.k,.k] g69
theorem k69:CtrOk Try.prog c69 69:=cx tn mix_ok 8 (fn:=Try.f69) (c:=(Try.f69.body.getD .skip)) (grs:=[]) (rh:=.k) Try.func69 rfl (by kernel_rfl) (lam_of rfl (lc z69_0 ln)) fun vs bs q h hn=>by
 unfold g69 at h
 split at h <;> cases h
 rename_i x p y z E F D G
 have hn:=n1 hn
 exact ⟨_,rfl,ca (fun R=>(cnd (aq (0<=D/\D<↑x))
 (cnd ((o69_0 E F D G x p y z 0 0 az 0 (p.ii D.toNat 2) 0 aj).isSome)
 (R (.agg [V Z ((o69_0 E F D G x p y z 0 0 az 0 (p.ii D.toNat 2) 0 aj).getD ax).1,V Z ((o69_0 E F D G x p y z 0 0 az 0 (p.ii D.toNat 2) 0 aj).getD ax).2.1,.bool ((o69_0 E F D G x p y z 0 0 az 0 (p.ii D.toNat 2) 0 aj).getD ax).2.2]) [] [])
  False)
 False)) (fun R=>by kernel_rfl) (cn (al hn) (cn (al (ar hn)) (lf rfl rfl)))⟩
/-! ### shotline/shotlineref07.Present -/
def l46_0(b:Nat)(a:Dat)(g:ByteArray):Nat->Int->Bool->Int->Option (Int × Bool)
 | 0,_,_,_=>aw
 | f+1,i,m,d=>(cond (aq (d<(b:Int))) (cond (aq (0<=d/\d<↑b)) (cond (bif (cond (aq ((a.ii d.toNat 0)=4)) az aj) then aj else (aq (0<=d/\d<↑b))) (cond (bif (aq ((a.ii d.toNat 0)=4)) then (aq ((a.ss d.toNat 2)=g)) else az) (cond (aq (0<=d/\d<↑b)) (cond (aq (0<=d/\d<↑b)) (cond (a.3 d.toNat (0+1+1+1+1+1)) (l46_0 b a g f (Z.wrap (i+1)) (cond (a.3 d.toNat (0+1+1+1+1+1)) az aj) (Z.wrap (d+1))) (l46_0 b a g f i (cond (a.3 d.toNat (0+1+1+1+1+1)) az aj) (Z.wrap (d+1)))) aw) aw) (l46_0 b a g f i m (Z.wrap (d+1)))) aw) aw) (ak (i,m)))
abbrev o46_0(b:Nat)(a:Dat)(g:ByteArray)(i:Int)(m:Bool)(d:Int):Option (Int × Bool):=l46_0 b a g (b+g.size+i.toNat+d.toNat+8) i m d
def e46_0(b:Nat)(a:Dat)(g:ByteArray)(r:Int × Bool)(K:XR):Prop:=K (XE.exit 0) [V Z r.1,.bool r.2] []
def g46_0:LSum:=fun s k=>match czv 0 45 [0,1,6,7,8] 0 [] s with
 | ak ([.ro [W Z,W Z,.str,.str,.str,.bool] b a,.str g,V Z i,.bool m,V Z d],[])=>needs [(o46_0 b a g i m d).isSome] (e46_0 b a g ((o46_0 b a g i m d).getD ax) fun e vs bs=>inBlk 0 k e (mkSt 0 45 [6,7] vs 0 bs))
 | _=>False
theorem z46_0:LOk Try.prog g46_0 (.block 0 (bodyAt (Try.f46.body.getD .skip) 0)):=by
 refine lb (ι:=Nat × Dat × ByteArray × Int × Bool × Int) (fuel:=8) (na:=0) (nt:=45) (nx:=0) (Lh:=[0,1,6,7,8]) (Le:=[6,7]) (gl:=[]) tn mix_ok noLam rfl (fun f (b,a,g,i,m,d) K=>GG ax (e46_0 b a g) K (l46_0 b a g f i m d)) (fun (b,a,g,i,m,d)=>[.ro [W Z,W Z,.str,.str,.str,.bool] b a,.str g,V Z i,.bool m,V Z d]) (fun (b,a,g,i,m,d)=>[]) (fun (_,_,_,_,_,_) K=>gg_none) ?_ ?_
 ·rintro f ⟨b,a,g,i,m,d⟩ K hG
  refine ro (fun R => 
 let a0:=(aq (0<=d/\d<↑b))
 let b0:=(a.3 d.toNat (0+1+1+1+1+1))
 (cnd (aq (d<(b:Int)))
 (cnd a0
 (cnd (bif (cond (aq ((a.ii d.toNat 0)=4)) az aj) then aj else a0)
 (cnd (bif (aq ((a.ii d.toNat 0)=4)) then (aq ((a.ss d.toNat 2)=g)) else az)
 (cnd a0
 (cnd a0
 (cnd b0
 (R (XE.normal) [.ro [W Z,W Z,.str,.str,.str,.bool] b a,.str g,V Z (Z.wrap (i+1)),.bool (cond b0 az aj),V Z (Z.wrap (d+1))] [])
 (R (XE.normal) [.ro [W Z,W Z,.str,.str,.str,.bool] b a,.str g,V Z i,.bool (cond b0 az aj),V Z (Z.wrap (d+1))] []))
    False)
   False)
 (R (XE.normal) [.ro [W Z,W Z,.str,.str,.str,.bool] b a,.str g,V Z i,.bool m,V Z (Z.wrap (d+1))] []))
  False)
  False)
 (R (XE.exit 0) [V Z i,.bool m] []))) (fun R=>by kernel_rfl) ?_
  exact ch hG (fun h0=>cg h0 fun h1=>cg h1 fun h2=>ch h2 (fun h3=>cg h3 fun h4=>cg h4 fun h5=>ch h5 (fun h6=>⟨(_,_,_,_,_,_),rfl,rfl,h6⟩) (fun h6=>⟨(_,_,_,_,_,_),rfl,rfl,h6⟩)) (fun h3=>⟨(_,_,_,_,_,_),rfl,rfl,h3⟩)) (fun h0=>h0.2)
 ·intro s k h
  unfold g46_0 at h
  split at h <;> try exact h.elim
  rename_i e1
  rw [needs_iff] at h
  exact ⟨_,e1,_,(_,_,_,_,_,_),rfl,rfl,h.1 _ (List.mem_singleton.2 rfl),h.2⟩
def m46(j:Nat)(l:Dat)(n:ByteArray):Int × Bool :=
 (((o46_0 j l n 0 az 0).getD ax).1,((o46_0 j l n 0 az 0).getD ax).2)
def n46(j:Nat)(l:Dat)(n:ByteArray):Bool :=
 (((o46_0 j l n 0 az 0).isSome)&&aj)
def q46(r:Int × Bool):SV × List Blk × List Blk:=(.tup [V Z r.1,.bool r.2],[],[])
def g46:GF:=fun vs bs=>match vs,bs with
 | [.ro [W Z,W Z,.str,.str,.str,.bool] j l,.str n],[]=>ak (rs 0 (q46 (m46 j l n)) [n46 j l n])
 | _,_=>aw
def c46:Ctr:=genC [.ro [W Z,W Z,.str,.str,.str,.bool],.k] g46
theorem k46:CtrOk Try.prog c46 46:=cx tn mix_ok 8 (fn:=Try.f46) (c:=(Try.f46.body.getD .skip)) (grs:=[]) (rh:=.k) Try.func46 rfl (by kernel_rfl) (lam_of rfl (lc z46_0 ln)) fun vs bs q h hn=>by
 unfold g46 at h
 split at h <;> cases h
 rename_i j l n
 have hn:=n1 hn
 exact ⟨_,rfl,ca (fun R=>(cnd ((o46_0 j l n 0 az 0).isSome)
 (R (.tup [V Z ((o46_0 j l n 0 az 0).getD ax).1,.bool ((o46_0 j l n 0 az 0).getD ax).2]) [] [])
 False)) (fun R=>by kernel_rfl) (cn (al hn) (lf rfl rfl))⟩
/-! ### shotline/shotlineref07.has -/
def l70_0(d:Nat)(g:Dat)(a:ByteArray)(b:Int):Nat->Int->Option (Bool × (Bool) × (Unit))
 | 0,_=>aw
 | f+1,i=>(cond (aq (i<(d:Int))) (cond (aq (0<=i/\i<↑d)) (cond (bif (aq ((g.ss i.toNat 0)=a)) then (bif (aq ((g.ii i.toNat 1)=b)) then aj else az) else az) (ak (aj,aj,ax)) (l70_0 d g a b f (Z.wrap (i+1)))) aw) (ak (az,ax,())))
abbrev o70_0(d:Nat)(g:Dat)(a:ByteArray)(b i:Int):Option (Bool × (Bool) × (Unit)):=l70_0 d g a b (d+i.toNat+a.size+b.toNat+8) i
def e70_0(d:Nat)(g:Dat)(a:ByteArray)(b:Int)(r:Bool × (Bool) × (Unit))(K:XR):Prop:=cnd r.1 (K (XE.ret) [.bool r.2.1] [.cells 47 [.str a,V Z b]]) (K (XE.exit 0) [.any] [.cells 47 [.str a,V Z b]])
def g70_0:LSum:=fun s k=>match czv 0 18 [0,3,5] 1 [] s with
 | ak ([.ro [.str,W Z] d g,.ptr 0 0,V Z i],[.cells 47 [.str a,V Z b]])=>needs [(o70_0 d g a b i).isSome] (e70_0 d g a b ((o70_0 d g a b i).getD ax) fun e vs bs=>inBlk 0 k e (mkSt 0 18 [4] vs 1 bs))
 | _=>False
theorem z70_0:LOk Try.prog g70_0 (.block 0 (bodyAt (Try.f70.body.getD .skip) 0)):=by
 refine lb (ι:=Nat × Dat × Int × ByteArray × Int) (fuel:=8) (na:=0) (nt:=18) (nx:=1) (Lh:=[0,3,5]) (Le:=[4]) (gl:=[]) tn mix_ok noLam rfl (fun f (d,g,i,a,b) K=>GG ax (e70_0 d g a b) K (l70_0 d g a b f i)) (fun (d,g,i,a,b)=>[.ro [.str,W Z] d g,.ptr 0 0,V Z i]) (fun (d,g,i,a,b)=>[.cells 47 [.str a,V Z b]]) (fun (_,_,_,_,_) K=>gg_none) ?_ ?_
 ·rintro f ⟨d,g,i,a,b⟩ K hG
  refine ro (fun R=>(cnd (aq (i<(d:Int)))
 (cnd (aq (0<=i/\i<↑d))
 (cnd (bif (aq ((g.ss i.toNat 0)=a)) then (bif (aq ((g.ii i.toNat 1)=b)) then aj else az) else az)
 (R (XE.ret) [.bool aj] [.cells 47 [.str a,V Z b]])
 (R (XE.normal) [.ro [.str,W Z] d g,.ptr 0 0,V Z (Z.wrap (i+1))] [.cells 47 [.str a,V Z b]]))
  False)
 (R (XE.exit 0) [.any] [.cells 47 [.str a,V Z b]]))) (fun R=>by kernel_rfl) ?_
  exact ch hG (fun h0=>cg h0 fun h1=>ch h1 (fun h2=>h2.2) (fun h2=>⟨(_,_,_,_,_),rfl,rfl,h2⟩)) (fun h0=>h0.2)
 ·intro s k h
  unfold g70_0 at h
  split at h <;> try exact h.elim
  rename_i e1
  rw [needs_iff] at h
  exact ⟨_,e1,_,(_,_,_,_,_),rfl,rfl,h.1 _ (List.mem_singleton.2 rfl),h.2⟩
def m70(m:Nat)(n:Dat)(j:ByteArray)(l:Int):Bool :=
 (cond ((o70_0 m n j l 0).getD ax).1 ((o70_0 m n j l 0).getD ax).2.1 az)
def n70(m:Nat)(n:Dat)(j:ByteArray)(l:Int):Bool :=
 (((o70_0 m n j l 0).isSome)&&aj)
def q70(r:Bool):SV × List Blk × List Blk:=(.bool r,[],[])
def g70:GF:=fun vs bs=>match vs,bs with
 | [.ro [.str,W Z] m n,.agg [.str j,V Z l]],[]=>ak (rs 0 (q70 (m70 m n j l)) [n70 m n j l])
 | _,_=>aw
def c70:Ctr:=genC [.ro [.str,W Z],.k] g70
theorem k70:CtrOk Try.prog c70 70:=cx tn mix_ok 8 (fn:=Try.f70) (c:=(Try.f70.body.getD .skip)) (grs:=[]) (rh:=.k) Try.func70 rfl (by kernel_rfl) (lam_of rfl (lc z70_0 ln)) fun vs bs q h hn=>by
 unfold g70 at h
 split at h <;> cases h
 rename_i m n j l
 have hn:=n1 hn
 exact ⟨_,rfl,ca (fun R=>(cnd ((o70_0 m n j l 0).isSome)
 (cnd ((o70_0 m n j l 0).getD ax).1
 (R (.bool ((o70_0 m n j l 0).getD ax).2.1) [] [])
 (R (.bool az) [] []))
 False)) (fun R=>by kernel_rfl) (cn (al hn) (co (fun h0=>lf (cT h0 rfl) rfl) (fun h0=>lf (cF h0 rfl) rfl)))⟩
/-! ### cmp.Or[int] -/
def l99_0(i:Int)(b:Nat)(a:Dat)(j:Int):Nat->Int->Option (Bool × (Int) × (Unit))
 | 0,_=>aw
 | f+1,g=>(cond (aq (g<j)) (cond (aq (0<=g/\g<↑b)) (cond (cond (aq ((a.ii g.toNat 0)=i)) az aj) (ak (aj,(a.ii g.toNat 0),ax)) (l99_0 i b a j f (Z.wrap (g+1)))) aw) (ak (az,ax,())))
abbrev o99_0(i:Int)(b:Nat)(a:Dat)(j g:Int):Option (Bool × (Int) × (Unit)):=l99_0 i b a j (i.toNat+b+j.toNat+g.toNat+8) g
def e99_0(i:Int)(b:Nat)(a:Dat)(j:Int)(r:Bool × (Int) × (Unit))(K:XR):Prop:=cnd r.1 (K (XE.ret) [V Z r.2.1,V Z i] []) (K (XE.exit 0) [.any,V Z i] [])
def g99_0:LSum:=fun s k=>match czv 0 18 [3,6,7,8] 0 [] s with
 | ak ([V Z i,.ro [W Z] b a,V Z j,V Z g],[])=>needs [(o99_0 i b a j g).isSome] (e99_0 i b a j ((o99_0 i b a j g).getD ax) fun e vs bs=>inBlk 0 k e (mkSt 0 18 [2,3] vs 0 bs))
 | _=>False
theorem z99_0:LOk Try.prog g99_0 (.block 0 (bodyAt (Try.f99.body.getD .skip) 0)):=by
 refine lb (ι:=Int × Nat × Dat × Int × Int) (fuel:=8) (na:=0) (nt:=18) (nx:=0) (Lh:=[3,6,7,8]) (Le:=[2,3]) (gl:=[]) tn mix_ok noLam rfl (fun f (i,b,a,j,g) K=>GG ax (e99_0 i b a j) K (l99_0 i b a j f g)) (fun (i,b,a,j,g)=>[V Z i,.ro [W Z] b a,V Z j,V Z g]) (fun (i,b,a,j,g)=>[]) (fun (_,_,_,_,_) K=>gg_none) ?_ ?_
 ·rintro f ⟨i,b,a,j,g⟩ K hG
  refine ro (fun R=>(cnd (aq (g<j))
 (cnd (aq (0<=g/\g<↑b))
 (cnd (cond (aq ((a.ii g.toNat 0)=i)) az aj)
 (R (XE.ret) [V Z (a.ii g.toNat 0),V Z i] [])
 (R (XE.normal) [V Z i,.ro [W Z] b a,V Z j,V Z (Z.wrap (g+1))] []))
  False)
 (R (XE.exit 0) [.any,V Z i] []))) (fun R=>by kernel_rfl) ?_
  exact ch hG (fun h0=>cg h0 fun h1=>ch h1 (fun h2=>h2.2) (fun h2=>⟨(_,_,_,_,_),rfl,rfl,h2⟩)) (fun h0=>h0.2)
 ·intro s k h
  unfold g99_0 at h
  split at h <;> try exact h.elim
  rename_i e1
  rw [needs_iff] at h
  exact ⟨_,e1,_,(_,_,_,_,_),rfl,rfl,h.1 _ (List.mem_singleton.2 rfl),h.2⟩
def m99(d:Nat)(l:Dat):Int :=
 (cond ((o99_0 0 d l (d:Int) 0).getD ax).1 ((o99_0 0 d l (d:Int) 0).getD ax).2.1 0)
def n99(d:Nat)(l:Dat):Bool :=
 (((o99_0 0 d l (d:Int) 0).isSome)&&aj)
def q99(r:Int):SV × List Blk × List Blk:=(V Z r,[],[])
def g99:GF:=fun vs bs=>match vs,bs with
 | [.ro [W Z] d l],[]=>ak (rs 0 (q99 (m99 d l)) [n99 d l])
 | _,_=>aw
def c99:Ctr:=genC [.ro [W Z]] g99
theorem k99:CtrOk Try.prog c99 99:=cx tn mix_ok 8 (fn:=Try.f99) (c:=(Try.f99.body.getD .skip)) (grs:=[]) (rh:=.k) Try.func99 rfl (by kernel_rfl) (lam_of rfl (lc z99_0 ln)) fun vs bs q h hn=>by
 unfold g99 at h
 split at h <;> cases h
 rename_i d l
 have hn:=n1 hn
 exact ⟨_,rfl,ca (fun R=>(cnd ((o99_0 0 d l (d:Int) 0).isSome)
 (cnd ((o99_0 0 d l (d:Int) 0).getD ax).1
 (R (V Z ((o99_0 0 d l (d:Int) 0).getD ax).2.1) [] [])
 (R (V Z 0) [] []))
 False)) (fun R=>by kernel_rfl) (cn (al hn) (co (fun h0=>lf (cT h0 rfl) rfl) (fun h0=>lf (cF h0 rfl) rfl)))⟩
/-! ### shotline/kit.find[shotline/api.KitItem] -/
def m100c101(a:Nat)(b da1c0:Dat):Int :=
 (m112c101 a b da1c0)
def n100c101(a:Nat)(b da1c0:Dat):Bool :=
 ((n112c101 a b da1c0)&&aj)
def q100c101(r:Int):SV × List Blk × List Blk:=(V Z r,[],[])
def g100c101:GF:=fun vs bs=>match vs,bs with
 | [.ro [.str,W Z,W Z] a b,.fn 101 [.rp [.str] da1c0 0 0]],[]=>ak (rs 0 (q100c101 (m100c101 a b da1c0)) [n100c101 a b da1c0])
 | _,_=>aw
def c100c101:Ctr:=genC [.ro [.str,W Z,W Z],.f [.rp [.str]]] g100c101
theorem k100c101:CtrOk Try.prog c100c101 100:=cx (tc k101 (tc k112c101 tn)) mix_ok 8 (fn:=Try.f100) (c:=(Try.f100.body.getD .skip)) (grs:=[]) (rh:=.k) Try.func100 rfl (by kernel_rfl) noLam fun vs bs q h hn=>by
 unfold g100c101 at h
 split at h <;> cases h
 rename_i a b da1c0
 have hn:=n1 hn
 exact ⟨_,rfl,ca (fun R=>(cnd (n112c101 a b da1c0)
 (R (V Z (m112c101 a b da1c0)) [] [])
 False)) (fun R=>by kernel_rfl) (cn (al hn) (lf rfl rfl))⟩
/-! ### shotline/kit.find[shotline/api.KitRule] -/
def m113c114(a:Nat)(b da1c0:Dat):Int :=
 (m128c114 a b da1c0)
def n113c114(a:Nat)(b da1c0:Dat):Bool :=
 ((n128c114 a b da1c0)&&aj)
def q113c114(r:Int):SV × List Blk × List Blk:=(V Z r,[],[])
def g113c114:GF:=fun vs bs=>match vs,bs with
 | [.ro [.str,W Z,W Z,W Z] a b,.fn 114 [.rp [.str] da1c0 0 0]],[]=>ak (rs 0 (q113c114 (m113c114 a b da1c0)) [n113c114 a b da1c0])
 | _,_=>aw
def c113c114:Ctr:=genC [.ro [.str,W Z,W Z,W Z],.f [.rp [.str]]] g113c114
theorem k113c114:CtrOk Try.prog c113c114 113:=cx (tc k114 (tc k128c114 tn)) mix_ok 8 (fn:=Try.f113) (c:=(Try.f113.body.getD .skip)) (grs:=[]) (rh:=.k) Try.func113 rfl (by kernel_rfl) noLam fun vs bs q h hn=>by
 unfold g113c114 at h
 split at h <;> cases h
 rename_i a b da1c0
 have hn:=n1 hn
 exact ⟨_,rfl,ca (fun R=>(cnd (n128c114 a b da1c0)
 (R (V Z (m128c114 a b da1c0)) [] [])
 False)) (fun R=>by kernel_rfl) (cn (al hn) (lf rfl rfl))⟩
/-! ### shotline/shotlineref07.CheckSetup -/
def l66_0(g:Nat)(d:Dat)(i:Nat)(b:Dat):Nat->Int->Option (Bool × (Int) × (Unit))
 | 0,_=>aw
 | f+1,p=>(cond (aq (p<(g:Int))) (cond (aq (0<=p/\p<↑g)) (cond (n94 (d.ss p.toNat 0)) (cond (cond (m94 (d.ss p.toNat 0)) az aj) (ak (aj,4,ax)) (cond (n23 g d i b (d.ss p.toNat 0)) (cond (aq ((m23 g d i b (d.ss p.toNat 0))<p)) (ak (aj,5,ax)) (cond (cond (m95 (d.ii p.toNat 1)) az aj) (ak (aj,15,ax)) (cond (cond (m24 (d.ii p.toNat 2)) az aj) (ak (aj,2,ax)) (l66_0 g d i b f (Z.wrap (p+1)))))) aw)) aw) aw) (ak (az,ax,())))
abbrev o66_0(g:Nat)(d:Dat)(i:Nat)(b:Dat)(p:Int):Option (Bool × (Int) × (Unit)):=l66_0 g d i b (p.toNat+g+i+8) p
def e66_0(g:Nat)(d:Dat)(i:Nat)(b:Dat)(r:Bool × (Int) × (Unit))(K:XR):Prop:=cnd r.1 (K (XE.ret) [.ptr 0 0,V Z r.2.1] [.cells 25 [.ro [.str,W Z,W Z] g d,.ro [.str,W Z,W Z,W Z] i b]]) (K (XE.exit 0) [.ptr 0 0,.any] [.cells 25 [.ro [.str,W Z,W Z] g d,.ro [.str,W Z,W Z,W Z] i b]])
def g66_0:LSum:=fun s k=>match czv 0 89 [1,3] 1 [] s with
 | ak ([.ptr 0 0,V Z p],[.cells 25 [.ro [.str,W Z,W Z] g d,.ro [.str,W Z,W Z,W Z] i b]])=>needs [(o66_0 g d i b p).isSome] (e66_0 g d i b ((o66_0 g d i b p).getD ax) fun e vs bs=>inBlk 0 k e (mkSt 0 89 [1,2] vs 1 bs))
 | _=>False
theorem z66_0:LOk Try.prog g66_0 (.block 0 (bodyAt (Try.f66.body.getD .skip) 0)):=by
 refine lb (ι:=Int × Nat × Dat × Nat × Dat) (fuel:=8) (na:=0) (nt:=89) (nx:=1) (Lh:=[1,3]) (Le:=[1,2]) (gl:=[]) (tc k23 (tc k24 (tc k47 (tc k94 (tc k95 (tc k96 tn)))))) mix_ok noLam rfl (fun f (p,g,d,i,b) K=>GG ax (e66_0 g d i b) K (l66_0 g d i b f p)) (fun (p,g,d,i,b)=>[.ptr 0 0,V Z p]) (fun (p,g,d,i,b)=>[.cells 25 [.ro [.str,W Z,W Z] g d,.ro [.str,W Z,W Z,W Z] i b]]) (fun (_,_,_,_,_) K=>gg_none) ?_ ?_
 ·rintro f ⟨p,g,d,i,b⟩ K hG
  refine ro (fun R=>(cnd (aq (p<(g:Int)))
 (cnd (aq (0<=p/\p<↑g))
 (cnd (n94 (d.ss p.toNat 0))
 (cnd (cond (m94 (d.ss p.toNat 0)) az aj)
 (R (XE.ret) [.ptr 0 0,V Z 4] [.cells 25 [.ro [.str,W Z,W Z] g d,.ro [.str,W Z,W Z,W Z] i b]])
 (cnd (n23 g d i b (d.ss p.toNat 0))
 (cnd (aq ((m23 g d i b (d.ss p.toNat 0))<p))
 (R (XE.ret) [.ptr 0 0,V Z 5] [.cells 25 [.ro [.str,W Z,W Z] g d,.ro [.str,W Z,W Z,W Z] i b]])
 (cnd (cond (m95 (d.ii p.toNat 1)) az aj)
 (R (XE.ret) [.ptr 0 0,V Z 15] [.cells 25 [.ro [.str,W Z,W Z] g d,.ro [.str,W Z,W Z,W Z] i b]])
 (cnd (cond (m24 (d.ii p.toNat 2)) az aj)
 (R (XE.ret) [.ptr 0 0,V Z 2] [.cells 25 [.ro [.str,W Z,W Z] g d,.ro [.str,W Z,W Z,W Z] i b]])
 (R (XE.normal) [.ptr 0 0,V Z (Z.wrap (p+1))] [.cells 25 [.ro [.str,W Z,W Z] g d,.ro [.str,W Z,W Z,W Z] i b]]))))
   False))
  False)
  False)
 (R (XE.exit 0) [.ptr 0 0,.any] [.cells 25 [.ro [.str,W Z,W Z] g d,.ro [.str,W Z,W Z,W Z] i b]]))) (fun R=>by kernel_rfl) ?_
  exact ch hG (fun h0=>cg h0 fun h1=>cg h1 fun h2=>ch h2 (fun h3=>h3.2) (fun h3=>cg h3 fun h4=>ch h4 (fun h5=>h5.2) (fun h5=>ch h5 (fun h6=>h6.2) (fun h6=>ch h6 (fun h7=>h7.2) (fun h7=>⟨(_,_,_,_,_),rfl,rfl,h7⟩))))) (fun h0=>h0.2)
 ·intro s k h
  unfold g66_0 at h
  split at h <;> try exact h.elim
  rename_i e1
  rw [needs_iff] at h
  exact ⟨_,e1,_,(_,_,_,_,_),rfl,rfl,h.1 _ (List.mem_singleton.2 rfl),h.2⟩
def l66_2(g:Nat)(d:Dat)(i:Nat)(b:Dat):Nat->Int->Option (Bool × (Int) × (Unit))
 | 0,_=>aw
 | f+1,o=>(cond (aq (o<(i:Int))) (cond (aq (0<=o/\o<↑i)) (cond (n94 (b.ss o.toNat 0)) (cond (cond (m94 (b.ss o.toNat 0)) az aj) (ak (aj,4,ax)) (cond (n96 g d i b (b.ss o.toNat 0)) (cond (aq ((m96 g d i b (b.ss o.toNat 0))<o)) (ak (aj,5,ax)) (cond (cond (m95 (b.ii o.toNat 1)) az aj) (ak (aj,15,ax)) (cond (bif (cond (m47 (b.ii o.toNat 2) 0 10000) az aj) then aj else (cond (m47 (b.ii o.toNat 3) 0 1000) az aj)) (ak (aj,2,ax)) (cond (bif (aq ((b.ii o.toNat 2)=0)) then (aq ((b.ii o.toNat 3)=0)) else az) (ak (aj,11,ax)) (l66_2 g d i b f (Z.wrap (o+1))))))) aw)) aw) aw) (ak (az,ax,())))
abbrev o66_2(g:Nat)(d:Dat)(i:Nat)(b:Dat)(o:Int):Option (Bool × (Int) × (Unit)):=l66_2 g d i b (o.toNat+g+i+8) o
def e66_2(g:Nat)(d:Dat)(i:Nat)(b:Dat)(r:Bool × (Int) × (Unit))(K:XR):Prop:=cnd r.1 (K (XE.ret) [V Z r.2.1] [.cells 25 [.ro [.str,W Z,W Z] g d,.ro [.str,W Z,W Z,W Z] i b]]) (K (XE.exit 2) [.any] [.cells 25 [.ro [.str,W Z,W Z] g d,.ro [.str,W Z,W Z,W Z] i b]])
def g66_2:LSum:=fun s k=>match czv 0 89 [1,5] 1 [] s with
 | ak ([.ptr 0 0,V Z o],[.cells 25 [.ro [.str,W Z,W Z] g d,.ro [.str,W Z,W Z,W Z] i b]])=>needs [(o66_2 g d i b o).isSome] (e66_2 g d i b ((o66_2 g d i b o).getD ax) fun e vs bs=>inBlk 2 k e (mkSt 0 89 [2] vs 1 bs))
 | _=>False
theorem z66_2:LOk Try.prog g66_2 (.block 2 (bodyAt (Try.f66.body.getD .skip) 2)):=by
 refine lb (ι:=Int × Nat × Dat × Nat × Dat) (fuel:=8) (na:=0) (nt:=89) (nx:=1) (Lh:=[1,5]) (Le:=[2]) (gl:=[]) (tc k23 (tc k24 (tc k47 (tc k94 (tc k95 (tc k96 tn)))))) mix_ok (lam_of rfl (lc z66_0 ln)) rfl (fun f (o,g,d,i,b) K=>GG ax (e66_2 g d i b) K (l66_2 g d i b f o)) (fun (o,g,d,i,b)=>[.ptr 0 0,V Z o]) (fun (o,g,d,i,b)=>[.cells 25 [.ro [.str,W Z,W Z] g d,.ro [.str,W Z,W Z,W Z] i b]]) (fun (_,_,_,_,_) K=>gg_none) ?_ ?_
 ·rintro f ⟨o,g,d,i,b⟩ K hG
  refine ro (fun R=>(cnd (aq (o<(i:Int)))
 (cnd (aq (0<=o/\o<↑i))
 (cnd (n94 (b.ss o.toNat 0))
 (cnd (cond (m94 (b.ss o.toNat 0)) az aj)
 (R (XE.ret) [V Z 4] [.cells 25 [.ro [.str,W Z,W Z] g d,.ro [.str,W Z,W Z,W Z] i b]])
 (cnd (n96 g d i b (b.ss o.toNat 0))
 (cnd (aq ((m96 g d i b (b.ss o.toNat 0))<o))
 (R (XE.ret) [V Z 5] [.cells 25 [.ro [.str,W Z,W Z] g d,.ro [.str,W Z,W Z,W Z] i b]])
 (cnd (cond (m95 (b.ii o.toNat 1)) az aj)
 (R (XE.ret) [V Z 15] [.cells 25 [.ro [.str,W Z,W Z] g d,.ro [.str,W Z,W Z,W Z] i b]])
 (cnd (bif (cond (m47 (b.ii o.toNat 2) 0 10000) az aj) then aj else (cond (m47 (b.ii o.toNat 3) 0 1000) az aj))
 (R (XE.ret) [V Z 2] [.cells 25 [.ro [.str,W Z,W Z] g d,.ro [.str,W Z,W Z,W Z] i b]])
 (cnd (bif (aq ((b.ii o.toNat 2)=0)) then (aq ((b.ii o.toNat 3)=0)) else az)
 (R (XE.ret) [V Z 11] [.cells 25 [.ro [.str,W Z,W Z] g d,.ro [.str,W Z,W Z,W Z] i b]])
 (R (XE.normal) [.ptr 0 0,V Z (Z.wrap (o+1))] [.cells 25 [.ro [.str,W Z,W Z] g d,.ro [.str,W Z,W Z,W Z] i b]])))))
   False))
  False)
  False)
 (R (XE.exit 2) [.any] [.cells 25 [.ro [.str,W Z,W Z] g d,.ro [.str,W Z,W Z,W Z] i b]]))) (fun R=>by kernel_rfl) ?_
  exact ch hG (fun h0=>cg h0 fun h1=>cg h1 fun h2=>ch h2 (fun h3=>h3.2) (fun h3=>cg h3 fun h4=>ch h4 (fun h5=>h5.2) (fun h5=>ch h5 (fun h6=>h6.2) (fun h6=>ch h6 (fun h7=>h7.2) (fun h7=>ch h7 (fun h8=>h8.2) (fun h8=>⟨(_,_,_,_,_),rfl,rfl,h8⟩)))))) (fun h0=>h0.2)
 ·intro s k h
  unfold g66_2 at h
  split at h <;> try exact h.elim
  rename_i e1
  rw [needs_iff] at h
  exact ⟨_,e1,_,(_,_,_,_,_),rfl,rfl,h.1 _ (List.mem_singleton.2 rfl),h.2⟩
def m66(j:Nat)(m:Dat)(l:Nat)(n:Dat):Int :=
 (cond (aq ((30:Int)<(j:Int))) 8 (cond ((o66_0 j m l n 0).getD ax).1 ((o66_0 j m l n 0).getD ax).2.1 (cond (aq ((20:Int)<(l:Int))) 8 (cond ((o66_2 j m l n 0).getD ax).1 ((o66_2 j m l n 0).getD ax).2.1 0))))
def n66(j:Nat)(m:Dat)(l:Nat)(n:Dat):Bool :=
 (cond (aq ((30:Int)<(j:Int))) aj (((o66_0 j m l n 0).isSome)&&(cond ((o66_0 j m l n 0).getD ax).1 aj (cond (aq ((20:Int)<(l:Int))) aj (((o66_2 j m l n 0).isSome)&&aj)))))
def q66(r:Int):SV × List Blk × List Blk:=(V Z r,[],[])
def g66:GF:=fun vs bs=>match vs,bs with
 | [.agg [.ro [.str,W Z,W Z] j m,.ro [.str,W Z,W Z,W Z] l n]],[]=>ak (rs 0 (q66 (m66 j m l n)) [n66 j m l n])
 | _,_=>aw
def c66:Ctr:=genC [.a [.ro [.str,W Z,W Z],.ro [.str,W Z,W Z,W Z]]] g66
theorem k66:CtrOk Try.prog c66 66:=cx (tc k23 (tc k24 (tc k47 (tc k94 (tc k95 (tc k96 tn)))))) mix_ok 8 (fn:=Try.f66) (c:=(Try.f66.body.getD .skip)) (grs:=[]) (rh:=.k) Try.func66 rfl (by kernel_rfl) (lam_of rfl (lc z66_0 (lc z66_2 ln))) fun vs bs q h hn=>by
 unfold g66 at h
 split at h <;> cases h
 rename_i j m l n
 have hn:=n1 hn
 exact ⟨_,rfl,ca (fun R=>(cnd (aq ((30:Int)<(j:Int)))
 (R (V Z 8) [] [])
 (cnd ((o66_0 j m l n 0).isSome)
 (cnd ((o66_0 j m l n 0).getD ax).1
 (R (V Z ((o66_0 j m l n 0).getD ax).2.1) [] [])
 (cnd (aq ((20:Int)<(l:Int)))
 (R (V Z 8) [] [])
 (cnd ((o66_2 j m l n 0).isSome)
 (cnd ((o66_2 j m l n 0).getD ax).1
 (R (V Z ((o66_2 j m l n 0).getD ax).2.1) [] [])
 (R (V Z 0) [] []))
   False)))
  False))) (fun R=>by kernel_rfl) (co (fun h0=>lf (cT h0 rfl) rfl) (fun h0=>cn (al (cf h0 hn)) (co (fun h1=>lf (cF h0 (cT h1 rfl)) rfl) (fun h1=>co (fun h2=>lf (cF h0 (cF h1 (cT h2 rfl))) rfl) (fun h2=>cn (al (cf h2 (cf h1 (ar (cf h0 hn))))) (co (fun h3=>lf (cF h0 (cF h1 (cF h2 (cT h3 rfl)))) rfl) (fun h3=>lf (cF h0 (cF h1 (cF h2 (cF h3 rfl)))) rfl)))))))⟩
/-! ### shotline/shotlineref07.DueErr -/
def m89(b:Nat)(d:Dat)(e:Nat)(g:Dat)(i j:ByteArray)(l:Int)(m:Bool):Int × Int × Int :=
 (cond (bif (aq ((m23 b d e g i)<0)) then aj else (aq ((m96 b d e g j)<0))) (0,0,6) (cond (cond (aq ((g.ii ((m96 b d e g j).toNat) 1)=(d.ii ((m23 b d e g i).toNat) 1))) az aj) (0,0,27) (cond (bif m then (cond (m24 l) az aj) else az) (0,0,2) ((m23 b d e g i),(m96 b d e g j),0))))
def n89(b:Nat)(d:Dat)(e:Nat)(g:Dat)(i j:ByteArray)(l:Int)(m:Bool):Bool :=
 ((n23 b d e g i)&&((n96 b d e g j)&&(cond (bif (aq ((m23 b d e g i)<0)) then aj else (aq ((m96 b d e g j)<0))) aj ((aq (0<=m96 b d e g j/\m96 b d e g j<(e:Int)))&&((aq ((0:Int)<=m23 b d e g i/\m23 b d e g i<(b:Int)))&&aj)))))
def q89(r:Int × Int × Int):SV × List Blk × List Blk:=(.tup [V Z r.1,V Z r.2.1,V Z r.2.2],[],[])
def g89:GF:=fun vs bs=>match vs,bs with
 | [.agg [.ro [.str,W Z,W Z] b d,.ro [.str,W Z,W Z,W Z] e g],.agg [.str i,.str j,V Z l],.bool m],[]=>ak (rs 0 (q89 (m89 b d e g i j l m)) [n89 b d e g i j l m])
 | _,_=>aw
def c89:Ctr:=genC [.a [.ro [.str,W Z,W Z],.ro [.str,W Z,W Z,W Z]],.k,.k] g89
theorem k89:CtrOk Try.prog c89 89:=cx (tc k23 (tc k24 (tc k96 tn))) mix_ok 8 (fn:=Try.f89) (c:=(Try.f89.body.getD .skip)) (grs:=[]) (rh:=.k) Try.func89 rfl (by kernel_rfl) noLam fun vs bs q h hn=>by
 unfold g89 at h
 split at h <;> cases h
 rename_i b d e g i j l m
 have hn:=n1 hn
 exact ⟨_,rfl,ca (fun R=>(cnd (n23 b d e g i)
 (cnd (n96 b d e g j)
 (cnd (bif (aq ((m23 b d e g i)<0)) then aj else (aq ((m96 b d e g j)<0)))
 (R (.tup [V Z 0,V Z 0,V Z 6]) [] [])
 (cnd (aq (0<=m96 b d e g j/\m96 b d e g j<(e:Int)))
 (cnd (aq ((0:Int)<=m23 b d e g i/\m23 b d e g i<(b:Int)))
 (cnd (cond (aq ((g.ii ((m96 b d e g j).toNat) 1)=(d.ii ((m23 b d e g i).toNat) 1))) az aj)
 (R (.tup [V Z 0,V Z 0,V Z 27]) [] [])
 (cnd (bif m then (cond (m24 l) az aj) else az)
 (R (.tup [V Z 0,V Z 0,V Z 2]) [] [])
 (R (.tup [V Z (m23 b d e g i),V Z (m96 b d e g j),V Z 0]) [] [])))
   False)
   False))
  False)
 False)) (fun R=>by kernel_rfl) (cn (al hn) (cn (al (ar hn)) (co (fun h0=>lf (cT h0 rfl) rfl) (fun h0=>cn (al (cf h0 (ar (ar hn)))) (cn (al (ar (cf h0 (ar (ar hn))))) (co (fun h1=>lf (cF h0 (cT h1 rfl)) rfl) (fun h1=>co (fun h2=>lf (cF h0 (cF h1 (cT h2 rfl))) rfl) (fun h2=>lf (cF h0 (cF h1 (cF h2 rfl))) rfl))))))))⟩
/-! ### shotline/shotlineref07.CheckEvent -/
def m67(d:Nat)(b:Dat)(e:Nat)(g:Dat)(i n:Int)(l m j:ByteArray)(o:Bool):Int :=
 (cond (cond (m47 i 0 4) az aj) 15 (cond (cond (m24 n) az aj) 2 (cond (aq ((m23 d b e g l)<0)) 6 (cond (bif (bif (bif (cond (aq (i=0)) az aj) then (cond (aq (m=({ data:=#[] }:ByteArray))) az aj) else az) then aj else (bif (cond (aq (i=2)) az aj) then (cond (aq (j=({ data:=#[] }:ByteArray))) az aj) else az)) then aj else (bif (bif (cond (aq (i=0)) az aj) then (cond (aq (i=4)) az aj) else az) then o else az)) 3 (cond (aq (i=0)) (cond (aq ((m96 d b e g m)<0)) 6 (cond (cond (aq ((g.ii ((m96 d b e g m).toNat) 1)=(b.ii ((m23 d b e g l).toNat) 1))) az aj) 27 0)) (cond (aq (i=2)) (cond (aq ((m23 d b e g j)<0)) 6 (cond (bif (cond (aq ((b.ii ((m23 d b e g l).toNat) 1)=1)) az aj) then aj else (bif (cond (aq ((b.ii ((m23 d b e g j).toNat) 1)=1)) az aj) then (cond (aq ((b.ii ((m23 d b e g j).toNat) 1)=3)) az aj) else az)) 27 (cond (aq (j=l)) 13 0))) (cond (aq (i=3)) (cond (cond (aq ((b.ii ((m23 d b e g l).toNat) 1)=1)) az aj) 27 0) (cond (aq (i=4)) (cond (cond (aq ((b.ii ((m23 d b e g l).toNat) 1)=3)) az aj) 27 0) 0))))))))
def n67(d:Nat)(b:Dat)(e:Nat)(g:Dat)(i n:Int)(l m j:ByteArray)(o:Bool):Bool :=
 (cond (cond (m47 i 0 4) az aj) aj (cond (cond (m24 n) az aj) aj ((n23 d b e g l)&&(cond (aq ((m23 d b e g l)<0)) aj (cond (bif (bif (bif (cond (aq (i=0)) az aj) then (cond (aq (m=({ data:=#[] }:ByteArray))) az aj) else az) then aj else (bif (cond (aq (i=2)) az aj) then (cond (aq (j=({ data:=#[] }:ByteArray))) az aj) else az)) then aj else (bif (bif (cond (aq (i=0)) az aj) then (cond (aq (i=4)) az aj) else az) then o else az)) aj ((aq (0<=m23 d b e g l/\m23 d b e g l<(d:Int)))&&(cond (aq (i=0)) ((n96 d b e g m)&&(cond (aq ((m96 d b e g m)<0)) aj ((aq (0<=m96 d b e g m/\m96 d b e g m<(e:Int)))&&aj))) (cond (aq (i=2)) ((n23 d b e g j)&&(cond (aq ((m23 d b e g j)<0)) aj ((bif (cond (cond (cond (aq ((b.ii ((m23 d b e g l).toNat) 1)=1)) az aj) az aj) az aj) then aj else (aq (0<=m23 d b e g j/\m23 d b e g j<(d:Int))))&&((bif (cond (bif (cond (cond (aq ((b.ii ((m23 d b e g l).toNat) 1)=1)) az aj) az aj) then (cond (aq ((b.ii ((m23 d b e g j).toNat) 1)=1)) az aj) else az) az aj) then aj else (aq (0<=m23 d b e g j/\m23 d b e g j<(d:Int))))&&aj)))) aj))))))))
def q67(r:Int):SV × List Blk × List Blk:=(V Z r,[],[])
def g67:GF:=fun vs bs=>match vs,bs with
 | [.agg [.ro [.str,W Z,W Z] d b,.ro [.str,W Z,W Z,W Z] e g],.agg [V Z i,V Z n,.str l,.str m,.str j,.bool o]],[]=>ak (rs 0 (q67 (m67 d b e g i n l m j o)) [n67 d b e g i n l m j o])
 | _,_=>aw
def c67:Ctr:=genC [.a [.ro [.str,W Z,W Z],.ro [.str,W Z,W Z,W Z]],.k] g67
theorem k67:CtrOk Try.prog c67 67:=cx (tc k23 (tc k24 (tc k47 (tc k96 tn)))) mix_ok 8 (fn:=Try.f67) (c:=(Try.f67.body.getD .skip)) (grs:=[]) (rh:=.k) Try.func67 rfl (by kernel_rfl) noLam fun vs bs q h hn=>by
 unfold g67 at h
 split at h <;> cases h
 rename_i d b e g i n l m j o
 have hn:=n1 hn
 exact ⟨_,rfl,ca (fun R => 
 let a0:=(cond (aq ((b.ii ((m23 d b e g l).toNat) 1)=1)) az aj)
 let b0:=(cond (aq ((b.ii ((m23 d b e g j).toNat) 1)=1)) az aj)
 let c0:=(aq (0<=m23 d b e g j/\m23 d b e g j<(d:Int)))
 (cnd (cond (m47 i 0 4) az aj)
 (R (V Z 15) [] [])
 (cnd (cond (m24 n) az aj)
 (R (V Z 2) [] [])
 (cnd (n23 d b e g l)
 (cnd (aq ((m23 d b e g l)<0))
 (R (V Z 6) [] [])
 (cnd (bif (bif (bif (cond (aq (i=0)) az aj) then (cond (aq (m=({ data:=#[] }:ByteArray))) az aj) else az) then aj else (bif (cond (aq (i=2)) az aj) then (cond (aq (j=({ data:=#[] }:ByteArray))) az aj) else az)) then aj else (bif (bif (cond (aq (i=0)) az aj) then (cond (aq (i=4)) az aj) else az) then o else az))
 (R (V Z 3) [] [])
 (cnd (aq (0<=m23 d b e g l/\m23 d b e g l<(d:Int)))
 (cnd (aq (i=0))
 (cnd (n96 d b e g m)
 (cnd (aq ((m96 d b e g m)<0))
 (R (V Z 6) [] [])
 (cnd (aq (0<=m96 d b e g m/\m96 d b e g m<(e:Int)))
 (cnd (cond (aq ((g.ii ((m96 d b e g m).toNat) 1)=(b.ii ((m23 d b e g l).toNat) 1))) az aj)
 (R (V Z 27) [] [])
 (R (V Z 0) [] []))
      False))
     False)
 (cnd (aq (i=2))
 (cnd (n23 d b e g j)
 (cnd (aq ((m23 d b e g j)<0))
 (R (V Z 6) [] [])
 (cnd (bif (cond (cond a0 az aj) az aj) then aj else c0)
 (cnd (bif (cond (bif (cond a0 az aj) then b0 else az) az aj) then aj else c0)
 (cnd (bif a0 then aj else (bif b0 then (cond (aq ((b.ii ((m23 d b e g j).toNat) 1)=3)) az aj) else az))
 (R (V Z 27) [] [])
 (cnd (aq (j=l))
 (R (V Z 13) [] [])
 (R (V Z 0) [] [])))
       False)
      False))
     False)
 (cnd (aq (i=3))
 (cnd a0
 (R (V Z 27) [] [])
 (R (V Z 0) [] []))
 (cnd (aq (i=4))
 (cnd (cond (aq ((b.ii ((m23 d b e g l).toNat) 1)=3)) az aj)
 (R (V Z 27) [] [])
 (R (V Z 0) [] []))
 (R (V Z 0) [] [])))))
    False)))
  False)))) (fun R=>by kernel_rfl) (co (fun h0=>lf (cT h0 rfl) rfl) (fun h0=>co (fun h1=>lf (cF h0 (cT h1 rfl)) rfl) (fun h1=>cn (al (cf h1 (cf h0 hn))) (co (fun h2=>lf (cF h0 (cF h1 (cT h2 rfl))) rfl) (fun h2=>co (fun h3=>lf (cF h0 (cF h1 (cF h2 (cT h3 rfl)))) rfl) (fun h3=>cn (al (cf h3 (cf h2 (ar (cf h1 (cf h0 hn)))))) (co (fun h4=>cn (al (ct h4 (ar (cf h3 (cf h2 (ar (cf h1 (cf h0 hn)))))))) (co (fun h5=>lf (cF h0 (cF h1 (cF h2 (cF h3 (cT h4 (cT h5 rfl)))))) rfl) (fun h5=>cn (al (cf h5 (ar (ct h4 (ar (cf h3 (cf h2 (ar (cf h1 (cf h0 hn)))))))))) (co (fun h6=>lf (cF h0 (cF h1 (cF h2 (cF h3 (cT h4 (cF h5 (cT h6 rfl))))))) rfl) (fun h6=>lf (cF h0 (cF h1 (cF h2 (cF h3 (cT h4 (cF h5 (cF h6 rfl))))))) rfl))))) (fun h4=>co (fun h5=>cn (al (ct h5 (cf h4 (ar (cf h3 (cf h2 (ar (cf h1 (cf h0 hn))))))))) (co (fun h6=>lf (cF h0 (cF h1 (cF h2 (cF h3 (cF h4 (cT h5 (cT h6 rfl))))))) rfl) (fun h6=>cn (al (cf h6 (ar (ct h5 (cf h4 (ar (cf h3 (cf h2 (ar (cf h1 (cf h0 hn))))))))))) (cn (al (ar (cf h6 (ar (ct h5 (cf h4 (ar (cf h3 (cf h2 (ar (cf h1 (cf h0 hn)))))))))))) (co (fun h7=>lf (cF h0 (cF h1 (cF h2 (cF h3 (cF h4 (cT h5 (cF h6 (cT h7 rfl)))))))) rfl) (fun h7=>co (fun h8=>lf (cF h0 (cF h1 (cF h2 (cF h3 (cF h4 (cT h5 (cF h6 (cF h7 (cT h8 rfl))))))))) rfl) (fun h8=>lf (cF h0 (cF h1 (cF h2 (cF h3 (cF h4 (cT h5 (cF h6 (cF h7 (cF h8 rfl))))))))) rfl))))))) (fun h5=>co (fun h6=>co (fun h7=>lf (cF h0 (cF h1 (cF h2 (cF h3 (cF h4 (cF h5 (cT h6 (cT h7 rfl)))))))) rfl) (fun h7=>lf (cF h0 (cF h1 (cF h2 (cF h3 (cF h4 (cF h5 (cT h6 (cF h7 rfl)))))))) rfl)) (fun h6=>co (fun h7=>co (fun h8=>lf (cF h0 (cF h1 (cF h2 (cF h3 (cF h4 (cF h5 (cF h6 (cT h7 (cT h8 rfl))))))))) rfl) (fun h8=>lf (cF h0 (cF h1 (cF h2 (cF h3 (cF h4 (cF h5 (cF h6 (cT h7 (cF h8 rfl))))))))) rfl)) (fun h7=>lf (cF h0 (cF h1 (cF h2 (cF h3 (cF h4 (cF h5 (cF h6 (cF h7 rfl)))))))) rfl)))))))))))⟩
/-! ### shotline/kit.item -/
def m82(b:Nat)(d:Dat)(e:Nat)(g:Dat)(i:ByteArray):Int :=
 (m100c101 b d (datC [SV.str i]))
def n82(b:Nat)(d:Dat)(e:Nat)(g:Dat)(i:ByteArray):Bool :=
 ((n100c101 b d (datC [SV.str i]))&&aj)
def q82(r:Int):SV × List Blk × List Blk:=(V Z r,[],[])
def g82:GF:=fun vs bs=>match vs,bs with
 | [.agg [.ro [.str,W Z,W Z] b d,.ro [.str,W Z,W Z,W Z] e g],.str i],[]=>ak (rs 0 (q82 (m82 b d e g i)) [n82 b d e g i])
 | _,_=>aw
def c82:Ctr:=genC [.a [.ro [.str,W Z,W Z],.ro [.str,W Z,W Z,W Z]],.k] g82
theorem k82:CtrOk Try.prog c82 82:=cx (tc k100c101 (tc k101 tn)) mix_ok 8 (fn:=Try.f82) (c:=(Try.f82.body.getD .skip)) (grs:=[]) (rh:=.k) Try.func82 rfl (by kernel_rfl) noLam fun vs bs q h hn=>by
 unfold g82 at h
 split at h <;> cases h
 rename_i b d e g i
 have hn:=n1 hn
 exact ⟨_,rfl,ca (fun R=>(cnd (n100c101 b d (datC [SV.str i]))
 (R (V Z (m100c101 b d (datC [SV.str i]))) [] [])
 False)) (fun R=>by kernel_rfl) (cn (al hn) (lf rfl rfl))⟩
/-! ### shotline/kit.rule -/
def m102(e:Nat)(g:Dat)(b:Nat)(d:Dat)(i:ByteArray):Int :=
 (m113c114 b d (datC [SV.str i]))
def n102(e:Nat)(g:Dat)(b:Nat)(d:Dat)(i:ByteArray):Bool :=
 ((n113c114 b d (datC [SV.str i]))&&aj)
def q102(r:Int):SV × List Blk × List Blk:=(V Z r,[],[])
def g102:GF:=fun vs bs=>match vs,bs with
 | [.agg [.ro [.str,W Z,W Z] e g,.ro [.str,W Z,W Z,W Z] b d],.str i],[]=>ak (rs 0 (q102 (m102 e g b d i)) [n102 e g b d i])
 | _,_=>aw
def c102:Ctr:=genC [.a [.ro [.str,W Z,W Z],.ro [.str,W Z,W Z,W Z]],.k] g102
theorem k102:CtrOk Try.prog c102 102:=cx (tc k113c114 (tc k114 tn)) mix_ok 8 (fn:=Try.f102) (c:=(Try.f102.body.getD .skip)) (grs:=[]) (rh:=.k) Try.func102 rfl (by kernel_rfl) noLam fun vs bs q h hn=>by
 unfold g102 at h
 split at h <;> cases h
 rename_i e g b d i
 have hn:=n1 hn
 exact ⟨_,rfl,ca (fun R=>(cnd (n113c114 b d (datC [SV.str i]))
 (R (V Z (m113c114 b d (datC [SV.str i]))) [] [])
 False)) (fun R=>by kernel_rfl) (cn (al hn) (lf rfl rfl))⟩
/-! ### shotline/shotlineref07.DaysLeft -/
def m52(e:Nat)(g:Dat)(d:Nat)(b:Dat)(m:Nat)(n:Dat)(j l:ByteArray)(i:Int):Int × Int :=
 (cond (cond (aq ((m89 e g d b j l i aj).2.2=0)) az aj) (0,(m89 e g d b j l i aj).2.2) (cond (cond (m69 e g d b m n (m89 e g d b j l i aj).1 (m89 e g d b j l i aj).2.1).2.2 az aj) (0,24) (cond (aq ((b.ii ((m89 e g d b j l i aj).2.1.toNat) 2)=0)) (0,12) ((Z.wrap ((Z.wrap ((m69 e g d b m n (m89 e g d b j l i aj).1 (m89 e g d b j l i aj).2.1).1+(b.ii ((m89 e g d b j l i aj).2.1.toNat) 2))) - i)),0))))
def n52(e:Nat)(g:Dat)(d:Nat)(b:Dat)(m:Nat)(n:Dat)(j l:ByteArray)(i:Int):Bool :=
 ((n89 e g d b j l i aj)&&(cond (cond (aq ((m89 e g d b j l i aj).2.2=0)) az aj) aj ((n69 e g d b m n (m89 e g d b j l i aj).1 (m89 e g d b j l i aj).2.1)&&(cond (cond (m69 e g d b m n (m89 e g d b j l i aj).1 (m89 e g d b j l i aj).2.1).2.2 az aj) aj ((aq (0<=(m89 e g d b j l i aj).2.1/\(m89 e g d b j l i aj).2.1<(d:Int)))&&(cond (aq ((b.ii ((m89 e g d b j l i aj).2.1.toNat) 2)=0)) aj ((aq (0<=(m89 e g d b j l i aj).2.1/\(m89 e g d b j l i aj).2.1<(d:Int)))&&aj)))))))
def q52(r:Int × Int):SV × List Blk × List Blk:=(.tup [V Z r.1,V Z r.2],[],[])
def g52:GF:=fun vs bs=>match vs,bs with
 | [.agg [.ro [.str,W Z,W Z] e g,.ro [.str,W Z,W Z,W Z] d b],.ro [W Z,W Z,.str,.str,.str,.bool] m n,.agg [.str j,.str l,V Z i]],[]=>ak (rs 0 (q52 (m52 e g d b m n j l i)) [n52 e g d b m n j l i])
 | _,_=>aw
def c52:Ctr:=genC [.a [.ro [.str,W Z,W Z],.ro [.str,W Z,W Z,W Z]],.ro [W Z,W Z,.str,.str,.str,.bool],.k] g52
theorem k52:CtrOk Try.prog c52 52:=cx (tc k69 (tc k89 tn)) mix_ok 8 (fn:=Try.f52) (c:=(Try.f52.body.getD .skip)) (grs:=[]) (rh:=.k) Try.func52 rfl (by kernel_rfl) noLam fun vs bs q h hn=>by
 unfold g52 at h
 split at h <;> cases h
 rename_i e g d b m n j l i
 have hn:=n1 hn
 exact ⟨_,rfl,ca (fun R => 
 let a0:=(m89 e g d b j l i aj)
 let b0:=(aq (0<=a0.2.1/\a0.2.1<(d:Int)))
 (cnd (n89 e g d b j l i aj)
 (cnd (cond (aq (a0.2.2=0)) az aj)
 (R (.tup [V Z 0,V Z a0.2.2]) [] [])
 (cnd (n69 e g d b m n a0.1 a0.2.1)
 (cnd (cond (m69 e g d b m n a0.1 a0.2.1).2.2 az aj)
 (R (.tup [V Z 0,V Z 24]) [] [])
 (cnd b0
 (cnd (aq ((b.ii (a0.2.1.toNat) 2)=0))
 (R (.tup [V Z 0,V Z 12]) [] [])
 (cnd b0
 (R (.tup [V Z (Z.wrap ((Z.wrap ((m69 e g d b m n a0.1 a0.2.1).1+(b.ii (a0.2.1.toNat) 2))) - i)),V Z 0]) [] [])
    False))
   False))
  False))
 False)) (fun R=>by kernel_rfl) (cn (al hn) (co (fun h0=>lf (cT h0 rfl) rfl) (fun h0=>cn (al (cf h0 (ar hn))) (co (fun h1=>lf (cF h0 (cT h1 rfl)) rfl) (fun h1=>cn (al (cf h1 (ar (cf h0 (ar hn))))) (co (fun h2=>lf (cF h0 (cF h1 (cT h2 rfl))) rfl) (fun h2=>cn (al (cf h2 (ar (cf h1 (ar (cf h0 (ar hn))))))) (lf (cF h0 (cF h1 (cF h2 rfl))) rfl))))))))⟩
/-! ### shotline/shotlineref07.UsesLeft -/
def m53(e:Nat)(g:Dat)(d:Nat)(b:Dat)(m:Nat)(n:Dat)(i j:ByteArray)(l:Int):Int × Int :=
 (cond (cond (aq ((m89 e g d b i j l az).2.2=0)) az aj) (0,(m89 e g d b i j l az).2.2) (cond (cond (m69 e g d b m n (m89 e g d b i j l az).1 (m89 e g d b i j l az).2.1).2.2 az aj) (0,24) (cond (aq ((b.ii ((m89 e g d b i j l az).2.1.toNat) 3)=0)) (0,12) ((Z.wrap ((b.ii ((m89 e g d b i j l az).2.1.toNat) 3) - (m69 e g d b m n (m89 e g d b i j l az).1 (m89 e g d b i j l az).2.1).2.1)),0))))
def n53(e:Nat)(g:Dat)(d:Nat)(b:Dat)(m:Nat)(n:Dat)(i j:ByteArray)(l:Int):Bool :=
 ((n89 e g d b i j l az)&&(cond (cond (aq ((m89 e g d b i j l az).2.2=0)) az aj) aj ((n69 e g d b m n (m89 e g d b i j l az).1 (m89 e g d b i j l az).2.1)&&(cond (cond (m69 e g d b m n (m89 e g d b i j l az).1 (m89 e g d b i j l az).2.1).2.2 az aj) aj ((aq (0<=(m89 e g d b i j l az).2.1/\(m89 e g d b i j l az).2.1<(d:Int)))&&(cond (aq ((b.ii ((m89 e g d b i j l az).2.1.toNat) 3)=0)) aj ((aq (0<=(m89 e g d b i j l az).2.1/\(m89 e g d b i j l az).2.1<(d:Int)))&&aj)))))))
def q53(r:Int × Int):SV × List Blk × List Blk:=(.tup [V Z r.1,V Z r.2],[],[])
def g53:GF:=fun vs bs=>match vs,bs with
 | [.agg [.ro [.str,W Z,W Z] e g,.ro [.str,W Z,W Z,W Z] d b],.ro [W Z,W Z,.str,.str,.str,.bool] m n,.agg [.str i,.str j,V Z l]],[]=>ak (rs 0 (q53 (m53 e g d b m n i j l)) [n53 e g d b m n i j l])
 | _,_=>aw
def c53:Ctr:=genC [.a [.ro [.str,W Z,W Z],.ro [.str,W Z,W Z,W Z]],.ro [W Z,W Z,.str,.str,.str,.bool],.k] g53
theorem k53:CtrOk Try.prog c53 53:=cx (tc k69 (tc k89 tn)) mix_ok 8 (fn:=Try.f53) (c:=(Try.f53.body.getD .skip)) (grs:=[]) (rh:=.k) Try.func53 rfl (by kernel_rfl) noLam fun vs bs q h hn=>by
 unfold g53 at h
 split at h <;> cases h
 rename_i e g d b m n i j l
 have hn:=n1 hn
 exact ⟨_,rfl,ca (fun R => 
 let a0:=(m89 e g d b i j l az)
 let b0:=(aq (0<=a0.2.1/\a0.2.1<(d:Int)))
 (cnd (n89 e g d b i j l az)
 (cnd (cond (aq (a0.2.2=0)) az aj)
 (R (.tup [V Z 0,V Z a0.2.2]) [] [])
 (cnd (n69 e g d b m n a0.1 a0.2.1)
 (cnd (cond (m69 e g d b m n a0.1 a0.2.1).2.2 az aj)
 (R (.tup [V Z 0,V Z 24]) [] [])
 (cnd b0
 (cnd (aq ((b.ii (a0.2.1.toNat) 3)=0))
 (R (.tup [V Z 0,V Z 12]) [] [])
 (cnd b0
 (R (.tup [V Z (Z.wrap ((b.ii (a0.2.1.toNat) 3) - (m69 e g d b m n a0.1 a0.2.1).2.1)),V Z 0]) [] [])
    False))
   False))
  False))
 False)) (fun R=>by kernel_rfl) (cn (al hn) (co (fun h0=>lf (cT h0 rfl) rfl) (fun h0=>cn (al (cf h0 (ar hn))) (co (fun h1=>lf (cF h0 (cT h1 rfl)) rfl) (fun h1=>cn (al (cf h1 (ar (cf h0 (ar hn))))) (co (fun h2=>lf (cF h0 (cF h1 (cT h2 rfl))) rfl) (fun h2=>cn (al (cf h2 (ar (cf h1 (ar (cf h0 (ar hn))))))) (lf (cF h0 (cF h1 (cF h2 rfl))) rfl))))))))⟩
/-! ### (*shotline/kit.shop).isBad -/
def m78(d:Dat)(a b:Int):Bool :=
 (bif (aq (0<=b)) then ((((d.sub 0 2).sub a.toNat 0).sub 0 8).bb b.toNat 0) else az)
def n78(d:Dat)(a b:Int):Bool :=
 ((aq ((0:Int)<=a/\a<(↑(d.sn (0:Nat) ((0:Nat)+(1:Nat)+(1:Nat))):Int)))&&aj)
def q78(r:Bool):SV × List Blk × List Blk:=(.bool r,[],[])
def g78:GF:=fun vs bs=>match vs,bs with
 | [.rp [.sl [.str,W Z,W Z],.sl [.str,W Z,W Z,W Z],.sl [.pt [.str,W Z,W Z,.mi [W Z,W Z,.bool],.mb,.mb,W Z,.bool,.m1]],W Z] d 0 0,.agg [V Z a,V Z b]],[]=>ak (rs 0 (q78 (m78 d a b)) [n78 d a b])
 | _,_=>aw
def c78:Ctr:=genC [.rp [.sl [.str,W Z,W Z],.sl [.str,W Z,W Z,W Z],.sl [.pt [.str,W Z,W Z,.mi [W Z,W Z,.bool],.mb,.mb,W Z,.bool,.m1]],W Z],.k] g78
theorem k78:CtrOk Try.prog c78 78:=cx tn mix_ok 8 (fn:=Try.f78) (c:=(Try.f78.body.getD .skip)) (grs:=[]) (rh:=.k) Try.func78 rfl (by kernel_rfl) noLam fun vs bs q h hn=>by
 unfold g78 at h
 split at h <;> cases h
 rename_i d a b
 have hn:=n1 hn
 exact ⟨_,rfl,ca (fun R=>(cnd (aq ((0:Int)<=a/\a<(↑(d.sn (0:Nat) ((0:Nat)+(1:Nat)+(1:Nat))):Int)))
 (R (.bool (bif (aq (0<=b)) then ((((d.sub 0 2).sub a.toNat 0).sub 0 8).bb b.toNat 0) else az)) [] [])
 False)) (fun R=>by kernel_rfl) (cn (al hn) (lf rfl rfl))⟩
/-! ### (*shotline/kit.shop).told -/
def m77(d:Dat)(a b:Int):ByteArray × Int :=
 ((((d.sub 0 2).sub a.toNat 0).ss 0 0),b)
def n77(d:Dat)(a b:Int):Bool :=
 ((aq ((0:Int)<=a/\a<(↑(d.sn (0:Nat) ((0:Nat)+(1:Nat)+(1:Nat))):Int)))&&aj)
def q77(r:ByteArray × Int):SV × List Blk × List Blk:=(.agg [.str r.1,V Z r.2],[],[])
def g77:GF:=fun vs bs=>match vs,bs with
 | [.rp [.sl [.str,W Z,W Z],.sl [.str,W Z,W Z,W Z],.sl [.pt [.str,W Z,W Z,.mi [W Z,W Z,.bool],.mb,.mb,W Z,.bool,.m1]],W Z] d 0 0,.agg [V Z a,V Z b]],[]=>ak (rs 0 (q77 (m77 d a b)) [n77 d a b])
 | _,_=>aw
def c77:Ctr:=genC [.rp [.sl [.str,W Z,W Z],.sl [.str,W Z,W Z,W Z],.sl [.pt [.str,W Z,W Z,.mi [W Z,W Z,.bool],.mb,.mb,W Z,.bool,.m1]],W Z],.k] g77
theorem k77:CtrOk Try.prog c77 77:=cx tn mix_ok 8 (fn:=Try.f77) (c:=(Try.f77.body.getD .skip)) (grs:=[]) (rh:=.k) Try.func77 rfl (by kernel_rfl) noLam fun vs bs q h hn=>by
 unfold g77 at h
 split at h <;> cases h
 rename_i d a b
 have hn:=n1 hn
 exact ⟨_,rfl,ca (fun R=>(cnd (aq ((0:Int)<=a/\a<(↑(d.sn (0:Nat) ((0:Nat)+(1:Nat)+(1:Nat))):Int)))
 (R (.agg [.str (((d.sub 0 2).sub a.toNat 0).ss 0 0),V Z b]) [] [])
 False)) (fun R=>by kernel_rfl) (cn (al hn) (lf rfl rfl))⟩
/-! ### shotline/kit.sorted$1 -/
def m98(a b d e:Int):Int :=
 (m99 2 (datS [V Z (m88 a d),V Z (m88 b e)] 1))
def n98(a b d e:Int):Bool :=
 ((n99 2 (datS [V Z (m88 a d),V Z (m88 b e)] 1))&&aj)
def q98(r:Int):SV × List Blk × List Blk:=(V Z r,[],[])
def g98:GF:=fun vs bs=>match vs,bs with
 | [.agg [V Z a,V Z b],.agg [V Z d,V Z e]],[]=>ak (rs 0 (q98 (m98 a b d e)) [n98 a b d e])
 | _,_=>aw
def c98:Ctr:=genC [.k,.k] g98
theorem k98:CtrOk Try.prog c98 98:=cx (tc k88 (tc k99 tn)) mix_ok 8 (fn:=Try.f98) (c:=(Try.f98.body.getD .skip)) (grs:=[]) (rh:=.k) Try.func98 rfl (by kernel_rfl) noLam fun vs bs q h hn=>by
 unfold g98 at h
 split at h <;> cases h
 rename_i a b d e
 have hn:=n1 hn
 exact ⟨_,rfl,ca (fun R=>(cnd (n99 2 (datS [V Z (m88 a d),V Z (m88 b e)] 1))
 (R (V Z (m99 2 (datS [V Z (m88 a d),V Z (m88 b e)] 1))) [] [])
 False)) (fun R=>by kernel_rfl) (cn (al hn) (lf rfl rfl))⟩
/-! ### (*shotline/kit.shop).find -/
def m63(a:Dat)(b:ByteArray):Bool × Dat :=
 (cond (aq (0<=(m82 (a.sn 0 0) (a.sub 0 0) (a.sn 0 1) (a.sub 0 1) b))) (aj,((a.sub 0 2).sub ((m82 (a.sn 0 0) (a.sub 0 0) (a.sn 0 1) (a.sub 0 1) b).toNat) 0)) (az,noDat))
def n63(a:Dat)(b:ByteArray):Bool :=
 ((n82 (a.sn 0 0) (a.sub 0 0) (a.sn 0 1) (a.sub 0 1) b)&&(cond (aq (0<=(m82 (a.sn 0 0) (a.sub 0 0) (a.sn 0 1) (a.sub 0 1) b))) ((aq (0<=m82 (a.sn 0 0) (a.sub 0 0) (a.sn 0 (0+1)) (a.sub 0 (0+1)) b/\m82 (a.sn 0 0) (a.sub 0 0) (a.sn 0 (0+1)) (a.sub 0 (0+1)) b<(↑(a.sn 0 (0+1+1)):Int)))&&aj) aj))
def q63(r:Bool × Dat):SV × List Blk × List Blk:=(.rq r.1 [.str,W Z,W Z,.mi [W Z,W Z,.bool],.mb,.mb,W Z,.bool,.m1] r.2 0 0,[],[])
def g63:GF:=fun vs bs=>match vs,bs with
 | [.rp [.sl [.str,W Z,W Z],.sl [.str,W Z,W Z,W Z],.sl [.pt [.str,W Z,W Z,.mi [W Z,W Z,.bool],.mb,.mb,W Z,.bool,.m1]],W Z] a 0 0,.str b],[]=>ak (rs 0 (q63 (m63 a b)) [n63 a b])
 | _,_=>aw
def c63:Ctr:=genC [.rp [.sl [.str,W Z,W Z],.sl [.str,W Z,W Z,W Z],.sl [.pt [.str,W Z,W Z,.mi [W Z,W Z,.bool],.mb,.mb,W Z,.bool,.m1]],W Z],.k] g63
theorem k63:CtrOk Try.prog c63 63:=cx (tc k82 tn) mix_ok 8 (fn:=Try.f63) (c:=(Try.f63.body.getD .skip)) (grs:=[]) (rh:=.rq [.str,W Z,W Z,.mi [W Z,W Z,.bool],.mb,.mb,W Z,.bool,.m1]) Try.func63 rfl (by kernel_rfl) noLam fun vs bs q h hn=>by
 unfold g63 at h
 split at h <;> cases h
 rename_i a b
 have hn:=n1 hn
 exact ⟨_,rfl,ca (fun R => 
 let a0:=(m82 (a.sn 0 0) (a.sub 0 0) (a.sn 0 1) (a.sub 0 1) b)
 (cnd (n82 (a.sn 0 0) (a.sub 0 0) (a.sn 0 1) (a.sub 0 1) b)
 (cnd (aq (0<=a0))
 (cnd (aq (0<=m82 (a.sn 0 0) (a.sub 0 0) (a.sn 0 (0+1)) (a.sub 0 (0+1)) b/\m82 (a.sn 0 0) (a.sub 0 0) (a.sn 0 (0+1)) (a.sub 0 (0+1)) b<(↑(a.sn 0 (0+1+1)):Int)))
 (R (.rq aj [.str,W Z,W Z,.mi [W Z,W Z,.bool],.mb,.mb,W Z,.bool,.m1] ((a.sub 0 2).sub (a0.toNat) 0) 0 0) [] [])
  False)
 (R (.rq az [.str,W Z,W Z,.mi [W Z,W Z,.bool],.mb,.mb,W Z,.bool,.m1] noDat 0 0) [] []))
 False)) (fun R=>by kernel_rfl) (cn (al hn) (co (fun h0=>cn (al (ct h0 (ar hn))) (lf (cT h0 rfl) rfl)) (fun h0=>lf (cF h0 rfl) rfl)))⟩
/-! ### (*shotline/kit.shop).find -/
def m63rz(a:Dat)(b:ByteArray):Bool × Nat × Dat :=
 (cond (aq (0<=(m82 (a.sn 0 0) (a.sub 0 0) (a.sn 0 1) (a.sub 0 1) b))) (aj,((a.sub 0 2).sn ((m82 (a.sn 0 0) (a.sub 0 0) (a.sn 0 1) (a.sub 0 1) b).toNat) 0),((a.sub 0 2).sub ((m82 (a.sn 0 0) (a.sub 0 0) (a.sn 0 1) (a.sub 0 1) b).toNat) 0)) (az,0,noDat))
def n63rz(a:Dat)(b:ByteArray):Bool :=
 ((n82 (a.sn 0 0) (a.sub 0 0) (a.sn 0 1) (a.sub 0 1) b)&&(cond (aq (0<=(m82 (a.sn 0 0) (a.sub 0 0) (a.sn 0 1) (a.sub 0 1) b))) ((aq (0<=m82 (a.sn 0 0) (a.sub 0 0) (a.sn 0 (0+1)) (a.sub 0 (0+1)) b/\m82 (a.sn 0 0) (a.sub 0 0) (a.sn 0 (0+1)) (a.sub 0 (0+1)) b<(↑(a.sn 0 (0+1+1)):Int)))&&aj) aj))
def q63rz(r:Bool × Nat × Dat):SV × List Blk × List Blk:=(.rz r.1 r.2.1 [.str,W Z,W Z,.mi [W Z,W Z,.bool],.mb,.mb,W Z,.bool,.m1] r.2.2,[],[])
def g63rz:GF:=fun vs bs=>match vs,bs with
 | [.rp [.sl [.str,W Z,W Z],.sl [.str,W Z,W Z,W Z],.sl [.pz [.str,W Z,W Z,.mi [W Z,W Z,.bool],.mb,.mb,W Z,.bool,.m1]],W Z] a 0 0,.str b],[]=>ak (rs 0 (q63rz (m63rz a b)) [n63rz a b])
 | _,_=>aw
def c63rz:Ctr:=genC [.rp [.sl [.str,W Z,W Z],.sl [.str,W Z,W Z,W Z],.sl [.pz [.str,W Z,W Z,.mi [W Z,W Z,.bool],.mb,.mb,W Z,.bool,.m1]],W Z],.k] g63rz
theorem k63rz:CtrOk Try.prog c63rz 63:=cx (tc k82 tn) mix_ok 8 (fn:=Try.f63) (c:=(Try.f63.body.getD .skip)) (grs:=[]) (rh:=.rz [.str,W Z,W Z,.mi [W Z,W Z,.bool],.mb,.mb,W Z,.bool,.m1]) Try.func63 rfl (by kernel_rfl) noLam fun vs bs q h hn=>by
 unfold g63rz at h
 split at h <;> cases h
 rename_i a b
 have hn:=n1 hn
 exact ⟨_,rfl,ca (fun R => 
 let a0:=(m82 (a.sn 0 0) (a.sub 0 0) (a.sn 0 1) (a.sub 0 1) b)
 (cnd (n82 (a.sn 0 0) (a.sub 0 0) (a.sn 0 1) (a.sub 0 1) b)
 (cnd (aq (0<=a0))
 (cnd (aq (0<=m82 (a.sn 0 0) (a.sub 0 0) (a.sn 0 (0+1)) (a.sub 0 (0+1)) b/\m82 (a.sn 0 0) (a.sub 0 0) (a.sn 0 (0+1)) (a.sub 0 (0+1)) b<(↑(a.sn 0 (0+1+1)):Int)))
 (R (.rz aj ((a.sub 0 2).sn (a0.toNat) 0) [.str,W Z,W Z,.mi [W Z,W Z,.bool],.mb,.mb,W Z,.bool,.m1] ((a.sub 0 2).sub (a0.toNat) 0)) [] [])
  False)
 (R (.rz az 0 [.str,W Z,W Z,.mi [W Z,W Z,.bool],.mb,.mb,W Z,.bool,.m1] noDat) [] []))
 False)) (fun R=>by kernel_rfl) (cn (al hn) (co (fun h0=>cn (al (ct h0 (ar hn))) (lf (cT h0 rfl) rfl)) (fun h0=>lf (cF h0 rfl) rfl)))⟩
/-! ### shotline/kit.CheckSetup -/
def l90_0(j:Nat)(n:Dat)(x:Int)(b:Dat)(u:Nat)(d:Dat):Nat->Int->Option (Bool × (Int) × (Unit))
 | 0,_=>aw
 | f+1,w=>(cond (aq (w<x)) (cond (aq (0<=w/\w<↑j)) (cond (n105 (n.ss w.toNat 0)) (cond (cond (m105 (n.ss w.toNat 0)) az aj) (ak (aj,4,ax)) (cond (n82 j b u d (n.ss w.toNat 0)) (cond (aq ((m82 j b u d (n.ss w.toNat 0))<w)) (ak (aj,5,ax)) (cond (cond (m106 (n.ii w.toNat 1)) az aj) (ak (aj,15,ax)) (cond (cond (m64 (n.ii w.toNat 2)) az aj) (ak (aj,2,ax)) (l90_0 j n x b u d f (Z.wrap (w+1)))))) aw)) aw) aw) (ak (az,ax,())))
abbrev o90_0(j:Nat)(n:Dat)(x:Int)(b:Dat)(u:Nat)(d:Dat)(w:Int):Option (Bool × (Int) × (Unit)):=l90_0 j n x b u d (j+x.toNat+w.toNat+u+8) w
def e90_0(j:Nat)(n:Dat)(x:Int)(b:Dat)(u:Nat)(d:Dat)(r:Bool × (Int) × (Unit))(K:XR):Prop:=cnd r.1 (K (XE.ret) [.ptr 0 0,V Z r.2.1] [.cells 25 [.ro [.str,W Z,W Z] j b,.ro [.str,W Z,W Z,W Z] u d]]) (K (XE.exit 0) [.ptr 0 0,.any] [.cells 25 [.ro [.str,W Z,W Z] j b,.ro [.str,W Z,W Z,W Z] u d]])
def g90_0:LSum:=fun s k=>match czv 0 92 [1,12,13,14] 1 [] s with
 | ak ([.ptr 0 0,.ro [.str,W Z,W Z] j n,V Z x,V Z w],[.cells 25 [.ro [.str,W Z,W Z] p b,.ro [.str,W Z,W Z,W Z] u d]])=>needs [decide (j=p),(o90_0 j n x b u d w).isSome] (e90_0 j n x b u d ((o90_0 j n x b u d w).getD ax) fun e vs bs=>inBlk 0 k e (mkSt 0 92 [1,2] vs 1 bs))
 | _=>False
theorem z90_0:LOk Try.prog g90_0 (.block 0 (bodyAt (Try.f90.body.getD .skip) 0)):=by
 refine lb (ι:=Nat × Dat × Int × Int × Dat × Nat × Dat) (fuel:=8) (na:=0) (nt:=92) (nx:=1) (Lh:=[1,12,13,14]) (Le:=[1,2]) (gl:=[]) (tc k64 (tc k82 (tc k83 (tc k102 (tc k105 (tc k106 tn)))))) mix_ok noLam rfl (fun f (j,n,x,w,b,u,d) K=>GG ax (e90_0 j n x b u d) K (l90_0 j n x b u d f w)) (fun (j,n,x,w,b,u,d)=>[.ptr 0 0,.ro [.str,W Z,W Z] j n,V Z x,V Z w]) (fun (j,n,x,w,b,u,d)=>[.cells 25 [.ro [.str,W Z,W Z] j b,.ro [.str,W Z,W Z,W Z] u d]]) (fun (_,_,_,_,_,_,_) K=>gg_none) ?_ ?_
 ·rintro f ⟨j,n,x,w,b,u,d⟩ K hG
  refine ro (fun R=>(cnd (aq (w<x))
 (cnd (aq (0<=w/\w<↑j))
 (cnd (n105 (n.ss w.toNat 0))
 (cnd (cond (m105 (n.ss w.toNat 0)) az aj)
 (R (XE.ret) [.ptr 0 0,V Z 4] [.cells 25 [.ro [.str,W Z,W Z] j b,.ro [.str,W Z,W Z,W Z] u d]])
 (cnd (n82 j b u d (n.ss w.toNat 0))
 (cnd (aq ((m82 j b u d (n.ss w.toNat 0))<w))
 (R (XE.ret) [.ptr 0 0,V Z 5] [.cells 25 [.ro [.str,W Z,W Z] j b,.ro [.str,W Z,W Z,W Z] u d]])
 (cnd (cond (m106 (n.ii w.toNat 1)) az aj)
 (R (XE.ret) [.ptr 0 0,V Z 15] [.cells 25 [.ro [.str,W Z,W Z] j b,.ro [.str,W Z,W Z,W Z] u d]])
 (cnd (cond (m64 (n.ii w.toNat 2)) az aj)
 (R (XE.ret) [.ptr 0 0,V Z 2] [.cells 25 [.ro [.str,W Z,W Z] j b,.ro [.str,W Z,W Z,W Z] u d]])
 (R (XE.normal) [.ptr 0 0,.ro [.str,W Z,W Z] j n,V Z x,V Z (Z.wrap (w+1))] [.cells 25 [.ro [.str,W Z,W Z] j b,.ro [.str,W Z,W Z,W Z] u d]]))))
   False))
  False)
  False)
 (R (XE.exit 0) [.ptr 0 0,.any] [.cells 25 [.ro [.str,W Z,W Z] j b,.ro [.str,W Z,W Z,W Z] u d]]))) (fun R=>by kernel_rfl) ?_
  exact ch hG (fun h0=>cg h0 fun h1=>cg h1 fun h2=>ch h2 (fun h3=>h3.2) (fun h3=>cg h3 fun h4=>ch h4 (fun h5=>h5.2) (fun h5=>ch h5 (fun h6=>h6.2) (fun h6=>ch h6 (fun h7=>h7.2) (fun h7=>⟨(_,_,_,_,_,_,_),rfl,rfl,h7⟩))))) (fun h0=>h0.2)
 ·intro s k h
  unfold g90_0 at h
  split at h <;> try exact h.elim
  rename_i e1
  rw [needs_iff] at h
  have hq:=h.1
  simp only [List.mem_cons,forall_eq_or_imp,decide_eq_true_eq,List.not_mem_nil,false_imp_iff,implies_true,and_true] at hq
  obtain ⟨rfl,hq⟩:=hq
  exact ⟨_,e1,_,(_,_,_,_,_,_,_),rfl,rfl,hq,h.2⟩
def l90_3(g:Nat)(i:Dat)(y:Int)(p:Nat)(b d:Dat):Nat->Int->Option (Bool × (Int) × (Unit))
 | 0,_=>aw
 | f+1,v=>(cond (aq (v<y)) (cond (aq (0<=v/\v<↑g)) (cond (n105 (i.ss v.toNat 0)) (cond (cond (m105 (i.ss v.toNat 0)) az aj) (ak (aj,4,ax)) (cond (n102 p b g d (i.ss v.toNat 0)) (cond (aq ((m102 p b g d (i.ss v.toNat 0))<v)) (ak (aj,5,ax)) (cond (cond (m106 (i.ii v.toNat 1)) az aj) (ak (aj,15,ax)) (cond (bif (cond (m83 (i.ii v.toNat 2) 0 10000) az aj) then aj else (cond (m83 (i.ii v.toNat 3) 0 1000) az aj)) (ak (aj,2,ax)) (cond (bif (aq ((i.ii v.toNat 2)=0)) then (aq ((i.ii v.toNat 3)=0)) else az) (ak (aj,11,ax)) (l90_3 g i y p b d f (Z.wrap (v+1))))))) aw)) aw) aw) (ak (az,ax,())))
abbrev o90_3(g:Nat)(i:Dat)(y:Int)(p:Nat)(b d:Dat)(v:Int):Option (Bool × (Int) × (Unit)):=l90_3 g i y p b d (g+y.toNat+v.toNat+p+8) v
def e90_3(g:Nat)(i:Dat)(y:Int)(p:Nat)(b d:Dat)(r:Bool × (Int) × (Unit))(K:XR):Prop:=cnd r.1 (K (XE.ret) [V Z r.2.1] [.cells 25 [.ro [.str,W Z,W Z] p b,.ro [.str,W Z,W Z,W Z] g d]]) (K (XE.exit 3) [.any] [.cells 25 [.ro [.str,W Z,W Z] p b,.ro [.str,W Z,W Z,W Z] g d]])
def g90_3:LSum:=fun s k=>match czv 0 92 [1,47,48,49] 1 [] s with
 | ak ([.ptr 0 0,.ro [.str,W Z,W Z,W Z] g i,V Z y,V Z v],[.cells 25 [.ro [.str,W Z,W Z] p b,.ro [.str,W Z,W Z,W Z] u d]])=>needs [decide (g=u),(o90_3 g i y p b d v).isSome] (e90_3 g i y p b d ((o90_3 g i y p b d v).getD ax) fun e vs bs=>inBlk 3 k e (mkSt 0 92 [2] vs 1 bs))
 | _=>False
theorem z90_3:LOk Try.prog g90_3 (.block 3 (bodyAt (Try.f90.body.getD .skip) 3)):=by
 refine lb (ι:=Nat × Dat × Int × Int × Nat × Dat × Dat) (fuel:=8) (na:=0) (nt:=92) (nx:=1) (Lh:=[1,47,48,49]) (Le:=[2]) (gl:=[]) (tc k64 (tc k82 (tc k83 (tc k102 (tc k105 (tc k106 tn)))))) mix_ok (lam_of rfl (lc z90_0 ln)) rfl (fun f (g,i,y,v,p,b,d) K=>GG ax (e90_3 g i y p b d) K (l90_3 g i y p b d f v)) (fun (g,i,y,v,p,b,d)=>[.ptr 0 0,.ro [.str,W Z,W Z,W Z] g i,V Z y,V Z v]) (fun (g,i,y,v,p,b,d)=>[.cells 25 [.ro [.str,W Z,W Z] p b,.ro [.str,W Z,W Z,W Z] g d]]) (fun (_,_,_,_,_,_,_) K=>gg_none) ?_ ?_
 ·rintro f ⟨g,i,y,v,p,b,d⟩ K hG
  refine ro (fun R=>(cnd (aq (v<y))
 (cnd (aq (0<=v/\v<↑g))
 (cnd (n105 (i.ss v.toNat 0))
 (cnd (cond (m105 (i.ss v.toNat 0)) az aj)
 (R (XE.ret) [V Z 4] [.cells 25 [.ro [.str,W Z,W Z] p b,.ro [.str,W Z,W Z,W Z] g d]])
 (cnd (n102 p b g d (i.ss v.toNat 0))
 (cnd (aq ((m102 p b g d (i.ss v.toNat 0))<v))
 (R (XE.ret) [V Z 5] [.cells 25 [.ro [.str,W Z,W Z] p b,.ro [.str,W Z,W Z,W Z] g d]])
 (cnd (cond (m106 (i.ii v.toNat 1)) az aj)
 (R (XE.ret) [V Z 15] [.cells 25 [.ro [.str,W Z,W Z] p b,.ro [.str,W Z,W Z,W Z] g d]])
 (cnd (bif (cond (m83 (i.ii v.toNat 2) 0 10000) az aj) then aj else (cond (m83 (i.ii v.toNat 3) 0 1000) az aj))
 (R (XE.ret) [V Z 2] [.cells 25 [.ro [.str,W Z,W Z] p b,.ro [.str,W Z,W Z,W Z] g d]])
 (cnd (bif (aq ((i.ii v.toNat 2)=0)) then (aq ((i.ii v.toNat 3)=0)) else az)
 (R (XE.ret) [V Z 11] [.cells 25 [.ro [.str,W Z,W Z] p b,.ro [.str,W Z,W Z,W Z] g d]])
 (R (XE.normal) [.ptr 0 0,.ro [.str,W Z,W Z,W Z] g i,V Z y,V Z (Z.wrap (v+1))] [.cells 25 [.ro [.str,W Z,W Z] p b,.ro [.str,W Z,W Z,W Z] g d]])))))
   False))
  False)
  False)
 (R (XE.exit 3) [.any] [.cells 25 [.ro [.str,W Z,W Z] p b,.ro [.str,W Z,W Z,W Z] g d]]))) (fun R=>by kernel_rfl) ?_
  exact ch hG (fun h0=>cg h0 fun h1=>cg h1 fun h2=>ch h2 (fun h3=>h3.2) (fun h3=>cg h3 fun h4=>ch h4 (fun h5=>h5.2) (fun h5=>ch h5 (fun h6=>h6.2) (fun h6=>ch h6 (fun h7=>h7.2) (fun h7=>ch h7 (fun h8=>h8.2) (fun h8=>⟨(_,_,_,_,_,_,_),rfl,rfl,h8⟩)))))) (fun h0=>h0.2)
 ·intro s k h
  unfold g90_3 at h
  split at h <;> try exact h.elim
  rename_i e1
  rw [needs_iff] at h
  have hq:=h.1
  simp only [List.mem_cons,forall_eq_or_imp,decide_eq_true_eq,List.not_mem_nil,false_imp_iff,implies_true,and_true] at hq
  obtain ⟨rfl,hq⟩:=hq
  exact ⟨_,e1,_,(_,_,_,_,_,_,_),rfl,rfl,hq,h.2⟩
def m90(l:Nat)(o:Dat)(m:Nat)(t:Dat):Int :=
 (cond (aq ((30:Int)<(l:Int))) 8 (cond ((o90_0 l o (l:Int) o m t 0).getD ax).1 ((o90_0 l o (l:Int) o m t 0).getD ax).2.1 (cond (aq ((20:Int)<(m:Int))) 8 (cond ((o90_3 m t (m:Int) l o t 0).getD ax).1 ((o90_3 m t (m:Int) l o t 0).getD ax).2.1 0))))
def n90(l:Nat)(o:Dat)(m:Nat)(t:Dat):Bool :=
 (cond (aq ((30:Int)<(l:Int))) aj (((o90_0 l o (l:Int) o m t 0).isSome)&&(cond ((o90_0 l o (l:Int) o m t 0).getD ax).1 aj (cond (aq ((20:Int)<(m:Int))) aj (((o90_3 m t (m:Int) l o t 0).isSome)&&aj)))))
def q90(r:Int):SV × List Blk × List Blk:=(V Z r,[],[])
def g90:GF:=fun vs bs=>match vs,bs with
 | [.agg [.ro [.str,W Z,W Z] l o,.ro [.str,W Z,W Z,W Z] m t]],[]=>ak (rs 0 (q90 (m90 l o m t)) [n90 l o m t])
 | _,_=>aw
def c90:Ctr:=genC [.a [.ro [.str,W Z,W Z],.ro [.str,W Z,W Z,W Z]]] g90
theorem k90:CtrOk Try.prog c90 90:=cx (tc k64 (tc k82 (tc k83 (tc k102 (tc k105 (tc k106 tn)))))) mix_ok 8 (fn:=Try.f90) (c:=(Try.f90.body.getD .skip)) (grs:=[]) (rh:=.k) Try.func90 rfl (by kernel_rfl) (lam_of rfl (lc z90_0 (lc z90_3 ln))) fun vs bs q h hn=>by
 unfold g90 at h
 split at h <;> cases h
 rename_i l o m t
 have hn:=n1 hn
 exact ⟨_,rfl,ca (fun R => 
 let a0:=(o90_0 l o (l:Int) o m t 0)
 let b0:=(o90_3 m t (m:Int) l o t 0)
 (cnd (aq ((30:Int)<(l:Int)))
 (R (V Z 8) [] [])
 (cnd (aq (l=l))
 (cnd (a0.isSome)
 (cnd (a0.getD ax).1
 (R (V Z (a0.getD ax).2.1) [] [])
 (cnd (aq ((20:Int)<(m:Int)))
 (R (V Z 8) [] [])
 (cnd (aq (m=m))
 (cnd (b0.isSome)
 (cnd (b0.getD ax).1
 (R (V Z (b0.getD ax).2.1) [] [])
 (R (V Z 0) [] []))
    False)
    False)))
  False)
  False))) (fun R=>by kernel_rfl) (co (fun h0=>lf (cT h0 rfl) rfl) (fun h0=>cn (decide_eq_true rfl) (cn (al (cf h0 hn)) (co (fun h1=>lf (cF h0 (cT h1 rfl)) rfl) (fun h1=>co (fun h2=>lf (cF h0 (cF h1 (cT h2 rfl))) rfl) (fun h2=>cn (decide_eq_true rfl) (cn (al (cf h2 (cf h1 (ar (cf h0 hn))))) (co (fun h3=>lf (cF h0 (cF h1 (cF h2 (cT h3 rfl)))) rfl) (fun h3=>lf (cF h0 (cF h1 (cF h2 (cF h3 rfl)))) rfl)))))))))⟩
/-! ### shotline/shotlineref07.Sorted -/
def l80_2(g:Nat)(i:Dat)(o:Int)(b:Nat)(d:Dat)(j:Nat)(l:Dat):Nat->Nat->Int->Nat->Dat->Option (Nat × Nat × Dat)
 | 0,_,_,_,_=>aw
 | f+1,p,x,m,n=>(cond (aq (x<=200)) (cond (aq (0<=o/\o<↑b)) (cond (n70 g i (d.ss o.toNat 0) x) (cond (m70 g i (d.ss o.toNat 0) x) (cond (aq (p<=m)) (cond (aq ((p+1)<=1073741824)) (l80_2 g i o b d j l f (p+1) (Z.wrap (x+1)) (p+1) (n.app p (datS [SV.str (d.ss o.toNat 0),V Z x] 2))) aw) aw) (l80_2 g i o b d j l f p (Z.wrap (x+1)) m n)) aw) aw) (ak (p,m,n)))
abbrev o80_2(g:Nat)(i:Dat)(o:Int)(b:Nat)(d:Dat)(j:Nat)(l:Dat)(p:Nat)(x:Int)(m:Nat)(n:Dat):Option (Nat × Nat × Dat):=l80_2 g i o b d j l (300+(g+p+o.toNat+x.toNat+b+j+m)) p x m n
def e80_2(g:Nat)(i:Dat)(o:Int)(b:Nat)(d:Dat)(j:Nat)(l:Dat)(r:Nat × Nat × Dat)(K:XR):Prop:=K (XE.exit 2) [.ro [.str,W Z] g i,.ptr 0 0,.gr 1 2 r.1,V Z o] [.cells 25 [.ro [.str,W Z,W Z] b d,.ro [.str,W Z,W Z,W Z] j l],.row 47 [.str,W Z] r.2.1 r.2.2]
def g80_2:LSum:=fun s k=>match czv 0 36 [1,2,5,6,7] 2 [⟨aj,5,0,1,47,[.str,W Z]⟩] s with
 | ak ([.ro [.str,W Z] g i,.ptr 0 0,.gr 1 2 p,V Z o,V Z x],[.cells 25 [.ro [.str,W Z,W Z] b d,.ro [.str,W Z,W Z,W Z] j l],.row 47 [.str,W Z] m n])=>needs [(o80_2 g i o b d j l p x m n).isSome] (e80_2 g i o b d j l ((o80_2 g i o b d j l p x m n).getD ax) fun e vs bs=>inBlk 2 k e (mkSt 0 36 [1,2,5,6] vs 2 bs))
 | _=>False
theorem z80_2:LOk Try.prog g80_2 (.block 2 (bodyAt (Try.f80.body.getD .skip) 2)):=by
 refine lb (ι:=Nat × Dat × Nat × Int × Int × Nat × Dat × Nat × Dat × Nat × Dat) (fuel:=8) (na:=0) (nt:=36) (nx:=2) (Lh:=[1,2,5,6,7]) (Le:=[1,2,5,6]) (gl:=[⟨aj,5,0,1,47,[.str,W Z]⟩]) (tc k70 tn) mix_ok noLam rfl (fun f (g,i,p,o,x,b,d,j,l,m,n) K=>GG ax (e80_2 g i o b d j l) K (l80_2 g i o b d j l f p x m n)) (fun (g,i,p,o,x,b,d,j,l,m,n)=>[.ro [.str,W Z] g i,.ptr 0 0,.gr 1 2 p,V Z o,V Z x]) (fun (g,i,p,o,x,b,d,j,l,m,n)=>[.cells 25 [.ro [.str,W Z,W Z] b d,.ro [.str,W Z,W Z,W Z] j l],.row 47 [.str,W Z] m n]) (fun (_,_,_,_,_,_,_,_,_,_,_) K=>gg_none) ?_ ?_
 ·rintro f ⟨g,i,p,o,x,b,d,j,l,m,n⟩ K hG
  refine ro (fun R=>(cnd (aq (x<=200))
 (cnd (aq (0<=o/\o<↑b))
 (cnd (n70 g i (d.ss o.toNat 0) x)
 (cnd (m70 g i (d.ss o.toNat 0) x)
 (cnd (aq (p<=m))
 (cnd (aq ((p+1)<=1073741824))
 (R (XE.normal) [.ro [.str,W Z] g i,.ptr 0 0,.gr 1 2 (p+1),V Z o,V Z (Z.wrap (x+1))] [.cells 25 [.ro [.str,W Z,W Z] b d,.ro [.str,W Z,W Z,W Z] j l],.row 47 [.str,W Z] (p+1) (n.app p (datS [SV.str (d.ss o.toNat 0),V Z x] 2))])
    False)
   False)
 (R (XE.normal) [.ro [.str,W Z] g i,.ptr 0 0,.gr 1 2 p,V Z o,V Z (Z.wrap (x+1))] [.cells 25 [.ro [.str,W Z,W Z] b d,.ro [.str,W Z,W Z,W Z] j l],.row 47 [.str,W Z] m n]))
  False)
  False)
 (R (XE.exit 2) [.ro [.str,W Z] g i,.ptr 0 0,.gr 1 2 p,V Z o] [.cells 25 [.ro [.str,W Z,W Z] b d,.ro [.str,W Z,W Z,W Z] j l],.row 47 [.str,W Z] m n]))) (fun R=>by kernel_rfl) ?_
  exact ch hG (fun h0=>cg h0 fun h1=>cg h1 fun h2=>ch h2 (fun h3=>cg h3 fun h4=>cg h4 fun h5=>⟨(_,_,_,_,_,_,_,_,_,_,_),rfl,rfl,h5⟩) (fun h3=>⟨(_,_,_,_,_,_,_,_,_,_,_),rfl,rfl,h3⟩)) (fun h0=>h0.2)
 ·intro s k h
  unfold g80_2 at h
  split at h <;> try exact h.elim
  rename_i e1
  rw [needs_iff] at h
  exact ⟨_,e1,_,(_,_,_,_,_,_,_,_,_,_,_),rfl,rfl,h.1 _ (List.mem_singleton.2 rfl),h.2⟩
def l80_0(g:Nat)(i:Dat)(b:Nat)(d:Dat)(j:Nat)(l:Dat):Nat->Nat->Int->Nat->Dat->Option (Nat × Nat × Dat)
 | 0,_,_,_,_=>aw
 | f+1,p,o,m,n=>(cond (aq (o<(b:Int))) (cond ((o80_2 g i o b d j l p 0 m n).isSome) (l80_0 g i b d j l f ((o80_2 g i o b d j l p 0 m n).getD ax).1 (Z.wrap (o+1)) ((o80_2 g i o b d j l p 0 m n).getD ax).2.1 ((o80_2 g i o b d j l p 0 m n).getD ax).2.2) aw) (ak (p,m,n)))
abbrev o80_0(g:Nat)(i:Dat)(b:Nat)(d:Dat)(j:Nat)(l:Dat)(p:Nat)(o:Int)(m:Nat)(n:Dat):Option (Nat × Nat × Dat):=l80_0 g i b d j l (g+p+o.toNat+b+j+m+8) p o m n
def e80_0(g:Nat)(i:Dat)(b:Nat)(d:Dat)(j:Nat)(l:Dat)(r:Nat × Nat × Dat)(K:XR):Prop:=K (XE.exit 0) [.gr 1 2 r.1] [.cells 25 [.ro [.str,W Z,W Z] b d,.ro [.str,W Z,W Z,W Z] j l],.row 47 [.str,W Z] r.2.1 r.2.2]
def g80_0:LSum:=fun s k=>match czv 0 36 [1,2,5,6] 2 [⟨aj,5,0,1,47,[.str,W Z]⟩] s with
 | ak ([.ro [.str,W Z] g i,.ptr 0 0,.gr 1 2 p,V Z o],[.cells 25 [.ro [.str,W Z,W Z] b d,.ro [.str,W Z,W Z,W Z] j l],.row 47 [.str,W Z] m n])=>needs [(o80_0 g i b d j l p o m n).isSome] (e80_0 g i b d j l ((o80_0 g i b d j l p o m n).getD ax) fun e vs bs=>inBlk 0 k e (mkSt 0 36 [5] vs 2 bs))
 | _=>False
theorem z80_0:LOk Try.prog g80_0 (.block 0 (bodyAt (Try.f80.body.getD .skip) 0)):=by
 refine lb (ι:=Nat × Dat × Nat × Int × Nat × Dat × Nat × Dat × Nat × Dat) (fuel:=8) (na:=0) (nt:=36) (nx:=2) (Lh:=[1,2,5,6]) (Le:=[5]) (gl:=[⟨aj,5,0,1,47,[.str,W Z]⟩]) (tc k70 tn) mix_ok (lam_of rfl (lc z80_2 ln)) rfl (fun f (g,i,p,o,b,d,j,l,m,n) K=>GG ax (e80_0 g i b d j l) K (l80_0 g i b d j l f p o m n)) (fun (g,i,p,o,b,d,j,l,m,n)=>[.ro [.str,W Z] g i,.ptr 0 0,.gr 1 2 p,V Z o]) (fun (g,i,p,o,b,d,j,l,m,n)=>[.cells 25 [.ro [.str,W Z,W Z] b d,.ro [.str,W Z,W Z,W Z] j l],.row 47 [.str,W Z] m n]) (fun (_,_,_,_,_,_,_,_,_,_) K=>gg_none) ?_ ?_
 ·rintro f ⟨g,i,p,o,b,d,j,l,m,n⟩ K hG
  refine ro (fun R => 
 let a0:=((o80_2 g i o b d j l p 0 m n).getD ax)
 (cnd (aq (o<(b:Int)))
 (cnd ((o80_2 g i o b d j l p 0 m n).isSome)
 (R (XE.normal) [.ro [.str,W Z] g i,.ptr 0 0,.gr 1 2 a0.1,V Z (Z.wrap (o+1))] [.cells 25 [.ro [.str,W Z,W Z] b d,.ro [.str,W Z,W Z,W Z] j l],.row 47 [.str,W Z] a0.2.1 a0.2.2])
  False)
 (R (XE.exit 0) [.gr 1 2 p] [.cells 25 [.ro [.str,W Z,W Z] b d,.ro [.str,W Z,W Z,W Z] j l],.row 47 [.str,W Z] m n]))) (fun R=>by kernel_rfl) ?_
  exact ch hG (fun h0=>cg h0 fun h1=>⟨(_,_,_,_,_,_,_,_,_,_),rfl,rfl,h1⟩) (fun h0=>h0.2)
 ·intro s k h
  unfold g80_0 at h
  split at h <;> try exact h.elim
  rename_i e1
  rw [needs_iff] at h
  exact ⟨_,e1,_,(_,_,_,_,_,_,_,_,_,_),rfl,rfl,h.1 _ (List.mem_singleton.2 rfl),h.2⟩
def m80(t:Nat)(u:Dat)(v:Nat)(w:Dat)(y:Nat)(z:Dat):Nat × Nat × Dat :=
 (((o80_0 y z t u v w 0 0 0 noDat).getD ax).1,((o80_0 y z t u v w 0 0 0 noDat).getD ax).2.1,((o80_0 y z t u v w 0 0 0 noDat).getD ax).2.2)
def n80(t:Nat)(u:Dat)(v:Nat)(w:Dat)(y:Nat)(z:Dat):Bool :=
 (((o80_0 y z t u v w 0 0 0 noDat).isSome)&&aj)
def q80(r:Nat × Nat × Dat):SV × List Blk × List Blk:=(.gr 0 2 r.1,[],[.row 47 [.str,W Z] r.2.1 r.2.2])
def g80:GF:=fun vs bs=>match vs,bs with
 | [.agg [.ro [.str,W Z,W Z] t u,.ro [.str,W Z,W Z,W Z] v w],.ro [.str,W Z] y z],[]=>ak (rs 0 (q80 (m80 t u v w y z)) [n80 t u v w y z])
 | _,_=>aw
def c80:Ctr:=sealL (genC [.a [.ro [.str,W Z,W Z],.ro [.str,W Z,W Z,W Z]],.ro [.str,W Z]] g80)
theorem k80:CtrOk Try.prog c80 80:=seal_l <| cx (tc k70 tn) mix_ok 8 (fn:=Try.f80) (c:=(Try.f80.body.getD .skip)) (grs:=[]) (rh:=.k) Try.func80 rfl (by kernel_rfl) (lam_of rfl (lc z80_2 (lc z80_0 ln))) fun vs bs q h hn=>by
 unfold g80 at h
 split at h <;> cases h
 rename_i t u v w y z
 have hn:=n1 hn
 exact ⟨_,rfl,ca (fun R=>(cnd ((o80_0 y z t u v w 0 0 0 noDat).isSome)
 (R (.gr 0 2 ((o80_0 y z t u v w 0 0 0 noDat).getD ax).1) [] [.row 47 [.str,W Z] ((o80_0 y z t u v w 0 0 0 noDat).getD ax).2.1 ((o80_0 y z t u v w 0 0 0 noDat).getD ax).2.2])
 False)) (fun R=>by kernel_rfl) (cn (al hn) (lf rfl rfl))⟩
/-! ### (*shotline/kit.shop).alone -/
def m107rz(a:Dat)(d i:Int)(b g e:ByteArray)(j:Bool):Int :=
 (cond (cond (m83 d 0 4) az aj) 15 (cond (cond (m64 i) az aj) 2 (cond (cond (m63rz a b).1 az aj) 6 (cond (bif (bif (bif (cond (aq (d=0)) az aj) then (cond (aq (g=({ data:=#[] }:ByteArray))) az aj) else az) then aj else (bif (cond (aq (d=2)) az aj) then (cond (aq (e=({ data:=#[] }:ByteArray))) az aj) else az)) then aj else (bif (bif (cond (aq (d=0)) az aj) then (cond (aq (d=4)) az aj) else az) then j else az)) 3 (cond (aq (d=0)) (cond (aq ((m102 (a.sn 0 0) (a.sub 0 0) (a.sn 0 1) (a.sub 0 1) g)<0)) 6 (cond (cond (aq (((a.sub 0 1).ii ((m102 (a.sn 0 0) (a.sub 0 0) (a.sn 0 1) (a.sub 0 1) g).toNat) 1)=((m63rz a b).2.2.ii 0 1))) az aj) 27 0)) (cond (aq (d=2)) (cond (cond (m63rz a e).1 az aj) 6 (cond (bif (cond (aq (((m63rz a b).2.2.ii 0 1)=1)) az aj) then aj else (bif (cond (aq (((m63rz a e).2.2.ii 0 1)=1)) az aj) then (cond (aq (((m63rz a e).2.2.ii 0 1)=3)) az aj) else az)) 27 (cond (bif (m63rz a e).1 then (bif (m63rz a b).1 then ((m63rz a e).2.1.beq (m63rz a b).2.1) else az) else (cond (m63rz a b).1 az aj)) 13 0))) (cond (aq (d=3)) (cond (cond (aq (((m63rz a b).2.2.ii 0 1)=1)) az aj) 27 0) (cond (aq (d=4)) (cond (cond (aq (((m63rz a b).2.2.ii 0 1)=3)) az aj) 27 0) 0))))))))
def n107rz(a:Dat)(d i:Int)(b g e:ByteArray)(j:Bool):Bool :=
 ((n63rz a b)&&(cond (cond (m83 d 0 4) az aj) aj (cond (cond (m64 i) az aj) aj (cond (cond (m63rz a b).1 az aj) aj (cond (bif (bif (bif (cond (aq (d=0)) az aj) then (cond (aq (g=({ data:=#[] }:ByteArray))) az aj) else az) then aj else (bif (cond (aq (d=2)) az aj) then (cond (aq (e=({ data:=#[] }:ByteArray))) az aj) else az)) then aj else (bif (bif (cond (aq (d=0)) az aj) then (cond (aq (d=4)) az aj) else az) then j else az)) aj (cond (aq (d=0)) ((n102 (a.sn 0 0) (a.sub 0 0) (a.sn 0 1) (a.sub 0 1) g)&&(cond (aq ((m102 (a.sn 0 0) (a.sub 0 0) (a.sn 0 1) (a.sub 0 1) g)<0)) aj ((aq (0<=m102 (a.sn 0 0) (a.sub 0 0) (a.sn 0 (0+1)) (a.sub 0 (0+1)) g/\m102 (a.sn 0 0) (a.sub 0 0) (a.sn 0 (0+1)) (a.sub 0 (0+1)) g<(↑(a.sn 0 (0+1)):Int)))&&((m63rz a b).1&&aj)))) (cond (aq (d=2)) ((n63rz a e)&&(cond (cond (m63rz a e).1 az aj) aj ((m63rz a b).1&&((bif (cond (cond (cond (aq (((m63rz a b).2.2.ii 0 1)=1)) az aj) az aj) az aj) then aj else (m63rz a e).1)&&((bif (cond (bif (cond (cond (aq (((m63rz a b).2.2.ii 0 1)=1)) az aj) az aj) then (cond (aq (((m63rz a e).2.2.ii 0 1)=1)) az aj) else az) az aj) then aj else (m63rz a e).1)&&aj))))) (cond (aq (d=3)) ((m63rz a b).1&&aj) (cond (aq (d=4)) ((m63rz a b).1&&aj) aj)))))))))
def q107rz(r:Int):SV × List Blk × List Blk:=(V Z r,[],[])
def g107rz:GF:=fun vs bs=>match vs,bs with
 | [.rp [.sl [.str,W Z,W Z],.sl [.str,W Z,W Z,W Z],.sl [.pz [.str,W Z,W Z,.mi [W Z,W Z,.bool],.mb,.mb,W Z,.bool,.m1]],W Z] a 0 0,.agg [V Z d,V Z i,.str b,.str g,.str e,.bool j]],[]=>ak (rs 0 (q107rz (m107rz a d i b g e j)) [n107rz a d i b g e j])
 | _,_=>aw
def c107rz:Ctr:=genC [.rp [.sl [.str,W Z,W Z],.sl [.str,W Z,W Z,W Z],.sl [.pz [.str,W Z,W Z,.mi [W Z,W Z,.bool],.mb,.mb,W Z,.bool,.m1]],W Z],.k] g107rz
theorem k107rz:CtrOk Try.prog c107rz 107:=cx (tc k63rz (tc k64 (tc k83 (tc k102 tn)))) mix_ok 8 (fn:=Try.f107) (c:=(Try.f107.body.getD .skip)) (grs:=[]) (rh:=.k) Try.func107 rfl (by kernel_rfl) noLam fun vs bs q h hn=>by
 unfold g107rz at h
 split at h <;> cases h
 rename_i a d i b g e j
 have hn:=n1 hn
 exact ⟨_,rfl,ca (fun R => 
 let a0:=(cond (aq (((m63rz a b).2.2.ii 0 1)=1)) az aj)
 let b0:=(cond (aq (((m63rz a e).2.2.ii 0 1)=1)) az aj)
 let c0:=(m102 (a.sn 0 0) (a.sub 0 0) (a.sn 0 1) (a.sub 0 1) g)
 (cnd (n63rz a b)
 (cnd (cond (m83 d 0 4) az aj)
 (R (V Z 15) [] [])
 (cnd (cond (m64 i) az aj)
 (R (V Z 2) [] [])
 (cnd (cond (m63rz a b).1 az aj)
 (R (V Z 6) [] [])
 (cnd (bif (bif (bif (cond (aq (d=0)) az aj) then (cond (aq (g=({ data:=#[] }:ByteArray))) az aj) else az) then aj else (bif (cond (aq (d=2)) az aj) then (cond (aq (e=({ data:=#[] }:ByteArray))) az aj) else az)) then aj else (bif (bif (cond (aq (d=0)) az aj) then (cond (aq (d=4)) az aj) else az) then j else az))
 (R (V Z 3) [] [])
 (cnd (aq (d=0))
 (cnd (n102 (a.sn 0 0) (a.sub 0 0) (a.sn 0 1) (a.sub 0 1) g)
 (cnd (aq (c0<0))
 (R (V Z 6) [] [])
 (cnd (aq (0<=m102 (a.sn 0 0) (a.sub 0 0) (a.sn 0 (0+1)) (a.sub 0 (0+1)) g/\m102 (a.sn 0 0) (a.sub 0 0) (a.sn 0 (0+1)) (a.sub 0 (0+1)) g<(↑(a.sn 0 (0+1)):Int)))
 (cnd (m63rz a b).1
 (cnd (cond (aq (((a.sub 0 1).ii (c0.toNat) 1)=((m63rz a b).2.2.ii 0 1))) az aj)
 (R (V Z 27) [] [])
 (R (V Z 0) [] []))
      False)
     False))
    False)
 (cnd (aq (d=2))
 (cnd (n63rz a e)
 (cnd (cond (m63rz a e).1 az aj)
 (R (V Z 6) [] [])
 (cnd (m63rz a b).1
 (cnd (bif (cond (cond a0 az aj) az aj) then aj else (m63rz a e).1)
 (cnd (bif (cond (bif (cond a0 az aj) then b0 else az) az aj) then aj else (m63rz a e).1)
 (cnd (bif a0 then aj else (bif b0 then (cond (aq (((m63rz a e).2.2.ii 0 1)=3)) az aj) else az))
 (R (V Z 27) [] [])
 (cnd (bif (m63rz a e).1 then (bif (m63rz a b).1 then ((m63rz a e).2.1.beq (m63rz a b).2.1) else az) else (cond (m63rz a b).1 az aj))
 (R (V Z 13) [] [])
 (R (V Z 0) [] [])))
       False)
      False)
      False))
     False)
 (cnd (aq (d=3))
 (cnd (m63rz a b).1
 (cnd a0
 (R (V Z 27) [] [])
 (R (V Z 0) [] []))
     False)
 (cnd (aq (d=4))
 (cnd (m63rz a b).1
 (cnd (cond (aq (((m63rz a b).2.2.ii 0 1)=3)) az aj)
 (R (V Z 27) [] [])
 (R (V Z 0) [] []))
      False)
 (R (V Z 0) [] [])))))))))
 False)) (fun R=>by kernel_rfl) (cn (al hn) (co (fun h0=>lf (cT h0 rfl) rfl) (fun h0=>co (fun h1=>lf (cF h0 (cT h1 rfl)) rfl) (fun h1=>co (fun h2=>lf (cF h0 (cF h1 (cT h2 rfl))) rfl) (fun h2=>co (fun h3=>lf (cF h0 (cF h1 (cF h2 (cT h3 rfl)))) rfl) (fun h3=>co (fun h4=>cn (al (ct h4 (cf h3 (cf h2 (cf h1 (cf h0 (ar hn))))))) (co (fun h5=>lf (cF h0 (cF h1 (cF h2 (cF h3 (cT h4 (cT h5 rfl)))))) rfl) (fun h5=>cn (al (cf h5 (ar (ct h4 (cf h3 (cf h2 (cf h1 (cf h0 (ar hn))))))))) (cn (al (ar (cf h5 (ar (ct h4 (cf h3 (cf h2 (cf h1 (cf h0 (ar hn)))))))))) (co (fun h6=>lf (cF h0 (cF h1 (cF h2 (cF h3 (cT h4 (cF h5 (cT h6 rfl))))))) rfl) (fun h6=>lf (cF h0 (cF h1 (cF h2 (cF h3 (cT h4 (cF h5 (cF h6 rfl))))))) rfl)))))) (fun h4=>co (fun h5=>cn (al (ct h5 (cf h4 (cf h3 (cf h2 (cf h1 (cf h0 (ar hn)))))))) (co (fun h6=>lf (cF h0 (cF h1 (cF h2 (cF h3 (cF h4 (cT h5 (cT h6 rfl))))))) rfl) (fun h6=>cn (al (cf h6 (ar (ct h5 (cf h4 (cf h3 (cf h2 (cf h1 (cf h0 (ar hn)))))))))) (cn (al (ar (cf h6 (ar (ct h5 (cf h4 (cf h3 (cf h2 (cf h1 (cf h0 (ar hn))))))))))) (cn (al (ar (ar (cf h6 (ar (ct h5 (cf h4 (cf h3 (cf h2 (cf h1 (cf h0 (ar hn)))))))))))) (co (fun h7=>lf (cF h0 (cF h1 (cF h2 (cF h3 (cF h4 (cT h5 (cF h6 (cT h7 rfl)))))))) rfl) (fun h7=>co (fun h8=>lf (cF h0 (cF h1 (cF h2 (cF h3 (cF h4 (cT h5 (cF h6 (cF h7 (cT h8 rfl))))))))) rfl) (fun h8=>lf (cF h0 (cF h1 (cF h2 (cF h3 (cF h4 (cT h5 (cF h6 (cF h7 (cF h8 rfl))))))))) rfl)))))))) (fun h5=>co (fun h6=>cn (al (ct h6 (cf h5 (cf h4 (cf h3 (cf h2 (cf h1 (cf h0 (ar hn))))))))) (co (fun h7=>lf (cF h0 (cF h1 (cF h2 (cF h3 (cF h4 (cF h5 (cT h6 (cT h7 rfl)))))))) rfl) (fun h7=>lf (cF h0 (cF h1 (cF h2 (cF h3 (cF h4 (cF h5 (cT h6 (cF h7 rfl)))))))) rfl))) (fun h6=>co (fun h7=>cn (al (ct h7 (cf h6 (cf h5 (cf h4 (cf h3 (cf h2 (cf h1 (cf h0 (ar hn)))))))))) (co (fun h8=>lf (cF h0 (cF h1 (cF h2 (cF h3 (cF h4 (cF h5 (cF h6 (cT h7 (cT h8 rfl))))))))) rfl) (fun h8=>lf (cF h0 (cF h1 (cF h2 (cF h3 (cF h4 (cF h5 (cF h6 (cT h7 (cF h8 rfl))))))))) rfl))) (fun h7=>lf (cF h0 (cF h1 (cF h2 (cF h3 (cF h4 (cF h5 (cF h6 (cF h7 rfl)))))))) rfl))))))))))⟩
/-! ### shotline/shotlineref07.BadBatches -/
def l33_0(l:Nat)(j:Dat)(p:Nat)(u:Dat)(t:Nat)(v:Dat):Nat->Nat->Int->Dat->Option (Nat × Nat × Dat)
 | 0,_,_,_=>aw
 | f+1,x,m,w=>(cond (aq (m<(l:Int))) (cond (aq (0<=m/\m<↑l)) (cond (bif (cond (aq ((j.ii m.toNat 0)=4)) az aj) then aj else (aq (0<=m/\m<↑l))) (cond (bif (aq ((j.ii m.toNat 0)=4)) then (cond (j.3 m.toNat (0+1+1+1+1+1)) az aj) else az) (cond (aq ((0:Int)<=(0:Int)/\(0:Int)<=m/\m<=(l:Int))) (cond (aq (0<=m/\m<↑l)) (cond (n46 ((m - 0).toNat) j (j.ss m.toNat 2)) (cond (aq (0<=m/\m<↑l)) (cond (aq ((x+1)<=1073741824)) (l33_0 l j p u t v f (x+1) (Z.wrap (m+1)) (w.app x (datS [SV.str (j.ss m.toNat 2),V Z (m46 ((m - 0).toNat) j (j.ss m.toNat 2)).1] 2))) aw) aw) aw) aw) aw) (l33_0 l j p u t v f x (Z.wrap (m+1)) w)) aw) aw) (ak (x,x,w)))
abbrev o33_0(l:Nat)(j:Dat)(p:Nat)(u:Dat)(t:Nat)(v:Dat)(x:Nat)(m:Int)(w:Dat):Option (Nat × Nat × Dat):=l33_0 l j p u t v (l+x+m.toNat+p+t+8) x m w
def e33_0(l:Nat)(j:Dat)(p:Nat)(u:Dat)(t:Nat)(v:Dat)(r:Nat × Nat × Dat)(K:XR):Prop:=K (XE.exit 0) [.ptr 0 0,.gr 1 2 r.1] [.cells 25 [.ro [.str,W Z,W Z] p u,.ro [.str,W Z,W Z,W Z] t v],.row 47 [.str,W Z] r.2.1 r.2.2]
def g33_0:LSum:=fun s k=>match czv 0 54 [1,2,5,6] 2 [⟨aj,5,0,1,47,[.str,W Z]⟩] s with
 | ak ([.ro [W Z,W Z,.str,.str,.str,.bool] l j,.ptr 0 0,.gr 1 2 x,V Z m],[.cells 25 [.ro [.str,W Z,W Z] p u,.ro [.str,W Z,W Z,W Z] t v],.row 47 [.str,W Z] b1_0 w])=>needs [decide (x=b1_0),(o33_0 l j p u t v x m w).isSome] (e33_0 l j p u t v ((o33_0 l j p u t v x m w).getD ax) fun e vs bs=>inBlk 0 k e (mkSt 0 54 [2,5] vs 2 bs))
 | _=>False
theorem z33_0:LOk Try.prog g33_0 (.block 0 (bodyAt (Try.f33.body.getD .skip) 0)):=by
 refine lb (ι:=Nat × Dat × Nat × Int × Nat × Dat × Nat × Dat × Dat) (fuel:=8) (na:=0) (nt:=54) (nx:=2) (Lh:=[1,2,5,6]) (Le:=[2,5]) (gl:=[⟨aj,5,0,1,47,[.str,W Z]⟩]) (tc k46 (tc k80 tn)) mix_ok noLam rfl (fun f (l,j,x,m,p,u,t,v,w) K=>GG ax (e33_0 l j p u t v) K (l33_0 l j p u t v f x m w)) (fun (l,j,x,m,p,u,t,v,w)=>[.ro [W Z,W Z,.str,.str,.str,.bool] l j,.ptr 0 0,.gr 1 2 x,V Z m]) (fun (l,j,x,m,p,u,t,v,w)=>[.cells 25 [.ro [.str,W Z,W Z] p u,.ro [.str,W Z,W Z,W Z] t v],.row 47 [.str,W Z] x w]) (fun (_,_,_,_,_,_,_,_,_) K=>gg_none) ?_ ?_
 ·rintro f ⟨l,j,x,m,p,u,t,v,w⟩ K hG
  refine ro (fun R => 
 let a0:=(aq (0<=m/\m<↑l))
 (cnd (aq (m<(l:Int)))
 (cnd a0
 (cnd (bif (cond (aq ((j.ii m.toNat 0)=4)) az aj) then aj else a0)
 (cnd (bif (aq ((j.ii m.toNat 0)=4)) then (cond (j.3 m.toNat (0+1+1+1+1+1)) az aj) else az)
 (cnd (aq ((0:Int)<=(0:Int)/\(0:Int)<=m/\m<=(l:Int)))
 (cnd a0
 (cnd (n46 ((m - 0).toNat) j (j.ss m.toNat 2))
 (cnd a0
 (cnd (aq (x<=x))
 (cnd (aq ((x+1)<=1073741824))
 (R (XE.normal) [.ro [W Z,W Z,.str,.str,.str,.bool] l j,.ptr 0 0,.gr 1 2 (x+1),V Z (Z.wrap (m+1))] [.cells 25 [.ro [.str,W Z,W Z] p u,.ro [.str,W Z,W Z,W Z] t v],.row 47 [.str,W Z] (x+1) (w.app x (datS [SV.str (j.ss m.toNat 2),V Z (m46 ((m - 0).toNat) j (j.ss m.toNat 2)).1] 2))])
      False)
     False)
     False)
    False)
    False)
   False)
 (R (XE.normal) [.ro [W Z,W Z,.str,.str,.str,.bool] l j,.ptr 0 0,.gr 1 2 x,V Z (Z.wrap (m+1))] [.cells 25 [.ro [.str,W Z,W Z] p u,.ro [.str,W Z,W Z,W Z] t v],.row 47 [.str,W Z] x w]))
  False)
  False)
 (R (XE.exit 0) [.ptr 0 0,.gr 1 2 x] [.cells 25 [.ro [.str,W Z,W Z] p u,.ro [.str,W Z,W Z,W Z] t v],.row 47 [.str,W Z] x w]))) (fun R=>by kernel_rfl) ?_
  exact ch hG (fun h0=>cg h0 fun h1=>cg h1 fun h2=>ch h2 (fun h3=>cg h3 fun h4=>cg h4 fun h5=>cg h5 fun h6=>cg h6 fun h7=>cn (decide_eq_true (Nat.le_refl _)) (cg h7 fun h8=>⟨(_,_,_,_,_,_,_,_,_),rfl,rfl,h8⟩)) (fun h3=>⟨(_,_,_,_,_,_,_,_,_),rfl,rfl,h3⟩)) (fun h0=>h0.2)
 ·intro s k h
  unfold g33_0 at h
  split at h <;> try exact h.elim
  rename_i e1
  rw [needs_iff] at h
  have hq:=h.1
  simp only [List.mem_cons,forall_eq_or_imp,decide_eq_true_eq,List.not_mem_nil,false_imp_iff,implies_true,and_true] at hq
  obtain ⟨rfl,hq⟩:=hq
  exact ⟨_,e1,_,(_,_,_,_,_,_,_,_,_),rfl,rfl,hq,h.2⟩
def m33(b:Nat)(d:Dat)(g:Nat)(i:Dat)(n:Nat)(o:Dat):Nat × Dat :=
 ((m80 b d g i ((o33_0 n o b d g i 0 0 noDat).getD ax).1 ((o33_0 n o b d g i 0 0 noDat).getD ax).2.2).1,(m80 b d g i ((o33_0 n o b d g i 0 0 noDat).getD ax).1 ((o33_0 n o b d g i 0 0 noDat).getD ax).2.2).2.2)
def n33(b:Nat)(d:Dat)(g:Nat)(i:Dat)(n:Nat)(o:Dat):Bool :=
 (((o33_0 n o b d g i 0 0 noDat).isSome)&&((aq ((0+((o33_0 n o b d g i 0 0 noDat).getD ax).1)<=((o33_0 n o b d g i 0 0 noDat).getD ax).2.1))&&((n80 b d g i ((o33_0 n o b d g i 0 0 noDat).getD ax).1 ((o33_0 n o b d g i 0 0 noDat).getD ax).2.2)&&((aq ((m80 b d g i ((o33_0 n o b d g i 0 0 noDat).getD ax).1 ((o33_0 n o b d g i 0 0 noDat).getD ax).2.2).1<=(m80 b d g i ((o33_0 n o b d g i 0 0 noDat).getD ax).1 ((o33_0 n o b d g i 0 0 noDat).getD ax).2.2).2.1))&&aj))))
def q33(r:Nat × Dat):SV × List Blk × List Blk:=(.ro [.str,W Z] r.1 r.2,[],[])
def g33:GF:=fun vs bs=>match vs,bs with
 | [.agg [.ro [.str,W Z,W Z] b d,.ro [.str,W Z,W Z,W Z] g i],.ro [W Z,W Z,.str,.str,.str,.bool] n o],[]=>ak (rs 0 (q33 (m33 b d g i n o)) [n33 b d g i n o])
 | _,_=>aw
def c33:Ctr:=genC [.a [.ro [.str,W Z,W Z],.ro [.str,W Z,W Z,W Z]],.ro [W Z,W Z,.str,.str,.str,.bool]] g33
theorem k33:CtrOk Try.prog c33 33:=cx (tc k46 (tc k80 tn)) mix_ok 8 (fn:=Try.f33) (c:=(Try.f33.body.getD .skip)) (grs:=[]) (rh:=.ro [.str,W Z]) Try.func33 rfl (by kernel_rfl) (lam_of rfl (lc z33_0 ln)) fun vs bs q h hn=>by
 unfold g33 at h
 split at h <;> cases h
 rename_i b d g i n o
 have hn:=n1 hn
 exact ⟨_,rfl,ca (fun R => 
 let a0:=((o33_0 n o b d g i 0 0 noDat).getD ax)
 let b0:=(m80 b d g i a0.1 a0.2.2)
 (cnd ((o33_0 n o b d g i 0 0 noDat).isSome)
 (cnd (aq ((0+a0.1)<=a0.2.1))
 (cnd (n80 b d g i a0.1 a0.2.2)
 (cnd (aq (b0.1<=b0.2.1))
 (R (.ro [.str,W Z] b0.1 b0.2.2) [] [])
   False)
  False)
  False)
 False)) (fun R=>by kernel_rfl) (cn (al hn) (cn (al (ar hn)) (cn (al (ar (ar hn))) (cn (al (ar (ar (ar hn)))) (lf rfl rfl)))))⟩
/-! ### shotline/shotlineref07.BatchesIn -/
def l36_0(v:Nat)(b:Dat)(D:ByteArray)(z d:Nat)(g:Dat)(i:Nat)(j:Dat):Nat->Nat->Int->Dat->Dat->Option (Nat × Dat × Nat × Dat)
 | 0,_,_,_,_=>aw
 | f+1,C,l,n,A=>(cond (aq (l<(v:Int))) (cond (aq (0<=l/\l<↑v)) (cond (n23 d g i j (b.ss l.toNat 2)) (cond (aq (0<=l/\l<↑v)) (cond (aq ((b.ii l.toNat 0)=3)) (cond (aq (0<=m23 d g i j (b.ss l.toNat (0+1+1))/\m23 d g i j (b.ss l.toNat (0+1+1))<(z:Int))) (cond (aq (((m23 d g i j (b.ss l.toNat 2)).toNat)<z)) (l36_0 v b D z d g i j f C (Z.wrap (l+1)) (n.upd ((m23 d g i j (b.ss l.toNat 2)).toNat) 0 [SV.ro [Kd.str,Kd.int Z] 0 noDat]) A) aw) aw) (cond (aq ((b.ii l.toNat 0)=2)) (cond (aq (0<=l/\l<↑v)) (cond (n23 d g i j (b.ss l.toNat 4)) (cond (aq (0<=m23 d g i j (b.ss l.toNat (0+1+1+1+1))/\m23 d g i j (b.ss l.toNat (0+1+1+1+1))<(d:Int))) (cond (aq ((g.ii ((m23 d g i j (b.ss l.toNat 4)).toNat) 1)=3)) (cond (aq ((0:Int)<=(0:Int)/\(0:Int)<=l/\l<=(v:Int))) (cond (aq (0<=l/\l<↑v)) (cond (n46 ((l - 0).toNat) b (b.ss l.toNat 4)) (cond (aq (0<=m23 d g i j (b.ss l.toNat (0+1+1))/\m23 d g i j (b.ss l.toNat (0+1+1))<(z:Int))) (cond (aq (((m23 d g i j (b.ss l.toNat 2)).toNat)<z)) (cond (aq ((0+(n.sn ((m23 d g i j (b.ss l.toNat 2)).toNat) 0))<=1073741824)) (cond (aq (0<=l/\l<↑v)) (cond (aq (((0+(n.sn ((m23 d g i j (b.ss l.toNat 2)).toNat) 0))+1)<=1073741824)) (cond (aq (0<=m23 d g i j (b.ss l.toNat (0+1+1))/\m23 d g i j (b.ss l.toNat (0+1+1))<(z:Int))) (cond (aq (((m23 d g i j (b.ss l.toNat 2)).toNat)<z)) (cond (aq (0<=l/\l<↑v)) (cond (aq ((b.ss l.toNat 2)=D)) (cond (aq (0<=m23 d g i j (b.ss l.toNat (0+1+1))/\m23 d g i j (b.ss l.toNat (0+1+1))<(z:Int))) (cond (aq (((m23 d g i j (b.ss l.toNat 2)).toNat)<z)) (cond (aq ((C+((n.upd ((m23 d g i j (b.ss l.toNat 2)).toNat) 0 [SV.ro [Kd.str,Kd.int Z] ((0+(n.sn ((m23 d g i j (b.ss l.toNat 2)).toNat) 0))+1) (((datS [] 2).app 0 (n.sub ((m23 d g i j (b.ss l.toNat 2)).toNat) 0)).app (0+(n.sn ((m23 d g i j (b.ss l.toNat 2)).toNat) 0)) (datS [SV.str (b.ss l.toNat 4),V Z (m46 ((l - 0).toNat) b (b.ss l.toNat 4)).1] 2))]).sn ((m23 d g i j (b.ss l.toNat 2)).toNat) 0))<=1073741824)) (l36_0 v b D z d g i j f (C+((n.upd ((m23 d g i j (b.ss l.toNat 2)).toNat) 0 [SV.ro [Kd.str,Kd.int Z] ((0+(n.sn ((m23 d g i j (b.ss l.toNat 2)).toNat) 0))+1) (((datS [] 2).app 0 (n.sub ((m23 d g i j (b.ss l.toNat 2)).toNat) 0)).app (0+(n.sn ((m23 d g i j (b.ss l.toNat 2)).toNat) 0)) (datS [SV.str (b.ss l.toNat 4),V Z (m46 ((l - 0).toNat) b (b.ss l.toNat 4)).1] 2))]).sn ((m23 d g i j (b.ss l.toNat 2)).toNat) 0)) (Z.wrap (l+1)) (n.upd ((m23 d g i j (b.ss l.toNat 2)).toNat) 0 [SV.ro [Kd.str,Kd.int Z] ((0+(n.sn ((m23 d g i j (b.ss l.toNat 2)).toNat) 0))+1) (((datS [] 2).app 0 (n.sub ((m23 d g i j (b.ss l.toNat 2)).toNat) 0)).app (0+(n.sn ((m23 d g i j (b.ss l.toNat 2)).toNat) 0)) (datS [SV.str (b.ss l.toNat 4),V Z (m46 ((l - 0).toNat) b (b.ss l.toNat 4)).1] 2))]) (A.app C ((n.upd ((m23 d g i j (b.ss l.toNat 2)).toNat) 0 [SV.ro [Kd.str,Kd.int Z] ((0+(n.sn ((m23 d g i j (b.ss l.toNat 2)).toNat) 0))+1) (((datS [] 2).app 0 (n.sub ((m23 d g i j (b.ss l.toNat 2)).toNat) 0)).app (0+(n.sn ((m23 d g i j (b.ss l.toNat 2)).toNat) 0)) (datS [SV.str (b.ss l.toNat 4),V Z (m46 ((l - 0).toNat) b (b.ss l.toNat 4)).1] 2))]).sub ((m23 d g i j (b.ss l.toNat 2)).toNat) 0))) aw) aw) aw) (l36_0 v b D z d g i j f C (Z.wrap (l+1)) (n.upd ((m23 d g i j (b.ss l.toNat 2)).toNat) 0 [SV.ro [Kd.str,Kd.int Z] ((0+(n.sn ((m23 d g i j (b.ss l.toNat 2)).toNat) 0))+1) (((datS [] 2).app 0 (n.sub ((m23 d g i j (b.ss l.toNat 2)).toNat) 0)).app (0+(n.sn ((m23 d g i j (b.ss l.toNat 2)).toNat) 0)) (datS [SV.str (b.ss l.toNat 4),V Z (m46 ((l - 0).toNat) b (b.ss l.toNat 4)).1] 2))]) A)) aw) aw) aw) aw) aw) aw) aw) aw) aw) aw) aw) (cond (aq (0<=m23 d g i j (b.ss l.toNat (0+1+1))/\m23 d g i j (b.ss l.toNat (0+1+1))<(z:Int))) (cond (aq (((m23 d g i j (b.ss l.toNat 2)).toNat)<z)) (cond (aq ((0+(n.sn ((m23 d g i j (b.ss l.toNat 2)).toNat) 0))<=1073741824)) (cond (aq (0<=m23 d g i j (b.ss l.toNat (0+1+1+1+1))/\m23 d g i j (b.ss l.toNat (0+1+1+1+1))<(z:Int))) (cond (aq (((m23 d g i j (b.ss l.toNat 4)).toNat)<z)) (cond (aq (((0+(n.sn ((m23 d g i j (b.ss l.toNat 2)).toNat) 0))+(n.sn ((m23 d g i j (b.ss l.toNat 4)).toNat) 0))<=1073741824)) (cond (aq (0<=m23 d g i j (b.ss l.toNat (0+1+1))/\m23 d g i j (b.ss l.toNat (0+1+1))<(z:Int))) (cond (aq (((m23 d g i j (b.ss l.toNat 2)).toNat)<z)) (cond (aq (0<=l/\l<↑v)) (cond (aq ((b.ss l.toNat 2)=D)) (cond (aq (0<=m23 d g i j (b.ss l.toNat (0+1+1))/\m23 d g i j (b.ss l.toNat (0+1+1))<(z:Int))) (cond (aq (((m23 d g i j (b.ss l.toNat 2)).toNat)<z)) (cond (aq ((C+((n.upd ((m23 d g i j (b.ss l.toNat 2)).toNat) 0 [SV.ro [Kd.str,Kd.int Z] ((0+(n.sn ((m23 d g i j (b.ss l.toNat 2)).toNat) 0))+(n.sn ((m23 d g i j (b.ss l.toNat 4)).toNat) 0)) (((datS [] 2).app 0 (n.sub ((m23 d g i j (b.ss l.toNat 2)).toNat) 0)).app (0+(n.sn ((m23 d g i j (b.ss l.toNat 2)).toNat) 0)) (n.sub ((m23 d g i j (b.ss l.toNat 4)).toNat) 0))]).sn ((m23 d g i j (b.ss l.toNat 2)).toNat) 0))<=1073741824)) (l36_0 v b D z d g i j f (C+((n.upd ((m23 d g i j (b.ss l.toNat 2)).toNat) 0 [SV.ro [Kd.str,Kd.int Z] ((0+(n.sn ((m23 d g i j (b.ss l.toNat 2)).toNat) 0))+(n.sn ((m23 d g i j (b.ss l.toNat 4)).toNat) 0)) (((datS [] 2).app 0 (n.sub ((m23 d g i j (b.ss l.toNat 2)).toNat) 0)).app (0+(n.sn ((m23 d g i j (b.ss l.toNat 2)).toNat) 0)) (n.sub ((m23 d g i j (b.ss l.toNat 4)).toNat) 0))]).sn ((m23 d g i j (b.ss l.toNat 2)).toNat) 0)) (Z.wrap (l+1)) (n.upd ((m23 d g i j (b.ss l.toNat 2)).toNat) 0 [SV.ro [Kd.str,Kd.int Z] ((0+(n.sn ((m23 d g i j (b.ss l.toNat 2)).toNat) 0))+(n.sn ((m23 d g i j (b.ss l.toNat 4)).toNat) 0)) (((datS [] 2).app 0 (n.sub ((m23 d g i j (b.ss l.toNat 2)).toNat) 0)).app (0+(n.sn ((m23 d g i j (b.ss l.toNat 2)).toNat) 0)) (n.sub ((m23 d g i j (b.ss l.toNat 4)).toNat) 0))]) (A.app C ((n.upd ((m23 d g i j (b.ss l.toNat 2)).toNat) 0 [SV.ro [Kd.str,Kd.int Z] ((0+(n.sn ((m23 d g i j (b.ss l.toNat 2)).toNat) 0))+(n.sn ((m23 d g i j (b.ss l.toNat 4)).toNat) 0)) (((datS [] 2).app 0 (n.sub ((m23 d g i j (b.ss l.toNat 2)).toNat) 0)).app (0+(n.sn ((m23 d g i j (b.ss l.toNat 2)).toNat) 0)) (n.sub ((m23 d g i j (b.ss l.toNat 4)).toNat) 0))]).sub ((m23 d g i j (b.ss l.toNat 2)).toNat) 0))) aw) aw) aw) (l36_0 v b D z d g i j f C (Z.wrap (l+1)) (n.upd ((m23 d g i j (b.ss l.toNat 2)).toNat) 0 [SV.ro [Kd.str,Kd.int Z] ((0+(n.sn ((m23 d g i j (b.ss l.toNat 2)).toNat) 0))+(n.sn ((m23 d g i j (b.ss l.toNat 4)).toNat) 0)) (((datS [] 2).app 0 (n.sub ((m23 d g i j (b.ss l.toNat 2)).toNat) 0)).app (0+(n.sn ((m23 d g i j (b.ss l.toNat 2)).toNat) 0)) (n.sub ((m23 d g i j (b.ss l.toNat 4)).toNat) 0))]) A)) aw) aw) aw) aw) aw) aw) aw) aw) aw)) aw) aw) aw) (l36_0 v b D z d g i j f C (Z.wrap (l+1)) n A))) aw) aw) aw) (ak (C,n,C,A)))
abbrev o36_0(v:Nat)(b:Dat)(D:ByteArray)(z d:Nat)(g:Dat)(i:Nat)(j:Dat)(C:Nat)(l:Int)(n A:Dat):Option (Nat × Dat × Nat × Dat):=l36_0 v b D z d g i j (v+D.size+z+C+l.toNat+d+i+8) C l n A
def e36_0(v:Nat)(b:Dat)(D:ByteArray)(z d:Nat)(g:Dat)(i:Nat)(j:Dat)(r:Nat × Dat × Nat × Dat)(K:XR):Prop:=K (XE.exit 0) [.str D,.ptr 0 0,.own 1 1 z,.gr 2 2 r.1] [.cells 25 [.ro [.str,W Z,W Z] d g,.ro [.str,W Z,W Z,W Z] i j],.row 55 [.sl [.str,W Z]] z r.2.1,.row 47 [.str,W Z] r.2.2.1 r.2.2.2]
def g36_0:LSum:=fun s k=>match czv 0 126 [1,2,3,8,9,10] 3 [⟨aj,9,0,2,47,[.str,W Z]⟩] s with
 | ak ([.ro [W Z,W Z,.str,.str,.str,.bool] v b,.str D,.ptr 0 0,.own 1 1 z,.gr 2 2 C,V Z l],[.cells 25 [.ro [.str,W Z,W Z] d g,.ro [.str,W Z,W Z,W Z] i j],.row 55 [.sl [.str,W Z]] b1_0 n,.row 47 [.str,W Z] b2_0 A])=>needs [decide (z=b1_0),decide (C=b2_0),(o36_0 v b D z d g i j C l n A).isSome] (e36_0 v b D z d g i j ((o36_0 v b D z d g i j C l n A).getD ax) fun e vs bs=>inBlk 0 k e (mkSt 0 126 [2,3,8,9] vs 3 bs))
 | _=>False
theorem z36_0:LOk Try.prog g36_0 (.block 0 (bodyAt (Try.f36.body.getD .skip) 0)):=by
 refine lb (ι:=Nat × Dat × ByteArray × Nat × Nat × Int × Nat × Dat × Nat × Dat × Dat × Dat) (fuel:=10) (na:=0) (nt:=126) (nx:=3) (Lh:=[1,2,3,8,9,10]) (Le:=[2,3,8,9]) (gl:=[⟨aj,9,0,2,47,[.str,W Z]⟩]) (tc k23 (tc k46 (tc k80 tn))) mix_ok noLam rfl (fun f (v,b,D,z,C,l,d,g,i,j,n,A) K=>GG ax (e36_0 v b D z d g i j) K (l36_0 v b D z d g i j f C l n A)) (fun (v,b,D,z,C,l,d,g,i,j,n,A)=>[.ro [W Z,W Z,.str,.str,.str,.bool] v b,.str D,.ptr 0 0,.own 1 1 z,.gr 2 2 C,V Z l]) (fun (v,b,D,z,C,l,d,g,i,j,n,A)=>[.cells 25 [.ro [.str,W Z,W Z] d g,.ro [.str,W Z,W Z,W Z] i j],.row 55 [.sl [.str,W Z]] z n,.row 47 [.str,W Z] C A]) (fun (_,_,_,_,_,_,_,_,_,_,_,_) K=>gg_none) ?_ ?_
 ·rintro f ⟨v,b,D,z,C,l,d,g,i,j,n,A⟩ K hG
  refine ro (fun R => 
 let a0:=((m23 d g i j (b.ss l.toNat 2)).toNat)
 let f0:=((m23 d g i j (b.ss l.toNat 4)).toNat)
 let h0:=((0+(n.sn a0 0))+(n.sn f0 0))
 let b0:=(n.upd a0 0 [SV.ro [Kd.str,Kd.int Z] h0 (((datS [] 2).app 0 (n.sub a0 0)).app (0+(n.sn a0 0)) (n.sub f0 0))])
 let c0:=(n.upd a0 0 [SV.ro [Kd.str,Kd.int Z] ((0+(n.sn a0 0))+1) (((datS [] 2).app 0 (n.sub a0 0)).app (0+(n.sn a0 0)) (datS [SV.str (b.ss l.toNat 4),V Z (m46 ((l - 0).toNat) b (b.ss l.toNat 4)).1] 2))])
 let d0:=(aq (0<=m23 d g i j (b.ss l.toNat (0+1+1))/\m23 d g i j (b.ss l.toNat (0+1+1))<(z:Int)))
 let e0:=(aq (0<=l/\l<↑v))
 let g0:=(b.ss l.toNat (0+1+1+1+1))
 let i0:=(aq ((0+(n.sn a0 0))<=(0+(n.sn a0 0))))
 (cnd (aq (l<(v:Int)))
 (cnd e0
 (cnd (n23 d g i j (b.ss l.toNat 2))
 (cnd e0
 (cnd (aq ((b.ii l.toNat 0)=3))
 (cnd d0
 (cnd (aq (a0<z))
 (R (XE.normal) [.ro [W Z,W Z,.str,.str,.str,.bool] v b,.str D,.ptr 0 0,.own 1 1 z,.gr 2 2 C,V Z (Z.wrap (l+1))] [.cells 25 [.ro [.str,W Z,W Z] d g,.ro [.str,W Z,W Z,W Z] i j],.row 55 [.sl [.str,W Z]] z (n.upd a0 0 [SV.ro [Kd.str,Kd.int Z] 0 noDat]),.row 47 [.str,W Z] C A])
    False)
    False)
 (cnd (aq ((b.ii l.toNat 0)=2))
 (cnd e0
 (cnd (n23 d g i j (b.ss l.toNat 4))
 (cnd (aq (0<=m23 d g i j g0/\m23 d g i j g0<(d:Int)))
 (cnd (aq ((g.ii f0 1)=3))
 (cnd (aq ((0:Int)<=(0:Int)/\(0:Int)<=l/\l<=(v:Int)))
 (cnd e0
 (cnd (n46 ((l - 0).toNat) b (b.ss l.toNat 4))
 (cnd d0
 (cnd (aq (a0<z))
 (cnd (aq ((0+(n.sn a0 0))<=1073741824))
 (cnd e0
 (cnd i0
 (cnd (aq (((0+(n.sn a0 0))+1)<=1073741824))
 (cnd d0
 (cnd (aq (((0+(n.sn a0 0))+1)<=((0+(n.sn a0 0))+1)))
 (cnd (aq (a0<z))
 (cnd e0
 (cnd (aq ((b.ss l.toNat 2)=D))
 (cnd d0
 (cnd (aq (a0<z))
 (cnd (aq (C<=C))
 (cnd (aq ((C+(c0.sn a0 0))<=1073741824))
 (R (XE.normal) [.ro [W Z,W Z,.str,.str,.str,.bool] v b,.str D,.ptr 0 0,.own 1 1 z,.gr 2 2 (C+(c0.sn a0 0)),V Z (Z.wrap (l+1))] [.cells 25 [.ro [.str,W Z,W Z] d g,.ro [.str,W Z,W Z,W Z] i j],.row 55 [.sl [.str,W Z]] z c0,.row 47 [.str,W Z] (C+(c0.sn a0 0)) (A.app C (c0.sub a0 0))])
               False)
              False)
              False)
             False)
 (R (XE.normal) [.ro [W Z,W Z,.str,.str,.str,.bool] v b,.str D,.ptr 0 0,.own 1 1 z,.gr 2 2 C,V Z (Z.wrap (l+1))] [.cells 25 [.ro [.str,W Z,W Z] d g,.ro [.str,W Z,W Z,W Z] i j],.row 55 [.sl [.str,W Z]] z c0,.row 47 [.str,W Z] C A]))
            False)
            False)
           False)
           False)
          False)
          False)
         False)
         False)
        False)
        False)
       False)
       False)
      False)
 (cnd d0
 (cnd (aq (a0<z))
 (cnd (aq ((0+(n.sn a0 0))<=1073741824))
 (cnd (aq (0<=m23 d g i j g0/\m23 d g i j g0<(z:Int)))
 (cnd (aq (f0<z))
 (cnd i0
 (cnd (aq (h0<=1073741824))
 (cnd d0
 (cnd (aq (h0<=h0))
 (cnd (aq (a0<z))
 (cnd e0
 (cnd (aq ((b.ss l.toNat 2)=D))
 (cnd d0
 (cnd (aq (a0<z))
 (cnd (aq (C<=C))
 (cnd (aq ((C+(b0.sn a0 0))<=1073741824))
 (R (XE.normal) [.ro [W Z,W Z,.str,.str,.str,.bool] v b,.str D,.ptr 0 0,.own 1 1 z,.gr 2 2 (C+(b0.sn a0 0)),V Z (Z.wrap (l+1))] [.cells 25 [.ro [.str,W Z,W Z] d g,.ro [.str,W Z,W Z,W Z] i j],.row 55 [.sl [.str,W Z]] z b0,.row 47 [.str,W Z] (C+(b0.sn a0 0)) (A.app C (b0.sub a0 0))])
              False)
             False)
             False)
            False)
 (R (XE.normal) [.ro [W Z,W Z,.str,.str,.str,.bool] v b,.str D,.ptr 0 0,.own 1 1 z,.gr 2 2 C,V Z (Z.wrap (l+1))] [.cells 25 [.ro [.str,W Z,W Z] d g,.ro [.str,W Z,W Z,W Z] i j],.row 55 [.sl [.str,W Z]] z b0,.row 47 [.str,W Z] C A]))
           False)
           False)
          False)
          False)
         False)
         False)
        False)
        False)
       False)
       False)
      False))
     False)
     False)
    False)
 (R (XE.normal) [.ro [W Z,W Z,.str,.str,.str,.bool] v b,.str D,.ptr 0 0,.own 1 1 z,.gr 2 2 C,V Z (Z.wrap (l+1))] [.cells 25 [.ro [.str,W Z,W Z] d g,.ro [.str,W Z,W Z,W Z] i j],.row 55 [.sl [.str,W Z]] z n,.row 47 [.str,W Z] C A])))
   False)
  False)
  False)
 (R (XE.exit 0) [.str D,.ptr 0 0,.own 1 1 z,.gr 2 2 C] [.cells 25 [.ro [.str,W Z,W Z] d g,.ro [.str,W Z,W Z,W Z] i j],.row 55 [.sl [.str,W Z]] z n,.row 47 [.str,W Z] C A]))) (fun R=>by kernel_rfl) ?_
  exact ch hG (fun h0=>cg h0 fun h1=>cg h1 fun h2=>cg h2 fun h3=>ch h3 (fun h4=>cg h4 fun h5=>cg h5 fun h6=>⟨(_,_,_,_,_,_,_,_,_,_,_,_),rfl,rfl,h6⟩) (fun h4=>ch h4 (fun h5=>cg h5 fun h6=>cg h6 fun h7=>cg h7 fun h8=>ch h8 (fun h9=>cg h9 fun h10=>cg h10 fun h11=>cg h11 fun h12=>cg h12 fun h13=>cg h13 fun h14=>cg h14 fun h15=>cg h15 fun h16=>cn (decide_eq_true (Nat.le_refl _)) (cg h16 fun h17=>cg h17 fun h18=>cn (decide_eq_true (Nat.le_refl _)) (cg h18 fun h19=>cg h19 fun h20=>ch h20 (fun h21=>cg h21 fun h22=>cg h22 fun h23=>cn (decide_eq_true (Nat.le_refl _)) (cg h23 fun h24=>⟨(_,_,_,_,_,_,_,_,_,_,_,_),rfl,rfl,h24⟩)) (fun h21=>⟨(_,_,_,_,_,_,_,_,_,_,_,_),rfl,rfl,h21⟩)))) (fun h9=>cg h9 fun h10=>cg h10 fun h11=>cg h11 fun h12=>cg h12 fun h13=>cg h13 fun h14=>cn (decide_eq_true (Nat.le_refl _)) (cg h14 fun h15=>cg h15 fun h16=>cn (decide_eq_true (Nat.le_refl _)) (cg h16 fun h17=>cg h17 fun h18=>ch h18 (fun h19=>cg h19 fun h20=>cg h20 fun h21=>cn (decide_eq_true (Nat.le_refl _)) (cg h21 fun h22=>⟨(_,_,_,_,_,_,_,_,_,_,_,_),rfl,rfl,h22⟩)) (fun h19=>⟨(_,_,_,_,_,_,_,_,_,_,_,_),rfl,rfl,h19⟩))))) (fun h5=>⟨(_,_,_,_,_,_,_,_,_,_,_,_),rfl,rfl,h5⟩))) (fun h0=>h0.2)
 ·intro s k h
  unfold g36_0 at h
  split at h <;> try exact h.elim
  rename_i e1
  rw [needs_iff] at h
  have hq:=h.1
  simp only [List.mem_cons,forall_eq_or_imp,decide_eq_true_eq,List.not_mem_nil,false_imp_iff,implies_true,and_true] at hq
  obtain ⟨rfl,rfl,hq⟩:=hq
  exact ⟨_,e1,_,(_,_,_,_,_,_,_,_,_,_,_,_),rfl,rfl,hq,h.2⟩
def m36(m:Nat)(o:Dat)(p:Nat)(u:Dat)(x:Nat)(y:Dat)(w:ByteArray):Nat × Dat × Nat × Dat :=
 ((m80 m o p u (((o36_0 x y w ((m:Int).toNat) m o p u 0 0 (datC [SV.ro [Kd.str,Kd.int Z] 0 noDat]) noDat).getD ax).2.1.sn ((m23 m o p u w).toNat) 0) (((o36_0 x y w ((m:Int).toNat) m o p u 0 0 (datC [SV.ro [Kd.str,Kd.int Z] 0 noDat]) noDat).getD ax).2.1.sub ((m23 m o p u w).toNat) 0)).1,(m80 m o p u (((o36_0 x y w ((m:Int).toNat) m o p u 0 0 (datC [SV.ro [Kd.str,Kd.int Z] 0 noDat]) noDat).getD ax).2.1.sn ((m23 m o p u w).toNat) 0) (((o36_0 x y w ((m:Int).toNat) m o p u 0 0 (datC [SV.ro [Kd.str,Kd.int Z] 0 noDat]) noDat).getD ax).2.1.sub ((m23 m o p u w).toNat) 0)).2.2,(m80 m o p u ((o36_0 x y w ((m:Int).toNat) m o p u 0 0 (datC [SV.ro [Kd.str,Kd.int Z] 0 noDat]) noDat).getD ax).1 ((o36_0 x y w ((m:Int).toNat) m o p u 0 0 (datC [SV.ro [Kd.str,Kd.int Z] 0 noDat]) noDat).getD ax).2.2.2).1,(m80 m o p u ((o36_0 x y w ((m:Int).toNat) m o p u 0 0 (datC [SV.ro [Kd.str,Kd.int Z] 0 noDat]) noDat).getD ax).1 ((o36_0 x y w ((m:Int).toNat) m o p u 0 0 (datC [SV.ro [Kd.str,Kd.int Z] 0 noDat]) noDat).getD ax).2.2.2).2.2)
def n36(m:Nat)(o:Dat)(p:Nat)(u:Dat)(x:Nat)(y:Dat)(w:ByteArray):Bool :=
 ((aq (0<=(m:Int)/\(m:Int)<=(m:Int)/\(m:Int)<=1073741824))&&(((o36_0 x y w ((m:Int).toNat) m o p u 0 0 (datC [SV.ro [Kd.str,Kd.int Z] 0 noDat]) noDat).isSome)&&((n23 m o p u w)&&((aq (0<=m23 m o p u w/\m23 m o p u w<(↑(m:Int).toNat:Int)))&&((aq (((m23 m o p u w).toNat)<((m:Int).toNat)))&&((n80 m o p u (((o36_0 x y w ((m:Int).toNat) m o p u 0 0 (datC [SV.ro [Kd.str,Kd.int Z] 0 noDat]) noDat).getD ax).2.1.sn ((m23 m o p u w).toNat) 0) (((o36_0 x y w ((m:Int).toNat) m o p u 0 0 (datC [SV.ro [Kd.str,Kd.int Z] 0 noDat]) noDat).getD ax).2.1.sub ((m23 m o p u w).toNat) 0))&&((aq ((m80 m o p u (((o36_0 x y w ((m:Int).toNat) m o p u 0 0 (datC [SV.ro [Kd.str,Kd.int Z] 0 noDat]) noDat).getD ax).2.1.sn ((m23 m o p u w).toNat) 0) (((o36_0 x y w ((m:Int).toNat) m o p u 0 0 (datC [SV.ro [Kd.str,Kd.int Z] 0 noDat]) noDat).getD ax).2.1.sub ((m23 m o p u w).toNat) 0)).1<=(m80 m o p u (((o36_0 x y w ((m:Int).toNat) m o p u 0 0 (datC [SV.ro [Kd.str,Kd.int Z] 0 noDat]) noDat).getD ax).2.1.sn ((m23 m o p u w).toNat) 0) (((o36_0 x y w ((m:Int).toNat) m o p u 0 0 (datC [SV.ro [Kd.str,Kd.int Z] 0 noDat]) noDat).getD ax).2.1.sub ((m23 m o p u w).toNat) 0)).2.1))&&((aq ((0+((o36_0 x y w ((m:Int).toNat) m o p u 0 0 (datC [SV.ro [Kd.str,Kd.int Z] 0 noDat]) noDat).getD ax).1)<=((o36_0 x y w ((m:Int).toNat) m o p u 0 0 (datC [SV.ro [Kd.str,Kd.int Z] 0 noDat]) noDat).getD ax).2.2.1))&&((n80 m o p u ((o36_0 x y w ((m:Int).toNat) m o p u 0 0 (datC [SV.ro [Kd.str,Kd.int Z] 0 noDat]) noDat).getD ax).1 ((o36_0 x y w ((m:Int).toNat) m o p u 0 0 (datC [SV.ro [Kd.str,Kd.int Z] 0 noDat]) noDat).getD ax).2.2.2)&&((aq ((m80 m o p u ((o36_0 x y w ((m:Int).toNat) m o p u 0 0 (datC [SV.ro [Kd.str,Kd.int Z] 0 noDat]) noDat).getD ax).1 ((o36_0 x y w ((m:Int).toNat) m o p u 0 0 (datC [SV.ro [Kd.str,Kd.int Z] 0 noDat]) noDat).getD ax).2.2.2).1<=(m80 m o p u ((o36_0 x y w ((m:Int).toNat) m o p u 0 0 (datC [SV.ro [Kd.str,Kd.int Z] 0 noDat]) noDat).getD ax).1 ((o36_0 x y w ((m:Int).toNat) m o p u 0 0 (datC [SV.ro [Kd.str,Kd.int Z] 0 noDat]) noDat).getD ax).2.2.2).2.1))&&aj))))))))))
def q36(r:Nat × Dat × Nat × Dat):SV × List Blk × List Blk:=(.tup [.ro [.str,W Z] r.1 r.2.1,.ro [.str,W Z] r.2.2.1 r.2.2.2],[],[])
def g36:GF:=fun vs bs=>match vs,bs with
 | [.agg [.ro [.str,W Z,W Z] m o,.ro [.str,W Z,W Z,W Z] p u],.ro [W Z,W Z,.str,.str,.str,.bool] x y,.str w],[]=>ak (rs 0 (q36 (m36 m o p u x y w)) [n36 m o p u x y w])
 | _,_=>aw
def c36:Ctr:=genC [.a [.ro [.str,W Z,W Z],.ro [.str,W Z,W Z,W Z]],.ro [W Z,W Z,.str,.str,.str,.bool],.k] g36
theorem k36:CtrOk Try.prog c36 36:=cx (tc k23 (tc k46 (tc k80 tn))) mix_ok 10 (fn:=Try.f36) (c:=(Try.f36.body.getD .skip)) (grs:=[]) (rh:=.t [.ro [.str,W Z],.ro [.str,W Z]]) Try.func36 rfl (by kernel_rfl) (lam_of rfl (lc z36_0 ln)) fun vs bs q h hn=>by
 unfold g36 at h
 split at h <;> cases h
 rename_i m o p u x y w
 have hn:=n1 hn
 exact ⟨_,rfl,ca (fun R => 
 let d0:=((m:Int).toNat)
 let a0:=((o36_0 x y w d0 m o p u 0 0 (datC [SV.ro [Kd.str,Kd.int Z] 0 noDat]) noDat).getD ax)
 let b0:=(m80 m o p u (a0.2.1.sn ((m23 m o p u w).toNat) 0) (a0.2.1.sub ((m23 m o p u w).toNat) 0))
 let c0:=(m80 m o p u a0.1 a0.2.2.2)
 (cnd (aq (0<=(m:Int)/\(m:Int)<=(m:Int)/\(m:Int)<=1073741824))
 (cnd (aq (d0=d0))
 (cnd ((o36_0 x y w d0 m o p u 0 0 (datC [SV.ro [Kd.str,Kd.int Z] 0 noDat]) noDat).isSome)
 (cnd (n23 m o p u w)
 (cnd (aq (0<=m23 m o p u w/\m23 m o p u w<(↑(m:Int).toNat:Int)))
 (cnd (aq (((m23 m o p u w).toNat)<d0))
 (cnd (n80 m o p u (a0.2.1.sn ((m23 m o p u w).toNat) 0) (a0.2.1.sub ((m23 m o p u w).toNat) 0))
 (cnd (aq (b0.1<=b0.2.1))
 (cnd (aq ((0+a0.1)<=a0.2.2.1))
 (cnd (n80 m o p u a0.1 a0.2.2.2)
 (cnd (aq (c0.1<=c0.2.1))
 (R (.tup [.ro [.str,W Z] b0.1 b0.2.2,.ro [.str,W Z] c0.1 c0.2.2]) [] [])
      False)
      False)
     False)
     False)
    False)
    False)
   False)
   False)
  False)
  False)
 False)) (fun R=>by kernel_rfl) (cn (al hn) (cn (decide_eq_true rfl) (cn (al (ar hn)) (cn (al (ar (ar hn))) (cn (al (ar (ar (ar hn)))) (cn (al (ar (ar (ar (ar hn))))) (cn (al (ar (ar (ar (ar (ar hn)))))) (cn (al (ar (ar (ar (ar (ar (ar hn))))))) (cn (al (ar (ar (ar (ar (ar (ar (ar hn)))))))) (cn (al (ar (ar (ar (ar (ar (ar (ar (ar hn))))))))) (cn (al (ar (ar (ar (ar (ar (ar (ar (ar (ar hn)))))))))) (lf rfl rfl))))))))))))⟩
end
end Go.Proofs.Ytldjapmfmhifkaa
