/-
 Contracts of functions: models, equations by the kernel, contracts. Conditions: none.
-/
import Derived.Test.YtldjapmfmhifkaaU5
import Derived.KernelRfl
namespace Go.Proofs.Ytldjapmfmhifkaa
open Go Go.Sy
noncomputable section
set_option linter.unusedVariables false
set_option linter.unusedSimpArgs false
set_option maxRecDepth 100000
set_option maxHeartbeats 2000000
attribute [local irreducible] Go.IntKind.wrap Int.tdiv Int.tmod Int.fdiv
open Go.Sy renaming tabOk_cons->tc,tabOk_nil->tn,cnd_need->cn,leaf_of->lf,cnd_gg->cg,cnd_gg2->ch,cond_f->cf,cond_t->ct,cnd_of->co,callOf->ca,roundOf->ro,cnd_not->nn,lams_cons->lc,lams_nil->ln,condT->cT,condF->cF,need1->n1,resOf->rs,and_l->al,and_r->ar,or_gg->og,ctr_of->cx,loop_blk->lb
open Go.IntKind renaming i64->Z
open Go.Sy.SV renaming int->V
open Go.Sy.Kd renaming int->W
open Decidable renaming decide->aq
open Inhabited renaming default->ax
open Bool renaming false->az,true->aj
open Option renaming some->ak,none->aw
/-! ### shotline/kit.Usable -/
def m19(b:Nat)(d:Dat)(e:Nat)(g:Dat)(i:Nat)(j:Dat)(l:ByteArray)(m:Int):Bool × Nat × Dat × Int :=
 (cond (cond (aq ((m62 b d e g i j).2.2.2=0)) az aj) (az,0,noDat,(m62 b d e g i j).2.2.2) (cond (cond (m63 (m62 b d e g i j).2.1 l).1 az aj) (az,0,noDat,6) (cond (cond (m64 m) az aj) (az,0,noDat,2) (cond (aq (m<((m62 b d e g i j).2.1.ii 0 3))) (az,0,noDat,19) ((aq ((↑((m65 (m62 b d e g i j).2.1 (m63 (m62 b d e g i j).2.1 l).2 m).1):Int)=0)),(m65 (m62 b d e g i j).2.1 (m63 (m62 b d e g i j).2.1 l).2 m).1,(m65 (m62 b d e g i j).2.1 (m63 (m62 b d e g i j).2.1 l).2 m).2,0)))))
def n19(b:Nat)(d:Dat)(e:Nat)(g:Dat)(i:Nat)(j:Dat)(l:ByteArray)(m:Int):Bool :=
 ((n62 b d e g i j)&&(cond (cond (aq ((m62 b d e g i j).2.2.2=0)) az aj) aj ((m62 b d e g i j).1&&((n63 (m62 b d e g i j).2.1 l)&&(cond (cond (m63 (m62 b d e g i j).2.1 l).1 az aj) aj (cond (cond (m64 m) az aj) aj ((m62 b d e g i j).1&&(cond (aq (m<((m62 b d e g i j).2.1.ii 0 3))) aj ((m62 b d e g i j).1&&((m63 (m62 b d e g i j).2.1 l).1&&((n65 (m62 b d e g i j).2.1 (m63 (m62 b d e g i j).2.1 l).2 m)&&aj)))))))))))
def q19(r:Bool × Nat × Dat × Int):SV × List Blk × List Blk:=(.tup [.bool r.1,.ro [W Z,.str,.str,W Z] r.2.1 r.2.2.1,V Z r.2.2.2],[],[])
def g19:GF:=fun vs bs=>match vs,bs with
 | [.agg [.ro [.str,W Z,W Z] b d,.ro [.str,W Z,W Z,W Z] e g],.ro [W Z,W Z,.str,.str,.str,.bool] i j,.agg [.str l,V Z m]],[]=>ak (rs 0 (q19 (m19 b d e g i j l m)) [n19 b d e g i j l m])
 | _,_=>aw
def c19:Ctr:=genC [.a [.ro [.str,W Z,W Z],.ro [.str,W Z,W Z,W Z]],.ro [W Z,W Z,.str,.str,.str,.bool],.k] g19
theorem k19:CtrOk Try.prog c19 19:=cx (tc k62 (tc k63 (tc k64 (tc k65 tn)))) mix_ok 8 (fn:=Try.f19) (c:=(Try.f19.body.getD .skip)) (grs:=[]) (rh:=.t [.k,.ro [W Z,.str,.str,W Z],.k]) Try.func19 rfl (by kernel_rfl) noLam fun vs bs q h hn=>by
 unfold g19 at h
 split at h <;> cases h
 rename_i b d e g i j l m
 have hn:=n1 hn
 exact ⟨_,rfl,ca (fun R => 
 let a0:=(m63 (m62 b d e g i j).2.1 l)
 let b0:=(m65 (m62 b d e g i j).2.1 a0.2 m)
 (cnd (n62 b d e g i j)
 (cnd (cond (aq ((m62 b d e g i j).2.2.2=0)) az aj)
 (R (.tup [.bool az,.ro [W Z,.str,.str,W Z] 0 noDat,V Z (m62 b d e g i j).2.2.2]) [] [])
 (cnd (m62 b d e g i j).1
 (cnd (n63 (m62 b d e g i j).2.1 l)
 (cnd (cond a0.1 az aj)
 (R (.tup [.bool az,.ro [W Z,.str,.str,W Z] 0 noDat,V Z 6]) [] [])
 (cnd (cond (m64 m) az aj)
 (R (.tup [.bool az,.ro [W Z,.str,.str,W Z] 0 noDat,V Z 2]) [] [])
 (cnd (m62 b d e g i j).1
 (cnd (aq (m<((m62 b d e g i j).2.1.ii 0 3)))
 (R (.tup [.bool az,.ro [W Z,.str,.str,W Z] 0 noDat,V Z 19]) [] [])
 (cnd (m62 b d e g i j).1
 (cnd a0.1
 (cnd (n65 (m62 b d e g i j).2.1 a0.2 m)
 (R (.tup [.bool (aq ((↑(b0.1):Int)=0)),.ro [W Z,.str,.str,W Z] b0.1 b0.2,V Z 0]) [] [])
      False)
      False)
     False))
    False)))
   False)
  False))
 False)) (fun R=>by kernel_rfl) (cn (al hn) (co (fun h0=>lf (cT h0 rfl) rfl) (fun h0=>cn (al (cf h0 (ar hn))) (cn (al (ar (cf h0 (ar hn)))) (co (fun h1=>lf (cF h0 (cT h1 rfl)) rfl) (fun h1=>co (fun h2=>lf (cF h0 (cF h1 (cT h2 rfl))) rfl) (fun h2=>cn (al (cf h2 (cf h1 (ar (ar (cf h0 (ar hn))))))) (co (fun h3=>lf (cF h0 (cF h1 (cF h2 (cT h3 rfl)))) rfl) (fun h3=>cn (al (cf h3 (ar (cf h2 (cf h1 (ar (ar (cf h0 (ar hn))))))))) (cn (al (ar (cf h3 (ar (cf h2 (cf h1 (ar (ar (cf h0 (ar hn)))))))))) (cn (al (ar (ar (cf h3 (ar (cf h2 (cf h1 (ar (ar (cf h0 (ar hn))))))))))) (lf (cF h0 (cF h1 (cF h2 (cF h3 rfl)))) rfl))))))))))))⟩
/-! ### shotline/kit.Quarantined -/
def m31(b:Nat)(d:Dat)(e:Nat)(g:Dat)(i:Nat)(j:Dat):Nat × Dat × Int :=
 (cond (cond (aq ((m62 b d e g i j).2.2.2=0)) az aj) (0,noDat,(m62 b d e g i j).2.2.2) ((m72c79 (m62 b d e g i j).2.1 (datC [SV.rp [Kd.sl [Kd.str,Kd.int Z,Kd.int Z],Kd.sl [Kd.str,Kd.int Z,Kd.int Z,Kd.int Z],Kd.sl [Kd.pt [Kd.str,Kd.int Z,Kd.int Z,Kd.mi [Kd.int Z,Kd.int Z,Kd.bool],Kd.mb,Kd.mb,Kd.int Z,Kd.bool,Kd.m1]],Kd.int Z] (m62 b d e g i j).2.1 0 0])).1,(m72c79 (m62 b d e g i j).2.1 (datC [SV.rp [Kd.sl [Kd.str,Kd.int Z,Kd.int Z],Kd.sl [Kd.str,Kd.int Z,Kd.int Z,Kd.int Z],Kd.sl [Kd.pt [Kd.str,Kd.int Z,Kd.int Z,Kd.mi [Kd.int Z,Kd.int Z,Kd.bool],Kd.mb,Kd.mb,Kd.int Z,Kd.bool,Kd.m1]],Kd.int Z] (m62 b d e g i j).2.1 0 0])).2.2,0))
def n31(b:Nat)(d:Dat)(e:Nat)(g:Dat)(i:Nat)(j:Dat):Bool :=
 ((n62 b d e g i j)&&(cond (cond (aq ((m62 b d e g i j).2.2.2=0)) az aj) aj ((m62 b d e g i j).1&&((m62 b d e g i j).1&&((n72c79 (m62 b d e g i j).2.1 (datC [SV.rp [Kd.sl [Kd.str,Kd.int Z,Kd.int Z],Kd.sl [Kd.str,Kd.int Z,Kd.int Z,Kd.int Z],Kd.sl [Kd.pt [Kd.str,Kd.int Z,Kd.int Z,Kd.mi [Kd.int Z,Kd.int Z,Kd.bool],Kd.mb,Kd.mb,Kd.int Z,Kd.bool,Kd.m1]],Kd.int Z] (m62 b d e g i j).2.1 0 0]))&&((aq ((0+(m72c79 (m62 b d e g i j).2.1 (datC [SV.rp [Kd.sl [Kd.str,Kd.int Z,Kd.int Z],Kd.sl [Kd.str,Kd.int Z,Kd.int Z,Kd.int Z],Kd.sl [Kd.pt [Kd.str,Kd.int Z,Kd.int Z,Kd.mi [Kd.int Z,Kd.int Z,Kd.bool],Kd.mb,Kd.mb,Kd.int Z,Kd.bool,Kd.m1]],Kd.int Z] (m62 b d e g i j).2.1 0 0])).1)<=(m72c79 (m62 b d e g i j).2.1 (datC [SV.rp [Kd.sl [Kd.str,Kd.int Z,Kd.int Z],Kd.sl [Kd.str,Kd.int Z,Kd.int Z,Kd.int Z],Kd.sl [Kd.pt [Kd.str,Kd.int Z,Kd.int Z,Kd.mi [Kd.int Z,Kd.int Z,Kd.bool],Kd.mb,Kd.mb,Kd.int Z,Kd.bool,Kd.m1]],Kd.int Z] (m62 b d e g i j).2.1 0 0])).2.1))&&aj))))))
def q31(r:Nat × Dat × Int):SV × List Blk × List Blk:=(.tup [.ro [.str] r.1 r.2.1,V Z r.2.2],[],[])
def g31:GF:=fun vs bs=>match vs,bs with
 | [.agg [.ro [.str,W Z,W Z] b d,.ro [.str,W Z,W Z,W Z] e g],.ro [W Z,W Z,.str,.str,.str,.bool] i j],[]=>ak (rs 0 (q31 (m31 b d e g i j)) [n31 b d e g i j])
 | _,_=>aw
def c31:Ctr:=genC [.a [.ro [.str,W Z,W Z],.ro [.str,W Z,W Z,W Z]],.ro [W Z,W Z,.str,.str,.str,.bool]] g31
theorem k31:CtrOk Try.prog c31 31:=cx (tc k62 (tc k72c79 (tc k79 tn))) mix_ok 8 (fn:=Try.f31) (c:=(Try.f31.body.getD .skip)) (grs:=[]) (rh:=.t [.ro [.str],.k]) Try.func31 rfl (by kernel_rfl) noLam fun vs bs q h hn=>by
 unfold g31 at h
 split at h <;> cases h
 rename_i b d e g i j
 have hn:=n1 hn
 exact ⟨_,rfl,ca (fun R => 
 let a0:=(datC [SV.rp [Kd.sl [Kd.str,Kd.int Z,Kd.int Z],Kd.sl [Kd.str,Kd.int Z,Kd.int Z,Kd.int Z],Kd.sl [Kd.pt [Kd.str,Kd.int Z,Kd.int Z,Kd.mi [Kd.int Z,Kd.int Z,Kd.bool],Kd.mb,Kd.mb,Kd.int Z,Kd.bool,Kd.m1]],Kd.int Z] (m62 b d e g i j).2.1 0 0])
 let b0:=(m72c79 (m62 b d e g i j).2.1 a0)
 (cnd (n62 b d e g i j)
 (cnd (cond (aq ((m62 b d e g i j).2.2.2=0)) az aj)
 (R (.tup [.ro [.str] 0 noDat,V Z (m62 b d e g i j).2.2.2]) [] [])
 (cnd (m62 b d e g i j).1
 (cnd (m62 b d e g i j).1
 (cnd (n72c79 (m62 b d e g i j).2.1 a0)
 (cnd (aq ((0+b0.1)<=b0.2.1))
 (R (.tup [.ro [.str] b0.1 b0.2.2,V Z 0]) [] [])
    False)
   False)
   False)
  False))
 False)) (fun R=>by kernel_rfl) (cn (al hn) (co (fun h0=>lf (cT h0 rfl) rfl) (fun h0=>cn (al (cf h0 (ar hn))) (cn (al (ar (cf h0 (ar hn)))) (cn (al (ar (ar (cf h0 (ar hn))))) (cn (al (ar (ar (ar (cf h0 (ar hn)))))) (lf (cF h0 rfl) rfl)))))))⟩
/-! ### shotline/kit.last -/
theorem x85(e:Nat)(g:Dat)(d:Nat)(b:Dat)(l:Nat)(m:Dat)(j i:ByteArray)(n:Int)(o:Bool)(R:SV->List Blk->List Blk->Prop):exec Try.prog [(62,c62),(63,c63),(64,c64),(102,c102)] (fun _=>aw) 8 (Try.f85.body.getD .skip) (initS Try.f85.ntmps [.agg [.ro [.str,W Z,W Z] e g,.ro [.str,W Z,W Z,W Z] d b],.ro [W Z,W Z,.str,.str,.str,.bool] l m,.agg [.str j,.str i,V Z n],.bool o] 0 (memOf [])) (retK Try.prog Try.f85.results.toList (outK 0 (List.range 0) [] (.k) fun v U N=>R v U N)) =
 (cnd (n62 e g d b l m)
 (cnd (cond (aq ((m62 e g d b l m).2.2.2=0)) az aj)
 (R (.tup [.val (Value.pointer aw),.agg [.str ({ data:=#[] }:ByteArray),V Z 0,V Z 0,V Z 0],V Z (m62 e g d b l m).2.2.2]) [] [])
 (cnd (m62 e g d b l m).1
 (cnd (n63 (m62 e g d b l m).2.1 j)
 (cnd (n102 e g d b i)
 (cnd (bif (cond (m63 (m62 e g d b l m).2.1 j).1 az aj) then aj else (aq ((m102 e g d b i)<0)))
 (R (.tup [.val (Value.pointer aw),.agg [.str ({ data:=#[] }:ByteArray),V Z 0,V Z 0,V Z 0],V Z 6]) [] [])
 (cnd (aq (0<=m102 e g d b i/\m102 e g d b i<(d:Int)))
 (cnd (m63 (m62 e g d b l m).2.1 j).1
 (cnd (cond (aq ((b.ii ((m102 e g d b i).toNat) 1)=((m63 (m62 e g d b l m).2.1 j).2.ii 0 1))) az aj)
 (R (.tup [.val (Value.pointer aw),.agg [.str ({ data:=#[] }:ByteArray),V Z 0,V Z 0,V Z 0],V Z 27]) [] [])
 (cnd (bif o then (cond (m64 n) az aj) else az)
 (R (.tup [.val (Value.pointer aw),.agg [.str ({ data:=#[] }:ByteArray),V Z 0,V Z 0,V Z 0],V Z 2]) [] [])
 (cnd (m63 (m62 e g d b l m).2.1 j).1
 (cnd (bif (aq (0<=(m102 e g d b i))) then (((m63 (m62 e g d b l m).2.1 j).2.sub 0 3).bb ((m102 e g d b i).toNat) 0) else az)
 (cnd (cond ((((m63 (m62 e g d b l m).2.1 j).2.sub 0 3).sub ((m102 e g d b i).toNat) 1).bb 0 2) az aj)
 (R (.tup [.val (Value.pointer aw),.agg [.str ({ data:=#[] }:ByteArray),V Z 0,V Z 0,V Z 0],V Z 24]) [] [])
 (cnd (m63 (m62 e g d b l m).2.1 j).1
 (cnd (aq (0<=m102 e g d b i/\m102 e g d b i<(d:Int)))
 (R (.tup [.rq (bif (aq (0<=(m102 e g d b i))) then (((m63 (m62 e g d b l m).2.1 j).2.sub 0 3).bb ((m102 e g d b i).toNat) 0) else az) [W Z,W Z,.bool] (((m63 (m62 e g d b l m).2.1 j).2.sub 0 3).sub ((m102 e g d b i).toNat) 1) 0 0,.agg [.str (b.ss ((m102 e g d b i).toNat) 0),V Z (b.ii ((m102 e g d b i).toNat) 1),V Z (b.ii ((m102 e g d b i).toNat) 2),V Z (b.ii ((m102 e g d b i).toNat) 3)],V Z 0]) [] [])
        False)
        False))
       False)
      False)))
     False)
    False))
   False)
   False)
  False))
 False):=by kernel_rfl
def m85a(e:Nat)(g:Dat)(d:Nat)(b:Dat)(l:Nat)(m:Dat)(j i:ByteArray)(n:Int)(o:Bool):ByteArray × Int × Int × Int × Int :=
 (cond (cond (aq ((m62 e g d b l m).2.2.2=0)) az aj) (({ data:=#[] }:ByteArray),0,0,0,(m62 e g d b l m).2.2.2) (cond (bif (cond (m63 (m62 e g d b l m).2.1 j).1 az aj) then aj else (aq ((m102 e g d b i)<0))) (({ data:=#[] }:ByteArray),0,0,0,6) (cond (cond (aq ((b.ii ((m102 e g d b i).toNat) 1)=((m63 (m62 e g d b l m).2.1 j).2.ii 0 1))) az aj) (({ data:=#[] }:ByteArray),0,0,0,27) (cond (bif o then (cond (m64 n) az aj) else az) (({ data:=#[] }:ByteArray),0,0,0,2) (({ data:=#[] }:ByteArray),0,0,0,24)))))
def n85a(e:Nat)(g:Dat)(d:Nat)(b:Dat)(l:Nat)(m:Dat)(j i:ByteArray)(n:Int)(o:Bool):Bool :=
 ((n62 e g d b l m)&&(cond (cond (aq ((m62 e g d b l m).2.2.2=0)) az aj) aj ((m62 e g d b l m).1&&((n63 (m62 e g d b l m).2.1 j)&&((n102 e g d b i)&&(cond (bif (cond (m63 (m62 e g d b l m).2.1 j).1 az aj) then aj else (aq ((m102 e g d b i)<0))) aj ((aq (0<=m102 e g d b i/\m102 e g d b i<(d:Int)))&&((m63 (m62 e g d b l m).2.1 j).1&&(cond (cond (aq ((b.ii ((m102 e g d b i).toNat) 1)=((m63 (m62 e g d b l m).2.1 j).2.ii 0 1))) az aj) aj (cond (bif o then (cond (m64 n) az aj) else az) aj ((m63 (m62 e g d b l m).2.1 j).1&&((bif (aq (0<=(m102 e g d b i))) then (((m63 (m62 e g d b l m).2.1 j).2.sub 0 3).bb ((m102 e g d b i).toNat) 0) else az)&&((cond ((((m63 (m62 e g d b l m).2.1 j).2.sub 0 3).sub ((m102 e g d b i).toNat) 1).bb 0 2) az aj)&&aj)))))))))))))
def q85a(r:ByteArray × Int × Int × Int × Int):SV × List Blk × List Blk:=(.tup [.val (Value.pointer aw),.agg [.str r.1,V Z r.2.1,V Z r.2.2.1,V Z r.2.2.2.1],V Z r.2.2.2.2],[],[])
def g85a:GF:=fun vs bs=>match vs,bs with
 | [.agg [.ro [.str,W Z,W Z] e g,.ro [.str,W Z,W Z,W Z] d b],.ro [W Z,W Z,.str,.str,.str,.bool] l m,.agg [.str j,.str i,V Z n],.bool o],[]=>ak (rs 0 (q85a (m85a e g d b l m j i n o)) [n85a e g d b l m j i n o])
 | _,_=>aw
def c85a:Ctr:=genC [.a [.ro [.str,W Z,W Z],.ro [.str,W Z,W Z,W Z]],.ro [W Z,W Z,.str,.str,.str,.bool],.k,.k] g85a
theorem k85a:CtrOk Try.prog c85a 85:=cx (tc k62 (tc k63 (tc k64 (tc k102 tn)))) mix_ok 8 (fn:=Try.f85) (c:=(Try.f85.body.getD .skip)) (grs:=[]) (rh:=.k) Try.func85 rfl (by kernel_rfl) noLam fun vs bs q h hn=>by
 unfold g85a at h
 split at h <;> cases h
 rename_i e g d b l m j i n o
 have hn:=n1 hn
 exact ⟨_,rfl,propOf (x85 e g d b l m j i n o _) (cn (al hn) (co (fun h0=>lf (cT h0 rfl) rfl) (fun h0=>cn (al (cf h0 (ar hn))) (cn (al (ar (cf h0 (ar hn)))) (cn (al (ar (ar (cf h0 (ar hn))))) (co (fun h1=>lf (cF h0 (cT h1 rfl)) rfl) (fun h1=>cn (al (cf h1 (ar (ar (ar (cf h0 (ar hn))))))) (cn (al (ar (cf h1 (ar (ar (ar (cf h0 (ar hn)))))))) (co (fun h2=>lf (cF h0 (cF h1 (cT h2 rfl))) rfl) (fun h2=>co (fun h3=>lf (cF h0 (cF h1 (cF h2 (cT h3 rfl)))) rfl) (fun h3=>cn (al (cf h3 (cf h2 (ar (ar (cf h1 (ar (ar (ar (cf h0 (ar hn))))))))))) (cn (al (ar (cf h3 (cf h2 (ar (ar (cf h1 (ar (ar (ar (cf h0 (ar hn)))))))))))) (co (fun _=>lf (cF h0 (cF h1 (cF h2 (cF h3 rfl)))) rfl) (fun h4=>(Bool.false_ne_true (h4.symm.trans (al (ar (ar (cf h3 (cf h2 (ar (ar (cf h1 (ar (ar (ar (cf h0 (ar hn))))))))))))))).elim))))))))))))))⟩
def m85b(e:Nat)(g:Dat)(d:Nat)(b:Dat)(l:Nat)(m:Dat)(j i:ByteArray)(n:Int)(o:Bool):Bool × Dat × ByteArray × Int × Int × Int × Int :=
 ((bif (aq (0<=(m102 e g d b i))) then (((m63 (m62 e g d b l m).2.1 j).2.sub 0 3).bb ((m102 e g d b i).toNat) 0) else az),(((m63 (m62 e g d b l m).2.1 j).2.sub 0 3).sub ((m102 e g d b i).toNat) 1),(b.ss ((m102 e g d b i).toNat) 0),(b.ii ((m102 e g d b i).toNat) 1),(b.ii ((m102 e g d b i).toNat) 2),(b.ii ((m102 e g d b i).toNat) 3),0)
def n85b(e:Nat)(g:Dat)(d:Nat)(b:Dat)(l:Nat)(m:Dat)(j i:ByteArray)(n:Int)(o:Bool):Bool :=
 ((n62 e g d b l m)&&(!(cond (aq ((m62 e g d b l m).2.2.2=0)) az aj)&&((m62 e g d b l m).1&&((n63 (m62 e g d b l m).2.1 j)&&((n102 e g d b i)&&(!(bif (cond (m63 (m62 e g d b l m).2.1 j).1 az aj) then aj else (aq ((m102 e g d b i)<0)))&&((aq (0<=m102 e g d b i/\m102 e g d b i<(d:Int)))&&((m63 (m62 e g d b l m).2.1 j).1&&(!(cond (aq ((b.ii ((m102 e g d b i).toNat) 1)=((m63 (m62 e g d b l m).2.1 j).2.ii 0 1))) az aj)&&(!(bif o then (cond (m64 n) az aj) else az)&&((m63 (m62 e g d b l m).2.1 j).1&&((bif (aq (0<=(m102 e g d b i))) then (((m63 (m62 e g d b l m).2.1 j).2.sub 0 3).bb ((m102 e g d b i).toNat) 0) else az)&&(!(cond ((((m63 (m62 e g d b l m).2.1 j).2.sub 0 3).sub ((m102 e g d b i).toNat) 1).bb 0 2) az aj)&&((m63 (m62 e g d b l m).2.1 j).1&&((aq (0<=m102 e g d b i/\m102 e g d b i<(d:Int)))&&aj)))))))))))))))
def q85b(r:Bool × Dat × ByteArray × Int × Int × Int × Int):SV × List Blk × List Blk:=(.tup [.rq r.1 [W Z,W Z,.bool] r.2.1 0 0,.agg [.str r.2.2.1,V Z r.2.2.2.1,V Z r.2.2.2.2.1,V Z r.2.2.2.2.2.1],V Z r.2.2.2.2.2.2],[],[])
def g85b:GF:=fun vs bs=>match vs,bs with
 | [.agg [.ro [.str,W Z,W Z] e g,.ro [.str,W Z,W Z,W Z] d b],.ro [W Z,W Z,.str,.str,.str,.bool] l m,.agg [.str j,.str i,V Z n],.bool o],[]=>ak (rs 0 (q85b (m85b e g d b l m j i n o)) [n85b e g d b l m j i n o])
 | _,_=>aw
def c85b:Ctr:=genC [.a [.ro [.str,W Z,W Z],.ro [.str,W Z,W Z,W Z]],.ro [W Z,W Z,.str,.str,.str,.bool],.k,.k] g85b
theorem k85b:CtrOk Try.prog c85b 85:=cx (tc k62 (tc k63 (tc k64 (tc k102 tn)))) mix_ok 8 (fn:=Try.f85) (c:=(Try.f85.body.getD .skip)) (grs:=[]) (rh:=.k) Try.func85 rfl (by kernel_rfl) noLam fun vs bs q h hn=>by
 unfold g85b at h
 split at h <;> cases h
 rename_i e g d b l m j i n o
 have hn:=n1 hn
 exact ⟨_,rfl,propOf (x85 e g d b l m j i n o _) (cn (al hn) (co (fun h0=>(Bool.false_ne_true ((not_l (ar hn)).symm.trans h0)).elim) (fun _=>cn (al (not_r (ar hn))) (cn (al (ar (not_r (ar hn)))) (cn (al (ar (ar (not_r (ar hn))))) (co (fun h0=>(Bool.false_ne_true ((not_l (ar (ar (ar (not_r (ar hn)))))).symm.trans h0)).elim) (fun _=>cn (al (not_r (ar (ar (ar (not_r (ar hn))))))) (cn (al (ar (not_r (ar (ar (ar (not_r (ar hn)))))))) (co (fun h0=>(Bool.false_ne_true ((not_l (ar (ar (not_r (ar (ar (ar (not_r (ar hn))))))))).symm.trans h0)).elim) (fun _=>co (fun h0=>(Bool.false_ne_true ((not_l (not_r (ar (ar (not_r (ar (ar (ar (not_r (ar hn)))))))))).symm.trans h0)).elim) (fun _=>cn (al (not_r (not_r (ar (ar (not_r (ar (ar (ar (not_r (ar hn))))))))))) (cn (al (ar (not_r (not_r (ar (ar (not_r (ar (ar (ar (not_r (ar hn)))))))))))) (co (fun h0=>(Bool.false_ne_true ((not_l (ar (ar (not_r (not_r (ar (ar (not_r (ar (ar (ar (not_r (ar hn))))))))))))).symm.trans h0)).elim) (fun _=>cn (al (not_r (ar (ar (not_r (not_r (ar (ar (not_r (ar (ar (ar (not_r (ar hn)))))))))))))) (cn (al (ar (not_r (ar (ar (not_r (not_r (ar (ar (not_r (ar (ar (ar (not_r (ar hn))))))))))))))) (lf rfl rfl))))))))))))))))⟩
/-! ### shotline/kit.DaysLeft -/
def m49(d:Nat)(e:Dat)(g:Nat)(i:Dat)(n:Nat)(o:Dat)(l m:ByteArray)(j:Int):Int × Int :=
 (cond (n85a d e g i n o l m j aj) (cond (cond (aq ((m85a d e g i n o l m j aj).2.2.2.2=0)) az aj) (0,(m85a d e g i n o l m j aj).2.2.2.2) (0,12)) (cond (cond (aq ((m85b d e g i n o l m j aj).2.2.2.2.2.2=0)) az aj) (0,(m85b d e g i n o l m j aj).2.2.2.2.2.2) (cond (aq ((m85b d e g i n o l m j aj).2.2.2.2.1=0)) (0,12) ((Z.wrap ((Z.wrap (((m85b d e g i n o l m j aj).2.1.ii 0 0)+(m85b d e g i n o l m j aj).2.2.2.2.1)) - j)),0))))
def n49(d:Nat)(e:Dat)(g:Nat)(i:Dat)(n:Nat)(o:Dat)(l m:ByteArray)(j:Int):Bool :=
 (cond (n85a d e g i n o l m j aj) ((n85a d e g i n o l m j aj)&&(cond (cond (aq ((m85a d e g i n o l m j aj).2.2.2.2=0)) az aj) aj ((aq ((m85a d e g i n o l m j aj).2.2.1=0))&&aj))) ((n85b d e g i n o l m j aj)&&(cond (cond (aq ((m85b d e g i n o l m j aj).2.2.2.2.2.2=0)) az aj) aj (cond (aq ((m85b d e g i n o l m j aj).2.2.2.2.1=0)) aj ((m85b d e g i n o l m j aj).1&&aj)))))
def q49(r:Int × Int):SV × List Blk × List Blk:=(.tup [V Z r.1,V Z r.2],[],[])
def g49:GF:=fun vs bs=>match vs,bs with
 | [.agg [.ro [.str,W Z,W Z] d e,.ro [.str,W Z,W Z,W Z] g i],.ro [W Z,W Z,.str,.str,.str,.bool] n o,.agg [.str l,.str m,V Z j]],[]=>ak (rs 0 (q49 (m49 d e g i n o l m j)) [n49 d e g i n o l m j])
 | _,_=>aw
def c49:Ctr:=genC [.a [.ro [.str,W Z,W Z],.ro [.str,W Z,W Z,W Z]],.ro [W Z,W Z,.str,.str,.str,.bool],.k] g49
theorem k49:CtrOk Try.prog c49 49:=cx (tc k85a (tc k85b tn)) mix_ok 8 (fn:=Try.f49) (c:=(Try.f49.body.getD .skip)) (grs:=[]) (rh:=.k) Try.func49 rfl (by kernel_rfl) noLam fun vs bs q h hn=>by
 unfold g49 at h
 split at h <;> cases h
 rename_i d e g i n o l m j
 have hn:=n1 hn
 exact ⟨_,rfl,ca (fun R => 
 let a0:=(m85b d e g i n o l m j aj)
 let b0:=(m85a d e g i n o l m j aj)
 ((cnd (n85a d e g i n o l m j aj)
 (cnd (cond (aq (b0.2.2.2.2=0)) az aj)
 (R (.tup [V Z 0,V Z b0.2.2.2.2]) [] [])
 (cnd (aq (b0.2.2.1=0))
 (R (.tup [V Z 0,V Z 12]) [] [])
   False))
  False) \/
 (cnd (n85b d e g i n o l m j aj)
 (cnd (cond (aq (a0.2.2.2.2.2.2=0)) az aj)
 (R (.tup [V Z 0,V Z a0.2.2.2.2.2.2]) [] [])
 (cnd (aq (a0.2.2.2.2.1=0))
 (R (.tup [V Z 0,V Z 12]) [] [])
 (cnd a0.1
 (R (.tup [V Z (Z.wrap ((Z.wrap ((a0.2.1.ii 0 0)+a0.2.2.2.2.1)) - j)),V Z 0]) [] [])
   False)))
  False))) (fun R=>by kernel_rfl) (or_of (b:=(n85a d e g i n o l m j aj)) (fun h0=>cn (al (ct h0 hn)) (co (fun h1=>lf (cT h0 (cT h1 rfl)) rfl) (fun h1=>cn (al (cf h1 (ar (ct h0 hn)))) (lf (cT h0 (cF h1 rfl)) rfl)))) (fun h0=>cn (al (cf h0 hn)) (co (fun h1=>lf (cF h0 (cT h1 rfl)) rfl) (fun h1=>co (fun h2=>lf (cF h0 (cF h1 (cT h2 rfl))) rfl) (fun h2=>cn (al (cf h2 (cf h1 (ar (cf h0 hn))))) (lf (cF h0 (cF h1 (cF h2 rfl))) rfl))))))⟩
/-! ### shotline/kit.UsesLeft -/
def m50(d:Nat)(e:Dat)(g:Nat)(i:Dat)(n:Nat)(o:Dat)(j l:ByteArray)(m:Int):Int × Int :=
 (cond (n85a d e g i n o j l m az) (cond (cond (aq ((m85a d e g i n o j l m az).2.2.2.2=0)) az aj) (0,(m85a d e g i n o j l m az).2.2.2.2) (0,12)) (cond (cond (aq ((m85b d e g i n o j l m az).2.2.2.2.2.2=0)) az aj) (0,(m85b d e g i n o j l m az).2.2.2.2.2.2) (cond (aq ((m85b d e g i n o j l m az).2.2.2.2.2.1=0)) (0,12) ((Z.wrap ((m85b d e g i n o j l m az).2.2.2.2.2.1 - ((m85b d e g i n o j l m az).2.1.ii 0 1))),0))))
def n50(d:Nat)(e:Dat)(g:Nat)(i:Dat)(n:Nat)(o:Dat)(j l:ByteArray)(m:Int):Bool :=
 (cond (n85a d e g i n o j l m az) ((n85a d e g i n o j l m az)&&(cond (cond (aq ((m85a d e g i n o j l m az).2.2.2.2=0)) az aj) aj ((aq ((m85a d e g i n o j l m az).2.2.2.1=0))&&aj))) ((n85b d e g i n o j l m az)&&(cond (cond (aq ((m85b d e g i n o j l m az).2.2.2.2.2.2=0)) az aj) aj (cond (aq ((m85b d e g i n o j l m az).2.2.2.2.2.1=0)) aj ((m85b d e g i n o j l m az).1&&aj)))))
def q50(r:Int × Int):SV × List Blk × List Blk:=(.tup [V Z r.1,V Z r.2],[],[])
def g50:GF:=fun vs bs=>match vs,bs with
 | [.agg [.ro [.str,W Z,W Z] d e,.ro [.str,W Z,W Z,W Z] g i],.ro [W Z,W Z,.str,.str,.str,.bool] n o,.agg [.str j,.str l,V Z m]],[]=>ak (rs 0 (q50 (m50 d e g i n o j l m)) [n50 d e g i n o j l m])
 | _,_=>aw
def c50:Ctr:=genC [.a [.ro [.str,W Z,W Z],.ro [.str,W Z,W Z,W Z]],.ro [W Z,W Z,.str,.str,.str,.bool],.k] g50
theorem k50:CtrOk Try.prog c50 50:=cx (tc k85a (tc k85b tn)) mix_ok 8 (fn:=Try.f50) (c:=(Try.f50.body.getD .skip)) (grs:=[]) (rh:=.k) Try.func50 rfl (by kernel_rfl) noLam fun vs bs q h hn=>by
 unfold g50 at h
 split at h <;> cases h
 rename_i d e g i n o j l m
 have hn:=n1 hn
 exact ⟨_,rfl,ca (fun R => 
 let a0:=(m85b d e g i n o j l m az)
 let b0:=(m85a d e g i n o j l m az)
 ((cnd (n85a d e g i n o j l m az)
 (cnd (cond (aq (b0.2.2.2.2=0)) az aj)
 (R (.tup [V Z 0,V Z b0.2.2.2.2]) [] [])
 (cnd (aq (b0.2.2.2.1=0))
 (R (.tup [V Z 0,V Z 12]) [] [])
   False))
  False) \/
 (cnd (n85b d e g i n o j l m az)
 (cnd (cond (aq (a0.2.2.2.2.2.2=0)) az aj)
 (R (.tup [V Z 0,V Z a0.2.2.2.2.2.2]) [] [])
 (cnd (aq (a0.2.2.2.2.2.1=0))
 (R (.tup [V Z 0,V Z 12]) [] [])
 (cnd a0.1
 (R (.tup [V Z (Z.wrap (a0.2.2.2.2.2.1 - (a0.2.1.ii 0 1))),V Z 0]) [] [])
   False)))
  False))) (fun R=>by kernel_rfl) (or_of (b:=(n85a d e g i n o j l m az)) (fun h0=>cn (al (ct h0 hn)) (co (fun h1=>lf (cT h0 (cT h1 rfl)) rfl) (fun h1=>cn (al (cf h1 (ar (ct h0 hn)))) (lf (cT h0 (cF h1 rfl)) rfl)))) (fun h0=>cn (al (cf h0 hn)) (co (fun h1=>lf (cF h0 (cT h1 rfl)) rfl) (fun h1=>co (fun h2=>lf (cF h0 (cF h1 (cT h2 rfl))) rfl) (fun h2=>cn (al (cf h2 (cf h1 (ar (cf h0 hn))))) (lf (cF h0 (cF h1 (cF h2 rfl))) rfl))))))⟩
/-! ### slices.stableCmpFunc[shotline/api.KitDue] -/
def l103c87r_0(g:Nat)(i d:Int):Nat->Int->Int->Nat->Dat->Option (Int × Nat × Dat)
 | 0,_,_,_,_=>aw
 | f+1,o,n,a,b=>(cond (aq (n<=i)) (cond (n115c87 g a b o n) (l103c87r_0 g i d f n (Z.wrap (n+d)) (m115c87 g a b o n).1 (m115c87 g a b o n).2) aw) (ak (o,a,b)))
abbrev o103c87r_0(g:Nat)(i d o n:Int)(a:Nat)(b:Dat):Option (Int × Nat × Dat):=l103c87r_0 g i d (g+i.toNat+d.toNat+o.toNat+n.toNat+a+8) o n a b
def e103c87r_0(g:Nat)(i d:Int)(r:Int × Nat × Dat)(K:XR):Prop:=K (XE.exit 0) [.gr 0 3 g,V Z i,.fn 87 [],V Z d,V Z r.1] [.row 88 [.str,.str,W Z] r.2.1 r.2.2]
def g103c87r_0:LSum:=fun s k=>match czv 1 63 [0,1,2,6,7,8] 1 [] s with
 | ak ([.gr 0 3 g,V Z i,.fn 87 [],V Z d,V Z o,V Z n],[.row 88 [.str,.str,W Z] a b])=>needs [(o103c87r_0 g i d o n a b).isSome] (e103c87r_0 g i d ((o103c87r_0 g i d o n a b).getD ax) fun e vs bs=>inBlk 0 k e (mkSt 1 63 [0,1,2,6,7] vs 1 bs))
 | _=>False
theorem z103c87r_0:LOk Try.prog g103c87r_0 (.block 0 (bodyAt (Try.f103.body.getD .skip) 0)):=by
 refine lb (ι:=Nat × Int × Int × Int × Int × Nat × Dat) (fuel:=8) (na:=1) (nt:=63) (nx:=1) (Lh:=[0,1,2,6,7,8]) (Le:=[0,1,2,6,7]) (gl:=[]) (tc k87 (tc k115c87 (tc k116c87 tn))) mix_ok noLam rfl (fun f (g,i,d,o,n,a,b) K=>GG ax (e103c87r_0 g i d) K (l103c87r_0 g i d f o n a b)) (fun (g,i,d,o,n,a,b)=>[.gr 0 3 g,V Z i,.fn 87 [],V Z d,V Z o,V Z n]) (fun (g,i,d,o,n,a,b)=>[.row 88 [.str,.str,W Z] a b]) (fun (_,_,_,_,_,_,_) K=>gg_none) ?_ ?_
 ·rintro f ⟨g,i,d,o,n,a,b⟩ K hG
  refine ro (fun R=>(cnd (aq (n<=i))
 (cnd (n115c87 g a b o n)
 (R (XE.normal) [.gr 0 3 g,V Z i,.fn 87 [],V Z d,V Z n,V Z (Z.wrap (n+d))] [.row 88 [.str,.str,W Z] (m115c87 g a b o n).1 (m115c87 g a b o n).2])
  False)
 (R (XE.exit 0) [.gr 0 3 g,V Z i,.fn 87 [],V Z d,V Z o] [.row 88 [.str,.str,W Z] a b]))) (fun R=>by kernel_rfl) ?_
  exact ch hG (fun h0=>cg h0 fun h1=>⟨(_,_,_,_,_,_,_),rfl,rfl,h1⟩) (fun h0=>h0.2)
 ·intro s k h
  unfold g103c87r_0 at h
  split at h <;> try exact h.elim
  rename_i e1
  rw [needs_iff] at h
  exact ⟨_,e1,_,(_,_,_,_,_,_,_),rfl,rfl,h.1 _ (List.mem_singleton.2 rfl),h.2⟩
def l103c87r_4(g:Nat)(i d:Int):Nat->Int->Int->Nat->Dat->Option (Int × Nat × Dat)
 | 0,_,_,_,_=>aw
 | f+1,o,n,a,b=>(cond (aq (n<=i)) (cond (n116c87 g a b o (Z.wrap (o+d)) n) (l103c87r_4 g i d f n (Z.wrap (n+(Z.wrap (2 * d)))) (m116c87 g a b o (Z.wrap (o+d)) n).1 (m116c87 g a b o (Z.wrap (o+d)) n).2) aw) (ak (o,a,b)))
abbrev o103c87r_4(g:Nat)(i d o n:Int)(a:Nat)(b:Dat):Option (Int × Nat × Dat):=l103c87r_4 g i d (g+i.toNat+d.toNat+o.toNat+n.toNat+a+8) o n a b
def e103c87r_4(g:Nat)(i d:Int)(r:Int × Nat × Dat)(K:XR):Prop:=K (XE.exit 4) [.gr 0 3 g,V Z i,.fn 87 [],V Z d,V Z r.1] [.row 88 [.str,.str,W Z] r.2.1 r.2.2]
def g103c87r_4:LSum:=fun s k=>match czv 1 63 [0,1,2,6,7,8] 1 [] s with
 | ak ([.gr 0 3 g,V Z i,.fn 87 [],V Z d,V Z o,V Z n],[.row 88 [.str,.str,W Z] a b])=>needs [(o103c87r_4 g i d o n a b).isSome] (e103c87r_4 g i d ((o103c87r_4 g i d o n a b).getD ax) fun e vs bs=>inBlk 4 k e (mkSt 1 63 [0,1,2,6,7] vs 1 bs))
 | _=>False
theorem z103c87r_4:LOk Try.prog g103c87r_4 (.block 4 (bodyAt (Try.f103.body.getD .skip) 4)):=by
 refine lb (ι:=Nat × Int × Int × Int × Int × Nat × Dat) (fuel:=8) (na:=1) (nt:=63) (nx:=1) (Lh:=[0,1,2,6,7,8]) (Le:=[0,1,2,6,7]) (gl:=[]) (tc k87 (tc k115c87 (tc k116c87 tn))) mix_ok (lam_of rfl (lc z103c87r_0 ln)) rfl (fun f (g,i,d,o,n,a,b) K=>GG ax (e103c87r_4 g i d) K (l103c87r_4 g i d f o n a b)) (fun (g,i,d,o,n,a,b)=>[.gr 0 3 g,V Z i,.fn 87 [],V Z d,V Z o,V Z n]) (fun (g,i,d,o,n,a,b)=>[.row 88 [.str,.str,W Z] a b]) (fun (_,_,_,_,_,_,_) K=>gg_none) ?_ ?_
 ·rintro f ⟨g,i,d,o,n,a,b⟩ K hG
  refine ro (fun R=>(cnd (aq (n<=i))
 (cnd (n116c87 g a b o (Z.wrap (o+d)) n)
 (R (XE.normal) [.gr 0 3 g,V Z i,.fn 87 [],V Z d,V Z n,V Z (Z.wrap (n+(Z.wrap (2 * d))))] [.row 88 [.str,.str,W Z] (m116c87 g a b o (Z.wrap (o+d)) n).1 (m116c87 g a b o (Z.wrap (o+d)) n).2])
  False)
 (R (XE.exit 4) [.gr 0 3 g,V Z i,.fn 87 [],V Z d,V Z o] [.row 88 [.str,.str,W Z] a b]))) (fun R=>by kernel_rfl) ?_
  exact ch hG (fun h0=>cg h0 fun h1=>⟨(_,_,_,_,_,_,_),rfl,rfl,h1⟩) (fun h0=>h0.2)
 ·intro s k h
  unfold g103c87r_4 at h
  split at h <;> try exact h.elim
  rename_i e1
  rw [needs_iff] at h
  exact ⟨_,e1,_,(_,_,_,_,_,_,_),rfl,rfl,h.1 _ (List.mem_singleton.2 rfl),h.2⟩
def l103c87r_2(g:Nat)(i:Int):Nat->Int->Nat->Dat->Option (Nat × Dat)
 | 0,_,_,_=>aw
 | f+1,d,a,b=>(cond (aq (d<i)) (cond ((o103c87r_4 g i d 0 (Z.wrap (2 * d)) a b).isSome) (cond (aq ((Z.wrap (((o103c87r_4 g i d 0 (Z.wrap (2 * d)) a b).getD ax).1+d))<i)) (cond (n116c87 g ((o103c87r_4 g i d 0 (Z.wrap (2 * d)) a b).getD ax).2.1 ((o103c87r_4 g i d 0 (Z.wrap (2 * d)) a b).getD ax).2.2 ((o103c87r_4 g i d 0 (Z.wrap (2 * d)) a b).getD ax).1 (Z.wrap (((o103c87r_4 g i d 0 (Z.wrap (2 * d)) a b).getD ax).1+d)) i) (l103c87r_2 g i f (Z.wrap (d * 2)) (m116c87 g ((o103c87r_4 g i d 0 (Z.wrap (2 * d)) a b).getD ax).2.1 ((o103c87r_4 g i d 0 (Z.wrap (2 * d)) a b).getD ax).2.2 ((o103c87r_4 g i d 0 (Z.wrap (2 * d)) a b).getD ax).1 (Z.wrap (((o103c87r_4 g i d 0 (Z.wrap (2 * d)) a b).getD ax).1+d)) i).1 (m116c87 g ((o103c87r_4 g i d 0 (Z.wrap (2 * d)) a b).getD ax).2.1 ((o103c87r_4 g i d 0 (Z.wrap (2 * d)) a b).getD ax).2.2 ((o103c87r_4 g i d 0 (Z.wrap (2 * d)) a b).getD ax).1 (Z.wrap (((o103c87r_4 g i d 0 (Z.wrap (2 * d)) a b).getD ax).1+d)) i).2) aw) (l103c87r_2 g i f (Z.wrap (d * 2)) ((o103c87r_4 g i d 0 (Z.wrap (2 * d)) a b).getD ax).2.1 ((o103c87r_4 g i d 0 (Z.wrap (2 * d)) a b).getD ax).2.2)) aw) (ak (a,b)))
abbrev o103c87r_2(g:Nat)(i d:Int)(a:Nat)(b:Dat):Option (Nat × Dat):=l103c87r_2 g i (g+i.toNat+d.toNat+a+8) d a b
def e103c87r_2(g:Nat)(i:Int)(r:Nat × Dat)(K:XR):Prop:=K (XE.exit 2) [] [.row 88 [.str,.str,W Z] r.1 r.2]
def g103c87r_2:LSum:=fun s k=>match czv 1 63 [0,1,2,6] 1 [] s with
 | ak ([.gr 0 3 g,V Z i,.fn 87 [],V Z d],[.row 88 [.str,.str,W Z] a b])=>needs [(o103c87r_2 g i d a b).isSome] (e103c87r_2 g i ((o103c87r_2 g i d a b).getD ax) fun e vs bs=>inBlk 2 k e (mkSt 1 63 [] vs 1 bs))
 | _=>False
theorem z103c87r_2:LOk Try.prog g103c87r_2 (.block 2 (bodyAt (Try.f103.body.getD .skip) 2)):=by
 refine lb (ι:=Nat × Int × Int × Nat × Dat) (fuel:=8) (na:=1) (nt:=63) (nx:=1) (Lh:=[0,1,2,6]) (Le:=[]) (gl:=[]) (tc k87 (tc k115c87 (tc k116c87 tn))) mix_ok (lam_of rfl (lc z103c87r_0 (lc z103c87r_4 ln))) rfl (fun f (g,i,d,a,b) K=>GG ax (e103c87r_2 g i) K (l103c87r_2 g i f d a b)) (fun (g,i,d,a,b)=>[.gr 0 3 g,V Z i,.fn 87 [],V Z d]) (fun (g,i,d,a,b)=>[.row 88 [.str,.str,W Z] a b]) (fun (_,_,_,_,_) K=>gg_none) ?_ ?_
 ·rintro f ⟨g,i,d,a,b⟩ K hG
  refine ro (fun R => 
 let a0:=((o103c87r_4 g i d 0 (Z.wrap (2 * d)) a b).getD ax)
 let b0:=(m116c87 g a0.2.1 a0.2.2 a0.1 (Z.wrap (a0.1+d)) i)
 (cnd (aq (d<i))
 (cnd ((o103c87r_4 g i d 0 (Z.wrap (2 * d)) a b).isSome)
 (cnd (aq ((Z.wrap (a0.1+d))<i))
 (cnd (n116c87 g a0.2.1 a0.2.2 a0.1 (Z.wrap (a0.1+d)) i)
 (R (XE.normal) [.gr 0 3 g,V Z i,.fn 87 [],V Z (Z.wrap (d * 2))] [.row 88 [.str,.str,W Z] b0.1 b0.2])
   False)
 (R (XE.normal) [.gr 0 3 g,V Z i,.fn 87 [],V Z (Z.wrap (d * 2))] [.row 88 [.str,.str,W Z] a0.2.1 a0.2.2]))
  False)
 (R (XE.exit 2) [] [.row 88 [.str,.str,W Z] a b]))) (fun R=>by kernel_rfl) ?_
  exact ch hG (fun h0=>cg h0 fun h1=>ch h1 (fun h2=>cg h2 fun h3=>⟨(_,_,_,_,_),rfl,rfl,h3⟩) (fun h2=>⟨(_,_,_,_,_),rfl,rfl,h2⟩)) (fun h0=>h0.2)
 ·intro s k h
  unfold g103c87r_2 at h
  split at h <;> try exact h.elim
  rename_i e1
  rw [needs_iff] at h
  exact ⟨_,e1,_,(_,_,_,_,_),rfl,rfl,h.1 _ (List.mem_singleton.2 rfl),h.2⟩
def m103c87r(j ma0:Nat)(l:Dat)(m:Int):Nat × Dat :=
 (((o103c87r_2 j m 20 (m115c87 j ((o103c87r_0 j m 20 0 20 ma0 l).getD ax).2.1 ((o103c87r_0 j m 20 0 20 ma0 l).getD ax).2.2 ((o103c87r_0 j m 20 0 20 ma0 l).getD ax).1 m).1 (m115c87 j ((o103c87r_0 j m 20 0 20 ma0 l).getD ax).2.1 ((o103c87r_0 j m 20 0 20 ma0 l).getD ax).2.2 ((o103c87r_0 j m 20 0 20 ma0 l).getD ax).1 m).2).getD ax).1,((o103c87r_2 j m 20 (m115c87 j ((o103c87r_0 j m 20 0 20 ma0 l).getD ax).2.1 ((o103c87r_0 j m 20 0 20 ma0 l).getD ax).2.2 ((o103c87r_0 j m 20 0 20 ma0 l).getD ax).1 m).1 (m115c87 j ((o103c87r_0 j m 20 0 20 ma0 l).getD ax).2.1 ((o103c87r_0 j m 20 0 20 ma0 l).getD ax).2.2 ((o103c87r_0 j m 20 0 20 ma0 l).getD ax).1 m).2).getD ax).2)
def n103c87r(j ma0:Nat)(l:Dat)(m:Int):Bool :=
 (((o103c87r_0 j m 20 0 20 ma0 l).isSome)&&((n115c87 j ((o103c87r_0 j m 20 0 20 ma0 l).getD ax).2.1 ((o103c87r_0 j m 20 0 20 ma0 l).getD ax).2.2 ((o103c87r_0 j m 20 0 20 ma0 l).getD ax).1 m)&&(((o103c87r_2 j m 20 (m115c87 j ((o103c87r_0 j m 20 0 20 ma0 l).getD ax).2.1 ((o103c87r_0 j m 20 0 20 ma0 l).getD ax).2.2 ((o103c87r_0 j m 20 0 20 ma0 l).getD ax).1 m).1 (m115c87 j ((o103c87r_0 j m 20 0 20 ma0 l).getD ax).2.1 ((o103c87r_0 j m 20 0 20 ma0 l).getD ax).2.2 ((o103c87r_0 j m 20 0 20 ma0 l).getD ax).1 m).2).isSome)&&aj)))
def q103c87r(r:Nat × Dat):SV × List Blk × List Blk:=(.tup [],[.row 88 [.str,.str,W Z] r.1 r.2],[])
def g103c87r:GF:=fun vs bs=>match vs,bs with
 | [.gr 0 3 j,V Z m,.fn 87 []],[.row 88 [.str,.str,W Z] ma0 l]=>ak (rs 1 (q103c87r (m103c87r j ma0 l m)) [n103c87r j ma0 l m])
 | _,_=>aw
def c103c87r:Ctr:=genC [.gr 88 [.str,.str,W Z],.k,.f []] g103c87r
theorem k103c87r:CtrOk Try.prog c103c87r 103:=cx (tc k87 (tc k115c87 (tc k116c87 tn))) mix_ok 8 (fn:=Try.f103) (c:=(Try.f103.body.getD .skip)) (grs:=[]) (rh:=.k) Try.func103 rfl (by kernel_rfl) (lam_of rfl (lc z103c87r_0 (lc z103c87r_4 (lc z103c87r_2 ln)))) fun vs bs q h hn=>by
 unfold g103c87r at h
 split at h <;> cases h
 rename_i j m ma0 l
 have hn:=n1 hn
 exact ⟨_,rfl,ca (fun R => 
 let a0:=((o103c87r_0 j m 20 0 20 ma0 l).getD ax)
 let b0:=(o103c87r_2 j m 20 (m115c87 j a0.2.1 a0.2.2 a0.1 m).1 (m115c87 j a0.2.1 a0.2.2 a0.1 m).2)
 (cnd ((o103c87r_0 j m 20 0 20 ma0 l).isSome)
 (cnd (n115c87 j a0.2.1 a0.2.2 a0.1 m)
 (cnd (b0.isSome)
 (R (.tup []) [.row 88 [.str,.str,W Z] (b0.getD ax).1 (b0.getD ax).2] [])
  False)
  False)
 False)) (fun R=>by kernel_rfl) (cn (al hn) (cn (al (ar hn)) (cn (al (ar (ar hn))) (lf rfl rfl))))⟩
/-! ### slices.SortStableFunc[[]shotline/api.KitDue,shotline/api.KitDue] -/
def m86c87r(a ma0:Nat)(b:Dat):Nat × Dat :=
 ((m103c87r a ma0 b (a:Int)).1,(m103c87r a ma0 b (a:Int)).2)
def n86c87r(a ma0:Nat)(b:Dat):Bool :=
 ((n103c87r a ma0 b (a:Int))&&aj)
def q86c87r(r:Nat × Dat):SV × List Blk × List Blk:=(.tup [],[.row 88 [.str,.str,W Z] r.1 r.2],[])
def g86c87r:GF:=fun vs bs=>match vs,bs with
 | [.gr 0 3 a,.fn 87 []],[.row 88 [.str,.str,W Z] ma0 b]=>ak (rs 1 (q86c87r (m86c87r a ma0 b)) [n86c87r a ma0 b])
 | _,_=>aw
def c86c87r:Ctr:=genC [.gr 88 [.str,.str,W Z],.f []] g86c87r
theorem k86c87r:CtrOk Try.prog c86c87r 86:=cx (tc k87 (tc k103c87r tn)) mix_ok 8 (fn:=Try.f86) (c:=(Try.f86.body.getD .skip)) (grs:=[]) (rh:=.k) Try.func86 rfl (by kernel_rfl) noLam fun vs bs q h hn=>by
 unfold g86c87r at h
 split at h <;> cases h
 rename_i a ma0 b
 have hn:=n1 hn
 exact ⟨_,rfl,ca (fun R=>(cnd (n103c87r a ma0 b (a:Int))
 (R (.tup []) [.row 88 [.str,.str,W Z] (m103c87r a ma0 b (a:Int)).1 (m103c87r a ma0 b (a:Int)).2] [])
 False)) (fun R=>by kernel_rfl) (cn (al hn) (lf rfl rfl))⟩
/-! ### shotline/kit.Due -/
def l51r_3(G:Int)(F:Dat)(n:Nat)(j:Dat)(C w:Int)(E:Nat)(A:Dat)(I:Int)(u:Nat)(v o:Dat):Nat->Nat->Int->Nat->Dat->Option (Nat × Nat × Dat)
 | 0,_,_,_,_=>aw
 | f+1,D,p,x,y=>(cond (aq (p<I)) (cond (aq (0<=p/\p<↑E)) (cond (bif (cond (cond (bif (cond (bif (aq (0<=p)) then ((F.sub 0 3).bb p.toNat 0) else az) az aj) then aj else (aq ((A.ii p.toNat 2)=0))) az aj) az aj) then aj else (bif (aq (0<=p)) then ((F.sub 0 3).bb p.toNat 0) else az)) (cond (bif (cond (cond (bif (bif (cond (bif (aq (0<=p)) then ((F.sub 0 3).bb p.toNat 0) else az) az aj) then aj else (aq ((A.ii p.toNat 2)=0))) then aj else (cond (((F.sub 0 3).sub p.toNat 1).bb 0 2) az aj)) az aj) az aj) then aj else (bif (aq (0<=p)) then ((F.sub 0 3).bb p.toNat 0) else az)) (cond (bif (bif (bif (cond (bif (aq (0<=p)) then ((F.sub 0 3).bb p.toNat 0) else az) az aj) then aj else (aq ((A.ii p.toNat 2)=0))) then aj else (cond (((F.sub 0 3).sub p.toNat 1).bb 0 2) az aj)) then aj else (aq (G<(Z.wrap ((((F.sub 0 3).sub p.toNat 1).ii 0 0)+(A.ii p.toNat 2)))))) (l51r_3 G F n j C w E A I u v o f D (Z.wrap (p+1)) x y) (cond (bif (aq (0<=p)) then ((F.sub 0 3).bb p.toNat 0) else az) (cond (aq (D<=x)) (cond (aq ((D+1)<=1073741824)) (l51r_3 G F n j C w E A I u v o f (D+1) (Z.wrap (p+1)) (D+1) (y.app D (datS [SV.str (F.ss 0 0),SV.str (A.ss p.toNat 0),V Z (Z.wrap ((((F.sub 0 3).sub p.toNat 1).ii 0 0)+(A.ii p.toNat 2)))] 3))) aw) aw) aw)) aw) aw) aw) (ak (D,x,y)))
abbrev o51r_3(G:Int)(F:Dat)(n:Nat)(j:Dat)(C w:Int)(E:Nat)(A:Dat)(I:Int)(u:Nat)(v o:Dat)(D:Nat)(p:Int)(x:Nat)(y:Dat):Option (Nat × Nat × Dat):=l51r_3 G F n j C w E A I u v o (G.toNat+D+n+C.toNat+w.toNat+E+I.toNat+p.toNat+u+x+8) D p x y
def e51r_3(G:Int)(F:Dat)(n:Nat)(j:Dat)(C w:Int)(E:Nat)(A:Dat)(I:Int)(u:Nat)(v o:Dat)(r:Nat × Nat × Dat)(K:XR):Prop:=K (XE.exit 3) [V Z G,.ptr 0 0,.gr 1 3 r.1,.ro [.pt [.str,W Z,W Z,.mi [W Z,W Z,.bool],.mb,.mb,W Z,.bool,.m1]] n j,V Z C,V Z w] [.cells 25 [.ro [.str,W Z,W Z] u v,.ro [.str,W Z,W Z,W Z] E o],.row 88 [.str,.str,W Z] r.2.1 r.2.2]
def g51r_3:LSum:=fun s k=>match czv 0 107 [2,3,11,13,36,37,38,43,44,45] 2 [⟨aj,11,0,1,88,[.str,.str,W Z]⟩] s with
 | ak ([V Z G,.ptr 0 0,.gr 1 3 D,.rp [.str,W Z,W Z,.mi [W Z,W Z,.bool],.mb,.mb,W Z,.bool,.m1] F 0 0,.ro [.pt [.str,W Z,W Z,.mi [W Z,W Z,.bool],.mb,.mb,W Z,.bool,.m1]] n j,V Z C,V Z w,.ro [.str,W Z,W Z,W Z] E A,V Z I,V Z p],[.cells 25 [.ro [.str,W Z,W Z] u v,.ro [.str,W Z,W Z,W Z] z o],.row 88 [.str,.str,W Z] x y])=>needs [decide (E=z),(o51r_3 G F n j C w E A I u v o D p x y).isSome] (e51r_3 G F n j C w E A I u v o ((o51r_3 G F n j C w E A I u v o D p x y).getD ax) fun e vs bs=>inBlk 3 k e (mkSt 0 107 [2,3,11,36,37,38] vs 2 bs))
 | _=>False
theorem z51r_3:LOk Try.prog g51r_3 (.block 3 (bodyAt (Try.f51.body.getD .skip) 3)):=by
 refine lb (ι:=Int × Nat × Dat × Nat × Dat × Int × Int × Nat × Dat × Int × Int × Nat × Dat × Dat × Nat × Dat) (fuel:=8) (na:=0) (nt:=107) (nx:=2) (Lh:=[2,3,11,13,36,37,38,43,44,45]) (Le:=[2,3,11,36,37,38]) (gl:=[⟨aj,11,0,1,88,[.str,.str,W Z]⟩]) (tc k62 (tc k64 (tc k86c87r (tc k87 tn)))) mix_ok noLam rfl (fun f (G,D,F,n,j,C,w,E,A,I,p,u,v,o,x,y) K=>GG ax (e51r_3 G F n j C w E A I u v o) K (l51r_3 G F n j C w E A I u v o f D p x y)) (fun (G,D,F,n,j,C,w,E,A,I,p,u,v,o,x,y)=>[V Z G,.ptr 0 0,.gr 1 3 D,.rp [.str,W Z,W Z,.mi [W Z,W Z,.bool],.mb,.mb,W Z,.bool,.m1] F 0 0,.ro [.pt [.str,W Z,W Z,.mi [W Z,W Z,.bool],.mb,.mb,W Z,.bool,.m1]] n j,V Z C,V Z w,.ro [.str,W Z,W Z,W Z] E A,V Z I,V Z p]) (fun (G,D,F,n,j,C,w,E,A,I,p,u,v,o,x,y)=>[.cells 25 [.ro [.str,W Z,W Z] u v,.ro [.str,W Z,W Z,W Z] E o],.row 88 [.str,.str,W Z] x y]) (fun (_,_,_,_,_,_,_,_,_,_,_,_,_,_,_,_) K=>gg_none) ?_ ?_
 ·rintro f ⟨G,D,F,n,j,C,w,E,A,I,p,u,v,o,x,y⟩ K hG
  refine ro (fun R => 
 let a0:=(bif (aq (0<=p)) then ((F.sub 0 3).bb p.toNat 0) else az)
 let b0:=(bif (bif (cond a0 az aj) then aj else (aq ((A.ii p.toNat 2)=0))) then aj else (cond (((F.sub 0 3).sub p.toNat 1).bb 0 2) az aj))
 let c0:=(Z.wrap ((((F.sub 0 3).sub p.toNat 1).ii 0 0)+(A.ii p.toNat 2)))
 (cnd (aq (p<I))
 (cnd (aq (0<=p/\p<↑E))
 (cnd (bif (cond (cond (bif (cond a0 az aj) then aj else (aq ((A.ii p.toNat 2)=0))) az aj) az aj) then aj else a0)
 (cnd (bif (cond (cond b0 az aj) az aj) then aj else a0)
 (cnd (bif b0 then aj else (aq (G<c0)))
 (R (XE.normal) [V Z G,.ptr 0 0,.gr 1 3 D,.rp [.str,W Z,W Z,.mi [W Z,W Z,.bool],.mb,.mb,W Z,.bool,.m1] F 0 0,.ro [.pt [.str,W Z,W Z,.mi [W Z,W Z,.bool],.mb,.mb,W Z,.bool,.m1]] n j,V Z C,V Z w,.ro [.str,W Z,W Z,W Z] E A,V Z I,V Z (Z.wrap (p+1))] [.cells 25 [.ro [.str,W Z,W Z] u v,.ro [.str,W Z,W Z,W Z] E o],.row 88 [.str,.str,W Z] x y])
 (cnd a0
 (cnd (aq (D<=x))
 (cnd (aq ((D+1)<=1073741824))
 (R (XE.normal) [V Z G,.ptr 0 0,.gr 1 3 (D+1),.rp [.str,W Z,W Z,.mi [W Z,W Z,.bool],.mb,.mb,W Z,.bool,.m1] F 0 0,.ro [.pt [.str,W Z,W Z,.mi [W Z,W Z,.bool],.mb,.mb,W Z,.bool,.m1]] n j,V Z C,V Z w,.ro [.str,W Z,W Z,W Z] E A,V Z I,V Z (Z.wrap (p+1))] [.cells 25 [.ro [.str,W Z,W Z] u v,.ro [.str,W Z,W Z,W Z] E o],.row 88 [.str,.str,W Z] (D+1) (y.app D (datS [SV.str (F.ss 0 0),SV.str (A.ss p.toNat 0),V Z c0] 3))])
     False)
    False)
    False))
   False)
  False)
  False)
 (R (XE.exit 3) [V Z G,.ptr 0 0,.gr 1 3 D,.ro [.pt [.str,W Z,W Z,.mi [W Z,W Z,.bool],.mb,.mb,W Z,.bool,.m1]] n j,V Z C,V Z w] [.cells 25 [.ro [.str,W Z,W Z] u v,.ro [.str,W Z,W Z,W Z] E o],.row 88 [.str,.str,W Z] x y]))) (fun R=>by kernel_rfl) ?_
  exact ch hG (fun h0=>cg h0 fun h1=>cg h1 fun h2=>cg h2 fun h3=>ch h3 (fun h4=>⟨(_,_,_,_,_,_,_,_,_,_,_,_,_,_,_,_),rfl,rfl,h4⟩) (fun h4=>cg h4 fun h5=>cg h5 fun h6=>cg h6 fun h7=>⟨(_,_,_,_,_,_,_,_,_,_,_,_,_,_,_,_),rfl,rfl,h7⟩)) (fun h0=>h0.2)
 ·intro s k h
  unfold g51r_3 at h
  split at h <;> try exact h.elim
  rename_i e1
  rw [needs_iff] at h
  have hq:=h.1
  simp only [List.mem_cons,forall_eq_or_imp,decide_eq_true_eq,List.not_mem_nil,false_imp_iff,implies_true,and_true] at hq
  obtain ⟨rfl,hq⟩:=hq
  exact ⟨_,e1,_,(_,_,_,_,_,_,_,_,_,_,_,_,_,_,_,_),rfl,rfl,hq,h.2⟩
def l51r_1(G:Int)(n:Nat)(j:Dat)(C:Int)(u:Nat)(v:Dat)(z:Nat)(o:Dat):Nat->Nat->Int->Nat->Dat->Option (Nat × Nat × Dat)
 | 0,_,_,_,_=>aw
 | f+1,D,w,x,y=>(cond (aq (w<C)) (cond (aq (0<=w/\w<↑n)) (cond ((o51r_3 G (j.sub w.toNat 0) n j C w z o (z:Int) u v o D 0 x y).isSome) (l51r_1 G n j C u v z o f ((o51r_3 G (j.sub w.toNat 0) n j C w z o (z:Int) u v o D 0 x y).getD ax).1 (Z.wrap (w+1)) ((o51r_3 G (j.sub w.toNat 0) n j C w z o (z:Int) u v o D 0 x y).getD ax).2.1 ((o51r_3 G (j.sub w.toNat 0) n j C w z o (z:Int) u v o D 0 x y).getD ax).2.2) aw) aw) (ak (D,x,y)))
abbrev o51r_1(G:Int)(n:Nat)(j:Dat)(C:Int)(u:Nat)(v:Dat)(z:Nat)(o:Dat)(D:Nat)(w:Int)(x:Nat)(y:Dat):Option (Nat × Nat × Dat):=l51r_1 G n j C u v z o (G.toNat+D+n+C.toNat+w.toNat+u+z+x+8) D w x y
def e51r_1(G:Int)(n:Nat)(j:Dat)(C:Int)(u:Nat)(v:Dat)(z:Nat)(o:Dat)(r:Nat × Nat × Dat)(K:XR):Prop:=K (XE.exit 1) [.gr 1 3 r.1] [.cells 25 [.ro [.str,W Z,W Z] u v,.ro [.str,W Z,W Z,W Z] z o],.row 88 [.str,.str,W Z] r.2.1 r.2.2]
def g51r_1:LSum:=fun s k=>match czv 0 107 [2,3,11,36,37,38] 2 [⟨aj,11,0,1,88,[.str,.str,W Z]⟩] s with
 | ak ([V Z G,.ptr 0 0,.gr 1 3 D,.ro [.pt [.str,W Z,W Z,.mi [W Z,W Z,.bool],.mb,.mb,W Z,.bool,.m1]] n j,V Z C,V Z w],[.cells 25 [.ro [.str,W Z,W Z] u v,.ro [.str,W Z,W Z,W Z] z o],.row 88 [.str,.str,W Z] x y])=>needs [(o51r_1 G n j C u v z o D w x y).isSome] (e51r_1 G n j C u v z o ((o51r_1 G n j C u v z o D w x y).getD ax) fun e vs bs=>inBlk 1 k e (mkSt 0 107 [11] vs 2 bs))
 | _=>False
theorem z51r_1:LOk Try.prog g51r_1 (.block 1 (bodyAt (Try.f51.body.getD .skip) 1)):=by
 refine lb (ι:=Int × Nat × Nat × Dat × Int × Int × Nat × Dat × Nat × Dat × Nat × Dat) (fuel:=8) (na:=0) (nt:=107) (nx:=2) (Lh:=[2,3,11,36,37,38]) (Le:=[11]) (gl:=[⟨aj,11,0,1,88,[.str,.str,W Z]⟩]) (tc k62 (tc k64 (tc k86c87r (tc k87 tn)))) mix_ok (lam_of rfl (lc z51r_3 ln)) rfl (fun f (G,D,n,j,C,w,u,v,z,o,x,y) K=>GG ax (e51r_1 G n j C u v z o) K (l51r_1 G n j C u v z o f D w x y)) (fun (G,D,n,j,C,w,u,v,z,o,x,y)=>[V Z G,.ptr 0 0,.gr 1 3 D,.ro [.pt [.str,W Z,W Z,.mi [W Z,W Z,.bool],.mb,.mb,W Z,.bool,.m1]] n j,V Z C,V Z w]) (fun (G,D,n,j,C,w,u,v,z,o,x,y)=>[.cells 25 [.ro [.str,W Z,W Z] u v,.ro [.str,W Z,W Z,W Z] z o],.row 88 [.str,.str,W Z] x y]) (fun (_,_,_,_,_,_,_,_,_,_,_,_) K=>gg_none) ?_ ?_
 ·rintro f ⟨G,D,n,j,C,w,u,v,z,o,x,y⟩ K hG
  refine ro (fun R => 
 let a0:=(o51r_3 G (j.sub w.toNat 0) n j C w z o (z:Int) u v o D 0 x y)
 (cnd (aq (w<C))
 (cnd (aq (0<=w/\w<↑n))
 (cnd (aq (z=z))
 (cnd (a0.isSome)
 (R (XE.normal) [V Z G,.ptr 0 0,.gr 1 3 (a0.getD ax).1,.ro [.pt [.str,W Z,W Z,.mi [W Z,W Z,.bool],.mb,.mb,W Z,.bool,.m1]] n j,V Z C,V Z (Z.wrap (w+1))] [.cells 25 [.ro [.str,W Z,W Z] u v,.ro [.str,W Z,W Z,W Z] z o],.row 88 [.str,.str,W Z] (a0.getD ax).2.1 (a0.getD ax).2.2])
   False)
  False)
  False)
 (R (XE.exit 1) [.gr 1 3 D] [.cells 25 [.ro [.str,W Z,W Z] u v,.ro [.str,W Z,W Z,W Z] z o],.row 88 [.str,.str,W Z] x y]))) (fun R=>by kernel_rfl) ?_
  exact ch hG (fun h0=>cg h0 fun h1=>cn (decide_eq_true rfl) (cg h1 fun h2=>⟨(_,_,_,_,_,_,_,_,_,_,_,_),rfl,rfl,h2⟩)) (fun h0=>h0.2)
 ·intro s k h
  unfold g51r_1 at h
  split at h <;> try exact h.elim
  rename_i e1
  rw [needs_iff] at h
  exact ⟨_,e1,_,(_,_,_,_,_,_,_,_,_,_,_,_),rfl,rfl,h.1 _ (List.mem_singleton.2 rfl),h.2⟩
def m51r(b:Nat)(d:Dat)(g:Nat)(i:Dat)(l:Nat)(m:Dat)(J:Int):Nat × Dat × Int :=
 (cond (cond (aq ((m62 b d g i l m).2.2.2=0)) az aj) (0,noDat,(m62 b d g i l m).2.2.2) (cond (cond (m64 J) az aj) (0,noDat,2) (((o51r_1 J ((m62 b d g i l m).2.1.sn 0 2) ((m62 b d g i l m).2.1.sub 0 2) (↑((m62 b d g i l m).2.1.sn 0 2):Int) b d g i 0 0 0 noDat).getD ax).1,(m86c87r ((o51r_1 J ((m62 b d g i l m).2.1.sn 0 2) ((m62 b d g i l m).2.1.sub 0 2) (↑((m62 b d g i l m).2.1.sn 0 2):Int) b d g i 0 0 0 noDat).getD ax).1 ((o51r_1 J ((m62 b d g i l m).2.1.sn 0 2) ((m62 b d g i l m).2.1.sub 0 2) (↑((m62 b d g i l m).2.1.sn 0 2):Int) b d g i 0 0 0 noDat).getD ax).2.1 ((o51r_1 J ((m62 b d g i l m).2.1.sn 0 2) ((m62 b d g i l m).2.1.sub 0 2) (↑((m62 b d g i l m).2.1.sn 0 2):Int) b d g i 0 0 0 noDat).getD ax).2.2).2,0)))
def n51r(b:Nat)(d:Dat)(g:Nat)(i:Dat)(l:Nat)(m:Dat)(J:Int):Bool :=
 ((n62 b d g i l m)&&(cond (cond (aq ((m62 b d g i l m).2.2.2=0)) az aj) aj (cond (cond (m64 J) az aj) aj ((m62 b d g i l m).1&&(((o51r_1 J ((m62 b d g i l m).2.1.sn 0 2) ((m62 b d g i l m).2.1.sub 0 2) (↑((m62 b d g i l m).2.1.sn 0 2):Int) b d g i 0 0 0 noDat).isSome)&&((n86c87r ((o51r_1 J ((m62 b d g i l m).2.1.sn 0 2) ((m62 b d g i l m).2.1.sub 0 2) (↑((m62 b d g i l m).2.1.sn 0 2):Int) b d g i 0 0 0 noDat).getD ax).1 ((o51r_1 J ((m62 b d g i l m).2.1.sn 0 2) ((m62 b d g i l m).2.1.sub 0 2) (↑((m62 b d g i l m).2.1.sn 0 2):Int) b d g i 0 0 0 noDat).getD ax).2.1 ((o51r_1 J ((m62 b d g i l m).2.1.sn 0 2) ((m62 b d g i l m).2.1.sub 0 2) (↑((m62 b d g i l m).2.1.sn 0 2):Int) b d g i 0 0 0 noDat).getD ax).2.2)&&((aq ((0+((o51r_1 J ((m62 b d g i l m).2.1.sn 0 2) ((m62 b d g i l m).2.1.sub 0 2) (↑((m62 b d g i l m).2.1.sn 0 2):Int) b d g i 0 0 0 noDat).getD ax).1)<=(m86c87r ((o51r_1 J ((m62 b d g i l m).2.1.sn 0 2) ((m62 b d g i l m).2.1.sub 0 2) (↑((m62 b d g i l m).2.1.sn 0 2):Int) b d g i 0 0 0 noDat).getD ax).1 ((o51r_1 J ((m62 b d g i l m).2.1.sn 0 2) ((m62 b d g i l m).2.1.sub 0 2) (↑((m62 b d g i l m).2.1.sn 0 2):Int) b d g i 0 0 0 noDat).getD ax).2.1 ((o51r_1 J ((m62 b d g i l m).2.1.sn 0 2) ((m62 b d g i l m).2.1.sub 0 2) (↑((m62 b d g i l m).2.1.sn 0 2):Int) b d g i 0 0 0 noDat).getD ax).2.2).1))&&aj)))))))
def q51r(r:Nat × Dat × Int):SV × List Blk × List Blk:=(.tup [.ro [.str,.str,W Z] r.1 r.2.1,V Z r.2.2],[],[])
def g51r:GF:=fun vs bs=>match vs,bs with
 | [.agg [.ro [.str,W Z,W Z] b d,.ro [.str,W Z,W Z,W Z] g i],.ro [W Z,W Z,.str,.str,.str,.bool] l m,V Z J],[]=>ak (rs 0 (q51r (m51r b d g i l m J)) [n51r b d g i l m J])
 | _,_=>aw
def c51r:Ctr:=genC [.a [.ro [.str,W Z,W Z],.ro [.str,W Z,W Z,W Z]],.ro [W Z,W Z,.str,.str,.str,.bool],.k] g51r
theorem k51r:CtrOk Try.prog c51r 51:=cx (tc k62 (tc k64 (tc k86c87r (tc k87 tn)))) mix_ok 8 (fn:=Try.f51) (c:=(Try.f51.body.getD .skip)) (grs:=[]) (rh:=.t [.ro [.str,.str,W Z],.k]) Try.func51 rfl (by kernel_rfl) (lam_of rfl (lc z51r_3 (lc z51r_1 ln))) fun vs bs q h hn=>by
 unfold g51r at h
 split at h <;> cases h
 rename_i b d g i l m J
 have hn:=n1 hn
 exact ⟨_,rfl,ca (fun R => 
 let a0:=((o51r_1 J ((m62 b d g i l m).2.1.sn 0 2) ((m62 b d g i l m).2.1.sub 0 2) (↑((m62 b d g i l m).2.1.sn 0 2):Int) b d g i 0 0 0 noDat).getD ax)
 (cnd (n62 b d g i l m)
 (cnd (cond (aq ((m62 b d g i l m).2.2.2=0)) az aj)
 (R (.tup [.ro [.str,.str,W Z] 0 noDat,V Z (m62 b d g i l m).2.2.2]) [] [])
 (cnd (cond (m64 J) az aj)
 (R (.tup [.ro [.str,.str,W Z] 0 noDat,V Z 2]) [] [])
 (cnd (m62 b d g i l m).1
 (cnd ((o51r_1 J ((m62 b d g i l m).2.1.sn 0 2) ((m62 b d g i l m).2.1.sub 0 2) (↑((m62 b d g i l m).2.1.sn 0 2):Int) b d g i 0 0 0 noDat).isSome)
 (cnd (n86c87r a0.1 a0.2.1 a0.2.2)
 (cnd (aq ((0+a0.1)<=(m86c87r a0.1 a0.2.1 a0.2.2).1))
 (R (.tup [.ro [.str,.str,W Z] a0.1 (m86c87r a0.1 a0.2.1 a0.2.2).2,V Z 0]) [] [])
    False)
    False)
   False)
   False)))
 False)) (fun R=>by kernel_rfl) (cn (al hn) (co (fun h0=>lf (cT h0 rfl) rfl) (fun h0=>co (fun h1=>lf (cF h0 (cT h1 rfl)) rfl) (fun h1=>cn (al (cf h1 (cf h0 (ar hn)))) (cn (al (ar (cf h1 (cf h0 (ar hn))))) (cn (al (ar (ar (cf h1 (cf h0 (ar hn)))))) (cn (al (ar (ar (ar (cf h1 (cf h0 (ar hn))))))) (lf (cF h0 (cF h1 rfl)) rfl))))))))⟩
/-! ### shotline/shotlinelaw07.awake -/
def m17r :Bool :=
 (bif (bif (bif (bif (bif (bif (aq ((m31 4 m60.1 2 m60.2 3 m61).2.2=0)) then (m34 (m31 4 m60.1 2 m60.2 3 m61).1 (m31 4 m60.1 2 m60.2 3 m61).2.1 2 (datS [SV.str ({ data:=#[97] }:ByteArray),SV.str ({ data:=#[98] }:ByteArray)] 1)) else az) then (aq ((m19 4 m60.1 2 m60.2 3 m61 ({ data:=#[98] }:ByteArray) 7).2.2.2=0)) else az) then (cond (m19 4 m60.1 2 m60.2 3 m61 ({ data:=#[98] }:ByteArray) 7).1 az aj) else az) then (m26 (m19 4 m60.1 2 m60.2 3 m61 ({ data:=#[98] }:ByteArray) 7).2.1 (m19 4 m60.1 2 m60.2 3 m61 ({ data:=#[98] }:ByteArray) 7).2.2.1 1 (datS [V Z 3,SV.str ({ data:=#[] }:ByteArray),SV.str ({ data:=#[99,49] }:ByteArray),V Z 0] 4)) else az) then (aq ((m51r 4 m60.1 2 m60.2 0 noDat 600).2.2=0)) else az) then (m54 (m51r 4 m60.1 2 m60.2 0 noDat 600).1 (m51r 4 m60.1 2 m60.2 0 noDat 600).2.1 1 (datS [SV.str ({ data:=#[114] }:ByteArray),SV.str ({ data:=#[115,101,114,118,105,99,101] }:ByteArray),V Z 465] 3)) else az)
def n17r :Bool :=
 ((n31 4 m60.1 2 m60.2 3 m61)&&((n19 4 m60.1 2 m60.2 3 m61 ({ data:=#[98] }:ByteArray) 7)&&((n51r 4 m60.1 2 m60.2 0 noDat 600)&&((bif (cond (aq ((m31 4 m60.1 2 m60.2 3 m61).2.2=0)) az aj) then aj else (n34 (m31 4 m60.1 2 m60.2 3 m61).1 (m31 4 m60.1 2 m60.2 3 m61).2.1 2 (datS [SV.str ({ data:=#[97] }:ByteArray),SV.str ({ data:=#[98] }:ByteArray)] 1)))&&((bif (cond (bif (bif (bif (aq ((m31 4 m60.1 2 m60.2 3 m61).2.2=0)) then (m34 (m31 4 m60.1 2 m60.2 3 m61).1 (m31 4 m60.1 2 m60.2 3 m61).2.1 2 (datS [SV.str ({ data:=#[97] }:ByteArray),SV.str ({ data:=#[98] }:ByteArray)] 1)) else az) then (aq ((m19 4 m60.1 2 m60.2 3 m61 ({ data:=#[98] }:ByteArray) 7).2.2.2=0)) else az) then (cond (m19 4 m60.1 2 m60.2 3 m61 ({ data:=#[98] }:ByteArray) 7).1 az aj) else az) az aj) then aj else (n26 (m19 4 m60.1 2 m60.2 3 m61 ({ data:=#[98] }:ByteArray) 7).2.1 (m19 4 m60.1 2 m60.2 3 m61 ({ data:=#[98] }:ByteArray) 7).2.2.1 1 (datS [V Z 3,SV.str ({ data:=#[] }:ByteArray),SV.str ({ data:=#[99,49] }:ByteArray),V Z 0] 4)))&&((bif (cond (bif (bif (bif (bif (bif (aq ((m31 4 m60.1 2 m60.2 3 m61).2.2=0)) then (m34 (m31 4 m60.1 2 m60.2 3 m61).1 (m31 4 m60.1 2 m60.2 3 m61).2.1 2 (datS [SV.str ({ data:=#[97] }:ByteArray),SV.str ({ data:=#[98] }:ByteArray)] 1)) else az) then (aq ((m19 4 m60.1 2 m60.2 3 m61 ({ data:=#[98] }:ByteArray) 7).2.2.2=0)) else az) then (cond (m19 4 m60.1 2 m60.2 3 m61 ({ data:=#[98] }:ByteArray) 7).1 az aj) else az) then (m26 (m19 4 m60.1 2 m60.2 3 m61 ({ data:=#[98] }:ByteArray) 7).2.1 (m19 4 m60.1 2 m60.2 3 m61 ({ data:=#[98] }:ByteArray) 7).2.2.1 1 (datS [V Z 3,SV.str ({ data:=#[] }:ByteArray),SV.str ({ data:=#[99,49] }:ByteArray),V Z 0] 4)) else az) then (aq ((m51r 4 m60.1 2 m60.2 0 noDat 600).2.2=0)) else az) az aj) then aj else (n54 (m51r 4 m60.1 2 m60.2 0 noDat 600).1 (m51r 4 m60.1 2 m60.2 0 noDat 600).2.1 1 (datS [SV.str ({ data:=#[114] }:ByteArray),SV.str ({ data:=#[115,101,114,118,105,99,101] }:ByteArray),V Z 465] 3)))&&aj))))))
def q17r(r:Bool):SV × List Blk × List Blk:=(.bool r,[],[])
def g17r:GF:=fun vs bs=>match vs,bs with
 | [],[]=>ak (rs 0 (q17r (m17r)) [n17r ])
 | _,_=>aw
def c17r:Ctr:=genC [] g17r
theorem k17r:CtrOk Try.prog c17r 17:=cx (tc kSeal (tc k19 (tc k26 (tc k31 (tc k34 (tc k51r (tc k54 (tc k60 (tc k61 tn))))))))) mix_ok 8 (fn:=Try.f17) (c:=(Try.f17.body.getD .skip)) (grs:=[]) (rh:=.k) Try.func17 rfl (by kernel_rfl) noLam fun vs bs q h hn=>by
 unfold g17r at h
 split at h <;> cases h
 have hn:=n1 hn
 exact ⟨_,rfl,ca (fun R => 
 let d0:=({ data:=#[98] }:ByteArray)
 let f0:=(m31 4 m60.1 2 m60.2 3 m61)
 let a0:=(bif (bif (bif (aq (f0.2.2=0)) then (m34 f0.1 f0.2.1 2 (datS [SV.str ({ data:=#[97] }:ByteArray),SV.str d0] 1)) else az) then (aq ((m19 4 m60.1 2 m60.2 3 m61 d0 7).2.2.2=0)) else az) then (cond (m19 4 m60.1 2 m60.2 3 m61 d0 7).1 az aj) else az)
 let e0:=(m51r 4 m60.1 2 m60.2 0 noDat 600)
 let b0:=(bif (bif a0 then (m26 (m19 4 m60.1 2 m60.2 3 m61 d0 7).2.1 (m19 4 m60.1 2 m60.2 3 m61 d0 7).2.2.1 1 (datS [V Z 3,SV.str ({ data:=#[] }:ByteArray),SV.str ({ data:=#[99,49] }:ByteArray),V Z 0] 4)) else az) then (aq (e0.2.2=0)) else az)
 let c0:=(datS [SV.str ({ data:=#[114] }:ByteArray),SV.str ({ data:=#[115,101,114,118,105,99,101] }:ByteArray),V Z 465] 3)
 (cnd (n31 4 m60.1 2 m60.2 3 m61)
 (cnd (n19 4 m60.1 2 m60.2 3 m61 d0 7)
 (cnd (n51r 4 m60.1 2 m60.2 0 noDat 600)
 (cnd (bif (cond (aq (f0.2.2=0)) az aj) then aj else (n34 f0.1 f0.2.1 2 (datS [SV.str ({ data:=#[97] }:ByteArray),SV.str d0] 1)))
 (cnd (bif (cond a0 az aj) then aj else (n26 (m19 4 m60.1 2 m60.2 3 m61 d0 7).2.1 (m19 4 m60.1 2 m60.2 3 m61 d0 7).2.2.1 1 (datS [V Z 3,SV.str ({ data:=#[] }:ByteArray),SV.str ({ data:=#[99,49] }:ByteArray),V Z 0] 4)))
 (cnd (bif (cond b0 az aj) then aj else (n54 e0.1 e0.2.1 1 c0))
 (R (.bool (bif b0 then (m54 e0.1 e0.2.1 1 c0) else az)) [] [])
    False)
   False)
   False)
  False)
  False)
 False)) (fun R=>by kernel_rfl) (cn (al hn) (cn (al (ar hn)) (cn (al (ar (ar hn))) (cn (al (ar (ar (ar hn)))) (cn (al (ar (ar (ar (ar hn))))) (cn (al (ar (ar (ar (ar (ar hn)))))) (lf rfl rfl)))))))⟩
/-! ### shotline/shotlinelaw07.KitAgrees -/
def l11r_2(j:Nat)(l:Dat)(y:Nat)(z:Dat)(w:Nat)(x:Dat)(A v:Int)(G:ByteArray)(g:Nat)(i:Dat)(d:Nat)(b:Dat)(n:ByteArray)(t:Int):Nat->Int->Int->Option (Int)
 | 0,_,_=>aw
 | f+1,J,I=>(cond (aq (I<(y:Int))) (cond (aq (0<=I/\I<↑y)) (cond (bif (cond (aq ((z.ss I.toNat 1)=G)) az aj) then aj else (aq (0<=I/\I<↑y))) (cond (bif (aq ((z.ss I.toNat 1)=G)) then (cond (aq ((z.ii I.toNat 0)=3)) az aj) else az) (cond (aq (0<=I/\I<↑y)) (l11r_2 j l y z w x A v G g i d b n t f (z.ii I.toNat 0) (Z.wrap (I+1))) aw) (l11r_2 j l y z w x A v G g i d b n t f J (Z.wrap (I+1)))) aw) aw) (ak J))
abbrev o11r_2(j:Nat)(l:Dat)(y:Nat)(z:Dat)(w:Nat)(x:Dat)(A v:Int)(G:ByteArray)(g:Nat)(i:Dat)(d:Nat)(b:Dat)(n:ByteArray)(t J I:Int):Option (Int):=l11r_2 j l y z w x A v G g i d b n t (j+y+w+A.toNat+v.toNat+G.size+J.toNat+I.toNat+g+d+n.size+t.toNat+8) J I
def e11r_2(j:Nat)(l:Dat)(y:Nat)(z:Dat)(w:Nat)(x:Dat)(A v:Int)(G:ByteArray)(g:Nat)(i:Dat)(d:Nat)(b:Dat)(n:ByteArray)(t r:Int)(K:XR):Prop:=K (XE.exit 2) [.ro [W Z,W Z,.str,.str,.str,.bool] j l,.ptr 0 0,.ptr 1 0,.ro [W Z,.str,.str,W Z] y z,.ro [.str,.str,W Z] w x,V Z A,V Z v,.str G,V Z r] [.cells 25 [.ro [.str,W Z,W Z] g i,.ro [.str,W Z,W Z,W Z] d b],.cells 28 [.str n,V Z t]]
def g11r_2:LSum:=fun s k=>match czv 0 222 [1,3,5,8,10,12,13,14,15,16] 2 [] s with
 | ak ([.ro [W Z,W Z,.str,.str,.str,.bool] j l,.ptr 0 0,.ptr 1 0,.ro [W Z,.str,.str,W Z] y z,.ro [.str,.str,W Z] w x,V Z A,V Z v,.str G,V Z J,V Z I],[.cells 25 [.ro [.str,W Z,W Z] g i,.ro [.str,W Z,W Z,W Z] d b],.cells 28 [.str n,V Z t]])=>needs [(o11r_2 j l y z w x A v G g i d b n t J I).isSome] (e11r_2 j l y z w x A v G g i d b n t ((o11r_2 j l y z w x A v G g i d b n t J I).getD ax) fun e vs bs=>inBlk 2 k e (mkSt 0 222 [1,3,5,8,10,12,13,14,15] vs 2 bs))
 | _=>False
theorem z11r_2:LOk Try.prog g11r_2 (.block 2 (bodyAt (Try.f11.body.getD .skip) 2)):=by
 refine lb (ι:=Nat × Dat × Nat × Dat × Nat × Dat × Int × Int × ByteArray × Int × Int × Nat × Dat × Nat × Dat × ByteArray × Int) (fuel:=8) (na:=0) (nt:=222) (nx:=2) (Lh:=[1,3,5,8,10,12,13,14,15,16]) (Le:=[1,3,5,8,10,12,13,14,15]) (gl:=[]) (tc k17r (tc k18 (tc k19 (tc k20 (tc k21 (tc k23 (tc k49 (tc k50 (tc k51r tn))))))))) mix_ok noLam rfl (fun f (j,l,y,z,w,x,A,v,G,J,I,g,i,d,b,n,t) K=>GG ax (e11r_2 j l y z w x A v G g i d b n t) K (l11r_2 j l y z w x A v G g i d b n t f J I)) (fun (j,l,y,z,w,x,A,v,G,J,I,g,i,d,b,n,t)=>[.ro [W Z,W Z,.str,.str,.str,.bool] j l,.ptr 0 0,.ptr 1 0,.ro [W Z,.str,.str,W Z] y z,.ro [.str,.str,W Z] w x,V Z A,V Z v,.str G,V Z J,V Z I]) (fun (j,l,y,z,w,x,A,v,G,J,I,g,i,d,b,n,t)=>[.cells 25 [.ro [.str,W Z,W Z] g i,.ro [.str,W Z,W Z,W Z] d b],.cells 28 [.str n,V Z t]]) (fun (_,_,_,_,_,_,_,_,_,_,_,_,_,_,_,_,_) K=>gg_none) ?_ ?_
 ·rintro f ⟨j,l,y,z,w,x,A,v,G,J,I,g,i,d,b,n,t⟩ K hG
  refine ro (fun R => 
 let a0:=(aq (0<=I/\I<↑y))
 (cnd (aq (I<(y:Int)))
 (cnd a0
 (cnd (bif (cond (aq ((z.ss I.toNat 1)=G)) az aj) then aj else a0)
 (cnd (bif (aq ((z.ss I.toNat 1)=G)) then (cond (aq ((z.ii I.toNat 0)=3)) az aj) else az)
 (cnd a0
 (R (XE.normal) [.ro [W Z,W Z,.str,.str,.str,.bool] j l,.ptr 0 0,.ptr 1 0,.ro [W Z,.str,.str,W Z] y z,.ro [.str,.str,W Z] w x,V Z A,V Z v,.str G,V Z (z.ii I.toNat 0),V Z (Z.wrap (I+1))] [.cells 25 [.ro [.str,W Z,W Z] g i,.ro [.str,W Z,W Z,W Z] d b],.cells 28 [.str n,V Z t]])
   False)
 (R (XE.normal) [.ro [W Z,W Z,.str,.str,.str,.bool] j l,.ptr 0 0,.ptr 1 0,.ro [W Z,.str,.str,W Z] y z,.ro [.str,.str,W Z] w x,V Z A,V Z v,.str G,V Z J,V Z (Z.wrap (I+1))] [.cells 25 [.ro [.str,W Z,W Z] g i,.ro [.str,W Z,W Z,W Z] d b],.cells 28 [.str n,V Z t]]))
  False)
  False)
 (R (XE.exit 2) [.ro [W Z,W Z,.str,.str,.str,.bool] j l,.ptr 0 0,.ptr 1 0,.ro [W Z,.str,.str,W Z] y z,.ro [.str,.str,W Z] w x,V Z A,V Z v,.str G,V Z J] [.cells 25 [.ro [.str,W Z,W Z] g i,.ro [.str,W Z,W Z,W Z] d b],.cells 28 [.str n,V Z t]]))) (fun R=>by kernel_rfl) ?_
  exact ch hG (fun h0=>cg h0 fun h1=>cg h1 fun h2=>ch h2 (fun h3=>cg h3 fun h4=>⟨(_,_,_,_,_,_,_,_,_,_,_,_,_,_,_,_,_),rfl,rfl,h4⟩) (fun h3=>⟨(_,_,_,_,_,_,_,_,_,_,_,_,_,_,_,_,_),rfl,rfl,h3⟩)) (fun h0=>h0.2)
 ·intro s k h
  unfold g11r_2 at h
  split at h <;> try exact h.elim
  rename_i e1
  rw [needs_iff] at h
  exact ⟨_,e1,_,(_,_,_,_,_,_,_,_,_,_,_,_,_,_,_,_,_),rfl,rfl,h.1 _ (List.mem_singleton.2 rfl),h.2⟩
def l11r_4(j:Nat)(l:Dat)(y:Nat)(z:Dat)(w:Nat)(x:Dat)(A v:Int)(G:ByteArray)(J M N:Int)(P Q:Bool)(g:Nat)(i:Dat)(d:Nat)(b:Dat)(n:ByteArray)(t:Int):Nat->Bool->Int->Option (Bool)
 | 0,_,_=>aw
 | f+1,O,L=>(cond (aq (L<(w:Int))) (cond (bif (cond (cond O az aj) az aj) then aj else (aq (0<=L/\L<↑w))) (cond (bif (cond (bif (cond O az aj) then (aq ((x.ss L.toNat 0)=n)) else az) az aj) then aj else (aq (0<=L/\L<↑w))) (l11r_4 j l y z w x A v G J M N P Q g i d b n t f (bif O then aj else (bif (aq ((x.ss L.toNat 0)=n)) then (aq ((x.ss L.toNat 1)=G)) else az)) (Z.wrap (L+1))) aw) aw) (ak O))
abbrev o11r_4(j:Nat)(l:Dat)(y:Nat)(z:Dat)(w:Nat)(x:Dat)(A v:Int)(G:ByteArray)(J M N:Int)(P Q:Bool)(g:Nat)(i:Dat)(d:Nat)(b:Dat)(n:ByteArray)(t:Int)(O:Bool)(L:Int):Option (Bool):=l11r_4 j l y z w x A v G J M N P Q g i d b n t (j+y+w+A.toNat+v.toNat+G.size+J.toNat+M.toNat+N.toNat+L.toNat+g+d+n.size+t.toNat+8) O L
def e11r_4(j:Nat)(l:Dat)(y:Nat)(z:Dat)(w:Nat)(x:Dat)(A v:Int)(G:ByteArray)(J M N:Int)(P Q:Bool)(g:Nat)(i:Dat)(d:Nat)(b:Dat)(n:ByteArray)(t:Int)(r:Bool)(K:XR):Prop:=K (XE.exit 4) [.ro [W Z,W Z,.str,.str,.str,.bool] j l,.ptr 0 0,.ptr 1 0,.ro [W Z,.str,.str,W Z] y z,.ro [.str,.str,W Z] w x,V Z A,V Z v,V Z J,V Z M,V Z N,.bool P,.bool Q,.bool r] [.cells 25 [.ro [.str,W Z,W Z] g i,.ro [.str,W Z,W Z,W Z] d b],.cells 28 [.str n,V Z t]]
def g11r_4:LSum:=fun s k=>match czv 0 222 [1,3,5,8,10,12,13,14,15,18,20,21,22,23,24] 2 [] s with
 | ak ([.ro [W Z,W Z,.str,.str,.str,.bool] j l,.ptr 0 0,.ptr 1 0,.ro [W Z,.str,.str,W Z] y z,.ro [.str,.str,W Z] w x,V Z A,V Z v,.str G,V Z J,V Z M,V Z N,.bool P,.bool Q,.bool O,V Z L],[.cells 25 [.ro [.str,W Z,W Z] g i,.ro [.str,W Z,W Z,W Z] d b],.cells 28 [.str n,V Z t]])=>needs [(o11r_4 j l y z w x A v G J M N P Q g i d b n t O L).isSome] (e11r_4 j l y z w x A v G J M N P Q g i d b n t ((o11r_4 j l y z w x A v G J M N P Q g i d b n t O L).getD ax) fun e vs bs=>inBlk 4 k e (mkSt 0 222 [1,3,5,8,10,12,13,15,18,20,21,22,23] vs 2 bs))
 | _=>False
theorem z11r_4:LOk Try.prog g11r_4 (.block 4 (bodyAt (Try.f11.body.getD .skip) 4)):=by
 refine lb (ι:=Nat × Dat × Nat × Dat × Nat × Dat × Int × Int × ByteArray × Int × Int × Int × Bool × Bool × Bool × Int × Nat × Dat × Nat × Dat × ByteArray × Int) (fuel:=8) (na:=0) (nt:=222) (nx:=2) (Lh:=[1,3,5,8,10,12,13,14,15,18,20,21,22,23,24]) (Le:=[1,3,5,8,10,12,13,15,18,20,21,22,23]) (gl:=[]) (tc k17r (tc k18 (tc k19 (tc k20 (tc k21 (tc k23 (tc k49 (tc k50 (tc k51r tn))))))))) mix_ok (lam_of rfl (lc z11r_2 ln)) rfl (fun f (j,l,y,z,w,x,A,v,G,J,M,N,P,Q,O,L,g,i,d,b,n,t) K=>GG ax (e11r_4 j l y z w x A v G J M N P Q g i d b n t) K (l11r_4 j l y z w x A v G J M N P Q g i d b n t f O L)) (fun (j,l,y,z,w,x,A,v,G,J,M,N,P,Q,O,L,g,i,d,b,n,t)=>[.ro [W Z,W Z,.str,.str,.str,.bool] j l,.ptr 0 0,.ptr 1 0,.ro [W Z,.str,.str,W Z] y z,.ro [.str,.str,W Z] w x,V Z A,V Z v,.str G,V Z J,V Z M,V Z N,.bool P,.bool Q,.bool O,V Z L]) (fun (j,l,y,z,w,x,A,v,G,J,M,N,P,Q,O,L,g,i,d,b,n,t)=>[.cells 25 [.ro [.str,W Z,W Z] g i,.ro [.str,W Z,W Z,W Z] d b],.cells 28 [.str n,V Z t]]) (fun (_,_,_,_,_,_,_,_,_,_,_,_,_,_,_,_,_,_,_,_,_,_) K=>gg_none) ?_ ?_
 ·rintro f ⟨j,l,y,z,w,x,A,v,G,J,M,N,P,Q,O,L,g,i,d,b,n,t⟩ K hG
  refine ro (fun R=>(cnd (aq (L<(w:Int)))
 (cnd (bif (cond (cond O az aj) az aj) then aj else (aq (0<=L/\L<↑w)))
 (cnd (bif (cond (bif (cond O az aj) then (aq ((x.ss L.toNat 0)=n)) else az) az aj) then aj else (aq (0<=L/\L<↑w)))
 (R (XE.normal) [.ro [W Z,W Z,.str,.str,.str,.bool] j l,.ptr 0 0,.ptr 1 0,.ro [W Z,.str,.str,W Z] y z,.ro [.str,.str,W Z] w x,V Z A,V Z v,.str G,V Z J,V Z M,V Z N,.bool P,.bool Q,.bool (bif O then aj else (bif (aq ((x.ss L.toNat 0)=n)) then (aq ((x.ss L.toNat 1)=G)) else az)),V Z (Z.wrap (L+1))] [.cells 25 [.ro [.str,W Z,W Z] g i,.ro [.str,W Z,W Z,W Z] d b],.cells 28 [.str n,V Z t]])
  False)
  False)
 (R (XE.exit 4) [.ro [W Z,W Z,.str,.str,.str,.bool] j l,.ptr 0 0,.ptr 1 0,.ro [W Z,.str,.str,W Z] y z,.ro [.str,.str,W Z] w x,V Z A,V Z v,V Z J,V Z M,V Z N,.bool P,.bool Q,.bool O] [.cells 25 [.ro [.str,W Z,W Z] g i,.ro [.str,W Z,W Z,W Z] d b],.cells 28 [.str n,V Z t]]))) (fun R=>by kernel_rfl) ?_
  exact ch hG (fun h0=>cg h0 fun h1=>cg h1 fun h2=>⟨(_,_,_,_,_,_,_,_,_,_,_,_,_,_,_,_,_,_,_,_,_,_),rfl,rfl,h2⟩) (fun h0=>h0.2)
 ·intro s k h
  unfold g11r_4 at h
  split at h <;> try exact h.elim
  rename_i e1
  rw [needs_iff] at h
  exact ⟨_,e1,_,(_,_,_,_,_,_,_,_,_,_,_,_,_,_,_,_,_,_,_,_,_,_),rfl,rfl,h.1 _ (List.mem_singleton.2 rfl),h.2⟩
def l11r_0(j:Nat)(l:Dat)(y:Nat)(z:Dat)(w:Nat)(x:Dat)(A:Int)(g:Nat)(i:Dat)(d:Nat)(b:Dat)(n:ByteArray)(t:Int):Nat->Int->Option (Bool × (Bool) × (Unit))
 | 0,_=>aw
 | f+1,v=>(cond (aq (v<(d:Int))) (cond (aq (0<=v/\v<↑d)) (cond (aq (0<=v/\v<↑d)) (cond (cond (aq ((b.ii v.toNat 1)=A)) az aj) (l11r_0 j l y z w x A g i d b n t f (Z.wrap (v+1))) (cond ((o11r_2 j l y z w x A v (b.ss v.toNat 0) g i d b n t (-1) 0).isSome) (cond (n20 g i d b) (cond (n21 j l) (cond (n49 (m20 g i d b).1 (m20 g i d b).2.1 (m20 g i d b).2.2.1 (m20 g i d b).2.2.2 (m21 j l).1 (m21 j l).2 n (b.ss v.toNat 0) t) (cond (n20 g i d b) (cond (n21 j l) (cond (n50 (m20 g i d b).1 (m20 g i d b).2.1 (m20 g i d b).2.2.1 (m20 g i d b).2.2.2 (m21 j l).1 (m21 j l).2 n (b.ss v.toNat 0) t) (cond ((o11r_4 j l y z w x A v (b.ss v.toNat 0) ((o11r_2 j l y z w x A v (b.ss v.toNat 0) g i d b n t (-1) 0).getD 0) (m49 (m20 g i d b).1 (m20 g i d b).2.1 (m20 g i d b).2.2.1 (m20 g i d b).2.2.2 (m21 j l).1 (m21 j l).2 n (b.ss v.toNat 0) t).2 (m50 (m20 g i d b).1 (m20 g i d b).2.1 (m20 g i d b).2.2.1 (m20 g i d b).2.2.2 (m21 j l).1 (m21 j l).2 n (b.ss v.toNat 0) t).2 (bif (aq ((m49 (m20 g i d b).1 (m20 g i d b).2.1 (m20 g i d b).2.2.1 (m20 g i d b).2.2.2 (m21 j l).1 (m21 j l).2 n (b.ss v.toNat 0) t).2=0)) then (aq ((m49 (m20 g i d b).1 (m20 g i d b).2.1 (m20 g i d b).2.2.1 (m20 g i d b).2.2.2 (m21 j l).1 (m21 j l).2 n (b.ss v.toNat 0) t).1<0)) else az) (bif (aq ((m50 (m20 g i d b).1 (m20 g i d b).2.1 (m20 g i d b).2.2.1 (m20 g i d b).2.2.2 (m21 j l).1 (m21 j l).2 n (b.ss v.toNat 0) t).2=0)) then (aq ((m50 (m20 g i d b).1 (m20 g i d b).2.1 (m20 g i d b).2.2.1 (m20 g i d b).2.2.2 (m21 j l).1 (m21 j l).2 n (b.ss v.toNat 0) t).1<=0)) else az) g i d b n t az 0).isSome) (cond (bif (aq ((m49 (m20 g i d b).1 (m20 g i d b).2.1 (m20 g i d b).2.2.1 (m20 g i d b).2.2.2 (m21 j l).1 (m21 j l).2 n (b.ss v.toNat 0) t).2=24)) then aj else (aq ((m50 (m20 g i d b).1 (m20 g i d b).2.1 (m20 g i d b).2.2.1 (m20 g i d b).2.2.2 (m21 j l).1 (m21 j l).2 n (b.ss v.toNat 0) t).2=24))) (cond (bif (bif (cond (aq (((o11r_2 j l y z w x A v (b.ss v.toNat 0) g i d b n t (-1) 0).getD 0)=0)) az aj) then aj else (cond (aq (((o11r_4 j l y z w x A v (b.ss v.toNat 0) ((o11r_2 j l y z w x A v (b.ss v.toNat 0) g i d b n t (-1) 0).getD 0) (m49 (m20 g i d b).1 (m20 g i d b).2.1 (m20 g i d b).2.2.1 (m20 g i d b).2.2.2 (m21 j l).1 (m21 j l).2 n (b.ss v.toNat 0) t).2 (m50 (m20 g i d b).1 (m20 g i d b).2.1 (m20 g i d b).2.2.1 (m20 g i d b).2.2.2 (m21 j l).1 (m21 j l).2 n (b.ss v.toNat 0) t).2 (bif (aq ((m49 (m20 g i d b).1 (m20 g i d b).2.1 (m20 g i d b).2.2.1 (m20 g i d b).2.2.2 (m21 j l).1 (m21 j l).2 n (b.ss v.toNat 0) t).2=0)) then (aq ((m49 (m20 g i d b).1 (m20 g i d b).2.1 (m20 g i d b).2.2.1 (m20 g i d b).2.2.2 (m21 j l).1 (m21 j l).2 n (b.ss v.toNat 0) t).1<0)) else az) (bif (aq ((m50 (m20 g i d b).1 (m20 g i d b).2.1 (m20 g i d b).2.2.1 (m20 g i d b).2.2.2 (m21 j l).1 (m21 j l).2 n (b.ss v.toNat 0) t).2=0)) then (aq ((m50 (m20 g i d b).1 (m20 g i d b).2.1 (m20 g i d b).2.2.1 (m20 g i d b).2.2.2 (m21 j l).1 (m21 j l).2 n (b.ss v.toNat 0) t).1<=0)) else az) g i d b n t az 0).getD ax)=(bif (aq ((m49 (m20 g i d b).1 (m20 g i d b).2.1 (m20 g i d b).2.2.1 (m20 g i d b).2.2.2 (m21 j l).1 (m21 j l).2 n (b.ss v.toNat 0) t).2=0)) then (aq ((m49 (m20 g i d b).1 (m20 g i d b).2.1 (m20 g i d b).2.2.1 (m20 g i d b).2.2.2 (m21 j l).1 (m21 j l).2 n (b.ss v.toNat 0) t).1<0)) else az))) az aj)) then aj else (cond (aq ((aq ((m49 (m20 g i d b).1 (m20 g i d b).2.1 (m20 g i d b).2.2.1 (m20 g i d b).2.2.2 (m21 j l).1 (m21 j l).2 n (b.ss v.toNat 0) t).2=24))=(aq ((m50 (m20 g i d b).1 (m20 g i d b).2.1 (m20 g i d b).2.2.1 (m20 g i d b).2.2.2 (m21 j l).1 (m21 j l).2 n (b.ss v.toNat 0) t).2=24)))) az aj)) (ak (aj,az,ax)) (l11r_0 j l y z w x A g i d b n t f (Z.wrap (v+1)))) (cond (bif (aq ((m49 (m20 g i d b).1 (m20 g i d b).2.1 (m20 g i d b).2.2.1 (m20 g i d b).2.2.2 (m21 j l).1 (m21 j l).2 n (b.ss v.toNat 0) t).2=0)) then (aq ((m49 (m20 g i d b).1 (m20 g i d b).2.1 (m20 g i d b).2.2.1 (m20 g i d b).2.2.2 (m21 j l).1 (m21 j l).2 n (b.ss v.toNat 0) t).1<0)) else az) (cond (bif (bif (cond (aq (((o11r_2 j l y z w x A v (b.ss v.toNat 0) g i d b n t (-1) 0).getD 0)=1)) az aj) then aj else (cond (aq (((o11r_4 j l y z w x A v (b.ss v.toNat 0) ((o11r_2 j l y z w x A v (b.ss v.toNat 0) g i d b n t (-1) 0).getD 0) (m49 (m20 g i d b).1 (m20 g i d b).2.1 (m20 g i d b).2.2.1 (m20 g i d b).2.2.2 (m21 j l).1 (m21 j l).2 n (b.ss v.toNat 0) t).2 (m50 (m20 g i d b).1 (m20 g i d b).2.1 (m20 g i d b).2.2.1 (m20 g i d b).2.2.2 (m21 j l).1 (m21 j l).2 n (b.ss v.toNat 0) t).2 (bif (aq ((m49 (m20 g i d b).1 (m20 g i d b).2.1 (m20 g i d b).2.2.1 (m20 g i d b).2.2.2 (m21 j l).1 (m21 j l).2 n (b.ss v.toNat 0) t).2=0)) then (aq ((m49 (m20 g i d b).1 (m20 g i d b).2.1 (m20 g i d b).2.2.1 (m20 g i d b).2.2.2 (m21 j l).1 (m21 j l).2 n (b.ss v.toNat 0) t).1<0)) else az) (bif (aq ((m50 (m20 g i d b).1 (m20 g i d b).2.1 (m20 g i d b).2.2.1 (m20 g i d b).2.2.2 (m21 j l).1 (m21 j l).2 n (b.ss v.toNat 0) t).2=0)) then (aq ((m50 (m20 g i d b).1 (m20 g i d b).2.1 (m20 g i d b).2.2.1 (m20 g i d b).2.2.2 (m21 j l).1 (m21 j l).2 n (b.ss v.toNat 0) t).1<=0)) else az) g i d b n t az 0).getD ax)=(bif (aq ((m49 (m20 g i d b).1 (m20 g i d b).2.1 (m20 g i d b).2.2.1 (m20 g i d b).2.2.2 (m21 j l).1 (m21 j l).2 n (b.ss v.toNat 0) t).2=0)) then (aq ((m49 (m20 g i d b).1 (m20 g i d b).2.1 (m20 g i d b).2.2.1 (m20 g i d b).2.2.2 (m21 j l).1 (m21 j l).2 n (b.ss v.toNat 0) t).1<0)) else az))) az aj)) then aj else (cond (aq ((aq ((m49 (m20 g i d b).1 (m20 g i d b).2.1 (m20 g i d b).2.2.1 (m20 g i d b).2.2.2 (m21 j l).1 (m21 j l).2 n (b.ss v.toNat 0) t).2=24))=(aq ((m50 (m20 g i d b).1 (m20 g i d b).2.1 (m20 g i d b).2.2.1 (m20 g i d b).2.2.2 (m21 j l).1 (m21 j l).2 n (b.ss v.toNat 0) t).2=24)))) az aj)) (ak (aj,az,ax)) (l11r_0 j l y z w x A g i d b n t f (Z.wrap (v+1)))) (cond (bif (aq ((m50 (m20 g i d b).1 (m20 g i d b).2.1 (m20 g i d b).2.2.1 (m20 g i d b).2.2.2 (m21 j l).1 (m21 j l).2 n (b.ss v.toNat 0) t).2=0)) then (aq ((m50 (m20 g i d b).1 (m20 g i d b).2.1 (m20 g i d b).2.2.1 (m20 g i d b).2.2.2 (m21 j l).1 (m21 j l).2 n (b.ss v.toNat 0) t).1<=0)) else az) (cond (bif (bif (cond (aq (((o11r_2 j l y z w x A v (b.ss v.toNat 0) g i d b n t (-1) 0).getD 0)=2)) az aj) then aj else (cond (aq (((o11r_4 j l y z w x A v (b.ss v.toNat 0) ((o11r_2 j l y z w x A v (b.ss v.toNat 0) g i d b n t (-1) 0).getD 0) (m49 (m20 g i d b).1 (m20 g i d b).2.1 (m20 g i d b).2.2.1 (m20 g i d b).2.2.2 (m21 j l).1 (m21 j l).2 n (b.ss v.toNat 0) t).2 (m50 (m20 g i d b).1 (m20 g i d b).2.1 (m20 g i d b).2.2.1 (m20 g i d b).2.2.2 (m21 j l).1 (m21 j l).2 n (b.ss v.toNat 0) t).2 (bif (aq ((m49 (m20 g i d b).1 (m20 g i d b).2.1 (m20 g i d b).2.2.1 (m20 g i d b).2.2.2 (m21 j l).1 (m21 j l).2 n (b.ss v.toNat 0) t).2=0)) then (aq ((m49 (m20 g i d b).1 (m20 g i d b).2.1 (m20 g i d b).2.2.1 (m20 g i d b).2.2.2 (m21 j l).1 (m21 j l).2 n (b.ss v.toNat 0) t).1<0)) else az) (bif (aq ((m50 (m20 g i d b).1 (m20 g i d b).2.1 (m20 g i d b).2.2.1 (m20 g i d b).2.2.2 (m21 j l).1 (m21 j l).2 n (b.ss v.toNat 0) t).2=0)) then (aq ((m50 (m20 g i d b).1 (m20 g i d b).2.1 (m20 g i d b).2.2.1 (m20 g i d b).2.2.2 (m21 j l).1 (m21 j l).2 n (b.ss v.toNat 0) t).1<=0)) else az) g i d b n t az 0).getD ax)=(bif (aq ((m49 (m20 g i d b).1 (m20 g i d b).2.1 (m20 g i d b).2.2.1 (m20 g i d b).2.2.2 (m21 j l).1 (m21 j l).2 n (b.ss v.toNat 0) t).2=0)) then (aq ((m49 (m20 g i d b).1 (m20 g i d b).2.1 (m20 g i d b).2.2.1 (m20 g i d b).2.2.2 (m21 j l).1 (m21 j l).2 n (b.ss v.toNat 0) t).1<0)) else az))) az aj)) then aj else (cond (aq ((aq ((m49 (m20 g i d b).1 (m20 g i d b).2.1 (m20 g i d b).2.2.1 (m20 g i d b).2.2.2 (m21 j l).1 (m21 j l).2 n (b.ss v.toNat 0) t).2=24))=(aq ((m50 (m20 g i d b).1 (m20 g i d b).2.1 (m20 g i d b).2.2.1 (m20 g i d b).2.2.2 (m21 j l).1 (m21 j l).2 n (b.ss v.toNat 0) t).2=24)))) az aj)) (ak (aj,az,ax)) (l11r_0 j l y z w x A g i d b n t f (Z.wrap (v+1)))) (cond (bif (bif (cond (aq (((o11r_2 j l y z w x A v (b.ss v.toNat 0) g i d b n t (-1) 0).getD 0)=-1)) az aj) then aj else (cond (aq (((o11r_4 j l y z w x A v (b.ss v.toNat 0) ((o11r_2 j l y z w x A v (b.ss v.toNat 0) g i d b n t (-1) 0).getD 0) (m49 (m20 g i d b).1 (m20 g i d b).2.1 (m20 g i d b).2.2.1 (m20 g i d b).2.2.2 (m21 j l).1 (m21 j l).2 n (b.ss v.toNat 0) t).2 (m50 (m20 g i d b).1 (m20 g i d b).2.1 (m20 g i d b).2.2.1 (m20 g i d b).2.2.2 (m21 j l).1 (m21 j l).2 n (b.ss v.toNat 0) t).2 (bif (aq ((m49 (m20 g i d b).1 (m20 g i d b).2.1 (m20 g i d b).2.2.1 (m20 g i d b).2.2.2 (m21 j l).1 (m21 j l).2 n (b.ss v.toNat 0) t).2=0)) then (aq ((m49 (m20 g i d b).1 (m20 g i d b).2.1 (m20 g i d b).2.2.1 (m20 g i d b).2.2.2 (m21 j l).1 (m21 j l).2 n (b.ss v.toNat 0) t).1<0)) else az) (bif (aq ((m50 (m20 g i d b).1 (m20 g i d b).2.1 (m20 g i d b).2.2.1 (m20 g i d b).2.2.2 (m21 j l).1 (m21 j l).2 n (b.ss v.toNat 0) t).2=0)) then (aq ((m50 (m20 g i d b).1 (m20 g i d b).2.1 (m20 g i d b).2.2.1 (m20 g i d b).2.2.2 (m21 j l).1 (m21 j l).2 n (b.ss v.toNat 0) t).1<=0)) else az) g i d b n t az 0).getD ax)=(bif (aq ((m49 (m20 g i d b).1 (m20 g i d b).2.1 (m20 g i d b).2.2.1 (m20 g i d b).2.2.2 (m21 j l).1 (m21 j l).2 n (b.ss v.toNat 0) t).2=0)) then (aq ((m49 (m20 g i d b).1 (m20 g i d b).2.1 (m20 g i d b).2.2.1 (m20 g i d b).2.2.2 (m21 j l).1 (m21 j l).2 n (b.ss v.toNat 0) t).1<0)) else az))) az aj)) then aj else (cond (aq ((aq ((m49 (m20 g i d b).1 (m20 g i d b).2.1 (m20 g i d b).2.2.1 (m20 g i d b).2.2.2 (m21 j l).1 (m21 j l).2 n (b.ss v.toNat 0) t).2=24))=(aq ((m50 (m20 g i d b).1 (m20 g i d b).2.1 (m20 g i d b).2.2.1 (m20 g i d b).2.2.2 (m21 j l).1 (m21 j l).2 n (b.ss v.toNat 0) t).2=24)))) az aj)) (ak (aj,az,ax)) (l11r_0 j l y z w x A g i d b n t f (Z.wrap (v+1))))))) aw) aw) aw) aw) aw) aw) aw) aw)) aw) aw) (ak (az,ax,())))
abbrev o11r_0(j:Nat)(l:Dat)(y:Nat)(z:Dat)(w:Nat)(x:Dat)(A:Int)(g:Nat)(i:Dat)(d:Nat)(b:Dat)(n:ByteArray)(t v:Int):Option (Bool × (Bool) × (Unit)):=l11r_0 j l y z w x A g i d b n t (j+y+w+A.toNat+v.toNat+g+d+n.size+t.toNat+8) v
def e11r_0(j:Nat)(l:Dat)(y:Nat)(z:Dat)(w:Nat)(x:Dat)(A:Int)(g:Nat)(i:Dat)(d:Nat)(b:Dat)(n:ByteArray)(t:Int)(r:Bool × (Bool) × (Unit))(K:XR):Prop:=cnd r.1 (K (XE.ret) [.bool r.2.1] [.cells 25 [.ro [.str,W Z,W Z] g i,.ro [.str,W Z,W Z,W Z] d b],.cells 28 [.str n,V Z t]]) (K (XE.exit 0) [.any] [.cells 25 [.ro [.str,W Z,W Z] g i,.ro [.str,W Z,W Z,W Z] d b],.cells 28 [.str n,V Z t]])
def g11r_0:LSum:=fun s k=>match czv 0 222 [1,3,5,8,10,12,13] 2 [] s with
 | ak ([.ro [W Z,W Z,.str,.str,.str,.bool] j l,.ptr 0 0,.ptr 1 0,.ro [W Z,.str,.str,W Z] y z,.ro [.str,.str,W Z] w x,V Z A,V Z v],[.cells 25 [.ro [.str,W Z,W Z] g i,.ro [.str,W Z,W Z,W Z] d b],.cells 28 [.str n,V Z t]])=>needs [(o11r_0 j l y z w x A g i d b n t v).isSome] (e11r_0 j l y z w x A g i d b n t ((o11r_0 j l y z w x A g i d b n t v).getD ax) fun e vs bs=>inBlk 0 k e (mkSt 0 222 [6] vs 2 bs))
 | _=>False
theorem z11r_0:LOk Try.prog g11r_0 (.block 0 (bodyAt (Try.f11.body.getD .skip) 0)):=by
 refine lb (ι:=Nat × Dat × Nat × Dat × Nat × Dat × Int × Int × Nat × Dat × Nat × Dat × ByteArray × Int) (fuel:=8) (na:=0) (nt:=222) (nx:=2) (Lh:=[1,3,5,8,10,12,13]) (Le:=[6]) (gl:=[]) (tc k17r (tc k18 (tc k19 (tc k20 (tc k21 (tc k23 (tc k49 (tc k50 (tc k51r tn))))))))) mix_ok (lam_of rfl (lc z11r_2 (lc z11r_4 ln))) rfl (fun f (j,l,y,z,w,x,A,v,g,i,d,b,n,t) K=>GG ax (e11r_0 j l y z w x A g i d b n t) K (l11r_0 j l y z w x A g i d b n t f v)) (fun (j,l,y,z,w,x,A,v,g,i,d,b,n,t)=>[.ro [W Z,W Z,.str,.str,.str,.bool] j l,.ptr 0 0,.ptr 1 0,.ro [W Z,.str,.str,W Z] y z,.ro [.str,.str,W Z] w x,V Z A,V Z v]) (fun (j,l,y,z,w,x,A,v,g,i,d,b,n,t)=>[.cells 25 [.ro [.str,W Z,W Z] g i,.ro [.str,W Z,W Z,W Z] d b],.cells 28 [.str n,V Z t]]) (fun (_,_,_,_,_,_,_,_,_,_,_,_,_,_) K=>gg_none) ?_ ?_
 ·rintro f ⟨j,l,y,z,w,x,A,v,g,i,d,b,n,t⟩ K hG
  refine ro (fun R => 
 let b0:=(m49 (m20 g i d b).1 (m20 g i d b).2.1 (m20 g i d b).2.2.1 (m20 g i d b).2.2.2 (m21 j l).1 (m21 j l).2 n (b.ss v.toNat 0) t)
 let c0:=(m50 (m20 g i d b).1 (m20 g i d b).2.1 (m20 g i d b).2.2.1 (m20 g i d b).2.2.2 (m21 j l).1 (m21 j l).2 n (b.ss v.toNat 0) t)
 let d0:=(o11r_2 j l y z w x A v (b.ss v.toNat 0) g i d b n t (-1) 0)
 let f0:=(bif (aq (c0.2=0)) then (aq (c0.1<=0)) else az)
 let g0:=(bif (aq (b0.2=0)) then (aq (b0.1<0)) else az)
 let a0:=(cond (aq (((o11r_4 j l y z w x A v (b.ss v.toNat 0) (d0.getD 0) b0.2 c0.2 g0 f0 g i d b n t az 0).getD ax)=g0)) az aj)
 let e0:=(cond (aq ((aq (b0.2=24))=(aq (c0.2=24)))) az aj)
 (cnd (aq (v<(d:Int)))
 (cnd (aq (0<=v/\v<↑d))
 (cnd (aq (0<=v/\v<↑d))
 (cnd (cond (aq ((b.ii v.toNat 1)=A)) az aj)
 (R (XE.normal) [.ro [W Z,W Z,.str,.str,.str,.bool] j l,.ptr 0 0,.ptr 1 0,.ro [W Z,.str,.str,W Z] y z,.ro [.str,.str,W Z] w x,V Z A,V Z (Z.wrap (v+1))] [.cells 25 [.ro [.str,W Z,W Z] g i,.ro [.str,W Z,W Z,W Z] d b],.cells 28 [.str n,V Z t]])
 (cnd (d0.isSome)
 (cnd (n20 g i d b)
 (cnd (n21 j l)
 (cnd (n49 (m20 g i d b).1 (m20 g i d b).2.1 (m20 g i d b).2.2.1 (m20 g i d b).2.2.2 (m21 j l).1 (m21 j l).2 n (b.ss v.toNat 0) t)
 (cnd (n20 g i d b)
 (cnd (n21 j l)
 (cnd (n50 (m20 g i d b).1 (m20 g i d b).2.1 (m20 g i d b).2.2.1 (m20 g i d b).2.2.2 (m21 j l).1 (m21 j l).2 n (b.ss v.toNat 0) t)
 (cnd ((o11r_4 j l y z w x A v (b.ss v.toNat 0) (d0.getD 0) b0.2 c0.2 g0 f0 g i d b n t az 0).isSome)
 (cnd (bif (aq (b0.2=24)) then aj else (aq (c0.2=24)))
 (cnd (bif (bif (cond (aq ((d0.getD 0)=0)) az aj) then aj else a0) then aj else e0)
 (R (XE.ret) [.bool az] [.cells 25 [.ro [.str,W Z,W Z] g i,.ro [.str,W Z,W Z,W Z] d b],.cells 28 [.str n,V Z t]])
 (R (XE.normal) [.ro [W Z,W Z,.str,.str,.str,.bool] j l,.ptr 0 0,.ptr 1 0,.ro [W Z,.str,.str,W Z] y z,.ro [.str,.str,W Z] w x,V Z A,V Z (Z.wrap (v+1))] [.cells 25 [.ro [.str,W Z,W Z] g i,.ro [.str,W Z,W Z,W Z] d b],.cells 28 [.str n,V Z t]]))
 (cnd g0
 (cnd (bif (bif (cond (aq ((d0.getD 0)=1)) az aj) then aj else a0) then aj else e0)
 (R (XE.ret) [.bool az] [.cells 25 [.ro [.str,W Z,W Z] g i,.ro [.str,W Z,W Z,W Z] d b],.cells 28 [.str n,V Z t]])
 (R (XE.normal) [.ro [W Z,W Z,.str,.str,.str,.bool] j l,.ptr 0 0,.ptr 1 0,.ro [W Z,.str,.str,W Z] y z,.ro [.str,.str,W Z] w x,V Z A,V Z (Z.wrap (v+1))] [.cells 25 [.ro [.str,W Z,W Z] g i,.ro [.str,W Z,W Z,W Z] d b],.cells 28 [.str n,V Z t]]))
 (cnd f0
 (cnd (bif (bif (cond (aq ((d0.getD 0)=2)) az aj) then aj else a0) then aj else e0)
 (R (XE.ret) [.bool az] [.cells 25 [.ro [.str,W Z,W Z] g i,.ro [.str,W Z,W Z,W Z] d b],.cells 28 [.str n,V Z t]])
 (R (XE.normal) [.ro [W Z,W Z,.str,.str,.str,.bool] j l,.ptr 0 0,.ptr 1 0,.ro [W Z,.str,.str,W Z] y z,.ro [.str,.str,W Z] w x,V Z A,V Z (Z.wrap (v+1))] [.cells 25 [.ro [.str,W Z,W Z] g i,.ro [.str,W Z,W Z,W Z] d b],.cells 28 [.str n,V Z t]]))
 (cnd (bif (bif (cond (aq ((d0.getD 0)=-1)) az aj) then aj else a0) then aj else e0)
 (R (XE.ret) [.bool az] [.cells 25 [.ro [.str,W Z,W Z] g i,.ro [.str,W Z,W Z,W Z] d b],.cells 28 [.str n,V Z t]])
 (R (XE.normal) [.ro [W Z,W Z,.str,.str,.str,.bool] j l,.ptr 0 0,.ptr 1 0,.ro [W Z,.str,.str,W Z] y z,.ro [.str,.str,W Z] w x,V Z A,V Z (Z.wrap (v+1))] [.cells 25 [.ro [.str,W Z,W Z] g i,.ro [.str,W Z,W Z,W Z] d b],.cells 28 [.str n,V Z t]])))))
       False)
      False)
      False)
     False)
     False)
    False)
    False)
   False))
  False)
  False)
 (R (XE.exit 0) [.any] [.cells 25 [.ro [.str,W Z,W Z] g i,.ro [.str,W Z,W Z,W Z] d b],.cells 28 [.str n,V Z t]]))) (fun R=>by kernel_rfl) ?_
  exact ch hG (fun h0=>cg h0 fun h1=>cg h1 fun h2=>ch h2 (fun h3=>⟨(_,_,_,_,_,_,_,_,_,_,_,_,_,_),rfl,rfl,h3⟩) (fun h3=>cg h3 fun h4=>cg h4 fun h5=>cg h5 fun h6=>cg h6 fun h7=>cg h7 fun h8=>cg h8 fun h9=>cg h9 fun h10=>cg h10 fun h11=>ch h11 (fun h12=>ch h12 (fun h13=>h13.2) (fun h13=>⟨(_,_,_,_,_,_,_,_,_,_,_,_,_,_),rfl,rfl,h13⟩)) (fun h12=>ch h12 (fun h13=>ch h13 (fun h14=>h14.2) (fun h14=>⟨(_,_,_,_,_,_,_,_,_,_,_,_,_,_),rfl,rfl,h14⟩)) (fun h13=>ch h13 (fun h14=>ch h14 (fun h15=>h15.2) (fun h15=>⟨(_,_,_,_,_,_,_,_,_,_,_,_,_,_),rfl,rfl,h15⟩)) (fun h14=>ch h14 (fun h15=>h15.2) (fun h15=>⟨(_,_,_,_,_,_,_,_,_,_,_,_,_,_),rfl,rfl,h15⟩)))))) (fun h0=>h0.2)
 ·intro s k h
  unfold g11r_0 at h
  split at h <;> try exact h.elim
  rename_i e1
  rw [needs_iff] at h
  exact ⟨_,e1,_,(_,_,_,_,_,_,_,_,_,_,_,_,_,_),rfl,rfl,h.1 _ (List.mem_singleton.2 rfl),h.2⟩
def m11r(p:Nat)(m:Dat)(o:Nat)(u:Dat)(C:Nat)(D:Dat)(F:ByteArray)(E:Int):Bool :=
 (cond (cond m17r az aj) az (cond (bif (bif (cond (m18 p m o u C D) az aj) then aj else (aq ((20:Int)<(↑F.size:Int)))) then aj else (aq (5<(o:Int)))) aj (cond (bif (cond (aq ((m19 (m20 p m o u).1 (m20 p m o u).2.1 (m20 p m o u).2.2.1 (m20 p m o u).2.2.2 (m21 C D).1 (m21 C D).2 F E).2.2.2=0)) az aj) then aj else (aq (E<1))) aj (cond (cond (aq ((m51r (m20 p m o u).1 (m20 p m o u).2.1 (m20 p m o u).2.2.1 (m20 p m o u).2.2.2 (m21 C D).1 (m21 C D).2 (Z.wrap (E - 1))).2.2=0)) az aj) az (cond ((o11r_0 C D (m19 (m20 p m o u).1 (m20 p m o u).2.1 (m20 p m o u).2.2.1 (m20 p m o u).2.2.2 (m21 C D).1 (m21 C D).2 F E).2.1 (m19 (m20 p m o u).1 (m20 p m o u).2.1 (m20 p m o u).2.2.1 (m20 p m o u).2.2.2 (m21 C D).1 (m21 C D).2 F E).2.2.1 (m51r (m20 p m o u).1 (m20 p m o u).2.1 (m20 p m o u).2.2.1 (m20 p m o u).2.2.2 (m21 C D).1 (m21 C D).2 (Z.wrap (E - 1))).1 (m51r (m20 p m o u).1 (m20 p m o u).2.1 (m20 p m o u).2.2.1 (m20 p m o u).2.2.2 (m21 C D).1 (m21 C D).2 (Z.wrap (E - 1))).2.1 (m.ii ((m23 p m o u F).toNat) 1) p m o u F E 0).getD ax).1 ((o11r_0 C D (m19 (m20 p m o u).1 (m20 p m o u).2.1 (m20 p m o u).2.2.1 (m20 p m o u).2.2.2 (m21 C D).1 (m21 C D).2 F E).2.1 (m19 (m20 p m o u).1 (m20 p m o u).2.1 (m20 p m o u).2.2.1 (m20 p m o u).2.2.2 (m21 C D).1 (m21 C D).2 F E).2.2.1 (m51r (m20 p m o u).1 (m20 p m o u).2.1 (m20 p m o u).2.2.1 (m20 p m o u).2.2.2 (m21 C D).1 (m21 C D).2 (Z.wrap (E - 1))).1 (m51r (m20 p m o u).1 (m20 p m o u).2.1 (m20 p m o u).2.2.1 (m20 p m o u).2.2.2 (m21 C D).1 (m21 C D).2 (Z.wrap (E - 1))).2.1 (m.ii ((m23 p m o u F).toNat) 1) p m o u F E 0).getD ax).2.1 aj)))))
def n11r(p:Nat)(m:Dat)(o:Nat)(u:Dat)(C:Nat)(D:Dat)(F:ByteArray)(E:Int):Bool :=
 ((n17r)&&(cond (cond m17r az aj) aj ((n18 p m o u C D)&&(cond (bif (bif (cond (m18 p m o u C D) az aj) then aj else (aq ((20:Int)<(↑F.size:Int)))) then aj else (aq (5<(o:Int)))) aj ((n20 p m o u)&&((n21 C D)&&((n19 (m20 p m o u).1 (m20 p m o u).2.1 (m20 p m o u).2.2.1 (m20 p m o u).2.2.2 (m21 C D).1 (m21 C D).2 F E)&&(cond (bif (cond (aq ((m19 (m20 p m o u).1 (m20 p m o u).2.1 (m20 p m o u).2.2.1 (m20 p m o u).2.2.2 (m21 C D).1 (m21 C D).2 F E).2.2.2=0)) az aj) then aj else (aq (E<1))) aj ((n20 p m o u)&&((n21 C D)&&((n51r (m20 p m o u).1 (m20 p m o u).2.1 (m20 p m o u).2.2.1 (m20 p m o u).2.2.2 (m21 C D).1 (m21 C D).2 (Z.wrap (E - 1)))&&(cond (cond (aq ((m51r (m20 p m o u).1 (m20 p m o u).2.1 (m20 p m o u).2.2.1 (m20 p m o u).2.2.2 (m21 C D).1 (m21 C D).2 (Z.wrap (E - 1))).2.2=0)) az aj) aj ((n23 p m o u F)&&((aq ((0:Int)<=m23 p m o u F/\m23 p m o u F<(p:Int)))&&(((o11r_0 C D (m19 (m20 p m o u).1 (m20 p m o u).2.1 (m20 p m o u).2.2.1 (m20 p m o u).2.2.2 (m21 C D).1 (m21 C D).2 F E).2.1 (m19 (m20 p m o u).1 (m20 p m o u).2.1 (m20 p m o u).2.2.1 (m20 p m o u).2.2.2 (m21 C D).1 (m21 C D).2 F E).2.2.1 (m51r (m20 p m o u).1 (m20 p m o u).2.1 (m20 p m o u).2.2.1 (m20 p m o u).2.2.2 (m21 C D).1 (m21 C D).2 (Z.wrap (E - 1))).1 (m51r (m20 p m o u).1 (m20 p m o u).2.1 (m20 p m o u).2.2.1 (m20 p m o u).2.2.2 (m21 C D).1 (m21 C D).2 (Z.wrap (E - 1))).2.1 (m.ii ((m23 p m o u F).toNat) 1) p m o u F E 0).isSome)&&aj)))))))))))))))
def q11r(r:Bool):SV × List Blk × List Blk:=(.bool r,[],[])
def g11r:GF:=fun vs bs=>match vs,bs with
 | [.agg [.ro [.str,W Z,W Z] p m,.ro [.str,W Z,W Z,W Z] o u],.ro [W Z,W Z,.str,.str,.str,.bool] C D,.agg [.str F,V Z E]],[]=>ak (rs 0 (q11r (m11r p m o u C D F E)) [n11r p m o u C D F E])
 | _,_=>aw
def c11r:Ctr:=genC [.a [.ro [.str,W Z,W Z],.ro [.str,W Z,W Z,W Z]],.ro [W Z,W Z,.str,.str,.str,.bool],.k] g11r
theorem k11r:CtrOk Try.prog c11r 11:=cx (tc k17r (tc k18 (tc k19 (tc k20 (tc k21 (tc k23 (tc k49 (tc k50 (tc k51r tn))))))))) mix_ok 8 (fn:=Try.f11) (c:=(Try.f11.body.getD .skip)) (grs:=[]) (rh:=.k) Try.func11 rfl (by kernel_rfl) (lam_of rfl (lc z11r_2 (lc z11r_4 (lc z11r_0 ln)))) fun vs bs q h hn=>by
 unfold g11r at h
 split at h <;> cases h
 rename_i p m o u C D F E
 have hn:=n1 hn
 exact ⟨_,rfl,ca (fun R => 
 let a0:=(o11r_0 C D (m19 (m20 p m o u).1 (m20 p m o u).2.1 (m20 p m o u).2.2.1 (m20 p m o u).2.2.2 (m21 C D).1 (m21 C D).2 F E).2.1 (m19 (m20 p m o u).1 (m20 p m o u).2.1 (m20 p m o u).2.2.1 (m20 p m o u).2.2.2 (m21 C D).1 (m21 C D).2 F E).2.2.1 (m51r (m20 p m o u).1 (m20 p m o u).2.1 (m20 p m o u).2.2.1 (m20 p m o u).2.2.2 (m21 C D).1 (m21 C D).2 (Z.wrap (E - 1))).1 (m51r (m20 p m o u).1 (m20 p m o u).2.1 (m20 p m o u).2.2.1 (m20 p m o u).2.2.2 (m21 C D).1 (m21 C D).2 (Z.wrap (E - 1))).2.1 (m.ii ((m23 p m o u F).toNat) 1) p m o u F E 0)
 (cnd (n17r)
 (cnd (cond m17r az aj)
 (R (.bool az) [] [])
 (cnd (n18 p m o u C D)
 (cnd (bif (bif (cond (m18 p m o u C D) az aj) then aj else (aq ((20:Int)<(↑F.size:Int)))) then aj else (aq (5<(o:Int))))
 (R (.bool aj) [] [])
 (cnd (n20 p m o u)
 (cnd (n21 C D)
 (cnd (n19 (m20 p m o u).1 (m20 p m o u).2.1 (m20 p m o u).2.2.1 (m20 p m o u).2.2.2 (m21 C D).1 (m21 C D).2 F E)
 (cnd (bif (cond (aq ((m19 (m20 p m o u).1 (m20 p m o u).2.1 (m20 p m o u).2.2.1 (m20 p m o u).2.2.2 (m21 C D).1 (m21 C D).2 F E).2.2.2=0)) az aj) then aj else (aq (E<1)))
 (R (.bool aj) [] [])
 (cnd (n20 p m o u)
 (cnd (n21 C D)
 (cnd (n51r (m20 p m o u).1 (m20 p m o u).2.1 (m20 p m o u).2.2.1 (m20 p m o u).2.2.2 (m21 C D).1 (m21 C D).2 (Z.wrap (E - 1)))
 (cnd (cond (aq ((m51r (m20 p m o u).1 (m20 p m o u).2.1 (m20 p m o u).2.2.1 (m20 p m o u).2.2.2 (m21 C D).1 (m21 C D).2 (Z.wrap (E - 1))).2.2=0)) az aj)
 (R (.bool az) [] [])
 (cnd (n23 p m o u F)
 (cnd (aq ((0:Int)<=m23 p m o u F/\m23 p m o u F<(p:Int)))
 (cnd (a0.isSome)
 (cnd (a0.getD ax).1
 (R (.bool (a0.getD ax).2.1) [] [])
 (R (.bool aj) [] []))
        False)
        False)
       False))
      False)
      False)
     False))
    False)
    False)
   False))
  False))
 False)) (fun R=>by kernel_rfl) (cn (al hn) (co (fun h0=>lf (cT h0 rfl) rfl) (fun h0=>cn (al (cf h0 (ar hn))) (co (fun h1=>lf (cF h0 (cT h1 rfl)) rfl) (fun h1=>cn (al (cf h1 (ar (cf h0 (ar hn))))) (cn (al (ar (cf h1 (ar (cf h0 (ar hn)))))) (cn (al (ar (ar (cf h1 (ar (cf h0 (ar hn))))))) (co (fun h2=>lf (cF h0 (cF h1 (cT h2 rfl))) rfl) (fun h2=>cn (al (cf h2 (ar (ar (ar (cf h1 (ar (cf h0 (ar hn))))))))) (cn (al (ar (cf h2 (ar (ar (ar (cf h1 (ar (cf h0 (ar hn)))))))))) (cn (al (ar (ar (cf h2 (ar (ar (ar (cf h1 (ar (cf h0 (ar hn))))))))))) (co (fun h3=>lf (cF h0 (cF h1 (cF h2 (cT h3 rfl)))) rfl) (fun h3=>cn (al (cf h3 (ar (ar (ar (cf h2 (ar (ar (ar (cf h1 (ar (cf h0 (ar hn))))))))))))) (cn (al (ar (cf h3 (ar (ar (ar (cf h2 (ar (ar (ar (cf h1 (ar (cf h0 (ar hn)))))))))))))) (cn (al (ar (ar (cf h3 (ar (ar (ar (cf h2 (ar (ar (ar (cf h1 (ar (cf h0 (ar hn))))))))))))))) (co (fun h4=>lf (cF h0 (cF h1 (cF h2 (cF h3 (cT h4 rfl))))) rfl) (fun h4=>lf (cF h0 (cF h1 (cF h2 (cF h3 (cF h4 rfl))))) rfl)))))))))))))))))⟩
end
end Go.Proofs.Ytldjapmfmhifkaa
