/-
 Contracts of functions: models, equations by the kernel, contracts. Conditions: none.
-/
import Derived.Test.YtldjapmfmhifkaaR5
import Derived.KernelRfl
namespace Go.Proofs.Ytldjapmfmhifkaa
open Go Go.Sy
noncomputable section
set_option linter.unusedVariables false
set_option linter.unusedSimpArgs false
set_option maxRecDepth 100000
set_option maxHeartbeats 2000000
attribute [local irreducible] Go.IntKind.wrap Int.tdiv Int.tmod Int.fdiv
open Go.Sy renaming tabOk_cons→tc,tabOk_nil→tn,cnd_need→cn,leaf_of→lf,cnd_gg→cg,cnd_gg2→ch,cond_f→cf,cond_t→ct,cnd_of→co,callOf→ca,roundOf→ro,cnd_not→nn,lams_cons→lc,lams_nil→ln,condT→cT,condF→cF,need1→n1,resOf→rs,and_l→al,and_r→ar,or_gg→og,ctr_of→cx,loop_blk→lb
open Go.IntKind renaming i64→Z
open Go.Sy.SV renaming int→V
open Go.Sy.Kd renaming int→W
/-! ### shotline/kit.Quarantined -/
def m31 (b:Nat) (d:Dat) (e:Nat) (g:Dat) (i:Nat) (j:Dat):Nat × Dat × Int :=
 (cond (bif (decide ((m62 b d e g i j).2.2.2=0)) then false else true) (0,noDat,(m62 b d e g i j).2.2.2) ((m72c79 (m62 b d e g i j).2.1 (datC [SV.rp [Kd.sl [Kd.str,Kd.int Z,Kd.int Z],Kd.sl [Kd.str,Kd.int Z,Kd.int Z,Kd.int Z],Kd.sl [Kd.pt [Kd.str,Kd.int Z,Kd.int Z,Kd.mi [Kd.int Z,Kd.int Z,Kd.bool],Kd.mb,Kd.mb,Kd.int Z,Kd.bool,Kd.m1]],Kd.int Z] (m62 b d e g i j).2.1 0 0])).1,(m72c79 (m62 b d e g i j).2.1 (datC [SV.rp [Kd.sl [Kd.str,Kd.int Z,Kd.int Z],Kd.sl [Kd.str,Kd.int Z,Kd.int Z,Kd.int Z],Kd.sl [Kd.pt [Kd.str,Kd.int Z,Kd.int Z,Kd.mi [Kd.int Z,Kd.int Z,Kd.bool],Kd.mb,Kd.mb,Kd.int Z,Kd.bool,Kd.m1]],Kd.int Z] (m62 b d e g i j).2.1 0 0])).2.2,0))
def n31 (b:Nat) (d:Dat) (e:Nat) (g:Dat) (i:Nat) (j:Dat):Bool :=
 ((n62 b d e g i j)&&(cond (bif (decide ((m62 b d e g i j).2.2.2=0)) then false else true) true ((m62 b d e g i j).1&&((m62 b d e g i j).1&&((n72c79 (m62 b d e g i j).2.1 (datC [SV.rp [Kd.sl [Kd.str,Kd.int Z,Kd.int Z],Kd.sl [Kd.str,Kd.int Z,Kd.int Z,Kd.int Z],Kd.sl [Kd.pt [Kd.str,Kd.int Z,Kd.int Z,Kd.mi [Kd.int Z,Kd.int Z,Kd.bool],Kd.mb,Kd.mb,Kd.int Z,Kd.bool,Kd.m1]],Kd.int Z] (m62 b d e g i j).2.1 0 0]))&&((decide ((0+(m72c79 (m62 b d e g i j).2.1 (datC [SV.rp [Kd.sl [Kd.str,Kd.int Z,Kd.int Z],Kd.sl [Kd.str,Kd.int Z,Kd.int Z,Kd.int Z],Kd.sl [Kd.pt [Kd.str,Kd.int Z,Kd.int Z,Kd.mi [Kd.int Z,Kd.int Z,Kd.bool],Kd.mb,Kd.mb,Kd.int Z,Kd.bool,Kd.m1]],Kd.int Z] (m62 b d e g i j).2.1 0 0])).1)≤(m72c79 (m62 b d e g i j).2.1 (datC [SV.rp [Kd.sl [Kd.str,Kd.int Z,Kd.int Z],Kd.sl [Kd.str,Kd.int Z,Kd.int Z,Kd.int Z],Kd.sl [Kd.pt [Kd.str,Kd.int Z,Kd.int Z,Kd.mi [Kd.int Z,Kd.int Z,Kd.bool],Kd.mb,Kd.mb,Kd.int Z,Kd.bool,Kd.m1]],Kd.int Z] (m62 b d e g i j).2.1 0 0])).2.1))&&true))))))
def q31 (r:Nat × Dat × Int):SV × List Blk × List Blk:=(.tup [.ro [.str] r.1 r.2.1,V Z r.2.2],[],[])
def g31:GF:=fun vs bs=>match vs,bs with
 | [.agg [.ro [.str,W Z,W Z] b d,.ro [.str,W Z,W Z,W Z] e g],.ro [W Z,W Z,.str,.str,.str,.bool] i j],[]=>some (rs 0 (q31 (m31 b d e g i j)) [n31 b d e g i j])
 | _,_=>none
def c31:Ctr:=genC [.a [.ro [.str,W Z,W Z],.ro [.str,W Z,W Z,W Z]],.ro [W Z,W Z,.str,.str,.str,.bool]] g31
theorem k31:CtrOk Try.prog c31 31:=cx (tc k62 (tc k72c79 (tc k79 tn))) mix_ok 8 (fn:=Try.f31) (c:=(Try.f31.body.getD .skip)) (grs:=[]) (rh:=.t [.ro [.str],.k]) Try.func31 rfl (by kernel_rfl) noLam fun vs bs q h hn=>by
 unfold g31 at h
 split at h <;> cases h
 rename_i b d e g i j
 have hn:=n1 hn
 exact ⟨_,rfl,ca (fun R => 
 let a0:=(datC [SV.rp [Kd.sl [Kd.str,Kd.int Z,Kd.int Z],Kd.sl [Kd.str,Kd.int Z,Kd.int Z,Kd.int Z],Kd.sl [Kd.pt [Kd.str,Kd.int Z,Kd.int Z,Kd.mi [Kd.int Z,Kd.int Z,Kd.bool],Kd.mb,Kd.mb,Kd.int Z,Kd.bool,Kd.m1]],Kd.int Z] (m62 b d e g i j).2.1 0 0])
 let b0:=(m72c79 (m62 b d e g i j).2.1 a0)
 (cnd (n62 b d e g i j)
 (cnd (bif (decide ((m62 b d e g i j).2.2.2=0)) then false else true)
 (R (.tup [.ro [.str] 0 noDat,V Z (m62 b d e g i j).2.2.2]) [] [])
 (cnd (m62 b d e g i j).1
 (cnd (m62 b d e g i j).1
 (cnd (n72c79 (m62 b d e g i j).2.1 a0)
 (cnd (decide ((0+b0.1)≤b0.2.1))
 (R (.tup [.ro [.str] b0.1 b0.2.2,V Z 0]) [] [])
    False)
   False)
   False)
  False))
 False)) (fun R=>by kernel_rfl) (cn (al hn) (co (fun h0=>lf (cT h0 rfl) rfl) (fun h0=>cn (al (cf h0 (ar hn))) (cn (al (ar (cf h0 (ar hn)))) (cn (al (ar (ar (cf h0 (ar hn))))) (cn (al (ar (ar (ar (cf h0 (ar hn)))))) (lf (cF h0 rfl) rfl)))))))⟩
/-! ### shotline/kit.last -/
theorem x85 (e:Nat) (g:Dat) (d:Nat) (b:Dat) (l:Nat) (m:Dat) (j i:ByteArray) (n:Int) (o:Bool) (R:SV→List Blk→List Blk→Prop):exec Try.prog [(62,c62),(63,c63),(64,c64),(102,c102)] (fun _=>none) 8 (Try.f85.body.getD .skip) (initS Try.f85.ntmps [.agg [.ro [.str,W Z,W Z] e g,.ro [.str,W Z,W Z,W Z] d b],.ro [W Z,W Z,.str,.str,.str,.bool] l m,.agg [.str j,.str i,V Z n],.bool o] 0 (memOf [])) (retK Try.prog Try.f85.results.toList (outK 0 (List.range 0) [] (.k) fun v U N=>R v U N)) =
 (cnd (n62 e g d b l m)
 (cnd (bif (decide ((m62 e g d b l m).2.2.2=0)) then false else true)
 (R (.tup [.val (Value.pointer none),.agg [.str ({ data:=#[] }:ByteArray),V Z 0,V Z 0,V Z 0],V Z (m62 e g d b l m).2.2.2]) [] [])
 (cnd (m62 e g d b l m).1
 (cnd (n63 (m62 e g d b l m).2.1 j)
 (cnd (n102 e g d b i)
 (cnd (bif (bif (m63 (m62 e g d b l m).2.1 j).1 then false else true) then true else (decide ((m102 e g d b i)<0)))
 (R (.tup [.val (Value.pointer none),.agg [.str ({ data:=#[] }:ByteArray),V Z 0,V Z 0,V Z 0],V Z 6]) [] [])
 (cnd (decide (0≤m102 e g d b i∧m102 e g d b i<(↑d:Int)))
 (cnd (m63 (m62 e g d b l m).2.1 j).1
 (cnd (bif (decide ((b.ii ((m102 e g d b i).toNat) 1)=((m63 (m62 e g d b l m).2.1 j).2.ii 0 1))) then false else true)
 (R (.tup [.val (Value.pointer none),.agg [.str ({ data:=#[] }:ByteArray),V Z 0,V Z 0,V Z 0],V Z 27]) [] [])
 (cnd (bif o then (bif (m64 n) then false else true) else false)
 (R (.tup [.val (Value.pointer none),.agg [.str ({ data:=#[] }:ByteArray),V Z 0,V Z 0,V Z 0],V Z 2]) [] [])
 (cnd (m63 (m62 e g d b l m).2.1 j).1
 (cnd (bif (decide (0≤(m102 e g d b i))) then (((m63 (m62 e g d b l m).2.1 j).2.sub 0 3).bb ((m102 e g d b i).toNat) 0) else false)
 (cnd (bif ((((m63 (m62 e g d b l m).2.1 j).2.sub 0 3).sub ((m102 e g d b i).toNat) 1).bb 0 2) then false else true)
 (R (.tup [.val (Value.pointer none),.agg [.str ({ data:=#[] }:ByteArray),V Z 0,V Z 0,V Z 0],V Z 24]) [] [])
 (cnd (m63 (m62 e g d b l m).2.1 j).1
 (cnd (decide (0≤m102 e g d b i∧m102 e g d b i<(↑d:Int)))
 (R (.tup [.rq (bif (decide (0≤(m102 e g d b i))) then (((m63 (m62 e g d b l m).2.1 j).2.sub 0 3).bb ((m102 e g d b i).toNat) 0) else false) [W Z,W Z,.bool] (((m63 (m62 e g d b l m).2.1 j).2.sub 0 3).sub ((m102 e g d b i).toNat) 1) 0 0,.agg [.str (b.ss ((m102 e g d b i).toNat) 0),V Z (b.ii ((m102 e g d b i).toNat) 1),V Z (b.ii ((m102 e g d b i).toNat) 2),V Z (b.ii ((m102 e g d b i).toNat) 3)],V Z 0]) [] [])
        False)
        False))
       False)
      False)))
     False)
    False))
   False)
   False)
  False))
 False):=by kernel_rfl
def m85a (e:Nat) (g:Dat) (d:Nat) (b:Dat) (l:Nat) (m:Dat) (j i:ByteArray) (n:Int) (o:Bool):ByteArray × Int × Int × Int × Int :=
 (cond (bif (decide ((m62 e g d b l m).2.2.2=0)) then false else true) (({ data:=#[] }:ByteArray),0,0,0,(m62 e g d b l m).2.2.2) (cond (bif (bif (m63 (m62 e g d b l m).2.1 j).1 then false else true) then true else (decide ((m102 e g d b i)<0))) (({ data:=#[] }:ByteArray),0,0,0,6) (cond (bif (decide ((b.ii ((m102 e g d b i).toNat) 1)=((m63 (m62 e g d b l m).2.1 j).2.ii 0 1))) then false else true) (({ data:=#[] }:ByteArray),0,0,0,27) (cond (bif o then (bif (m64 n) then false else true) else false) (({ data:=#[] }:ByteArray),0,0,0,2) (({ data:=#[] }:ByteArray),0,0,0,24)))))
def n85a (e:Nat) (g:Dat) (d:Nat) (b:Dat) (l:Nat) (m:Dat) (j i:ByteArray) (n:Int) (o:Bool):Bool :=
 ((n62 e g d b l m)&&(cond (bif (decide ((m62 e g d b l m).2.2.2=0)) then false else true) true ((m62 e g d b l m).1&&((n63 (m62 e g d b l m).2.1 j)&&((n102 e g d b i)&&(cond (bif (bif (m63 (m62 e g d b l m).2.1 j).1 then false else true) then true else (decide ((m102 e g d b i)<0))) true ((decide (0≤m102 e g d b i∧m102 e g d b i<(↑d:Int)))&&((m63 (m62 e g d b l m).2.1 j).1&&(cond (bif (decide ((b.ii ((m102 e g d b i).toNat) 1)=((m63 (m62 e g d b l m).2.1 j).2.ii 0 1))) then false else true) true (cond (bif o then (bif (m64 n) then false else true) else false) true ((m63 (m62 e g d b l m).2.1 j).1&&((bif (decide (0≤(m102 e g d b i))) then (((m63 (m62 e g d b l m).2.1 j).2.sub 0 3).bb ((m102 e g d b i).toNat) 0) else false)&&((bif ((((m63 (m62 e g d b l m).2.1 j).2.sub 0 3).sub ((m102 e g d b i).toNat) 1).bb 0 2) then false else true)&&true)))))))))))))
def q85a (r:ByteArray × Int × Int × Int × Int):SV × List Blk × List Blk:=(.tup [.val (Value.pointer none),.agg [.str r.1,V Z r.2.1,V Z r.2.2.1,V Z r.2.2.2.1],V Z r.2.2.2.2],[],[])
def g85a:GF:=fun vs bs=>match vs,bs with
 | [.agg [.ro [.str,W Z,W Z] e g,.ro [.str,W Z,W Z,W Z] d b],.ro [W Z,W Z,.str,.str,.str,.bool] l m,.agg [.str j,.str i,V Z n],.bool o],[]=>some (rs 0 (q85a (m85a e g d b l m j i n o)) [n85a e g d b l m j i n o])
 | _,_=>none
def c85a:Ctr:=genC [.a [.ro [.str,W Z,W Z],.ro [.str,W Z,W Z,W Z]],.ro [W Z,W Z,.str,.str,.str,.bool],.k,.k] g85a
theorem k85a:CtrOk Try.prog c85a 85:=cx (tc k62 (tc k63 (tc k64 (tc k102 tn)))) mix_ok 8 (fn:=Try.f85) (c:=(Try.f85.body.getD .skip)) (grs:=[]) (rh:=.k) Try.func85 rfl (by kernel_rfl) noLam fun vs bs q h hn=>by
 unfold g85a at h
 split at h <;> cases h
 rename_i e g d b l m j i n o
 have hn:=n1 hn
 exact ⟨_,rfl,propOf (x85 e g d b l m j i n o _) (cn (al hn) (co (fun h0=>lf (cT h0 rfl) rfl) (fun h0=>cn (al (cf h0 (ar hn))) (cn (al (ar (cf h0 (ar hn)))) (cn (al (ar (ar (cf h0 (ar hn))))) (co (fun h1=>lf (cF h0 (cT h1 rfl)) rfl) (fun h1=>cn (al (cf h1 (ar (ar (ar (cf h0 (ar hn))))))) (cn (al (ar (cf h1 (ar (ar (ar (cf h0 (ar hn)))))))) (co (fun h2=>lf (cF h0 (cF h1 (cT h2 rfl))) rfl) (fun h2=>co (fun h3=>lf (cF h0 (cF h1 (cF h2 (cT h3 rfl)))) rfl) (fun h3=>cn (al (cf h3 (cf h2 (ar (ar (cf h1 (ar (ar (ar (cf h0 (ar hn))))))))))) (cn (al (ar (cf h3 (cf h2 (ar (ar (cf h1 (ar (ar (ar (cf h0 (ar hn)))))))))))) (co (fun _=>lf (cF h0 (cF h1 (cF h2 (cF h3 rfl)))) rfl) (fun h4=>(Bool.false_ne_true (h4.symm.trans (al (ar (ar (cf h3 (cf h2 (ar (ar (cf h1 (ar (ar (ar (cf h0 (ar hn))))))))))))))).elim))))))))))))))⟩
def m85b (e:Nat) (g:Dat) (d:Nat) (b:Dat) (l:Nat) (m:Dat) (j i:ByteArray) (n:Int) (o:Bool):Bool × Dat × ByteArray × Int × Int × Int × Int :=
 ((bif (decide (0≤(m102 e g d b i))) then (((m63 (m62 e g d b l m).2.1 j).2.sub 0 3).bb ((m102 e g d b i).toNat) 0) else false),(((m63 (m62 e g d b l m).2.1 j).2.sub 0 3).sub ((m102 e g d b i).toNat) 1),(b.ss ((m102 e g d b i).toNat) 0),(b.ii ((m102 e g d b i).toNat) 1),(b.ii ((m102 e g d b i).toNat) 2),(b.ii ((m102 e g d b i).toNat) 3),0)
def n85b (e:Nat) (g:Dat) (d:Nat) (b:Dat) (l:Nat) (m:Dat) (j i:ByteArray) (n:Int) (o:Bool):Bool :=
 ((n62 e g d b l m)&&(!(bif (decide ((m62 e g d b l m).2.2.2=0)) then false else true)&&((m62 e g d b l m).1&&((n63 (m62 e g d b l m).2.1 j)&&((n102 e g d b i)&&(!(bif (bif (m63 (m62 e g d b l m).2.1 j).1 then false else true) then true else (decide ((m102 e g d b i)<0)))&&((decide (0≤m102 e g d b i∧m102 e g d b i<(↑d:Int)))&&((m63 (m62 e g d b l m).2.1 j).1&&(!(bif (decide ((b.ii ((m102 e g d b i).toNat) 1)=((m63 (m62 e g d b l m).2.1 j).2.ii 0 1))) then false else true)&&(!(bif o then (bif (m64 n) then false else true) else false)&&((m63 (m62 e g d b l m).2.1 j).1&&((bif (decide (0≤(m102 e g d b i))) then (((m63 (m62 e g d b l m).2.1 j).2.sub 0 3).bb ((m102 e g d b i).toNat) 0) else false)&&(!(bif ((((m63 (m62 e g d b l m).2.1 j).2.sub 0 3).sub ((m102 e g d b i).toNat) 1).bb 0 2) then false else true)&&((m63 (m62 e g d b l m).2.1 j).1&&((decide (0≤m102 e g d b i∧m102 e g d b i<(↑d:Int)))&&true)))))))))))))))
def q85b (r:Bool × Dat × ByteArray × Int × Int × Int × Int):SV × List Blk × List Blk:=(.tup [.rq r.1 [W Z,W Z,.bool] r.2.1 0 0,.agg [.str r.2.2.1,V Z r.2.2.2.1,V Z r.2.2.2.2.1,V Z r.2.2.2.2.2.1],V Z r.2.2.2.2.2.2],[],[])
def g85b:GF:=fun vs bs=>match vs,bs with
 | [.agg [.ro [.str,W Z,W Z] e g,.ro [.str,W Z,W Z,W Z] d b],.ro [W Z,W Z,.str,.str,.str,.bool] l m,.agg [.str j,.str i,V Z n],.bool o],[]=>some (rs 0 (q85b (m85b e g d b l m j i n o)) [n85b e g d b l m j i n o])
 | _,_=>none
def c85b:Ctr:=genC [.a [.ro [.str,W Z,W Z],.ro [.str,W Z,W Z,W Z]],.ro [W Z,W Z,.str,.str,.str,.bool],.k,.k] g85b
theorem k85b:CtrOk Try.prog c85b 85:=cx (tc k62 (tc k63 (tc k64 (tc k102 tn)))) mix_ok 8 (fn:=Try.f85) (c:=(Try.f85.body.getD .skip)) (grs:=[]) (rh:=.k) Try.func85 rfl (by kernel_rfl) noLam fun vs bs q h hn=>by
 unfold g85b at h
 split at h <;> cases h
 rename_i e g d b l m j i n o
 have hn:=n1 hn
 exact ⟨_,rfl,propOf (x85 e g d b l m j i n o _) (cn (al hn) (co (fun h0=>(Bool.false_ne_true ((not_l (ar hn)).symm.trans h0)).elim) (fun _=>cn (al (not_r (ar hn))) (cn (al (ar (not_r (ar hn)))) (cn (al (ar (ar (not_r (ar hn))))) (co (fun h0=>(Bool.false_ne_true ((not_l (ar (ar (ar (not_r (ar hn)))))).symm.trans h0)).elim) (fun _=>cn (al (not_r (ar (ar (ar (not_r (ar hn))))))) (cn (al (ar (not_r (ar (ar (ar (not_r (ar hn)))))))) (co (fun h0=>(Bool.false_ne_true ((not_l (ar (ar (not_r (ar (ar (ar (not_r (ar hn))))))))).symm.trans h0)).elim) (fun _=>co (fun h0=>(Bool.false_ne_true ((not_l (not_r (ar (ar (not_r (ar (ar (ar (not_r (ar hn)))))))))).symm.trans h0)).elim) (fun _=>cn (al (not_r (not_r (ar (ar (not_r (ar (ar (ar (not_r (ar hn))))))))))) (cn (al (ar (not_r (not_r (ar (ar (not_r (ar (ar (ar (not_r (ar hn)))))))))))) (co (fun h0=>(Bool.false_ne_true ((not_l (ar (ar (not_r (not_r (ar (ar (not_r (ar (ar (ar (not_r (ar hn))))))))))))).symm.trans h0)).elim) (fun _=>cn (al (not_r (ar (ar (not_r (not_r (ar (ar (not_r (ar (ar (ar (not_r (ar hn)))))))))))))) (cn (al (ar (not_r (ar (ar (not_r (not_r (ar (ar (not_r (ar (ar (ar (not_r (ar hn))))))))))))))) (lf rfl rfl))))))))))))))))⟩
/-! ### shotline/kit.DaysLeft -/
def m49 (d:Nat) (e:Dat) (g:Nat) (i:Dat) (n:Nat) (o:Dat) (l m:ByteArray) (j:Int):Int × Int :=
 (cond (n85a d e g i n o l m j true) (cond (bif (decide ((m85a d e g i n o l m j true).2.2.2.2=0)) then false else true) (0,(m85a d e g i n o l m j true).2.2.2.2) (0,12)) (cond (bif (decide ((m85b d e g i n o l m j true).2.2.2.2.2.2=0)) then false else true) (0,(m85b d e g i n o l m j true).2.2.2.2.2.2) (cond (decide ((m85b d e g i n o l m j true).2.2.2.2.1=0)) (0,12) ((Z.wrap ((Z.wrap (((m85b d e g i n o l m j true).2.1.ii 0 0)+(m85b d e g i n o l m j true).2.2.2.2.1)) - j)),0))))
def n49 (d:Nat) (e:Dat) (g:Nat) (i:Dat) (n:Nat) (o:Dat) (l m:ByteArray) (j:Int):Bool :=
 (cond (n85a d e g i n o l m j true) ((n85a d e g i n o l m j true)&&(cond (bif (decide ((m85a d e g i n o l m j true).2.2.2.2=0)) then false else true) true ((decide ((m85a d e g i n o l m j true).2.2.1=0))&&true))) ((n85b d e g i n o l m j true)&&(cond (bif (decide ((m85b d e g i n o l m j true).2.2.2.2.2.2=0)) then false else true) true (cond (decide ((m85b d e g i n o l m j true).2.2.2.2.1=0)) true ((m85b d e g i n o l m j true).1&&true)))))
def q49 (r:Int × Int):SV × List Blk × List Blk:=(.tup [V Z r.1,V Z r.2],[],[])
def g49:GF:=fun vs bs=>match vs,bs with
 | [.agg [.ro [.str,W Z,W Z] d e,.ro [.str,W Z,W Z,W Z] g i],.ro [W Z,W Z,.str,.str,.str,.bool] n o,.agg [.str l,.str m,V Z j]],[]=>some (rs 0 (q49 (m49 d e g i n o l m j)) [n49 d e g i n o l m j])
 | _,_=>none
def c49:Ctr:=genC [.a [.ro [.str,W Z,W Z],.ro [.str,W Z,W Z,W Z]],.ro [W Z,W Z,.str,.str,.str,.bool],.k] g49
theorem k49:CtrOk Try.prog c49 49:=cx (tc k85a (tc k85b tn)) mix_ok 8 (fn:=Try.f49) (c:=(Try.f49.body.getD .skip)) (grs:=[]) (rh:=.k) Try.func49 rfl (by kernel_rfl) noLam fun vs bs q h hn=>by
 unfold g49 at h
 split at h <;> cases h
 rename_i d e g i n o l m j
 have hn:=n1 hn
 exact ⟨_,rfl,ca (fun R => 
 let a0:=(m85b d e g i n o l m j true)
 let b0:=(m85a d e g i n o l m j true)
 ((cnd (n85a d e g i n o l m j true)
 (cnd (bif (decide (b0.2.2.2.2=0)) then false else true)
 (R (.tup [V Z 0,V Z b0.2.2.2.2]) [] [])
 (cnd (decide (b0.2.2.1=0))
 (R (.tup [V Z 0,V Z 12]) [] [])
   False))
  False) ∨
 (cnd (n85b d e g i n o l m j true)
 (cnd (bif (decide (a0.2.2.2.2.2.2=0)) then false else true)
 (R (.tup [V Z 0,V Z a0.2.2.2.2.2.2]) [] [])
 (cnd (decide (a0.2.2.2.2.1=0))
 (R (.tup [V Z 0,V Z 12]) [] [])
 (cnd a0.1
 (R (.tup [V Z (Z.wrap ((Z.wrap ((a0.2.1.ii 0 0)+a0.2.2.2.2.1)) - j)),V Z 0]) [] [])
   False)))
  False))) (fun R=>by kernel_rfl) (or_of (b:=(n85a d e g i n o l m j true)) (fun h0=>cn (al (ct h0 hn)) (co (fun h1=>lf (cT h0 (cT h1 rfl)) rfl) (fun h1=>cn (al (cf h1 (ar (ct h0 hn)))) (lf (cT h0 (cF h1 rfl)) rfl)))) (fun h0=>cn (al (cf h0 hn)) (co (fun h1=>lf (cF h0 (cT h1 rfl)) rfl) (fun h1=>co (fun h2=>lf (cF h0 (cF h1 (cT h2 rfl))) rfl) (fun h2=>cn (al (cf h2 (cf h1 (ar (cf h0 hn))))) (lf (cF h0 (cF h1 (cF h2 rfl))) rfl))))))⟩
/-! ### shotline/shotlinetop.kept -/
def m58 :Bool :=
 (bif (bif (bif (decide ((m31 4 m60.1 2 m60.2 3 m61).2.2=0)) then (m34 (m31 4 m60.1 2 m60.2 3 m61).1 (m31 4 m60.1 2 m60.2 3 m61).2.1 2 (datS [SV.str ({ data:=#[97] }:ByteArray),SV.str ({ data:=#[98] }:ByteArray)] 1)) else false) then (decide ((m49 4 m60.1 2 m60.2 0 noDat ({ data:=#[114] }:ByteArray) ({ data:=#[115,101,114,118,105,99,101] }:ByteArray) 470).2=0)) else false) then (decide ((m49 4 m60.1 2 m60.2 0 noDat ({ data:=#[114] }:ByteArray) ({ data:=#[115,101,114,118,105,99,101] }:ByteArray) 470).1=-5)) else false)
def n58 :Bool :=
 ((n31 4 m60.1 2 m60.2 3 m61)&&((n49 4 m60.1 2 m60.2 0 noDat ({ data:=#[114] }:ByteArray) ({ data:=#[115,101,114,118,105,99,101] }:ByteArray) 470)&&((bif (bif (decide ((m31 4 m60.1 2 m60.2 3 m61).2.2=0)) then false else true) then true else (n34 (m31 4 m60.1 2 m60.2 3 m61).1 (m31 4 m60.1 2 m60.2 3 m61).2.1 2 (datS [SV.str ({ data:=#[97] }:ByteArray),SV.str ({ data:=#[98] }:ByteArray)] 1)))&&true)))
def q58 (r:Bool):SV × List Blk × List Blk:=(.bool r,[],[])
def g58:GF:=fun vs bs=>match vs,bs with
 | [],[]=>some (rs 0 (q58 (m58)) [n58 ])
 | _,_=>none
def c58:Ctr:=genC [] g58
theorem k58:CtrOk Try.prog c58 58:=cx (tc kSeal (tc k31 (tc k34 (tc k49 (tc k60 (tc k61 tn)))))) mix_ok 8 (fn:=Try.f58) (c:=(Try.f58.body.getD .skip)) (grs:=[]) (rh:=.k) Try.func58 rfl (by kernel_rfl) noLam fun vs bs q h hn=>by
 unfold g58 at h
 split at h <;> cases h
 have hn:=n1 hn
 exact ⟨_,rfl,ca (fun R => 
 let a0:=({ data:=#[115,101,114,118,105,99,101] }:ByteArray)
 let b0:=(m31 4 m60.1 2 m60.2 3 m61)
 let c0:=(datS [SV.str ({ data:=#[97] }:ByteArray),SV.str ({ data:=#[98] }:ByteArray)] 1)
 let d0:=({ data:=#[114] }:ByteArray)
 (cnd (n31 4 m60.1 2 m60.2 3 m61)
 (cnd (n49 4 m60.1 2 m60.2 0 noDat d0 a0 470)
 (cnd (bif (bif (decide (b0.2.2=0)) then false else true) then true else (n34 b0.1 b0.2.1 2 c0))
 (R (.bool (bif (bif (bif (decide (b0.2.2=0)) then (m34 b0.1 b0.2.1 2 c0) else false) then (decide ((m49 4 m60.1 2 m60.2 0 noDat d0 a0 470).2=0)) else false) then (decide ((m49 4 m60.1 2 m60.2 0 noDat d0 a0 470).1=-5)) else false)) [] [])
  False)
  False)
 False)) (fun R=>by kernel_rfl) (cn (al hn) (cn (al (ar hn)) (cn (al (ar (ar hn))) (lf rfl rfl))))⟩
/-! ### shotline/shotlinetop.TopQuarantineJust -/
def l14_2 (p:Nat) (j:Dat) (t:Nat) (u:Dat) (E:Int) (A:Nat) (x:Int) (l:Nat) (n:Dat) (m:Nat) (o:Dat) (C:Nat) (v:Dat):Nat→Int→Int→Int→Option (Int × Int)
 | 0,_,_,_=>none
 | f+1,N,G,I=>(cond (decide (I<(↑p:Int))) (cond (decide (0≤I∧I<↑p)) (cond (bif (bif (decide ((j.ii I.toNat 0)=4)) then false else true) then true else (decide (0≤I∧I<↑p))) (cond (bif (bif (bif (decide ((j.ii I.toNat 0)=4)) then (j.3 I.toNat (0+1+1+1+1+1)) else false) then false else true) then true else (decide (0≤I∧I<↑p))) (cond (bif (bif (bif (decide ((j.ii I.toNat 0)=4)) then (j.3 I.toNat (0+1+1+1+1+1)) else false) then false else true) then true else (decide (0≤x∧x<↑p))) (cond (bif (bif (decide ((j.ii I.toNat 0)=4)) then (j.3 I.toNat (0+1+1+1+1+1)) else false) then (decide ((j.ss I.toNat 2)=(j.ss x.toNat 2))) else false) (cond (decide (I<x)) (l14_2 p j t u E A x l n m o C v f (Z.wrap (I+1)) G (Z.wrap (I+1))) (l14_2 p j t u E A x l n m o C v f N (imin G I) (Z.wrap (I+1)))) (l14_2 p j t u E A x l n m o C v f N G (Z.wrap (I+1)))) none) none) none) none) (some (N,G)))
abbrev o14_2 (p:Nat) (j:Dat) (t:Nat) (u:Dat) (E:Int) (A:Nat) (x:Int) (l:Nat) (n:Dat) (m:Nat) (o:Dat) (C:Nat) (v:Dat) (N G I:Int):Option (Int × Int):=l14_2 p j t u E A x l n m o C v (p+t+E.toNat+A+x.toNat+N.toNat+G.toNat+I.toNat+l+m+C+8) N G I
def e14_2 (p:Nat) (j:Dat) (t:Nat) (u:Dat) (E:Int) (A:Nat) (x:Int) (l:Nat) (n:Dat) (m:Nat) (o:Dat) (C:Nat) (v:Dat) (r:Int × Int) (K:XR):Prop:=K (XE.exit 2) [.ro [W Z,W Z,.str,.str,.str,.bool] p j,.ptr 0 0,.ro [.str] t u,V Z E,.own 1 1 A,V Z x,V Z r.1,V Z r.2] [.cells 25 [.ro [.str,W Z,W Z] l n,.ro [.str,W Z,W Z,W Z] m o],.row 4 [.bool] C v]
def g14_2:LSum:=fun s k=>match czv 0 229 [1,2,5,6,9,10,11,12,13] 2 [] s with
 | some ([.ro [W Z,W Z,.str,.str,.str,.bool] p j,.ptr 0 0,.ro [.str] t u,V Z E,.own 1 1 A,V Z x,V Z N,V Z G,V Z I],[.cells 25 [.ro [.str,W Z,W Z] l n,.ro [.str,W Z,W Z,W Z] m o],.row 4 [.bool] C v])=>needs [(o14_2 p j t u E A x l n m o C v N G I).isSome] (e14_2 p j t u E A x l n m o C v ((o14_2 p j t u E A x l n m o C v N G I).getD default) fun e vs bs=>inBlk 2 k e (mkSt 0 229 [1,2,5,6,9,10,11,12] vs 2 bs))
 | _=>False
theorem z14_2:LOk Try.prog g14_2 (.block 2 (bodyAt (Try.f14.body.getD .skip) 2)):=by
 refine lb (ι:=Nat × Dat × Nat × Dat × Int × Nat × Int × Int × Int × Int × Nat × Dat × Nat × Dat × Nat × Dat) (fuel:=8) (na:=0) (nt:=229) (nx:=2) (Lh:=[1,2,5,6,9,10,11,12,13]) (Le:=[1,2,5,6,9,10,11,12]) (gl:=[]) (tc kSeal (tc k18 (tc k20 (tc k22 (tc k23 (tc k31 (tc k34 (tc k58 tn)))))))) mix_ok noLam rfl (fun f (p,j,t,u,E,A,x,N,G,I,l,n,m,o,C,v) K=>GG default (e14_2 p j t u E A x l n m o C v) K (l14_2 p j t u E A x l n m o C v f N G I)) (fun (p,j,t,u,E,A,x,N,G,I,l,n,m,o,C,v)=>[.ro [W Z,W Z,.str,.str,.str,.bool] p j,.ptr 0 0,.ro [.str] t u,V Z E,.own 1 1 A,V Z x,V Z N,V Z G,V Z I]) (fun (p,j,t,u,E,A,x,N,G,I,l,n,m,o,C,v)=>[.cells 25 [.ro [.str,W Z,W Z] l n,.ro [.str,W Z,W Z,W Z] m o],.row 4 [.bool] C v]) (fun (_,_,_,_,_,_,_,_,_,_,_,_,_,_,_,_) K=>gg_none) ?_ ?_
 ·rintro f ⟨p,j,t,u,E,A,x,N,G,I,l,n,m,o,C,v⟩ K hG
  refine ro (fun R => 
 let a0:=(bif (decide ((j.ii I.toNat 0)=4)) then (j.3 I.toNat (0+1+1+1+1+1)) else false)
 let b0:=(decide (0≤I∧I<↑p))
 (cnd (decide (I<(↑p:Int)))
 (cnd b0
 (cnd (bif (bif (decide ((j.ii I.toNat 0)=4)) then false else true) then true else b0)
 (cnd (bif (bif a0 then false else true) then true else b0)
 (cnd (bif (bif a0 then false else true) then true else (decide (0≤x∧x<↑p)))
 (cnd (bif a0 then (decide ((j.ss I.toNat 2)=(j.ss x.toNat 2))) else false)
 (cnd (decide (I<x))
 (R (XE.normal) [.ro [W Z,W Z,.str,.str,.str,.bool] p j,.ptr 0 0,.ro [.str] t u,V Z E,.own 1 1 A,V Z x,V Z (Z.wrap (I+1)),V Z G,V Z (Z.wrap (I+1))] [.cells 25 [.ro [.str,W Z,W Z] l n,.ro [.str,W Z,W Z,W Z] m o],.row 4 [.bool] C v])
 (R (XE.normal) [.ro [W Z,W Z,.str,.str,.str,.bool] p j,.ptr 0 0,.ro [.str] t u,V Z E,.own 1 1 A,V Z x,V Z N,V Z (imin G I),V Z (Z.wrap (I+1))] [.cells 25 [.ro [.str,W Z,W Z] l n,.ro [.str,W Z,W Z,W Z] m o],.row 4 [.bool] C v]))
 (R (XE.normal) [.ro [W Z,W Z,.str,.str,.str,.bool] p j,.ptr 0 0,.ro [.str] t u,V Z E,.own 1 1 A,V Z x,V Z N,V Z G,V Z (Z.wrap (I+1))] [.cells 25 [.ro [.str,W Z,W Z] l n,.ro [.str,W Z,W Z,W Z] m o],.row 4 [.bool] C v]))
   False)
   False)
  False)
  False)
 (R (XE.exit 2) [.ro [W Z,W Z,.str,.str,.str,.bool] p j,.ptr 0 0,.ro [.str] t u,V Z E,.own 1 1 A,V Z x,V Z N,V Z G] [.cells 25 [.ro [.str,W Z,W Z] l n,.ro [.str,W Z,W Z,W Z] m o],.row 4 [.bool] C v]))) (fun R=>by kernel_rfl) ?_
  exact ch hG (fun h0=>cg h0 fun h1=>cg h1 fun h2=>cg h2 fun h3=>cg h3 fun h4=>ch h4 (fun h5=>ch h5 (fun h6=>⟨(_,_,_,_,_,_,_,_,_,_,_,_,_,_,_,_),rfl,rfl,h6⟩) (fun h6=>⟨(_,_,_,_,_,_,_,_,_,_,_,_,_,_,_,_),rfl,rfl,h6⟩)) (fun h5=>⟨(_,_,_,_,_,_,_,_,_,_,_,_,_,_,_,_),rfl,rfl,h5⟩)) (fun h0=>h0.2)
 ·intro s k h
  unfold g14_2 at h
  split at h <;> try exact h.elim
  rename_i e1
  rw [needs_iff] at h
  exact ⟨_,e1,_,(_,_,_,_,_,_,_,_,_,_,_,_,_,_,_,_),rfl,rfl,h.1 _ (List.mem_singleton.2 rfl),h.2⟩
def l14_4 (p:Nat) (j:Dat) (t:Nat) (u:Dat) (E:Int) (A:Nat) (x G:Int) (F l:Nat) (n:Dat) (m:Nat) (o:Dat) (C:Nat) (v:Dat):Nat→Int→Dat→Option (Dat)
 | 0,_,_=>none
 | f+1,w,D=>(cond (decide (w<(↑p:Int))) (cond (decide (0≤w∧w<↑p)) (cond (n23 l n m o (j.ss w.toNat 2)) (cond (decide (0≤w∧w<↑p)) (cond (n23 l n m o (j.ss w.toNat 4)) (cond (decide (0≤w∧w<↑p)) (cond (decide ((j.ii w.toNat 0)=3)) (cond (decide (0≤m23 l n m o (j.ss w.toNat (0+1+1))∧m23 l n m o (j.ss w.toNat (0+1+1))<(↑F:Int))) (cond (decide (((m23 l n m o (j.ss w.toNat 2)).toNat)<F)) (cond (decide (0≤w∧w<↑p)) (cond (bif (bif (decide ((j.ii w.toNat 0)=2)) then false else true) then true else (decide (0≤m23 l n m o (j.ss w.toNat (0+1+1+1+1))∧m23 l n m o (j.ss w.toNat (0+1+1+1+1))<(↑F:Int)))) (cond (bif (bif (decide ((j.ii w.toNat 0)=2)) then false else true) then true else (decide (((m23 l n m o (j.ss w.toNat 4)).toNat)<F))) (cond (bif (bif (bif (bif (decide ((j.ii w.toNat 0)=2)) then (bif (if ((m23 l n m o (j.ss w.toNat 4)).toNat)=((m23 l n m o (j.ss w.toNat 2)).toNat) then false else (D.3 (m23 l n m o (j.ss w.toNat (0+1+1+1+1))).toNat 0)) then false else true) else false) then (decide (w<G)) else false) then false else true) then true else (decide (0≤w∧w<↑p))) (cond (bif (bif (bif (bif (decide ((j.ii w.toNat 0)=2)) then (bif (if ((m23 l n m o (j.ss w.toNat 4)).toNat)=((m23 l n m o (j.ss w.toNat 2)).toNat) then false else (D.3 (m23 l n m o (j.ss w.toNat (0+1+1+1+1))).toNat 0)) then false else true) else false) then (decide (w<G)) else false) then false else true) then true else (decide (0≤x∧x<↑p))) (cond (bif (decide ((j.ii w.toNat 0)=2)) then (bif (if ((m23 l n m o (j.ss w.toNat 4)).toNat)=((m23 l n m o (j.ss w.toNat 2)).toNat) then false else (D.3 (m23 l n m o (j.ss w.toNat (0+1+1+1+1))).toNat 0)) then true else (bif (decide (w<G)) then (decide ((j.ss w.toNat 4)=(j.ss x.toNat 2))) else false)) else false) (cond (decide (0≤m23 l n m o (j.ss w.toNat (0+1+1))∧m23 l n m o (j.ss w.toNat (0+1+1))<(↑F:Int))) (cond (decide (((m23 l n m o (j.ss w.toNat 2)).toNat)<F)) (l14_4 p j t u E A x G F l n m o C v f (Z.wrap (w+1)) ((D.upd ((m23 l n m o (j.ss w.toNat 2)).toNat) 0 [SV.bool false]).upd ((m23 l n m o (j.ss w.toNat 2)).toNat) 0 [SV.bool true])) none) none) (l14_4 p j t u E A x G F l n m o C v f (Z.wrap (w+1)) (D.upd ((m23 l n m o (j.ss w.toNat 2)).toNat) 0 [SV.bool false]))) none) none) none) none) none) none) none) (cond (decide (0≤w∧w<↑p)) (cond (bif (bif (decide ((j.ii w.toNat 0)=2)) then false else true) then true else (decide (0≤m23 l n m o (j.ss w.toNat (0+1+1+1+1))∧m23 l n m o (j.ss w.toNat (0+1+1+1+1))<(↑F:Int)))) (cond (bif (bif (decide ((j.ii w.toNat 0)=2)) then false else true) then true else (decide (((m23 l n m o (j.ss w.toNat 4)).toNat)<F))) (cond (bif (bif (bif (bif (decide ((j.ii w.toNat 0)=2)) then (bif (D.3 (m23 l n m o (j.ss w.toNat (0+1+1+1+1))).toNat 0) then false else true) else false) then (decide (w<G)) else false) then false else true) then true else (decide (0≤w∧w<↑p))) (cond (bif (bif (bif (bif (decide ((j.ii w.toNat 0)=2)) then (bif (D.3 (m23 l n m o (j.ss w.toNat (0+1+1+1+1))).toNat 0) then false else true) else false) then (decide (w<G)) else false) then false else true) then true else (decide (0≤x∧x<↑p))) (cond (bif (decide ((j.ii w.toNat 0)=2)) then (bif (D.3 (m23 l n m o (j.ss w.toNat (0+1+1+1+1))).toNat 0) then true else (bif (decide (w<G)) then (decide ((j.ss w.toNat 4)=(j.ss x.toNat 2))) else false)) else false) (cond (decide (0≤m23 l n m o (j.ss w.toNat (0+1+1))∧m23 l n m o (j.ss w.toNat (0+1+1))<(↑F:Int))) (cond (decide (((m23 l n m o (j.ss w.toNat 2)).toNat)<F)) (l14_4 p j t u E A x G F l n m o C v f (Z.wrap (w+1)) (D.upd ((m23 l n m o (j.ss w.toNat 2)).toNat) 0 [SV.bool true])) none) none) (l14_4 p j t u E A x G F l n m o C v f (Z.wrap (w+1)) D)) none) none) none) none) none)) none) none) none) none) none) (some D))
abbrev o14_4 (p:Nat) (j:Dat) (t:Nat) (u:Dat) (E:Int) (A:Nat) (x G:Int) (F l:Nat) (n:Dat) (m:Nat) (o:Dat) (C:Nat) (v:Dat) (w:Int) (D:Dat):Option (Dat):=l14_4 p j t u E A x G F l n m o C v (p+t+E.toNat+A+x.toNat+G.toNat+F+w.toNat+l+m+C+8) w D
def e14_4 (p:Nat) (j:Dat) (t:Nat) (u:Dat) (E:Int) (A:Nat) (x G:Int) (F l:Nat) (n:Dat) (m:Nat) (o:Dat) (C:Nat) (v r:Dat) (K:XR):Prop:=K (XE.exit 4) [.ro [W Z,W Z,.str,.str,.str,.bool] p j,.ptr 0 0,.ro [.str] t u,V Z E,.own 1 1 A,V Z x,.own 2 1 F] [.cells 25 [.ro [.str,W Z,W Z] l n,.ro [.str,W Z,W Z,W Z] m o],.row 4 [.bool] C v,.row 4 [.bool] F r]
def g14_4:LSum:=fun s k=>match czv 0 229 [1,2,5,6,9,10,12,14,15] 3 [] s with
 | some ([.ro [W Z,W Z,.str,.str,.str,.bool] p j,.ptr 0 0,.ro [.str] t u,V Z E,.own 1 1 A,V Z x,V Z G,.own 2 1 F,V Z w],[.cells 25 [.ro [.str,W Z,W Z] l n,.ro [.str,W Z,W Z,W Z] m o],.row 4 [.bool] C v,.row 4 [.bool] O D])=>needs [decide (F=O),(o14_4 p j t u E A x G F l n m o C v w D).isSome] (e14_4 p j t u E A x G F l n m o C v ((o14_4 p j t u E A x G F l n m o C v w D).getD default) fun e vs bs=>inBlk 4 k e (mkSt 0 229 [1,2,5,6,9,10,14] vs 3 bs))
 | _=>False
theorem z14_4:LOk Try.prog g14_4 (.block 4 (bodyAt (Try.f14.body.getD .skip) 4)):=by
 refine lb (ι:=Nat × Dat × Nat × Dat × Int × Nat × Int × Int × Nat × Int × Nat × Dat × Nat × Dat × Nat × Dat × Dat) (fuel:=8) (na:=0) (nt:=229) (nx:=3) (Lh:=[1,2,5,6,9,10,12,14,15]) (Le:=[1,2,5,6,9,10,14]) (gl:=[]) (tc kSeal (tc k18 (tc k20 (tc k22 (tc k23 (tc k31 (tc k34 (tc k58 tn)))))))) mix_ok (lam_of rfl (lc z14_2 ln)) rfl (fun f (p,j,t,u,E,A,x,G,F,w,l,n,m,o,C,v,D) K=>GG default (e14_4 p j t u E A x G F l n m o C v) K (l14_4 p j t u E A x G F l n m o C v f w D)) (fun (p,j,t,u,E,A,x,G,F,w,l,n,m,o,C,v,D)=>[.ro [W Z,W Z,.str,.str,.str,.bool] p j,.ptr 0 0,.ro [.str] t u,V Z E,.own 1 1 A,V Z x,V Z G,.own 2 1 F,V Z w]) (fun (p,j,t,u,E,A,x,G,F,w,l,n,m,o,C,v,D)=>[.cells 25 [.ro [.str,W Z,W Z] l n,.ro [.str,W Z,W Z,W Z] m o],.row 4 [.bool] C v,.row 4 [.bool] F D]) (fun (_,_,_,_,_,_,_,_,_,_,_,_,_,_,_,_,_) K=>gg_none) ?_ ?_
 ·rintro f ⟨p,j,t,u,E,A,x,G,F,w,l,n,m,o,C,v,D⟩ K hG
  refine ro (fun R => 
 let d0:=((m23 l n m o (j.ss w.toNat 2)).toNat)
 let e0:=(j.ss w.toNat (0+1+1+1+1))
 let a0:=(if ((m23 l n m o (j.ss w.toNat 4)).toNat)=d0 then false else (D.3 (m23 l n m o e0).toNat 0))
 let b0:=(decide ((j.ii w.toNat 0)=2))
 let c0:=(decide (0≤m23 l n m o (j.ss w.toNat (0+1+1))∧m23 l n m o (j.ss w.toNat (0+1+1))<(↑F:Int)))
 let f0:=(decide (0≤w∧w<↑p))
 let g0:=(bif (bif (bif b0 then (bif (D.3 (m23 l n m o e0).toNat 0) then false else true) else false) then (decide (w<G)) else false) then false else true)
 let h0:=(bif (bif (bif b0 then (bif a0 then false else true) else false) then (decide (w<G)) else false) then false else true)
 let i0:=(bif (bif b0 then false else true) then true else (decide (0≤m23 l n m o e0∧m23 l n m o e0<(↑F:Int))))
 let j0:=(bif (bif b0 then false else true) then true else (decide (((m23 l n m o (j.ss w.toNat 4)).toNat)<F)))
 let k0:=(bif (decide (w<G)) then (decide ((j.ss w.toNat 4)=(j.ss x.toNat 2))) else false)
 (cnd (decide (w<(↑p:Int)))
 (cnd f0
 (cnd (n23 l n m o (j.ss w.toNat 2))
 (cnd f0
 (cnd (n23 l n m o (j.ss w.toNat 4))
 (cnd f0
 (cnd (decide ((j.ii w.toNat 0)=3))
 (cnd c0
 (cnd (decide (d0<F))
 (cnd f0
 (cnd i0
 (cnd j0
 (cnd (bif h0 then true else f0)
 (cnd (bif h0 then true else (decide (0≤x∧x<↑p)))
 (cnd (bif b0 then (bif a0 then true else k0) else false)
 (cnd c0
 (cnd (decide (d0<F))
 (R (XE.normal) [.ro [W Z,W Z,.str,.str,.str,.bool] p j,.ptr 0 0,.ro [.str] t u,V Z E,.own 1 1 A,V Z x,V Z G,.own 2 1 F,V Z (Z.wrap (w+1))] [.cells 25 [.ro [.str,W Z,W Z] l n,.ro [.str,W Z,W Z,W Z] m o],.row 4 [.bool] C v,.row 4 [.bool] F ((D.upd d0 0 [SV.bool false]).upd d0 0 [SV.bool true])])
         False)
         False)
 (R (XE.normal) [.ro [W Z,W Z,.str,.str,.str,.bool] p j,.ptr 0 0,.ro [.str] t u,V Z E,.own 1 1 A,V Z x,V Z G,.own 2 1 F,V Z (Z.wrap (w+1))] [.cells 25 [.ro [.str,W Z,W Z] l n,.ro [.str,W Z,W Z,W Z] m o],.row 4 [.bool] C v,.row 4 [.bool] F (D.upd d0 0 [SV.bool false])]))
        False)
       False)
       False)
      False)
      False)
     False)
     False)
 (cnd f0
 (cnd i0
 (cnd j0
 (cnd (bif g0 then true else f0)
 (cnd (bif g0 then true else (decide (0≤x∧x<↑p)))
 (cnd (bif b0 then (bif (D.3 (m23 l n m o e0).toNat 0) then true else k0) else false)
 (cnd c0
 (cnd (decide (d0<F))
 (R (XE.normal) [.ro [W Z,W Z,.str,.str,.str,.bool] p j,.ptr 0 0,.ro [.str] t u,V Z E,.own 1 1 A,V Z x,V Z G,.own 2 1 F,V Z (Z.wrap (w+1))] [.cells 25 [.ro [.str,W Z,W Z] l n,.ro [.str,W Z,W Z,W Z] m o],.row 4 [.bool] C v,.row 4 [.bool] F (D.upd d0 0 [SV.bool true])])
        False)
        False)
 (R (XE.normal) [.ro [W Z,W Z,.str,.str,.str,.bool] p j,.ptr 0 0,.ro [.str] t u,V Z E,.own 1 1 A,V Z x,V Z G,.own 2 1 F,V Z (Z.wrap (w+1))] [.cells 25 [.ro [.str,W Z,W Z] l n,.ro [.str,W Z,W Z,W Z] m o],.row 4 [.bool] C v,.row 4 [.bool] F D]))
       False)
      False)
      False)
     False)
     False))
    False)
   False)
   False)
  False)
  False)
 (R (XE.exit 4) [.ro [W Z,W Z,.str,.str,.str,.bool] p j,.ptr 0 0,.ro [.str] t u,V Z E,.own 1 1 A,V Z x,.own 2 1 F] [.cells 25 [.ro [.str,W Z,W Z] l n,.ro [.str,W Z,W Z,W Z] m o],.row 4 [.bool] C v,.row 4 [.bool] F D]))) (fun R=>by kernel_rfl) ?_
  exact ch hG (fun h0=>cg h0 fun h1=>cg h1 fun h2=>cg h2 fun h3=>cg h3 fun h4=>cg h4 fun h5=>ch h5 (fun h6=>cg h6 fun h7=>cg h7 fun h8=>cg h8 fun h9=>cg h9 fun h10=>cg h10 fun h11=>cg h11 fun h12=>cg h12 fun h13=>ch h13 (fun h14=>cg h14 fun h15=>cg h15 fun h16=>⟨(_,_,_,_,_,_,_,_,_,_,_,_,_,_,_,_,_),rfl,rfl,h16⟩) (fun h14=>⟨(_,_,_,_,_,_,_,_,_,_,_,_,_,_,_,_,_),rfl,rfl,h14⟩)) (fun h6=>cg h6 fun h7=>cg h7 fun h8=>cg h8 fun h9=>cg h9 fun h10=>cg h10 fun h11=>ch h11 (fun h12=>cg h12 fun h13=>cg h13 fun h14=>⟨(_,_,_,_,_,_,_,_,_,_,_,_,_,_,_,_,_),rfl,rfl,h14⟩) (fun h12=>⟨(_,_,_,_,_,_,_,_,_,_,_,_,_,_,_,_,_),rfl,rfl,h12⟩))) (fun h0=>h0.2)
 ·intro s k h
  unfold g14_4 at h
  split at h <;> try exact h.elim
  rename_i e1
  rw [needs_iff] at h
  have hq:=h.1
  simp only [List.mem_cons,forall_eq_or_imp,decide_eq_true_eq,List.not_mem_nil,false_imp_iff,implies_true,and_true] at hq
  obtain ⟨rfl,hq⟩:=hq
  exact ⟨_,e1,_,(_,_,_,_,_,_,_,_,_,_,_,_,_,_,_,_,_),rfl,rfl,hq,h.2⟩
def l14_6 (p:Nat) (j:Dat) (t:Nat) (u:Dat) (E:Int) (A:Nat) (x:Int) (F l:Nat) (n:Dat) (m:Nat) (o:Dat) (C:Nat) (D:Dat):Nat→Int→Dat→Option (Dat)
 | 0,_,_=>none
 | f+1,J,v=>(cond (decide (J<(↑F:Int))) (cond (decide (0≤J∧J<↑A)) (cond (decide (J.toNat<C)) (cond (bif (bif (bif (v.3 J.toNat 0) then false else true) then false else true) then true else (decide (0≤J∧J<↑F))) (cond (bif (bif (bif (v.3 J.toNat 0) then false else true) then false else true) then true else (decide (J.toNat<F))) (cond (decide (0≤J∧J<↑A)) (cond (decide (J.toNat<C)) (l14_6 p j t u E A x F l n m o C D f (Z.wrap (J+1)) (v.upd J.toNat 0 [SV.bool (bif (v.bb J.toNat 0) then true else (D.bb J.toNat 0))])) none) none) none) none) none) none) (some v))
abbrev o14_6 (p:Nat) (j:Dat) (t:Nat) (u:Dat) (E:Int) (A:Nat) (x:Int) (F l:Nat) (n:Dat) (m:Nat) (o:Dat) (C:Nat) (D:Dat) (J:Int) (v:Dat):Option (Dat):=l14_6 p j t u E A x F l n m o C D (p+t+E.toNat+A+x.toNat+F+J.toNat+l+m+C+8) J v
def e14_6 (p:Nat) (j:Dat) (t:Nat) (u:Dat) (E:Int) (A:Nat) (x:Int) (F l:Nat) (n:Dat) (m:Nat) (o:Dat) (C:Nat) (D r:Dat) (K:XR):Prop:=K (XE.exit 6) [.ro [W Z,W Z,.str,.str,.str,.bool] p j,.ptr 0 0,.ro [.str] t u,V Z E,.own 1 1 A,V Z x] [.cells 25 [.ro [.str,W Z,W Z] l n,.ro [.str,W Z,W Z,W Z] m o],.row 4 [.bool] C r,.row 4 [.bool] F D]
def g14_6:LSum:=fun s k=>match czv 0 229 [1,2,5,6,9,10,14,18] 3 [] s with
 | some ([.ro [W Z,W Z,.str,.str,.str,.bool] p j,.ptr 0 0,.ro [.str] t u,V Z E,.own 1 1 A,V Z x,.own 2 1 F,V Z J],[.cells 25 [.ro [.str,W Z,W Z] l n,.ro [.str,W Z,W Z,W Z] m o],.row 4 [.bool] C v,.row 4 [.bool] O D])=>needs [decide (F=O),(o14_6 p j t u E A x F l n m o C D J v).isSome] (e14_6 p j t u E A x F l n m o C D ((o14_6 p j t u E A x F l n m o C D J v).getD default) fun e vs bs=>inBlk 6 k e (mkSt 0 229 [1,2,5,6,9,10] vs 3 bs))
 | _=>False
theorem z14_6:LOk Try.prog g14_6 (.block 6 (bodyAt (Try.f14.body.getD .skip) 6)):=by
 refine lb (ι:=Nat × Dat × Nat × Dat × Int × Nat × Int × Nat × Int × Nat × Dat × Nat × Dat × Nat × Dat × Dat) (fuel:=8) (na:=0) (nt:=229) (nx:=3) (Lh:=[1,2,5,6,9,10,14,18]) (Le:=[1,2,5,6,9,10]) (gl:=[]) (tc kSeal (tc k18 (tc k20 (tc k22 (tc k23 (tc k31 (tc k34 (tc k58 tn)))))))) mix_ok (lam_of rfl (lc z14_2 (lc z14_4 ln))) rfl (fun f (p,j,t,u,E,A,x,F,J,l,n,m,o,C,v,D) K=>GG default (e14_6 p j t u E A x F l n m o C D) K (l14_6 p j t u E A x F l n m o C D f J v)) (fun (p,j,t,u,E,A,x,F,J,l,n,m,o,C,v,D)=>[.ro [W Z,W Z,.str,.str,.str,.bool] p j,.ptr 0 0,.ro [.str] t u,V Z E,.own 1 1 A,V Z x,.own 2 1 F,V Z J]) (fun (p,j,t,u,E,A,x,F,J,l,n,m,o,C,v,D)=>[.cells 25 [.ro [.str,W Z,W Z] l n,.ro [.str,W Z,W Z,W Z] m o],.row 4 [.bool] C v,.row 4 [.bool] F D]) (fun (_,_,_,_,_,_,_,_,_,_,_,_,_,_,_,_) K=>gg_none) ?_ ?_
 ·rintro f ⟨p,j,t,u,E,A,x,F,J,l,n,m,o,C,v,D⟩ K hG
  refine ro (fun R => 
 let a0:=(bif (bif (v.3 J.toNat 0) then false else true) then false else true)
 (cnd (decide (J<(↑F:Int)))
 (cnd (decide (0≤J∧J<↑A))
 (cnd (decide (J.toNat<C))
 (cnd (bif a0 then true else (decide (0≤J∧J<↑F)))
 (cnd (bif a0 then true else (decide (J.toNat<F)))
 (cnd (decide (0≤J∧J<↑A))
 (cnd (decide (J.toNat<C))
 (R (XE.normal) [.ro [W Z,W Z,.str,.str,.str,.bool] p j,.ptr 0 0,.ro [.str] t u,V Z E,.own 1 1 A,V Z x,.own 2 1 F,V Z (Z.wrap (J+1))] [.cells 25 [.ro [.str,W Z,W Z] l n,.ro [.str,W Z,W Z,W Z] m o],.row 4 [.bool] C (v.upd J.toNat 0 [SV.bool (bif (v.bb J.toNat 0) then true else (D.bb J.toNat 0))]),.row 4 [.bool] F D])
    False)
    False)
   False)
   False)
  False)
  False)
 (R (XE.exit 6) [.ro [W Z,W Z,.str,.str,.str,.bool] p j,.ptr 0 0,.ro [.str] t u,V Z E,.own 1 1 A,V Z x] [.cells 25 [.ro [.str,W Z,W Z] l n,.ro [.str,W Z,W Z,W Z] m o],.row 4 [.bool] C v,.row 4 [.bool] F D]))) (fun R=>by kernel_rfl) ?_
  exact ch hG (fun h0=>cg h0 fun h1=>cg h1 fun h2=>cg h2 fun h3=>cg h3 fun h4=>cg h4 fun h5=>cg h5 fun h6=>⟨(_,_,_,_,_,_,_,_,_,_,_,_,_,_,_,_),rfl,rfl,h6⟩) (fun h0=>h0.2)
 ·intro s k h
  unfold g14_6 at h
  split at h <;> try exact h.elim
  rename_i e1
  rw [needs_iff] at h
  have hq:=h.1
  simp only [List.mem_cons,forall_eq_or_imp,decide_eq_true_eq,List.not_mem_nil,false_imp_iff,implies_true,and_true] at hq
  obtain ⟨rfl,hq⟩:=hq
  exact ⟨_,e1,_,(_,_,_,_,_,_,_,_,_,_,_,_,_,_,_,_),rfl,rfl,hq,h.2⟩
def l14_0 (p:Nat) (j:Dat) (t:Nat) (u:Dat) (E:Int) (A l:Nat) (n:Dat) (m:Nat) (o:Dat):Nat→Int→Dat→Option (Dat)
 | 0,_,_=>none
 | f+1,x,v=>(cond (decide (x<(↑p:Int))) (cond (decide (0≤x∧x<↑p)) (cond (bif (bif (bif (bif (decide ((j.ii x.toNat 0)=4)) then false else true) then false else true) then false else true) then true else (decide (0≤x∧x<↑p))) (cond (bif (bif (decide ((j.ii x.toNat 0)=4)) then false else true) then true else (j.3 x.toNat (0+1+1+1+1+1))) (l14_0 p j t u E A l n m o f (Z.wrap (x+1)) v) (cond ((o14_2 p j t u E A x l n m o A v 0 (↑p:Int) 0).isSome) (cond (decide (0≤(↑l:Int)∧(↑l:Int)≤(↑l:Int)∧(↑l:Int)≤1073741824)) (cond ((o14_4 p j t u E A x ((o14_2 p j t u E A x l n m o A v 0 (↑p:Int) 0).getD default).2 ((↑l:Int).toNat) l n m o A v ((o14_2 p j t u E A x l n m o A v 0 (↑p:Int) 0).getD default).1 (datC [SV.bool false])).isSome) (cond ((o14_6 p j t u E A x ((↑l:Int).toNat) l n m o A ((o14_4 p j t u E A x ((o14_2 p j t u E A x l n m o A v 0 (↑p:Int) 0).getD default).2 ((↑l:Int).toNat) l n m o A v ((o14_2 p j t u E A x l n m o A v 0 (↑p:Int) 0).getD default).1 (datC [SV.bool false])).getD default) 0 v).isSome) (l14_0 p j t u E A l n m o f (Z.wrap (x+1)) ((o14_6 p j t u E A x ((↑l:Int).toNat) l n m o A ((o14_4 p j t u E A x ((o14_2 p j t u E A x l n m o A v 0 (↑p:Int) 0).getD default).2 ((↑l:Int).toNat) l n m o A v ((o14_2 p j t u E A x l n m o A v 0 (↑p:Int) 0).getD default).1 (datC [SV.bool false])).getD default) 0 v).getD default)) none) none) none) none)) none) none) (some v))
abbrev o14_0 (p:Nat) (j:Dat) (t:Nat) (u:Dat) (E:Int) (A l:Nat) (n:Dat) (m:Nat) (o:Dat) (x:Int) (v:Dat):Option (Dat):=l14_0 p j t u E A l n m o (p+t+E.toNat+A+x.toNat+l+m+8) x v
def e14_0 (p:Nat) (j:Dat) (t:Nat) (u:Dat) (E:Int) (A l:Nat) (n:Dat) (m:Nat) (o r:Dat) (K:XR):Prop:=K (XE.exit 0) [.ptr 0 0,.ro [.str] t u,V Z E,.own 1 1 A] [.cells 25 [.ro [.str,W Z,W Z] l n,.ro [.str,W Z,W Z,W Z] m o],.row 4 [.bool] A r]
def g14_0:LSum:=fun s k=>match czv 0 229 [1,2,5,6,9,10] 2 [] s with
 | some ([.ro [W Z,W Z,.str,.str,.str,.bool] p j,.ptr 0 0,.ro [.str] t u,V Z E,.own 1 1 A,V Z x],[.cells 25 [.ro [.str,W Z,W Z] l n,.ro [.str,W Z,W Z,W Z] m o],.row 4 [.bool] C v])=>needs [decide (A=C),(o14_0 p j t u E A l n m o x v).isSome] (e14_0 p j t u E A l n m o ((o14_0 p j t u E A l n m o x v).getD default) fun e vs bs=>inBlk 0 k e (mkSt 0 229 [2,5,6,9] vs 2 bs))
 | _=>False
theorem z14_0:LOk Try.prog g14_0 (.block 0 (bodyAt (Try.f14.body.getD .skip) 0)):=by
 refine lb (ι:=Nat × Dat × Nat × Dat × Int × Nat × Int × Nat × Dat × Nat × Dat × Dat) (fuel:=8) (na:=0) (nt:=229) (nx:=2) (Lh:=[1,2,5,6,9,10]) (Le:=[2,5,6,9]) (gl:=[]) (tc kSeal (tc k18 (tc k20 (tc k22 (tc k23 (tc k31 (tc k34 (tc k58 tn)))))))) mix_ok (lam_of rfl (lc z14_2 (lc z14_4 (lc z14_6 ln)))) rfl (fun f (p,j,t,u,E,A,x,l,n,m,o,v) K=>GG default (e14_0 p j t u E A l n m o) K (l14_0 p j t u E A l n m o f x v)) (fun (p,j,t,u,E,A,x,l,n,m,o,v)=>[.ro [W Z,W Z,.str,.str,.str,.bool] p j,.ptr 0 0,.ro [.str] t u,V Z E,.own 1 1 A,V Z x]) (fun (p,j,t,u,E,A,x,l,n,m,o,v)=>[.cells 25 [.ro [.str,W Z,W Z] l n,.ro [.str,W Z,W Z,W Z] m o],.row 4 [.bool] A v]) (fun (_,_,_,_,_,_,_,_,_,_,_,_) K=>gg_none) ?_ ?_
 ·rintro f ⟨p,j,t,u,E,A,x,l,n,m,o,v⟩ K hG
  refine ro (fun R => 
 let b0:=((↑l:Int).toNat)
 let a0:=(o14_4 p j t u E A x ((o14_2 p j t u E A x l n m o A v 0 (↑p:Int) 0).getD default).2 b0 l n m o A v ((o14_2 p j t u E A x l n m o A v 0 (↑p:Int) 0).getD default).1 (datC [SV.bool false]))
 let c0:=(bif (decide ((j.ii x.toNat 0)=4)) then false else true)
 let d0:=(o14_6 p j t u E A x b0 l n m o A (a0.getD default) 0 v)
 (cnd (decide (x<(↑p:Int)))
 (cnd (decide (0≤x∧x<↑p))
 (cnd (bif (bif (bif c0 then false else true) then false else true) then true else (decide (0≤x∧x<↑p)))
 (cnd (bif c0 then true else (j.3 x.toNat (0+1+1+1+1+1)))
 (R (XE.normal) [.ro [W Z,W Z,.str,.str,.str,.bool] p j,.ptr 0 0,.ro [.str] t u,V Z E,.own 1 1 A,V Z (Z.wrap (x+1))] [.cells 25 [.ro [.str,W Z,W Z] l n,.ro [.str,W Z,W Z,W Z] m o],.row 4 [.bool] A v])
 (cnd ((o14_2 p j t u E A x l n m o A v 0 (↑p:Int) 0).isSome)
 (cnd (decide (0≤(↑l:Int)∧(↑l:Int)≤(↑l:Int)∧(↑l:Int)≤1073741824))
 (cnd (decide (b0=b0))
 (cnd (a0.isSome)
 (cnd (decide (b0=b0))
 (cnd (d0.isSome)
 (R (XE.normal) [.ro [W Z,W Z,.str,.str,.str,.bool] p j,.ptr 0 0,.ro [.str] t u,V Z E,.own 1 1 A,V Z (Z.wrap (x+1))] [.cells 25 [.ro [.str,W Z,W Z] l n,.ro [.str,W Z,W Z,W Z] m o],.row 4 [.bool] A (d0.getD default)])
      False)
     False)
     False)
    False)
    False)
   False))
  False)
  False)
 (R (XE.exit 0) [.ptr 0 0,.ro [.str] t u,V Z E,.own 1 1 A] [.cells 25 [.ro [.str,W Z,W Z] l n,.ro [.str,W Z,W Z,W Z] m o],.row 4 [.bool] A v]))) (fun R=>by kernel_rfl) ?_
  exact ch hG (fun h0=>cg h0 fun h1=>cg h1 fun h2=>ch h2 (fun h3=>⟨(_,_,_,_,_,_,_,_,_,_,_,_),rfl,rfl,h3⟩) (fun h3=>cg h3 fun h4=>cg h4 fun h5=>cn (decide_eq_true rfl) (cg h5 fun h6=>cn (decide_eq_true rfl) (cg h6 fun h7=>⟨(_,_,_,_,_,_,_,_,_,_,_,_),rfl,rfl,h7⟩)))) (fun h0=>h0.2)
 ·intro s k h
  unfold g14_0 at h
  split at h <;> try exact h.elim
  rename_i e1
  rw [needs_iff] at h
  have hq:=h.1
  simp only [List.mem_cons,forall_eq_or_imp,decide_eq_true_eq,List.not_mem_nil,false_imp_iff,implies_true,and_true] at hq
  obtain ⟨rfl,hq⟩:=hq
  exact ⟨_,e1,_,(_,_,_,_,_,_,_,_,_,_,_,_),rfl,rfl,hq,h.2⟩
def l14_8 (t:Nat) (u:Dat) (E:Int) (A l:Nat) (n:Dat) (m:Nat) (o v:Dat):Nat→Nat→Int→Dat→Option (Nat × Nat × Dat)
 | 0,_,_,_=>none
 | f+1,M,L,D=>(cond (decide (L<(↑A:Int))) (cond (decide (0≤L∧L<↑A)) (cond (decide (L.toNat<A)) (cond (v.3 L.toNat 0) (cond (decide (0≤L∧L<↑l)) (cond (decide ((M+1)≤1073741824)) (l14_8 t u E A l n m o v f (M+1) (Z.wrap (L+1)) (D.app M (datS [SV.str (n.ss L.toNat 0)] 1))) none) none) (l14_8 t u E A l n m o v f M (Z.wrap (L+1)) D)) none) none) (some (M,M,D)))
abbrev o14_8 (t:Nat) (u:Dat) (E:Int) (A l:Nat) (n:Dat) (m:Nat) (o v:Dat) (M:Nat) (L:Int) (D:Dat):Option (Nat × Nat × Dat):=l14_8 t u E A l n m o v (t+E.toNat+A+M+L.toNat+l+m+8) M L D
def e14_8 (t:Nat) (u:Dat) (E:Int) (A l:Nat) (n:Dat) (m:Nat) (o v:Dat) (r:Nat × Nat × Dat) (K:XR):Prop:=K (XE.exit 8) [.ro [.str] t u,V Z E,.gr 2 1 r.1] [.cells 25 [.ro [.str,W Z,W Z] l n,.ro [.str,W Z,W Z,W Z] m o],.row 4 [.bool] A v,.row 9 [.str] r.2.1 r.2.2]
def g14_8:LSum:=fun s k=>match czv 0 229 [2,5,6,9,19,20] 3 [⟨true,19,0,2,9,[.str]⟩] s with
 | some ([.ptr 0 0,.ro [.str] t u,V Z E,.own 1 1 A,.gr 2 1 M,V Z L],[.cells 25 [.ro [.str,W Z,W Z] l n,.ro [.str,W Z,W Z,W Z] m o],.row 4 [.bool] C v,.row 9 [.str] O D])=>needs [decide (A=C),decide (M=O),(o14_8 t u E A l n m o v M L D).isSome] (e14_8 t u E A l n m o v ((o14_8 t u E A l n m o v M L D).getD default) fun e vs bs=>inBlk 8 k e (mkSt 0 229 [5,6,19] vs 3 bs))
 | _=>False
theorem z14_8:LOk Try.prog g14_8 (.block 8 (bodyAt (Try.f14.body.getD .skip) 8)):=by
 refine lb (ι:=Nat × Dat × Int × Nat × Nat × Int × Nat × Dat × Nat × Dat × Dat × Dat) (fuel:=8) (na:=0) (nt:=229) (nx:=3) (Lh:=[2,5,6,9,19,20]) (Le:=[5,6,19]) (gl:=[⟨true,19,0,2,9,[.str]⟩]) (tc kSeal (tc k18 (tc k20 (tc k22 (tc k23 (tc k31 (tc k34 (tc k58 tn)))))))) mix_ok (lam_of rfl (lc z14_2 (lc z14_4 (lc z14_6 (lc z14_0 ln))))) rfl (fun f (t,u,E,A,M,L,l,n,m,o,v,D) K=>GG default (e14_8 t u E A l n m o v) K (l14_8 t u E A l n m o v f M L D)) (fun (t,u,E,A,M,L,l,n,m,o,v,D)=>[.ptr 0 0,.ro [.str] t u,V Z E,.own 1 1 A,.gr 2 1 M,V Z L]) (fun (t,u,E,A,M,L,l,n,m,o,v,D)=>[.cells 25 [.ro [.str,W Z,W Z] l n,.ro [.str,W Z,W Z,W Z] m o],.row 4 [.bool] A v,.row 9 [.str] M D]) (fun (_,_,_,_,_,_,_,_,_,_,_,_) K=>gg_none) ?_ ?_
 ·rintro f ⟨t,u,E,A,M,L,l,n,m,o,v,D⟩ K hG
  refine ro (fun R=>(cnd (decide (L<(↑A:Int)))
 (cnd (decide (0≤L∧L<↑A))
 (cnd (decide (L.toNat<A))
 (cnd (v.3 L.toNat 0)
 (cnd (decide (0≤L∧L<↑l))
 (cnd (decide (M≤M))
 (cnd (decide ((M+1)≤1073741824))
 (R (XE.normal) [.ptr 0 0,.ro [.str] t u,V Z E,.own 1 1 A,.gr 2 1 (M+1),V Z (Z.wrap (L+1))] [.cells 25 [.ro [.str,W Z,W Z] l n,.ro [.str,W Z,W Z,W Z] m o],.row 4 [.bool] A v,.row 9 [.str] (M+1) (D.app M (datS [SV.str (n.ss L.toNat 0)] 1))])
    False)
    False)
   False)
 (R (XE.normal) [.ptr 0 0,.ro [.str] t u,V Z E,.own 1 1 A,.gr 2 1 M,V Z (Z.wrap (L+1))] [.cells 25 [.ro [.str,W Z,W Z] l n,.ro [.str,W Z,W Z,W Z] m o],.row 4 [.bool] A v,.row 9 [.str] M D]))
  False)
  False)
 (R (XE.exit 8) [.ro [.str] t u,V Z E,.gr 2 1 M] [.cells 25 [.ro [.str,W Z,W Z] l n,.ro [.str,W Z,W Z,W Z] m o],.row 4 [.bool] A v,.row 9 [.str] M D]))) (fun R=>by kernel_rfl) ?_
  exact ch hG (fun h0=>cg h0 fun h1=>cg h1 fun h2=>ch h2 (fun h3=>cg h3 fun h4=>cn (decide_eq_true (Nat.le_refl _)) (cg h4 fun h5=>⟨(_,_,_,_,_,_,_,_,_,_,_,_),rfl,rfl,h5⟩)) (fun h3=>⟨(_,_,_,_,_,_,_,_,_,_,_,_),rfl,rfl,h3⟩)) (fun h0=>h0.2)
 ·intro s k h
  unfold g14_8 at h
  split at h <;> try exact h.elim
  rename_i e1
  rw [needs_iff] at h
  have hq:=h.1
  simp only [List.mem_cons,forall_eq_or_imp,decide_eq_true_eq,List.not_mem_nil,false_imp_iff,implies_true,and_true] at hq
  obtain ⟨rfl,rfl,hq⟩:=hq
  exact ⟨_,e1,_,(_,_,_,_,_,_,_,_,_,_,_,_),rfl,rfl,hq,h.2⟩
def m14 (b:Nat) (d:Dat) (g:Nat) (i:Dat) (y:Nat) (z:Dat):Bool :=
 (cond (bif m58 then false else true) false (cond (bif (m18 b d g i y z) then false else true) true (cond (bif (decide ((m22 b d g i y z).2=0)) then false else true) (bif (decide ((m31 (m20 b d g i).1 (m20 b d g i).2.1 (m20 b d g i).2.2.1 (m20 b d g i).2.2.2 y z).2.2=(m22 b d g i y z).2)) then (decide ((↑((m31 (m20 b d g i).1 (m20 b d g i).2.1 (m20 b d g i).2.2.1 (m20 b d g i).2.2.2 y z).1):Int)=0)) else false) (bif (decide ((m31 (m20 b d g i).1 (m20 b d g i).2.1 (m20 b d g i).2.2.1 (m20 b d g i).2.2.2 y z).2.2=0)) then (m34 (m31 (m20 b d g i).1 (m20 b d g i).2.1 (m20 b d g i).2.2.1 (m20 b d g i).2.2.2 y z).1 (m31 (m20 b d g i).1 (m20 b d g i).2.1 (m20 b d g i).2.2.1 (m20 b d g i).2.2.2 y z).2.1 ((o14_8 (m31 (m20 b d g i).1 (m20 b d g i).2.1 (m20 b d g i).2.2.1 (m20 b d g i).2.2.2 y z).1 (m31 (m20 b d g i).1 (m20 b d g i).2.1 (m20 b d g i).2.2.1 (m20 b d g i).2.2.2 y z).2.1 (m31 (m20 b d g i).1 (m20 b d g i).2.1 (m20 b d g i).2.2.1 (m20 b d g i).2.2.2 y z).2.2 ((↑b:Int).toNat) b d g i ((o14_0 y z (m31 (m20 b d g i).1 (m20 b d g i).2.1 (m20 b d g i).2.2.1 (m20 b d g i).2.2.2 y z).1 (m31 (m20 b d g i).1 (m20 b d g i).2.1 (m20 b d g i).2.2.1 (m20 b d g i).2.2.2 y z).2.1 (m31 (m20 b d g i).1 (m20 b d g i).2.1 (m20 b d g i).2.2.1 (m20 b d g i).2.2.2 y z).2.2 ((↑b:Int).toNat) b d g i 0 (datC [SV.bool false])).getD default) 0 0 noDat).getD default).1 ((o14_8 (m31 (m20 b d g i).1 (m20 b d g i).2.1 (m20 b d g i).2.2.1 (m20 b d g i).2.2.2 y z).1 (m31 (m20 b d g i).1 (m20 b d g i).2.1 (m20 b d g i).2.2.1 (m20 b d g i).2.2.2 y z).2.1 (m31 (m20 b d g i).1 (m20 b d g i).2.1 (m20 b d g i).2.2.1 (m20 b d g i).2.2.2 y z).2.2 ((↑b:Int).toNat) b d g i ((o14_0 y z (m31 (m20 b d g i).1 (m20 b d g i).2.1 (m20 b d g i).2.2.1 (m20 b d g i).2.2.2 y z).1 (m31 (m20 b d g i).1 (m20 b d g i).2.1 (m20 b d g i).2.2.1 (m20 b d g i).2.2.2 y z).2.1 (m31 (m20 b d g i).1 (m20 b d g i).2.1 (m20 b d g i).2.2.1 (m20 b d g i).2.2.2 y z).2.2 ((↑b:Int).toNat) b d g i 0 (datC [SV.bool false])).getD default) 0 0 noDat).getD default).2.2) else false))))
def n14 (b:Nat) (d:Dat) (g:Nat) (i:Dat) (y:Nat) (z:Dat):Bool :=
 ((n58)&&(cond (bif m58 then false else true) true ((n18 b d g i y z)&&(cond (bif (m18 b d g i y z) then false else true) true ((n20 b d g i)&&((decide (y≤1073741824))&&((n31 (m20 b d g i).1 (m20 b d g i).2.1 (m20 b d g i).2.2.1 (m20 b d g i).2.2.2 y z)&&((n22 b d g i y z)&&(cond (bif (decide ((m22 b d g i y z).2=0)) then false else true) true ((decide (0≤(↑b:Int)∧(↑b:Int)≤(↑b:Int)∧(↑b:Int)≤1073741824))&&(((o14_0 y z (m31 (m20 b d g i).1 (m20 b d g i).2.1 (m20 b d g i).2.2.1 (m20 b d g i).2.2.2 y z).1 (m31 (m20 b d g i).1 (m20 b d g i).2.1 (m20 b d g i).2.2.1 (m20 b d g i).2.2.2 y z).2.1 (m31 (m20 b d g i).1 (m20 b d g i).2.1 (m20 b d g i).2.2.1 (m20 b d g i).2.2.2 y z).2.2 ((↑b:Int).toNat) b d g i 0 (datC [SV.bool false])).isSome)&&(((o14_8 (m31 (m20 b d g i).1 (m20 b d g i).2.1 (m20 b d g i).2.2.1 (m20 b d g i).2.2.2 y z).1 (m31 (m20 b d g i).1 (m20 b d g i).2.1 (m20 b d g i).2.2.1 (m20 b d g i).2.2.2 y z).2.1 (m31 (m20 b d g i).1 (m20 b d g i).2.1 (m20 b d g i).2.2.1 (m20 b d g i).2.2.2 y z).2.2 ((↑b:Int).toNat) b d g i ((o14_0 y z (m31 (m20 b d g i).1 (m20 b d g i).2.1 (m20 b d g i).2.2.1 (m20 b d g i).2.2.2 y z).1 (m31 (m20 b d g i).1 (m20 b d g i).2.1 (m20 b d g i).2.2.1 (m20 b d g i).2.2.2 y z).2.1 (m31 (m20 b d g i).1 (m20 b d g i).2.1 (m20 b d g i).2.2.1 (m20 b d g i).2.2.2 y z).2.2 ((↑b:Int).toNat) b d g i 0 (datC [SV.bool false])).getD default) 0 0 noDat).isSome)&&((bif (bif (decide ((m31 (m20 b d g i).1 (m20 b d g i).2.1 (m20 b d g i).2.2.1 (m20 b d g i).2.2.2 y z).2.2=0)) then false else true) then true else (decide ((0+((o14_8 (m31 (m20 b d g i).1 (m20 b d g i).2.1 (m20 b d g i).2.2.1 (m20 b d g i).2.2.2 y z).1 (m31 (m20 b d g i).1 (m20 b d g i).2.1 (m20 b d g i).2.2.1 (m20 b d g i).2.2.2 y z).2.1 (m31 (m20 b d g i).1 (m20 b d g i).2.1 (m20 b d g i).2.2.1 (m20 b d g i).2.2.2 y z).2.2 ((↑b:Int).toNat) b d g i ((o14_0 y z (m31 (m20 b d g i).1 (m20 b d g i).2.1 (m20 b d g i).2.2.1 (m20 b d g i).2.2.2 y z).1 (m31 (m20 b d g i).1 (m20 b d g i).2.1 (m20 b d g i).2.2.1 (m20 b d g i).2.2.2 y z).2.1 (m31 (m20 b d g i).1 (m20 b d g i).2.1 (m20 b d g i).2.2.1 (m20 b d g i).2.2.2 y z).2.2 ((↑b:Int).toNat) b d g i 0 (datC [SV.bool false])).getD default) 0 0 noDat).getD default).1)≤((o14_8 (m31 (m20 b d g i).1 (m20 b d g i).2.1 (m20 b d g i).2.2.1 (m20 b d g i).2.2.2 y z).1 (m31 (m20 b d g i).1 (m20 b d g i).2.1 (m20 b d g i).2.2.1 (m20 b d g i).2.2.2 y z).2.1 (m31 (m20 b d g i).1 (m20 b d g i).2.1 (m20 b d g i).2.2.1 (m20 b d g i).2.2.2 y z).2.2 ((↑b:Int).toNat) b d g i ((o14_0 y z (m31 (m20 b d g i).1 (m20 b d g i).2.1 (m20 b d g i).2.2.1 (m20 b d g i).2.2.2 y z).1 (m31 (m20 b d g i).1 (m20 b d g i).2.1 (m20 b d g i).2.2.1 (m20 b d g i).2.2.2 y z).2.1 (m31 (m20 b d g i).1 (m20 b d g i).2.1 (m20 b d g i).2.2.1 (m20 b d g i).2.2.2 y z).2.2 ((↑b:Int).toNat) b d g i 0 (datC [SV.bool false])).getD default) 0 0 noDat).getD default).2.1)))&&((bif (bif (decide ((m31 (m20 b d g i).1 (m20 b d g i).2.1 (m20 b d g i).2.2.1 (m20 b d g i).2.2.2 y z).2.2=0)) then false else true) then true else (n34 (m31 (m20 b d g i).1 (m20 b d g i).2.1 (m20 b d g i).2.2.1 (m20 b d g i).2.2.2 y z).1 (m31 (m20 b d g i).1 (m20 b d g i).2.1 (m20 b d g i).2.2.1 (m20 b d g i).2.2.2 y z).2.1 ((o14_8 (m31 (m20 b d g i).1 (m20 b d g i).2.1 (m20 b d g i).2.2.1 (m20 b d g i).2.2.2 y z).1 (m31 (m20 b d g i).1 (m20 b d g i).2.1 (m20 b d g i).2.2.1 (m20 b d g i).2.2.2 y z).2.1 (m31 (m20 b d g i).1 (m20 b d g i).2.1 (m20 b d g i).2.2.1 (m20 b d g i).2.2.2 y z).2.2 ((↑b:Int).toNat) b d g i ((o14_0 y z (m31 (m20 b d g i).1 (m20 b d g i).2.1 (m20 b d g i).2.2.1 (m20 b d g i).2.2.2 y z).1 (m31 (m20 b d g i).1 (m20 b d g i).2.1 (m20 b d g i).2.2.1 (m20 b d g i).2.2.2 y z).2.1 (m31 (m20 b d g i).1 (m20 b d g i).2.1 (m20 b d g i).2.2.1 (m20 b d g i).2.2.2 y z).2.2 ((↑b:Int).toNat) b d g i 0 (datC [SV.bool false])).getD default) 0 0 noDat).getD default).1 ((o14_8 (m31 (m20 b d g i).1 (m20 b d g i).2.1 (m20 b d g i).2.2.1 (m20 b d g i).2.2.2 y z).1 (m31 (m20 b d g i).1 (m20 b d g i).2.1 (m20 b d g i).2.2.1 (m20 b d g i).2.2.2 y z).2.1 (m31 (m20 b d g i).1 (m20 b d g i).2.1 (m20 b d g i).2.2.1 (m20 b d g i).2.2.2 y z).2.2 ((↑b:Int).toNat) b d g i ((o14_0 y z (m31 (m20 b d g i).1 (m20 b d g i).2.1 (m20 b d g i).2.2.1 (m20 b d g i).2.2.2 y z).1 (m31 (m20 b d g i).1 (m20 b d g i).2.1 (m20 b d g i).2.2.1 (m20 b d g i).2.2.2 y z).2.1 (m31 (m20 b d g i).1 (m20 b d g i).2.1 (m20 b d g i).2.2.1 (m20 b d g i).2.2.2 y z).2.2 ((↑b:Int).toNat) b d g i 0 (datC [SV.bool false])).getD default) 0 0 noDat).getD default).2.2))&&true))))))))))))))
def q14 (r:Bool):SV × List Blk × List Blk:=(.bool r,[],[])
def g14:GF:=fun vs bs=>match vs,bs with
 | [.agg [.ro [.str,W Z,W Z] b d,.ro [.str,W Z,W Z,W Z] g i],.ro [W Z,W Z,.str,.str,.str,.bool] y z],[]=>some (rs 0 (q14 (m14 b d g i y z)) [n14 b d g i y z])
 | _,_=>none
def c14:Ctr:=genC [.a [.ro [.str,W Z,W Z],.ro [.str,W Z,W Z,W Z]],.ro [W Z,W Z,.str,.str,.str,.bool]] g14
theorem k14:CtrOk Try.prog c14 14:=cx (tc kSeal (tc k18 (tc k20 (tc k22 (tc k23 (tc k31 (tc k34 (tc k58 tn)))))))) mix_ok 8 (fn:=Try.f14) (c:=(Try.f14.body.getD .skip)) (grs:=[]) (rh:=.k) Try.func14 rfl (by kernel_rfl) (lam_of rfl (lc z14_2 (lc z14_4 (lc z14_6 (lc z14_0 (lc z14_8 ln)))))) fun vs bs q h hn=>by
 unfold g14 at h
 split at h <;> cases h
 rename_i b d g i y z
 have hn:=n1 hn
 exact ⟨_,rfl,ca (fun R => 
 let a0:=(m31 (m20 b d g i).1 (m20 b d g i).2.1 (m20 b d g i).2.2.1 (m20 b d g i).2.2.2 y z)
 let c0:=((↑b:Int).toNat)
 let b0:=(o14_8 a0.1 a0.2.1 a0.2.2 c0 b d g i ((o14_0 y z a0.1 a0.2.1 a0.2.2 c0 b d g i 0 (datC [SV.bool false])).getD default) 0 0 noDat)
 (cnd (n58)
 (cnd (bif m58 then false else true)
 (R (.bool false) [] [])
 (cnd (n18 b d g i y z)
 (cnd (bif (m18 b d g i y z) then false else true)
 (R (.bool true) [] [])
 (cnd (n20 b d g i)
 (cnd (decide (y≤1073741824))
 (cnd (n31 (m20 b d g i).1 (m20 b d g i).2.1 (m20 b d g i).2.2.1 (m20 b d g i).2.2.2 y z)
 (cnd (n22 b d g i y z)
 (cnd (bif (decide ((m22 b d g i y z).2=0)) then false else true)
 (R (.bool (bif (decide (a0.2.2=(m22 b d g i y z).2)) then (decide ((↑(a0.1):Int)=0)) else false)) [] [])
 (cnd (decide (0≤(↑b:Int)∧(↑b:Int)≤(↑b:Int)∧(↑b:Int)≤1073741824))
 (cnd (decide (c0=c0))
 (cnd ((o14_0 y z a0.1 a0.2.1 a0.2.2 c0 b d g i 0 (datC [SV.bool false])).isSome)
 (cnd (decide (c0=c0))
 (cnd (b0.isSome)
 (cnd (bif (bif (decide (a0.2.2=0)) then false else true) then true else (decide ((0+(b0.getD default).1)≤(b0.getD default).2.1)))
 (cnd (bif (bif (decide (a0.2.2=0)) then false else true) then true else (n34 a0.1 a0.2.1 (b0.getD default).1 (b0.getD default).2.2))
 (R (.bool (bif (decide (a0.2.2=0)) then (m34 a0.1 a0.2.1 (b0.getD default).1 (b0.getD default).2.2) else false)) [] [])
         False)
        False)
        False)
       False)
       False)
      False)
      False))
     False)
    False)
    False)
   False))
  False))
 False)) (fun R=>by kernel_rfl) (cn (al hn) (co (fun h0=>lf (cT h0 rfl) rfl) (fun h0=>cn (al (cf h0 (ar hn))) (co (fun h1=>lf (cF h0 (cT h1 rfl)) rfl) (fun h1=>cn (al (cf h1 (ar (cf h0 (ar hn))))) (cn (al (ar (cf h1 (ar (cf h0 (ar hn)))))) (cn (al (ar (ar (cf h1 (ar (cf h0 (ar hn))))))) (cn (al (ar (ar (ar (cf h1 (ar (cf h0 (ar hn)))))))) (co (fun h2=>lf (cF h0 (cF h1 (cT h2 rfl))) rfl) (fun h2=>cn (al (cf h2 (ar (ar (ar (ar (cf h1 (ar (cf h0 (ar hn)))))))))) (cn (decide_eq_true rfl) (cn (al (ar (cf h2 (ar (ar (ar (ar (cf h1 (ar (cf h0 (ar hn))))))))))) (cn (decide_eq_true rfl) (cn (al (ar (ar (cf h2 (ar (ar (ar (ar (cf h1 (ar (cf h0 (ar hn)))))))))))) (cn (al (ar (ar (ar (cf h2 (ar (ar (ar (ar (cf h1 (ar (cf h0 (ar hn))))))))))))) (cn (al (ar (ar (ar (ar (cf h2 (ar (ar (ar (ar (cf h1 (ar (cf h0 (ar hn)))))))))))))) (lf (cF h0 (cF h1 (cF h2 rfl))) rfl)))))))))))))))))⟩
end
end Go.Proofs.Ytldjapmfmhifkaa
