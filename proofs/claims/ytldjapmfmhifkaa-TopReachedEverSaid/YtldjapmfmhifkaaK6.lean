/-
 Contracts of functions: models, equations by the kernel, contracts. Conditions: none.
-/
import Derived.Test.YtldjapmfmhifkaaK5
import Derived.KernelRfl
namespace Go.Proofs.Ytldjapmfmhifkaa
open Go Go.Sy
noncomputable section
set_option linter.unusedVariables false
set_option linter.unusedSimpArgs false
set_option maxRecDepth 100000
set_option maxHeartbeats 2000000
attribute [local irreducible] Go.IntKind.wrap Int.tdiv Int.tmod Int.fdiv
open Go.Sy renaming tabOk_cons→tc,tabOk_nil→tn,cnd_need→cn,leaf_of→lf,cnd_gg→cg,cnd_gg2→ch,cond_f→cf,cond_t→ct,cnd_of→co,callOf→ca,roundOf→ro,cnd_not→nn,lams_cons→lc,lams_nil→ln,condT→cT,condF→cF,need1→n1,resOf→rs,and_l→al,and_r→ar,or_gg→og,ctr_of→cx,loop_blk→lb
open Go.IntKind renaming i64→Z
open Go.Sy.SV renaming int→V
open Go.Sy.Kd renaming int→W
/-! ### shotline/kit.Quarantined -/
def m31 (b:Nat) (d:Dat) (e:Nat) (g:Dat) (i:Nat) (j:Dat):Nat × Dat × Int :=
 (cond (bif (decide ((m62 b d e g i j).2.2.2 = 0)) then false else true) (0,noDat,(m62 b d e g i j).2.2.2) ((m72c79 (m62 b d e g i j).2.1 (datC [SV.rp [Kd.sl [Kd.str,Kd.int Z,Kd.int Z],Kd.sl [Kd.str,Kd.int Z,Kd.int Z,Kd.int Z],Kd.sl [Kd.pt [Kd.str,Kd.int Z,Kd.int Z,Kd.mi [Kd.int Z,Kd.int Z,Kd.bool],Kd.mb,Kd.mb,Kd.int Z,Kd.bool,Kd.m1]],Kd.int Z] (m62 b d e g i j).2.1 0 0])).1,(m72c79 (m62 b d e g i j).2.1 (datC [SV.rp [Kd.sl [Kd.str,Kd.int Z,Kd.int Z],Kd.sl [Kd.str,Kd.int Z,Kd.int Z,Kd.int Z],Kd.sl [Kd.pt [Kd.str,Kd.int Z,Kd.int Z,Kd.mi [Kd.int Z,Kd.int Z,Kd.bool],Kd.mb,Kd.mb,Kd.int Z,Kd.bool,Kd.m1]],Kd.int Z] (m62 b d e g i j).2.1 0 0])).2.2,0))
def n31 (b:Nat) (d:Dat) (e:Nat) (g:Dat) (i:Nat) (j:Dat):Bool :=
 ((n62 b d e g i j) && (cond (bif (decide ((m62 b d e g i j).2.2.2 = 0)) then false else true) true ((m62 b d e g i j).1 && ((m62 b d e g i j).1 && ((n72c79 (m62 b d e g i j).2.1 (datC [SV.rp [Kd.sl [Kd.str,Kd.int Z,Kd.int Z],Kd.sl [Kd.str,Kd.int Z,Kd.int Z,Kd.int Z],Kd.sl [Kd.pt [Kd.str,Kd.int Z,Kd.int Z,Kd.mi [Kd.int Z,Kd.int Z,Kd.bool],Kd.mb,Kd.mb,Kd.int Z,Kd.bool,Kd.m1]],Kd.int Z] (m62 b d e g i j).2.1 0 0])) && ((decide ((0 + (m72c79 (m62 b d e g i j).2.1 (datC [SV.rp [Kd.sl [Kd.str,Kd.int Z,Kd.int Z],Kd.sl [Kd.str,Kd.int Z,Kd.int Z,Kd.int Z],Kd.sl [Kd.pt [Kd.str,Kd.int Z,Kd.int Z,Kd.mi [Kd.int Z,Kd.int Z,Kd.bool],Kd.mb,Kd.mb,Kd.int Z,Kd.bool,Kd.m1]],Kd.int Z] (m62 b d e g i j).2.1 0 0])).1)≤(m72c79 (m62 b d e g i j).2.1 (datC [SV.rp [Kd.sl [Kd.str,Kd.int Z,Kd.int Z],Kd.sl [Kd.str,Kd.int Z,Kd.int Z,Kd.int Z],Kd.sl [Kd.pt [Kd.str,Kd.int Z,Kd.int Z,Kd.mi [Kd.int Z,Kd.int Z,Kd.bool],Kd.mb,Kd.mb,Kd.int Z,Kd.bool,Kd.m1]],Kd.int Z] (m62 b d e g i j).2.1 0 0])).2.1)) && true))))))
def q31 (r:Nat × Dat × Int):SV × List Blk × List Blk:=(.tup [.ro [.str] r.1 r.2.1,V Z r.2.2],[],[])
def g31:GF:=fun vs bs=>match vs,bs with
 | [.agg [.ro [.str,W Z,W Z] b d,.ro [.str,W Z,W Z,W Z] e g],.ro [W Z,W Z,.str,.str,.str,.bool] i j],[]=>some (rs 0 (q31 (m31 b d e g i j)) [n31 b d e g i j])
 | _,_=>none
def c31:Ctr:=genC [.a [.ro [.str,W Z,W Z],.ro [.str,W Z,W Z,W Z]],.ro [W Z,W Z,.str,.str,.str,.bool]] g31
theorem k31:CtrOk Try.prog c31 31:=cx (tc k62 (tc k72c79 (tc k79 tn))) mix_ok 8 (fn:=Try.f31) (c:=(Try.f31.body.getD .skip)) (grs:=[]) (rh:=.t [.ro [.str],.k]) Try.func31 rfl (by kernel_rfl) noLam fun vs bs q h hn=>by
 unfold g31 at h
 split at h <;> cases h
 rename_i b d e g i j
 have hn:=n1 hn
 exact ⟨_,rfl,ca (fun R=>(cnd (n62 b d e g i j)
 (cnd (bif (decide ((m62 b d e g i j).2.2.2 = 0)) then false else true)
 (R (.tup [.ro [.str] 0 noDat,V Z (m62 b d e g i j).2.2.2]) [] [])
 (cnd (m62 b d e g i j).1
 (cnd (m62 b d e g i j).1
 (cnd (n72c79 (m62 b d e g i j).2.1 (datC [SV.rp [Kd.sl [Kd.str,Kd.int Z,Kd.int Z],Kd.sl [Kd.str,Kd.int Z,Kd.int Z,Kd.int Z],Kd.sl [Kd.pt [Kd.str,Kd.int Z,Kd.int Z,Kd.mi [Kd.int Z,Kd.int Z,Kd.bool],Kd.mb,Kd.mb,Kd.int Z,Kd.bool,Kd.m1]],Kd.int Z] (m62 b d e g i j).2.1 0 0]))
 (cnd (decide ((0 + (m72c79 (m62 b d e g i j).2.1 (datC [SV.rp [Kd.sl [Kd.str,Kd.int Z,Kd.int Z],Kd.sl [Kd.str,Kd.int Z,Kd.int Z,Kd.int Z],Kd.sl [Kd.pt [Kd.str,Kd.int Z,Kd.int Z,Kd.mi [Kd.int Z,Kd.int Z,Kd.bool],Kd.mb,Kd.mb,Kd.int Z,Kd.bool,Kd.m1]],Kd.int Z] (m62 b d e g i j).2.1 0 0])).1)≤(m72c79 (m62 b d e g i j).2.1 (datC [SV.rp [Kd.sl [Kd.str,Kd.int Z,Kd.int Z],Kd.sl [Kd.str,Kd.int Z,Kd.int Z,Kd.int Z],Kd.sl [Kd.pt [Kd.str,Kd.int Z,Kd.int Z,Kd.mi [Kd.int Z,Kd.int Z,Kd.bool],Kd.mb,Kd.mb,Kd.int Z,Kd.bool,Kd.m1]],Kd.int Z] (m62 b d e g i j).2.1 0 0])).2.1))
 (R (.tup [.ro [.str] (m72c79 (m62 b d e g i j).2.1 (datC [SV.rp [Kd.sl [Kd.str,Kd.int Z,Kd.int Z],Kd.sl [Kd.str,Kd.int Z,Kd.int Z,Kd.int Z],Kd.sl [Kd.pt [Kd.str,Kd.int Z,Kd.int Z,Kd.mi [Kd.int Z,Kd.int Z,Kd.bool],Kd.mb,Kd.mb,Kd.int Z,Kd.bool,Kd.m1]],Kd.int Z] (m62 b d e g i j).2.1 0 0])).1 (m72c79 (m62 b d e g i j).2.1 (datC [SV.rp [Kd.sl [Kd.str,Kd.int Z,Kd.int Z],Kd.sl [Kd.str,Kd.int Z,Kd.int Z,Kd.int Z],Kd.sl [Kd.pt [Kd.str,Kd.int Z,Kd.int Z,Kd.mi [Kd.int Z,Kd.int Z,Kd.bool],Kd.mb,Kd.mb,Kd.int Z,Kd.bool,Kd.m1]],Kd.int Z] (m62 b d e g i j).2.1 0 0])).2.2,V Z 0]) [] [])
    False)
   False)
   False)
  False))
 False)) (fun R=>by kernel_rfl) (cn (al hn) (co (fun h0=>lf (cT h0 rfl) rfl) (fun h0=>cn (al (cf h0 (ar hn))) (cn (al (ar (cf h0 (ar hn)))) (cn (al (ar (ar (cf h0 (ar hn))))) (cn (al (ar (ar (ar (cf h0 (ar hn)))))) (lf (cF h0 rfl) rfl)))))))⟩
/-! ### shotline/kit.BatchesIn -/
def l29_1 (y:Bool) (u:Dat) (o:Nat) (m:Dat) (D:Int) (w:Nat) (z:Dat) (x:Nat) (A:Dat):Nat→Nat→Int→Dat→Option (Nat × Nat × Dat)
 | 0,_,_,_=>none
 | f + 1,v,p,C=>(cond (decide (p < D)) (cond (decide (0≤p∧p < ↑o)) (cond (y) (cond (n77 u (m.ii p.toNat 0) (m.ii p.toNat 1)) (cond (decide ((v + 1)≤1073741824)) (l29_1 y u o m D w z x A f (v + 1) (Z.wrap (p + 1)) (C.app v (datS [SV.str (m77 u (m.ii p.toNat 0) (m.ii p.toNat 1)).1,V Z (m77 u (m.ii p.toNat 0) (m.ii p.toNat 1)).2] 2))) none) none) none) none) (some (v,v,C)))
abbrev o29_1 (y:Bool) (u:Dat) (o:Nat) (m:Dat) (D:Int) (w:Nat) (z:Dat) (x:Nat) (A:Dat) (v:Nat) (p:Int) (C:Dat):Option (Nat × Nat × Dat):=l29_1 y u o m D w z x A (v + o + D.toNat + p.toNat + w + x + 8) v p C
def e29_1 (y:Bool) (u:Dat) (o:Nat) (m:Dat) (D:Int) (w:Nat) (z:Dat) (x:Nat) (A:Dat) (r:Nat × Nat × Dat) (K:XR):Prop:=K (XE.exit 1) [.gr 1 2 r.1] [.cells 25 [.ro [.str,W Z,W Z] w z,.ro [.str,W Z,W Z,W Z] x A],.row 47 [.str,W Z] r.2.1 r.2.2]
def g29_1:LSum:=fun s k=>match czv 0 56 [8,12,42,43,44] 2 [⟨true,12,0,1,47,[.str,W Z]⟩] s with
 | some ([.rq y [.sl [.str,W Z,W Z],.sl [.str,W Z,W Z,W Z],.sl [.pt [.str,W Z,W Z,.mi [W Z,W Z,.bool],.mb,.mb,W Z,.bool,.m1]],W Z] u 0 0,.gr 1 2 v,.ro [W Z,W Z] o m,V Z D,V Z p],[.cells 25 [.ro [.str,W Z,W Z] w z,.ro [.str,W Z,W Z,W Z] x A],.row 47 [.str,W Z] b1_0 C])=>needs [decide (v = b1_0),(o29_1 y u o m D w z x A v p C).isSome] (e29_1 y u o m D w z x A ((o29_1 y u o m D w z x A v p C).getD default) fun e vs bs=>inBlk 1 k e (mkSt 0 56 [12] vs 2 bs))
 | _=>False
theorem z29_1:LOk Try.prog g29_1 (.block 1 (bodyAt (Try.f29.body.getD .skip) 1)):=by
 refine lb (ι:=Bool × Dat × Nat × Nat × Dat × Int × Int × Nat × Dat × Nat × Dat × Dat) (fuel:=8) (na:=0) (nt:=56) (nx:=2) (Lh:=[8,12,42,43,44]) (Le:=[12]) (gl:=[⟨true,12,0,1,47,[.str,W Z]⟩]) (tc k62 (tc k63 (tc k75c76 (tc k76 (tc k77 tn))))) mix_ok noLam rfl (fun f (y,u,v,o,m,D,p,w,z,x,A,C) K=>GG default (e29_1 y u o m D w z x A) K (l29_1 y u o m D w z x A f v p C)) (fun (y,u,v,o,m,D,p,w,z,x,A,C)=>[.rq y [.sl [.str,W Z,W Z],.sl [.str,W Z,W Z,W Z],.sl [.pt [.str,W Z,W Z,.mi [W Z,W Z,.bool],.mb,.mb,W Z,.bool,.m1]],W Z] u 0 0,.gr 1 2 v,.ro [W Z,W Z] o m,V Z D,V Z p]) (fun (y,u,v,o,m,D,p,w,z,x,A,C)=>[.cells 25 [.ro [.str,W Z,W Z] w z,.ro [.str,W Z,W Z,W Z] x A],.row 47 [.str,W Z] v C]) (fun (_,_,_,_,_,_,_,_,_,_,_,_) K=>gg_none) ?_ ?_
 ·rintro f ⟨y,u,v,o,m,D,p,w,z,x,A,C⟩ K hG
  refine ro (fun R=>(cnd (decide (p < D))
 (cnd (decide (0≤p∧p < ↑o))
 (cnd (y)
 (cnd (n77 u (m.ii p.toNat 0) (m.ii p.toNat 1))
 (cnd (decide (v≤v))
 (cnd (decide ((v + 1)≤1073741824))
 (R (XE.normal) [.rq y [.sl [.str,W Z,W Z],.sl [.str,W Z,W Z,W Z],.sl [.pt [.str,W Z,W Z,.mi [W Z,W Z,.bool],.mb,.mb,W Z,.bool,.m1]],W Z] u 0 0,.gr 1 2 (v + 1),.ro [W Z,W Z] o m,V Z D,V Z (Z.wrap (p + 1))] [.cells 25 [.ro [.str,W Z,W Z] w z,.ro [.str,W Z,W Z,W Z] x A],.row 47 [.str,W Z] (v + 1) (C.app v (datS [SV.str (m77 u (m.ii p.toNat 0) (m.ii p.toNat 1)).1,V Z (m77 u (m.ii p.toNat 0) (m.ii p.toNat 1)).2] 2))])
    False)
   False)
   False)
  False)
  False)
 (R (XE.exit 1) [.gr 1 2 v] [.cells 25 [.ro [.str,W Z,W Z] w z,.ro [.str,W Z,W Z,W Z] x A],.row 47 [.str,W Z] v C]))) (fun R=>by kernel_rfl) ?_
  exact ch hG (fun h0=>cg h0 fun h1=>cg h1 fun h2=>cg h2 fun h3=>cn (decide_eq_true (Nat.le_refl _)) (cg h3 fun h4=>⟨(_,_,_,_,_,_,_,_,_,_,_,_),rfl,rfl,h4⟩)) (fun h0=>h0.2)
 ·intro s k h
  unfold g29_1 at h
  split at h <;> try exact h.elim
  rename_i e1
  rw [needs_iff] at h
  have hq:=h.1
  simp only [List.mem_cons,forall_eq_or_imp,decide_eq_true_eq,List.not_mem_nil,false_imp_iff,implies_true,and_true] at hq
  obtain ⟨rfl,hq⟩:=hq
  exact ⟨_,e1,_,(_,_,_,_,_,_,_,_,_,_,_,_),rfl,rfl,hq,h.2⟩
def m29 (b:Nat) (d:Dat) (g:Nat) (i:Dat) (j:Nat) (l:Dat) (n:ByteArray):Nat × Dat × Int :=
 (cond (bif (decide ((m62 b d g i j l).2.2.2 = 0)) then false else true) (0,noDat,(m62 b d g i j l).2.2.2) (cond (bif (m63 (m62 b d g i j l).2.1 n).1 then false else true) (0,noDat,6) (cond (bif (decide (((m63 (m62 b d g i j l).2.1 n).2.ii 0 1) = 1)) then false else true) (0,noDat,27) (((o29_1 (m62 b d g i j l).1 (m62 b d g i j l).2.1 ((m75c76 ((m63 (m62 b d g i j l).2.1 n).2.sub 0 (0 + 1 + 1 + 1 + 1))).length) ({ ii:=fun q c=>bif decide (c = 0) then (↑((m75c76 ((m63 (m62 b d g i j l).2.1 n).2.sub 0 (0 + 1 + 1 + 1 + 1)))[q]?.getD (0,0)).1:Int) else (↑((m75c76 ((m63 (m62 b d g i j l).2.1 n).2.sub 0 (0 + 1 + 1 + 1 + 1)))[q]?.getD (0,0)).2:Int),ss:=noDat.ss,bb:=noDat.bb,sn:=noDat.sn,sd:=noDat.sd }) (↑((m75c76 ((m63 (m62 b d g i j l).2.1 n).2.sub 0 (0 + 1 + 1 + 1 + 1))).length):Int) b d g i 0 0 noDat).getD default).1,((o29_1 (m62 b d g i j l).1 (m62 b d g i j l).2.1 ((m75c76 ((m63 (m62 b d g i j l).2.1 n).2.sub 0 (0 + 1 + 1 + 1 + 1))).length) ({ ii:=fun q c=>bif decide (c = 0) then (↑((m75c76 ((m63 (m62 b d g i j l).2.1 n).2.sub 0 (0 + 1 + 1 + 1 + 1)))[q]?.getD (0,0)).1:Int) else (↑((m75c76 ((m63 (m62 b d g i j l).2.1 n).2.sub 0 (0 + 1 + 1 + 1 + 1)))[q]?.getD (0,0)).2:Int),ss:=noDat.ss,bb:=noDat.bb,sn:=noDat.sn,sd:=noDat.sd }) (↑((m75c76 ((m63 (m62 b d g i j l).2.1 n).2.sub 0 (0 + 1 + 1 + 1 + 1))).length):Int) b d g i 0 0 noDat).getD default).2.2,0))))
def n29 (b:Nat) (d:Dat) (g:Nat) (i:Dat) (j:Nat) (l:Dat) (n:ByteArray):Bool :=
 ((n62 b d g i j l) && (cond (bif (decide ((m62 b d g i j l).2.2.2 = 0)) then false else true) true ((m62 b d g i j l).1 && ((n63 (m62 b d g i j l).2.1 n) && (cond (bif (m63 (m62 b d g i j l).2.1 n).1 then false else true) true ((m63 (m62 b d g i j l).2.1 n).1 && (cond (bif (decide (((m63 (m62 b d g i j l).2.1 n).2.ii 0 1) = 1)) then false else true) true ((m63 (m62 b d g i j l).2.1 n).1 && ((n75c76 ((m63 (m62 b d g i j l).2.1 n).2.sub 0 4)) && (((o29_1 (m62 b d g i j l).1 (m62 b d g i j l).2.1 ((m75c76 ((m63 (m62 b d g i j l).2.1 n).2.sub 0 (0 + 1 + 1 + 1 + 1))).length) ({ ii:=fun q c=>bif decide (c = 0) then (↑((m75c76 ((m63 (m62 b d g i j l).2.1 n).2.sub 0 (0 + 1 + 1 + 1 + 1)))[q]?.getD (0,0)).1:Int) else (↑((m75c76 ((m63 (m62 b d g i j l).2.1 n).2.sub 0 (0 + 1 + 1 + 1 + 1)))[q]?.getD (0,0)).2:Int),ss:=noDat.ss,bb:=noDat.bb,sn:=noDat.sn,sd:=noDat.sd }) (↑((m75c76 ((m63 (m62 b d g i j l).2.1 n).2.sub 0 (0 + 1 + 1 + 1 + 1))).length):Int) b d g i 0 0 noDat).isSome) && ((decide ((0 + ((o29_1 (m62 b d g i j l).1 (m62 b d g i j l).2.1 ((m75c76 ((m63 (m62 b d g i j l).2.1 n).2.sub 0 (0 + 1 + 1 + 1 + 1))).length) ({ ii:=fun q c=>bif decide (c = 0) then (↑((m75c76 ((m63 (m62 b d g i j l).2.1 n).2.sub 0 (0 + 1 + 1 + 1 + 1)))[q]?.getD (0,0)).1:Int) else (↑((m75c76 ((m63 (m62 b d g i j l).2.1 n).2.sub 0 (0 + 1 + 1 + 1 + 1)))[q]?.getD (0,0)).2:Int),ss:=noDat.ss,bb:=noDat.bb,sn:=noDat.sn,sd:=noDat.sd }) (↑((m75c76 ((m63 (m62 b d g i j l).2.1 n).2.sub 0 (0 + 1 + 1 + 1 + 1))).length):Int) b d g i 0 0 noDat).getD default).1)≤((o29_1 (m62 b d g i j l).1 (m62 b d g i j l).2.1 ((m75c76 ((m63 (m62 b d g i j l).2.1 n).2.sub 0 (0 + 1 + 1 + 1 + 1))).length) ({ ii:=fun q c=>bif decide (c = 0) then (↑((m75c76 ((m63 (m62 b d g i j l).2.1 n).2.sub 0 (0 + 1 + 1 + 1 + 1)))[q]?.getD (0,0)).1:Int) else (↑((m75c76 ((m63 (m62 b d g i j l).2.1 n).2.sub 0 (0 + 1 + 1 + 1 + 1)))[q]?.getD (0,0)).2:Int),ss:=noDat.ss,bb:=noDat.bb,sn:=noDat.sn,sd:=noDat.sd }) (↑((m75c76 ((m63 (m62 b d g i j l).2.1 n).2.sub 0 (0 + 1 + 1 + 1 + 1))).length):Int) b d g i 0 0 noDat).getD default).2.1)) && true)))))))))))
def q29 (r:Nat × Dat × Int):SV × List Blk × List Blk:=(.tup [.ro [.str,W Z] r.1 r.2.1,V Z r.2.2],[],[])
def g29:GF:=fun vs bs=>match vs,bs with
 | [.agg [.ro [.str,W Z,W Z] b d,.ro [.str,W Z,W Z,W Z] g i],.ro [W Z,W Z,.str,.str,.str,.bool] j l,.str n],[]=>some (rs 0 (q29 (m29 b d g i j l n)) [n29 b d g i j l n])
 | _,_=>none
def c29:Ctr:=genC [.a [.ro [.str,W Z,W Z],.ro [.str,W Z,W Z,W Z]],.ro [W Z,W Z,.str,.str,.str,.bool],.k] g29
theorem k29:CtrOk Try.prog c29 29:=cx (tc k62 (tc k63 (tc k75c76 (tc k76 (tc k77 tn))))) mix_ok 8 (fn:=Try.f29) (c:=(Try.f29.body.getD .skip)) (grs:=[]) (rh:=.t [.ro [.str,W Z],.k]) Try.func29 rfl (by kernel_rfl) (lam_of rfl (lc z29_1 ln)) fun vs bs q h hn=>by
 unfold g29 at h
 split at h <;> cases h
 rename_i b d g i j l n
 have hn:=n1 hn
 exact ⟨_,rfl,ca (fun R=>(cnd (n62 b d g i j l)
 (cnd (bif (decide ((m62 b d g i j l).2.2.2 = 0)) then false else true)
 (R (.tup [.ro [.str,W Z] 0 noDat,V Z (m62 b d g i j l).2.2.2]) [] [])
 (cnd (m62 b d g i j l).1
 (cnd (n63 (m62 b d g i j l).2.1 n)
 (cnd (bif (m63 (m62 b d g i j l).2.1 n).1 then false else true)
 (R (.tup [.ro [.str,W Z] 0 noDat,V Z 6]) [] [])
 (cnd (m63 (m62 b d g i j l).2.1 n).1
 (cnd (bif (decide (((m63 (m62 b d g i j l).2.1 n).2.ii 0 1) = 1)) then false else true)
 (R (.tup [.ro [.str,W Z] 0 noDat,V Z 27]) [] [])
 (cnd (m63 (m62 b d g i j l).2.1 n).1
 (cnd (n75c76 ((m63 (m62 b d g i j l).2.1 n).2.sub 0 4))
 (cnd ((o29_1 (m62 b d g i j l).1 (m62 b d g i j l).2.1 ((m75c76 ((m63 (m62 b d g i j l).2.1 n).2.sub 0 (0 + 1 + 1 + 1 + 1))).length) ({ ii:=fun q c=>bif decide (c = 0) then (↑((m75c76 ((m63 (m62 b d g i j l).2.1 n).2.sub 0 (0 + 1 + 1 + 1 + 1)))[q]?.getD (0,0)).1:Int) else (↑((m75c76 ((m63 (m62 b d g i j l).2.1 n).2.sub 0 (0 + 1 + 1 + 1 + 1)))[q]?.getD (0,0)).2:Int),ss:=noDat.ss,bb:=noDat.bb,sn:=noDat.sn,sd:=noDat.sd }) (↑((m75c76 ((m63 (m62 b d g i j l).2.1 n).2.sub 0 (0 + 1 + 1 + 1 + 1))).length):Int) b d g i 0 0 noDat).isSome)
 (cnd (decide ((0 + ((o29_1 (m62 b d g i j l).1 (m62 b d g i j l).2.1 ((m75c76 ((m63 (m62 b d g i j l).2.1 n).2.sub 0 (0 + 1 + 1 + 1 + 1))).length) ({ ii:=fun q c=>bif decide (c = 0) then (↑((m75c76 ((m63 (m62 b d g i j l).2.1 n).2.sub 0 (0 + 1 + 1 + 1 + 1)))[q]?.getD (0,0)).1:Int) else (↑((m75c76 ((m63 (m62 b d g i j l).2.1 n).2.sub 0 (0 + 1 + 1 + 1 + 1)))[q]?.getD (0,0)).2:Int),ss:=noDat.ss,bb:=noDat.bb,sn:=noDat.sn,sd:=noDat.sd }) (↑((m75c76 ((m63 (m62 b d g i j l).2.1 n).2.sub 0 (0 + 1 + 1 + 1 + 1))).length):Int) b d g i 0 0 noDat).getD default).1)≤((o29_1 (m62 b d g i j l).1 (m62 b d g i j l).2.1 ((m75c76 ((m63 (m62 b d g i j l).2.1 n).2.sub 0 (0 + 1 + 1 + 1 + 1))).length) ({ ii:=fun q c=>bif decide (c = 0) then (↑((m75c76 ((m63 (m62 b d g i j l).2.1 n).2.sub 0 (0 + 1 + 1 + 1 + 1)))[q]?.getD (0,0)).1:Int) else (↑((m75c76 ((m63 (m62 b d g i j l).2.1 n).2.sub 0 (0 + 1 + 1 + 1 + 1)))[q]?.getD (0,0)).2:Int),ss:=noDat.ss,bb:=noDat.bb,sn:=noDat.sn,sd:=noDat.sd }) (↑((m75c76 ((m63 (m62 b d g i j l).2.1 n).2.sub 0 (0 + 1 + 1 + 1 + 1))).length):Int) b d g i 0 0 noDat).getD default).2.1))
 (R (.tup [.ro [.str,W Z] ((o29_1 (m62 b d g i j l).1 (m62 b d g i j l).2.1 ((m75c76 ((m63 (m62 b d g i j l).2.1 n).2.sub 0 (0 + 1 + 1 + 1 + 1))).length) ({ ii:=fun q c=>bif decide (c = 0) then (↑((m75c76 ((m63 (m62 b d g i j l).2.1 n).2.sub 0 (0 + 1 + 1 + 1 + 1)))[q]?.getD (0,0)).1:Int) else (↑((m75c76 ((m63 (m62 b d g i j l).2.1 n).2.sub 0 (0 + 1 + 1 + 1 + 1)))[q]?.getD (0,0)).2:Int),ss:=noDat.ss,bb:=noDat.bb,sn:=noDat.sn,sd:=noDat.sd }) (↑((m75c76 ((m63 (m62 b d g i j l).2.1 n).2.sub 0 (0 + 1 + 1 + 1 + 1))).length):Int) b d g i 0 0 noDat).getD default).1 ((o29_1 (m62 b d g i j l).1 (m62 b d g i j l).2.1 ((m75c76 ((m63 (m62 b d g i j l).2.1 n).2.sub 0 (0 + 1 + 1 + 1 + 1))).length) ({ ii:=fun q c=>bif decide (c = 0) then (↑((m75c76 ((m63 (m62 b d g i j l).2.1 n).2.sub 0 (0 + 1 + 1 + 1 + 1)))[q]?.getD (0,0)).1:Int) else (↑((m75c76 ((m63 (m62 b d g i j l).2.1 n).2.sub 0 (0 + 1 + 1 + 1 + 1)))[q]?.getD (0,0)).2:Int),ss:=noDat.ss,bb:=noDat.bb,sn:=noDat.sn,sd:=noDat.sd }) (↑((m75c76 ((m63 (m62 b d g i j l).2.1 n).2.sub 0 (0 + 1 + 1 + 1 + 1))).length):Int) b d g i 0 0 noDat).getD default).2.2,V Z 0]) [] [])
      False)
      False)
     False)
     False))
    False))
   False)
  False))
 False)) (fun R=>by kernel_rfl) (cn (al hn) (co (fun h0=>lf (cT h0 rfl) rfl) (fun h0=>cn (al (cf h0 (ar hn))) (cn (al (ar (cf h0 (ar hn)))) (co (fun h1=>lf (cF h0 (cT h1 rfl)) rfl) (fun h1=>cn (al (cf h1 (ar (ar (cf h0 (ar hn)))))) (co (fun h2=>lf (cF h0 (cF h1 (cT h2 rfl))) rfl) (fun h2=>cn (al (cf h2 (ar (cf h1 (ar (ar (cf h0 (ar hn)))))))) (cn (al (ar (cf h2 (ar (cf h1 (ar (ar (cf h0 (ar hn))))))))) (cn (al (ar (ar (cf h2 (ar (cf h1 (ar (ar (cf h0 (ar hn)))))))))) (cn (al (ar (ar (ar (cf h2 (ar (cf h1 (ar (ar (cf h0 (ar hn))))))))))) (lf (cF h0 (cF h1 (cF h2 rfl))) rfl))))))))))))⟩
/-! ### shotline/kit.Reached -/
def m42 (d:Nat) (b:Dat) (e:Nat) (g:Dat) (j:Nat) (l:Dat) (i:ByteArray) (m:Int):Nat × Dat × Int :=
 (cond (bif (decide ((m62 d b e g j l).2.2.2 = 0)) then false else true) (0,noDat,(m62 d b e g j l).2.2.2) (cond (decide ((m82 d b e g i) < 0)) (0,noDat,6) (cond (bif (decide ((b.ii ((m82 d b e g i).toNat) 1) = 3)) then false else true) (0,noDat,27) (cond (bif (m83 m 0 ((((m62 d b e g j l).2.1.sub 0 2).sub ((m82 d b e g i).toNat) 0).ii 0 6)) then false else true) (0,noDat,2) ((m72c84 (m62 d b e g j l).2.1 (datC [V Z (m82 d b e g i)]) (datC [SV.str i,V Z m])).1,(m72c84 (m62 d b e g j l).2.1 (datC [V Z (m82 d b e g i)]) (datC [SV.str i,V Z m])).2.2,0)))))
def n42 (d:Nat) (b:Dat) (e:Nat) (g:Dat) (j:Nat) (l:Dat) (i:ByteArray) (m:Int):Bool :=
 ((n62 d b e g j l) && (cond (bif (decide ((m62 d b e g j l).2.2.2 = 0)) then false else true) true ((n82 d b e g i) && (cond (decide ((m82 d b e g i) < 0)) true ((decide ((0:Int)≤m82 d b e g i∧m82 d b e g i < (↑d:Int))) && (cond (bif (decide ((b.ii ((m82 d b e g i).toNat) 1) = 3)) then false else true) true ((m62 d b e g j l).1 && ((decide ((0:Int)≤m82 d b e g i∧m82 d b e g i < (↑((m62 d b e g j l).2.1.sn (0:Nat) ((0:Nat) + (1:Nat) + (1:Nat))):Int))) && (cond (bif (m83 m 0 ((((m62 d b e g j l).2.1.sub 0 2).sub ((m82 d b e g i).toNat) 0).ii 0 6)) then false else true) true ((m62 d b e g j l).1 && ((n72c84 (m62 d b e g j l).2.1 (datC [V Z (m82 d b e g i)]) (datC [SV.str i,V Z m])) && ((decide ((0 + (m72c84 (m62 d b e g j l).2.1 (datC [V Z (m82 d b e g i)]) (datC [SV.str i,V Z m])).1)≤(m72c84 (m62 d b e g j l).2.1 (datC [V Z (m82 d b e g i)]) (datC [SV.str i,V Z m])).2.1)) && true))))))))))))
def q42 (r:Nat × Dat × Int):SV × List Blk × List Blk:=(.tup [.ro [.str] r.1 r.2.1,V Z r.2.2],[],[])
def g42:GF:=fun vs bs=>match vs,bs with
 | [.agg [.ro [.str,W Z,W Z] d b,.ro [.str,W Z,W Z,W Z] e g],.ro [W Z,W Z,.str,.str,.str,.bool] j l,.agg [.str i,V Z m]],[]=>some (rs 0 (q42 (m42 d b e g j l i m)) [n42 d b e g j l i m])
 | _,_=>none
def c42:Ctr:=genC [.a [.ro [.str,W Z,W Z],.ro [.str,W Z,W Z,W Z]],.ro [W Z,W Z,.str,.str,.str,.bool],.k] g42
theorem k42:CtrOk Try.prog c42 42:=cx (tc k62 (tc k72c84 (tc k82 (tc k83 (tc k84 tn))))) mix_ok 8 (fn:=Try.f42) (c:=(Try.f42.body.getD .skip)) (grs:=[]) (rh:=.t [.ro [.str],.k]) Try.func42 rfl (by kernel_rfl) noLam fun vs bs q h hn=>by
 unfold g42 at h
 split at h <;> cases h
 rename_i d b e g j l i m
 have hn:=n1 hn
 exact ⟨_,rfl,ca (fun R=>(cnd (n62 d b e g j l)
 (cnd (bif (decide ((m62 d b e g j l).2.2.2 = 0)) then false else true)
 (R (.tup [.ro [.str] 0 noDat,V Z (m62 d b e g j l).2.2.2]) [] [])
 (cnd (n82 d b e g i)
 (cnd (decide ((m82 d b e g i) < 0))
 (R (.tup [.ro [.str] 0 noDat,V Z 6]) [] [])
 (cnd (decide ((0:Int)≤m82 d b e g i∧m82 d b e g i < (↑d:Int)))
 (cnd (bif (decide ((b.ii ((m82 d b e g i).toNat) 1) = 3)) then false else true)
 (R (.tup [.ro [.str] 0 noDat,V Z 27]) [] [])
 (cnd (m62 d b e g j l).1
 (cnd (decide ((0:Int)≤m82 d b e g i∧m82 d b e g i < (↑((m62 d b e g j l).2.1.sn (0:Nat) ((0:Nat) + (1:Nat) + (1:Nat))):Int)))
 (cnd (bif (m83 m 0 ((((m62 d b e g j l).2.1.sub 0 2).sub ((m82 d b e g i).toNat) 0).ii 0 6)) then false else true)
 (R (.tup [.ro [.str] 0 noDat,V Z 2]) [] [])
 (cnd (m62 d b e g j l).1
 (cnd (n72c84 (m62 d b e g j l).2.1 (datC [V Z (m82 d b e g i)]) (datC [SV.str i,V Z m]))
 (cnd (decide ((0 + (m72c84 (m62 d b e g j l).2.1 (datC [V Z (m82 d b e g i)]) (datC [SV.str i,V Z m])).1)≤(m72c84 (m62 d b e g j l).2.1 (datC [V Z (m82 d b e g i)]) (datC [SV.str i,V Z m])).2.1))
 (R (.tup [.ro [.str] (m72c84 (m62 d b e g j l).2.1 (datC [V Z (m82 d b e g i)]) (datC [SV.str i,V Z m])).1 (m72c84 (m62 d b e g j l).2.1 (datC [V Z (m82 d b e g i)]) (datC [SV.str i,V Z m])).2.2,V Z 0]) [] [])
       False)
      False)
      False))
     False)
    False))
   False))
  False))
 False)) (fun R=>by kernel_rfl) (cn (al hn) (co (fun h0=>lf (cT h0 rfl) rfl) (fun h0=>cn (al (cf h0 (ar hn))) (co (fun h1=>lf (cF h0 (cT h1 rfl)) rfl) (fun h1=>cn (al (cf h1 (ar (cf h0 (ar hn))))) (co (fun h2=>lf (cF h0 (cF h1 (cT h2 rfl))) rfl) (fun h2=>cn (al (cf h2 (ar (cf h1 (ar (cf h0 (ar hn))))))) (cn (al (ar (cf h2 (ar (cf h1 (ar (cf h0 (ar hn)))))))) (co (fun h3=>lf (cF h0 (cF h1 (cF h2 (cT h3 rfl)))) rfl) (fun h3=>cn (al (cf h3 (ar (ar (cf h2 (ar (cf h1 (ar (cf h0 (ar hn)))))))))) (cn (al (ar (cf h3 (ar (ar (cf h2 (ar (cf h1 (ar (cf h0 (ar hn))))))))))) (cn (al (ar (ar (cf h3 (ar (ar (cf h2 (ar (cf h1 (ar (cf h0 (ar hn)))))))))))) (lf (cF h0 (cF h1 (cF h2 (cF h3 rfl)))) rfl)))))))))))))⟩
/-! ### shotline/kit.last -/
theorem x85 (e:Nat) (g:Dat) (d:Nat) (b:Dat) (l:Nat) (m:Dat) (j i:ByteArray) (n:Int) (o:Bool) (R:SV→List Blk→List Blk→Prop):exec Try.prog [(62,c62),(63,c63),(64,c64),(102,c102)] (fun _=>none) 8 (Try.f85.body.getD .skip) (initS Try.f85.ntmps [.agg [.ro [.str,W Z,W Z] e g,.ro [.str,W Z,W Z,W Z] d b],.ro [W Z,W Z,.str,.str,.str,.bool] l m,.agg [.str j,.str i,V Z n],.bool o] 0 (memOf [])) (retK Try.prog Try.f85.results.toList (outK 0 (List.range 0) [] (.k) fun v U N=>R v U N)) =
 (cnd (n62 e g d b l m)
 (cnd (bif (decide ((m62 e g d b l m).2.2.2 = 0)) then false else true)
 (R (.tup [.val (Value.pointer none),.agg [.str ({ data:=#[] }:ByteArray),V Z 0,V Z 0,V Z 0],V Z (m62 e g d b l m).2.2.2]) [] [])
 (cnd (m62 e g d b l m).1
 (cnd (n63 (m62 e g d b l m).2.1 j)
 (cnd (n102 e g d b i)
 (cnd (bif (bif (m63 (m62 e g d b l m).2.1 j).1 then false else true) then true else (decide ((m102 e g d b i) < 0)))
 (R (.tup [.val (Value.pointer none),.agg [.str ({ data:=#[] }:ByteArray),V Z 0,V Z 0,V Z 0],V Z 6]) [] [])
 (cnd (decide (0≤m102 e g d b i∧m102 e g d b i < (↑d:Int)))
 (cnd (m63 (m62 e g d b l m).2.1 j).1
 (cnd (bif (decide ((b.ii ((m102 e g d b i).toNat) 1) = ((m63 (m62 e g d b l m).2.1 j).2.ii 0 1))) then false else true)
 (R (.tup [.val (Value.pointer none),.agg [.str ({ data:=#[] }:ByteArray),V Z 0,V Z 0,V Z 0],V Z 27]) [] [])
 (cnd (bif o then (bif (m64 n) then false else true) else false)
 (R (.tup [.val (Value.pointer none),.agg [.str ({ data:=#[] }:ByteArray),V Z 0,V Z 0,V Z 0],V Z 2]) [] [])
 (cnd (m63 (m62 e g d b l m).2.1 j).1
 (cnd (bif (decide (0≤(m102 e g d b i))) then (((m63 (m62 e g d b l m).2.1 j).2.sub 0 3).bb ((m102 e g d b i).toNat) 0) else false)
 (cnd (bif ((((m63 (m62 e g d b l m).2.1 j).2.sub 0 3).sub ((m102 e g d b i).toNat) 1).bb 0 2) then false else true)
 (R (.tup [.val (Value.pointer none),.agg [.str ({ data:=#[] }:ByteArray),V Z 0,V Z 0,V Z 0],V Z 24]) [] [])
 (cnd (m63 (m62 e g d b l m).2.1 j).1
 (cnd (decide (0≤m102 e g d b i∧m102 e g d b i < (↑d:Int)))
 (R (.tup [.rq (bif (decide (0≤(m102 e g d b i))) then (((m63 (m62 e g d b l m).2.1 j).2.sub 0 3).bb ((m102 e g d b i).toNat) 0) else false) [W Z,W Z,.bool] (((m63 (m62 e g d b l m).2.1 j).2.sub 0 3).sub ((m102 e g d b i).toNat) 1) 0 0,.agg [.str (b.ss ((m102 e g d b i).toNat) 0),V Z (b.ii ((m102 e g d b i).toNat) 1),V Z (b.ii ((m102 e g d b i).toNat) 2),V Z (b.ii ((m102 e g d b i).toNat) 3)],V Z 0]) [] [])
        False)
        False))
       False)
      False)))
     False)
    False))
   False)
   False)
  False))
 False):=by kernel_rfl
def m85a (e:Nat) (g:Dat) (d:Nat) (b:Dat) (l:Nat) (m:Dat) (j i:ByteArray) (n:Int) (o:Bool):ByteArray × Int × Int × Int × Int :=
 (cond (bif (decide ((m62 e g d b l m).2.2.2 = 0)) then false else true) (({ data:=#[] }:ByteArray),0,0,0,(m62 e g d b l m).2.2.2) (cond (bif (bif (m63 (m62 e g d b l m).2.1 j).1 then false else true) then true else (decide ((m102 e g d b i) < 0))) (({ data:=#[] }:ByteArray),0,0,0,6) (cond (bif (decide ((b.ii ((m102 e g d b i).toNat) 1) = ((m63 (m62 e g d b l m).2.1 j).2.ii 0 1))) then false else true) (({ data:=#[] }:ByteArray),0,0,0,27) (cond (bif o then (bif (m64 n) then false else true) else false) (({ data:=#[] }:ByteArray),0,0,0,2) (({ data:=#[] }:ByteArray),0,0,0,24)))))
def n85a (e:Nat) (g:Dat) (d:Nat) (b:Dat) (l:Nat) (m:Dat) (j i:ByteArray) (n:Int) (o:Bool):Bool :=
 ((n62 e g d b l m) && (cond (bif (decide ((m62 e g d b l m).2.2.2 = 0)) then false else true) true ((m62 e g d b l m).1 && ((n63 (m62 e g d b l m).2.1 j) && ((n102 e g d b i) && (cond (bif (bif (m63 (m62 e g d b l m).2.1 j).1 then false else true) then true else (decide ((m102 e g d b i) < 0))) true ((decide (0≤m102 e g d b i∧m102 e g d b i < (↑d:Int))) && ((m63 (m62 e g d b l m).2.1 j).1 && (cond (bif (decide ((b.ii ((m102 e g d b i).toNat) 1) = ((m63 (m62 e g d b l m).2.1 j).2.ii 0 1))) then false else true) true (cond (bif o then (bif (m64 n) then false else true) else false) true ((m63 (m62 e g d b l m).2.1 j).1 && ((bif (decide (0≤(m102 e g d b i))) then (((m63 (m62 e g d b l m).2.1 j).2.sub 0 3).bb ((m102 e g d b i).toNat) 0) else false) && ((bif ((((m63 (m62 e g d b l m).2.1 j).2.sub 0 3).sub ((m102 e g d b i).toNat) 1).bb 0 2) then false else true) && true)))))))))))))
def q85a (r:ByteArray × Int × Int × Int × Int):SV × List Blk × List Blk:=(.tup [.val (Value.pointer none),.agg [.str r.1,V Z r.2.1,V Z r.2.2.1,V Z r.2.2.2.1],V Z r.2.2.2.2],[],[])
def g85a:GF:=fun vs bs=>match vs,bs with
 | [.agg [.ro [.str,W Z,W Z] e g,.ro [.str,W Z,W Z,W Z] d b],.ro [W Z,W Z,.str,.str,.str,.bool] l m,.agg [.str j,.str i,V Z n],.bool o],[]=>some (rs 0 (q85a (m85a e g d b l m j i n o)) [n85a e g d b l m j i n o])
 | _,_=>none
def c85a:Ctr:=genC [.a [.ro [.str,W Z,W Z],.ro [.str,W Z,W Z,W Z]],.ro [W Z,W Z,.str,.str,.str,.bool],.k,.k] g85a
theorem k85a:CtrOk Try.prog c85a 85:=cx (tc k62 (tc k63 (tc k64 (tc k102 tn)))) mix_ok 8 (fn:=Try.f85) (c:=(Try.f85.body.getD .skip)) (grs:=[]) (rh:=.k) Try.func85 rfl (by kernel_rfl) noLam fun vs bs q h hn=>by
 unfold g85a at h
 split at h <;> cases h
 rename_i e g d b l m j i n o
 have hn:=n1 hn
 exact ⟨_,rfl,propOf (x85 e g d b l m j i n o _) (cn (al hn) (co (fun h0=>lf (cT h0 rfl) rfl) (fun h0=>cn (al (cf h0 (ar hn))) (cn (al (ar (cf h0 (ar hn)))) (cn (al (ar (ar (cf h0 (ar hn))))) (co (fun h1=>lf (cF h0 (cT h1 rfl)) rfl) (fun h1=>cn (al (cf h1 (ar (ar (ar (cf h0 (ar hn))))))) (cn (al (ar (cf h1 (ar (ar (ar (cf h0 (ar hn)))))))) (co (fun h2=>lf (cF h0 (cF h1 (cT h2 rfl))) rfl) (fun h2=>co (fun h3=>lf (cF h0 (cF h1 (cF h2 (cT h3 rfl)))) rfl) (fun h3=>cn (al (cf h3 (cf h2 (ar (ar (cf h1 (ar (ar (ar (cf h0 (ar hn))))))))))) (cn (al (ar (cf h3 (cf h2 (ar (ar (cf h1 (ar (ar (ar (cf h0 (ar hn)))))))))))) (co (fun _=>lf (cF h0 (cF h1 (cF h2 (cF h3 rfl)))) rfl) (fun h4=>(Bool.false_ne_true (h4.symm.trans (al (ar (ar (cf h3 (cf h2 (ar (ar (cf h1 (ar (ar (ar (cf h0 (ar hn))))))))))))))).elim))))))))))))))⟩
def m85b (e:Nat) (g:Dat) (d:Nat) (b:Dat) (l:Nat) (m:Dat) (j i:ByteArray) (n:Int) (o:Bool):Bool × Dat × ByteArray × Int × Int × Int × Int :=
 ((bif (decide (0≤(m102 e g d b i))) then (((m63 (m62 e g d b l m).2.1 j).2.sub 0 3).bb ((m102 e g d b i).toNat) 0) else false),(((m63 (m62 e g d b l m).2.1 j).2.sub 0 3).sub ((m102 e g d b i).toNat) 1),(b.ss ((m102 e g d b i).toNat) 0),(b.ii ((m102 e g d b i).toNat) 1),(b.ii ((m102 e g d b i).toNat) 2),(b.ii ((m102 e g d b i).toNat) 3),0)
def n85b (e:Nat) (g:Dat) (d:Nat) (b:Dat) (l:Nat) (m:Dat) (j i:ByteArray) (n:Int) (o:Bool):Bool :=
 ((n62 e g d b l m) && (!(bif (decide ((m62 e g d b l m).2.2.2 = 0)) then false else true) && ((m62 e g d b l m).1 && ((n63 (m62 e g d b l m).2.1 j) && ((n102 e g d b i) && (!(bif (bif (m63 (m62 e g d b l m).2.1 j).1 then false else true) then true else (decide ((m102 e g d b i) < 0))) && ((decide (0≤m102 e g d b i∧m102 e g d b i < (↑d:Int))) && ((m63 (m62 e g d b l m).2.1 j).1 && (!(bif (decide ((b.ii ((m102 e g d b i).toNat) 1) = ((m63 (m62 e g d b l m).2.1 j).2.ii 0 1))) then false else true) && (!(bif o then (bif (m64 n) then false else true) else false) && ((m63 (m62 e g d b l m).2.1 j).1 && ((bif (decide (0≤(m102 e g d b i))) then (((m63 (m62 e g d b l m).2.1 j).2.sub 0 3).bb ((m102 e g d b i).toNat) 0) else false) && (!(bif ((((m63 (m62 e g d b l m).2.1 j).2.sub 0 3).sub ((m102 e g d b i).toNat) 1).bb 0 2) then false else true) && ((m63 (m62 e g d b l m).2.1 j).1 && ((decide (0≤m102 e g d b i∧m102 e g d b i < (↑d:Int))) && true)))))))))))))))
def q85b (r:Bool × Dat × ByteArray × Int × Int × Int × Int):SV × List Blk × List Blk:=(.tup [.rq r.1 [W Z,W Z,.bool] r.2.1 0 0,.agg [.str r.2.2.1,V Z r.2.2.2.1,V Z r.2.2.2.2.1,V Z r.2.2.2.2.2.1],V Z r.2.2.2.2.2.2],[],[])
def g85b:GF:=fun vs bs=>match vs,bs with
 | [.agg [.ro [.str,W Z,W Z] e g,.ro [.str,W Z,W Z,W Z] d b],.ro [W Z,W Z,.str,.str,.str,.bool] l m,.agg [.str j,.str i,V Z n],.bool o],[]=>some (rs 0 (q85b (m85b e g d b l m j i n o)) [n85b e g d b l m j i n o])
 | _,_=>none
def c85b:Ctr:=genC [.a [.ro [.str,W Z,W Z],.ro [.str,W Z,W Z,W Z]],.ro [W Z,W Z,.str,.str,.str,.bool],.k,.k] g85b
theorem k85b:CtrOk Try.prog c85b 85:=cx (tc k62 (tc k63 (tc k64 (tc k102 tn)))) mix_ok 8 (fn:=Try.f85) (c:=(Try.f85.body.getD .skip)) (grs:=[]) (rh:=.k) Try.func85 rfl (by kernel_rfl) noLam fun vs bs q h hn=>by
 unfold g85b at h
 split at h <;> cases h
 rename_i e g d b l m j i n o
 have hn:=n1 hn
 exact ⟨_,rfl,propOf (x85 e g d b l m j i n o _) (cn (al hn) (co (fun h0=>(Bool.false_ne_true ((not_l (ar hn)).symm.trans h0)).elim) (fun _=>cn (al (not_r (ar hn))) (cn (al (ar (not_r (ar hn)))) (cn (al (ar (ar (not_r (ar hn))))) (co (fun h0=>(Bool.false_ne_true ((not_l (ar (ar (ar (not_r (ar hn)))))).symm.trans h0)).elim) (fun _=>cn (al (not_r (ar (ar (ar (not_r (ar hn))))))) (cn (al (ar (not_r (ar (ar (ar (not_r (ar hn)))))))) (co (fun h0=>(Bool.false_ne_true ((not_l (ar (ar (not_r (ar (ar (ar (not_r (ar hn))))))))).symm.trans h0)).elim) (fun _=>co (fun h0=>(Bool.false_ne_true ((not_l (not_r (ar (ar (not_r (ar (ar (ar (not_r (ar hn)))))))))).symm.trans h0)).elim) (fun _=>cn (al (not_r (not_r (ar (ar (not_r (ar (ar (ar (not_r (ar hn))))))))))) (cn (al (ar (not_r (not_r (ar (ar (not_r (ar (ar (ar (not_r (ar hn)))))))))))) (co (fun h0=>(Bool.false_ne_true ((not_l (ar (ar (not_r (not_r (ar (ar (not_r (ar (ar (ar (not_r (ar hn))))))))))))).symm.trans h0)).elim) (fun _=>cn (al (not_r (ar (ar (not_r (not_r (ar (ar (not_r (ar (ar (ar (not_r (ar hn)))))))))))))) (cn (al (ar (not_r (ar (ar (not_r (not_r (ar (ar (not_r (ar (ar (ar (not_r (ar hn))))))))))))))) (lf rfl rfl))))))))))))))))⟩
/-! ### shotline/kit.DaysLeft -/
def m49 (d:Nat) (e:Dat) (g:Nat) (i:Dat) (n:Nat) (o:Dat) (l m:ByteArray) (j:Int):Int × Int :=
 (cond (n85a d e g i n o l m j true) (cond (bif (decide ((m85a d e g i n o l m j true).2.2.2.2 = 0)) then false else true) (0,(m85a d e g i n o l m j true).2.2.2.2) (0,12)) (cond (bif (decide ((m85b d e g i n o l m j true).2.2.2.2.2.2 = 0)) then false else true) (0,(m85b d e g i n o l m j true).2.2.2.2.2.2) (cond (decide ((m85b d e g i n o l m j true).2.2.2.2.1 = 0)) (0,12) ((Z.wrap ((Z.wrap (((m85b d e g i n o l m j true).2.1.ii 0 0) + (m85b d e g i n o l m j true).2.2.2.2.1)) - j)),0))))
def n49 (d:Nat) (e:Dat) (g:Nat) (i:Dat) (n:Nat) (o:Dat) (l m:ByteArray) (j:Int):Bool :=
 (cond (n85a d e g i n o l m j true) ((n85a d e g i n o l m j true) && (cond (bif (decide ((m85a d e g i n o l m j true).2.2.2.2 = 0)) then false else true) true ((decide ((m85a d e g i n o l m j true).2.2.1 = 0)) && true))) ((n85b d e g i n o l m j true) && (cond (bif (decide ((m85b d e g i n o l m j true).2.2.2.2.2.2 = 0)) then false else true) true (cond (decide ((m85b d e g i n o l m j true).2.2.2.2.1 = 0)) true ((m85b d e g i n o l m j true).1 && true)))))
def q49 (r:Int × Int):SV × List Blk × List Blk:=(.tup [V Z r.1,V Z r.2],[],[])
def g49:GF:=fun vs bs=>match vs,bs with
 | [.agg [.ro [.str,W Z,W Z] d e,.ro [.str,W Z,W Z,W Z] g i],.ro [W Z,W Z,.str,.str,.str,.bool] n o,.agg [.str l,.str m,V Z j]],[]=>some (rs 0 (q49 (m49 d e g i n o l m j)) [n49 d e g i n o l m j])
 | _,_=>none
def c49:Ctr:=genC [.a [.ro [.str,W Z,W Z],.ro [.str,W Z,W Z,W Z]],.ro [W Z,W Z,.str,.str,.str,.bool],.k] g49
theorem k49:CtrOk Try.prog c49 49:=cx (tc k85a (tc k85b tn)) mix_ok 8 (fn:=Try.f49) (c:=(Try.f49.body.getD .skip)) (grs:=[]) (rh:=.k) Try.func49 rfl (by kernel_rfl) noLam fun vs bs q h hn=>by
 unfold g49 at h
 split at h <;> cases h
 rename_i d e g i n o l m j
 have hn:=n1 hn
 exact ⟨_,rfl,ca (fun R=>((cnd (n85a d e g i n o l m j true)
 (cnd (bif (decide ((m85a d e g i n o l m j true).2.2.2.2 = 0)) then false else true)
 (R (.tup [V Z 0,V Z (m85a d e g i n o l m j true).2.2.2.2]) [] [])
 (cnd (decide ((m85a d e g i n o l m j true).2.2.1 = 0))
 (R (.tup [V Z 0,V Z 12]) [] [])
   False))
  False) ∨
 (cnd (n85b d e g i n o l m j true)
 (cnd (bif (decide ((m85b d e g i n o l m j true).2.2.2.2.2.2 = 0)) then false else true)
 (R (.tup [V Z 0,V Z (m85b d e g i n o l m j true).2.2.2.2.2.2]) [] [])
 (cnd (decide ((m85b d e g i n o l m j true).2.2.2.2.1 = 0))
 (R (.tup [V Z 0,V Z 12]) [] [])
 (cnd (m85b d e g i n o l m j true).1
 (R (.tup [V Z (Z.wrap ((Z.wrap (((m85b d e g i n o l m j true).2.1.ii 0 0) + (m85b d e g i n o l m j true).2.2.2.2.1)) - j)),V Z 0]) [] [])
   False)))
  False))) (fun R=>by kernel_rfl) (or_of (b:=(n85a d e g i n o l m j true)) (fun h0=>cn (al (ct h0 hn)) (co (fun h1=>lf (cT h0 (cT h1 rfl)) rfl) (fun h1=>cn (al (cf h1 (ar (ct h0 hn)))) (lf (cT h0 (cF h1 rfl)) rfl)))) (fun h0=>cn (al (cf h0 hn)) (co (fun h1=>lf (cF h0 (cT h1 rfl)) rfl) (fun h1=>co (fun h2=>lf (cF h0 (cF h1 (cT h2 rfl))) rfl) (fun h2=>cn (al (cf h2 (cf h1 (ar (cf h0 hn))))) (lf (cF h0 (cF h1 (cF h2 rfl))) rfl))))))⟩
/-! ### shotline/shotlinetop.kept -/
def m58 :Bool :=
 (bif (bif (bif (decide ((m31 4 m60.1 2 m60.2 3 m61).2.2 = 0)) then (m34 (m31 4 m60.1 2 m60.2 3 m61).1 (m31 4 m60.1 2 m60.2 3 m61).2.1 2 (datS [SV.str ({ data:=#[OfNat.ofNat 97] }:ByteArray),SV.str ({ data:=#[OfNat.ofNat 98] }:ByteArray)] 1)) else false) then (decide ((m49 4 m60.1 2 m60.2 0 noDat ({ data:=#[OfNat.ofNat 114] }:ByteArray) ({ data:=#[OfNat.ofNat 115,OfNat.ofNat 101,OfNat.ofNat 114,OfNat.ofNat 118,OfNat.ofNat 105,OfNat.ofNat 99,OfNat.ofNat 101] }:ByteArray) 470).2 = 0)) else false) then (decide ((m49 4 m60.1 2 m60.2 0 noDat ({ data:=#[OfNat.ofNat 114] }:ByteArray) ({ data:=#[OfNat.ofNat 115,OfNat.ofNat 101,OfNat.ofNat 114,OfNat.ofNat 118,OfNat.ofNat 105,OfNat.ofNat 99,OfNat.ofNat 101] }:ByteArray) 470).1 = -5)) else false)
def n58 :Bool :=
 ((n31 4 m60.1 2 m60.2 3 m61) && ((n49 4 m60.1 2 m60.2 0 noDat ({ data:=#[OfNat.ofNat 114] }:ByteArray) ({ data:=#[OfNat.ofNat 115,OfNat.ofNat 101,OfNat.ofNat 114,OfNat.ofNat 118,OfNat.ofNat 105,OfNat.ofNat 99,OfNat.ofNat 101] }:ByteArray) 470) && ((bif (bif (decide ((m31 4 m60.1 2 m60.2 3 m61).2.2 = 0)) then false else true) then true else (n34 (m31 4 m60.1 2 m60.2 3 m61).1 (m31 4 m60.1 2 m60.2 3 m61).2.1 2 (datS [SV.str ({ data:=#[OfNat.ofNat 97] }:ByteArray),SV.str ({ data:=#[OfNat.ofNat 98] }:ByteArray)] 1))) && true)))
def q58 (r:Bool):SV × List Blk × List Blk:=(.bool r,[],[])
def g58:GF:=fun vs bs=>match vs,bs with
 | [],[]=>some (rs 0 (q58 (m58)) [n58 ])
 | _,_=>none
def c58:Ctr:=genC [] g58
theorem k58:CtrOk Try.prog c58 58:=cx (tc kSeal (tc k31 (tc k34 (tc k49 (tc k60 (tc k61 tn)))))) mix_ok 8 (fn:=Try.f58) (c:=(Try.f58.body.getD .skip)) (grs:=[]) (rh:=.k) Try.func58 rfl (by kernel_rfl) noLam fun vs bs q h hn=>by
 unfold g58 at h
 split at h <;> cases h
 have hn:=n1 hn
 exact ⟨_,rfl,ca (fun R=>(cnd (n31 4 m60.1 2 m60.2 3 m61)
 (cnd (n49 4 m60.1 2 m60.2 0 noDat ({ data:=#[OfNat.ofNat 114] }:ByteArray) ({ data:=#[OfNat.ofNat 115,OfNat.ofNat 101,OfNat.ofNat 114,OfNat.ofNat 118,OfNat.ofNat 105,OfNat.ofNat 99,OfNat.ofNat 101] }:ByteArray) 470)
 (cnd (bif (bif (decide ((m31 4 m60.1 2 m60.2 3 m61).2.2 = 0)) then false else true) then true else (n34 (m31 4 m60.1 2 m60.2 3 m61).1 (m31 4 m60.1 2 m60.2 3 m61).2.1 2 (datS [SV.str ({ data:=#[OfNat.ofNat 97] }:ByteArray),SV.str ({ data:=#[OfNat.ofNat 98] }:ByteArray)] 1)))
 (R (.bool (bif (bif (bif (decide ((m31 4 m60.1 2 m60.2 3 m61).2.2 = 0)) then (m34 (m31 4 m60.1 2 m60.2 3 m61).1 (m31 4 m60.1 2 m60.2 3 m61).2.1 2 (datS [SV.str ({ data:=#[OfNat.ofNat 97] }:ByteArray),SV.str ({ data:=#[OfNat.ofNat 98] }:ByteArray)] 1)) else false) then (decide ((m49 4 m60.1 2 m60.2 0 noDat ({ data:=#[OfNat.ofNat 114] }:ByteArray) ({ data:=#[OfNat.ofNat 115,OfNat.ofNat 101,OfNat.ofNat 114,OfNat.ofNat 118,OfNat.ofNat 105,OfNat.ofNat 99,OfNat.ofNat 101] }:ByteArray) 470).2 = 0)) else false) then (decide ((m49 4 m60.1 2 m60.2 0 noDat ({ data:=#[OfNat.ofNat 114] }:ByteArray) ({ data:=#[OfNat.ofNat 115,OfNat.ofNat 101,OfNat.ofNat 114,OfNat.ofNat 118,OfNat.ofNat 105,OfNat.ofNat 99,OfNat.ofNat 101] }:ByteArray) 470).1 = -5)) else false)) [] [])
  False)
  False)
 False)) (fun R=>by kernel_rfl) (cn (al hn) (cn (al (ar hn)) (cn (al (ar (ar hn))) (lf rfl rfl))))⟩
/-! ### shotline/shotlinetop.TopReachedEver -/
def l15_4 (t:Nat) (j:Dat) (u:Nat) (x:Dat) (y:Int) (A z:Bool) (l:Int) (G:Nat) (I:Dat) (d:Nat) (b:Dat) (g:Nat) (i:Dat) (v:ByteArray) (w:Int):Nat→Bool→Int→Option (Bool)
 | 0,_,_=>none
 | f + 1,L,J=>(cond (decide (J < (↑G:Int))) (cond (bif (bif (bif L then false else true) then false else true) then true else (decide (0≤J∧J < ↑G))) (l15_4 t j u x y A z l G I d b g i v w f (bif L then true else (bif (decide ((I.ss J.toNat 0) = v)) then (bif (decide ((I.ii J.toNat 1) = w)) then true else false) else false)) (Z.wrap (J + 1))) none) (some L))
abbrev o15_4 (t:Nat) (j:Dat) (u:Nat) (x:Dat) (y:Int) (A z:Bool) (l:Int) (G:Nat) (I:Dat) (d:Nat) (b:Dat) (g:Nat) (i:Dat) (v:ByteArray) (w:Int) (L:Bool) (J:Int):Option (Bool):=l15_4 t j u x y A z l G I d b g i v w (t + u + y.toNat + l.toNat + G + J.toNat + d + g + v.size + w.toNat + 8) L J
def e15_4 (t:Nat) (j:Dat) (u:Nat) (x:Dat) (y:Int) (A z:Bool) (l:Int) (G:Nat) (I:Dat) (d:Nat) (b:Dat) (g:Nat) (i:Dat) (v:ByteArray) (w:Int) (r:Bool) (K:XR):Prop:=K (XE.exit 4) [.ro [W Z,W Z,.str,.str,.str,.bool] t j,.ptr 0 0,.ptr 1 0,.ro [.str] u x,V Z y,.bool A,.bool z,V Z l,.bool r] [.cells 25 [.ro [.str,W Z,W Z] d b,.ro [.str,W Z,W Z,W Z] g i],.cells 47 [.str v,V Z w]]
def g15_4:LSum:=fun s k=>match czv 0 204 [1,3,5,7,9,10,11,12,13,15,16] 2 [] s with
 | some ([.ro [W Z,W Z,.str,.str,.str,.bool] t j,.ptr 0 0,.ptr 1 0,.ro [.str] u x,V Z y,.bool A,.bool z,V Z l,.ro [.str,W Z] G I,.bool L,V Z J],[.cells 25 [.ro [.str,W Z,W Z] d b,.ro [.str,W Z,W Z,W Z] g i],.cells 47 [.str v,V Z w]])=>needs [(o15_4 t j u x y A z l G I d b g i v w L J).isSome] (e15_4 t j u x y A z l G I d b g i v w ((o15_4 t j u x y A z l G I d b g i v w L J).getD default) fun e vs bs=>inBlk 4 k e (mkSt 0 204 [1,3,5,7,9,10,11,12,15] vs 2 bs))
 | _=>False
theorem z15_4:LOk Try.prog g15_4 (.block 4 (bodyAt (Try.f15.body.getD .skip) 4)):=by
 refine lb (ι:=Nat × Dat × Nat × Dat × Int × Bool × Bool × Int × Nat × Dat × Bool × Int × Nat × Dat × Nat × Dat × ByteArray × Int) (fuel:=8) (na:=0) (nt:=204) (nx:=2) (Lh:=[1,3,5,7,9,10,11,12,13,15,16]) (Le:=[1,3,5,7,9,10,11,12,15]) (gl:=[]) (tc kSeal (tc k18 (tc k20 (tc k29 (tc k42 (tc k57 (tc k58 tn))))))) mix_ok noLam rfl (fun f (t,j,u,x,y,A,z,l,G,I,L,J,d,b,g,i,v,w) K=>GG default (e15_4 t j u x y A z l G I d b g i v w) K (l15_4 t j u x y A z l G I d b g i v w f L J)) (fun (t,j,u,x,y,A,z,l,G,I,L,J,d,b,g,i,v,w)=>[.ro [W Z,W Z,.str,.str,.str,.bool] t j,.ptr 0 0,.ptr 1 0,.ro [.str] u x,V Z y,.bool A,.bool z,V Z l,.ro [.str,W Z] G I,.bool L,V Z J]) (fun (t,j,u,x,y,A,z,l,G,I,L,J,d,b,g,i,v,w)=>[.cells 25 [.ro [.str,W Z,W Z] d b,.ro [.str,W Z,W Z,W Z] g i],.cells 47 [.str v,V Z w]]) (fun (_,_,_,_,_,_,_,_,_,_,_,_,_,_,_,_,_,_) K=>gg_none) ?_ ?_
 ·rintro f ⟨t,j,u,x,y,A,z,l,G,I,L,J,d,b,g,i,v,w⟩ K hG
  refine ro (fun R=>(cnd (decide (J < (↑G:Int)))
 (cnd (bif (bif (bif L then false else true) then false else true) then true else (decide (0≤J∧J < ↑G)))
 (R (XE.normal) [.ro [W Z,W Z,.str,.str,.str,.bool] t j,.ptr 0 0,.ptr 1 0,.ro [.str] u x,V Z y,.bool A,.bool z,V Z l,.ro [.str,W Z] G I,.bool (bif L then true else (bif (decide ((I.ss J.toNat 0) = v)) then (bif (decide ((I.ii J.toNat 1) = w)) then true else false) else false)),V Z (Z.wrap (J + 1))] [.cells 25 [.ro [.str,W Z,W Z] d b,.ro [.str,W Z,W Z,W Z] g i],.cells 47 [.str v,V Z w]])
  False)
 (R (XE.exit 4) [.ro [W Z,W Z,.str,.str,.str,.bool] t j,.ptr 0 0,.ptr 1 0,.ro [.str] u x,V Z y,.bool A,.bool z,V Z l,.bool L] [.cells 25 [.ro [.str,W Z,W Z] d b,.ro [.str,W Z,W Z,W Z] g i],.cells 47 [.str v,V Z w]]))) (fun R=>by kernel_rfl) ?_
  exact ch hG (fun h0=>cg h0 fun h1=>⟨(_,_,_,_,_,_,_,_,_,_,_,_,_,_,_,_,_,_),rfl,rfl,h1⟩) (fun h0=>h0.2)
 ·intro s k h
  unfold g15_4 at h
  split at h <;> try exact h.elim
  rename_i e1
  rw [needs_iff] at h
  exact ⟨_,e1,_,(_,_,_,_,_,_,_,_,_,_,_,_,_,_,_,_,_,_),rfl,rfl,h.1 _ (List.mem_singleton.2 rfl),h.2⟩
def l15_2 (t:Nat) (j:Dat) (u:Nat) (x:Dat) (y:Int) (d:Nat) (b:Dat) (g:Nat) (i:Dat) (v:ByteArray) (w:Int):Nat→Bool→Bool→Int→Option (Bool × (Bool × Bool) × (Bool))
 | 0,_,_,_=>none
 | f + 1,A,z,l=>(cond (decide (l≤(↑t:Int))) (cond (n20 d b g i) (cond (decide ((0:Int)≤(0:Int)∧(0:Int)≤l∧l≤(↑t:Int))) (cond (decide (((l - 0).toNat)≤1073741824)) (cond (decide (0≤y∧y < ↑d)) (cond (n29 (m20 d b g i).1 (m20 d b g i).2.1 (m20 d b g i).2.2.1 (m20 d b g i).2.2.2 ((l - 0).toNat) j (b.ss y.toNat 0)) (cond (bif (decide ((m29 (m20 d b g i).1 (m20 d b g i).2.1 (m20 d b g i).2.2.1 (m20 d b g i).2.2.2 ((l - 0).toNat) j (b.ss y.toNat 0)).2.2 = 0)) then false else true) (some (true,(false,A),default)) (cond ((o15_4 t j u x y A z l (m29 (m20 d b g i).1 (m20 d b g i).2.1 (m20 d b g i).2.2.1 (m20 d b g i).2.2.2 ((l - 0).toNat) j (b.ss y.toNat 0)).1 (m29 (m20 d b g i).1 (m20 d b g i).2.1 (m20 d b g i).2.2.1 (m20 d b g i).2.2.2 ((l - 0).toNat) j (b.ss y.toNat 0)).2.1 d b g i v w false 0).isSome) (cond (bif (bif (bif (bif (decide ((0:Int) < l)) then z else false) then (bif ((o15_4 t j u x y A z l (m29 (m20 d b g i).1 (m20 d b g i).2.1 (m20 d b g i).2.2.1 (m20 d b g i).2.2.2 ((l - 0).toNat) j (b.ss y.toNat 0)).1 (m29 (m20 d b g i).1 (m20 d b g i).2.1 (m20 d b g i).2.2.1 (m20 d b g i).2.2.2 ((l - 0).toNat) j (b.ss y.toNat 0)).2.1 d b g i v w false 0).getD default) then false else true) else false) then false else true) then true else (decide (0≤Z.wrap (l - 1)∧Z.wrap (l - 1) < (↑t:Int)))) (cond (bif (bif (bif (bif (bif (decide ((0:Int) < l)) then z else false) then (bif ((o15_4 t j u x y A z l (m29 (m20 d b g i).1 (m20 d b g i).2.1 (m20 d b g i).2.2.1 (m20 d b g i).2.2.2 ((l - 0).toNat) j (b.ss y.toNat 0)).1 (m29 (m20 d b g i).1 (m20 d b g i).2.1 (m20 d b g i).2.2.1 (m20 d b g i).2.2.2 ((l - 0).toNat) j (b.ss y.toNat 0)).2.1 d b g i v w false 0).getD default) then false else true) else false) then (bif (bif (decide ((j.ii ((Z.wrap (l - 1)).toNat) 0) = 3)) then false else true) then false else true) else false) then false else true) then true else (decide (0≤Z.wrap (l - 1)∧Z.wrap (l - 1) < (↑t:Int)))) (cond (bif (bif (bif (bif (bif (decide ((0:Int) < l)) then z else false) then (bif ((o15_4 t j u x y A z l (m29 (m20 d b g i).1 (m20 d b g i).2.1 (m20 d b g i).2.2.1 (m20 d b g i).2.2.2 ((l - 0).toNat) j (b.ss y.toNat 0)).1 (m29 (m20 d b g i).1 (m20 d b g i).2.1 (m20 d b g i).2.2.1 (m20 d b g i).2.2.2 ((l - 0).toNat) j (b.ss y.toNat 0)).2.1 d b g i v w false 0).getD default) then false else true) else false) then (bif (bif (decide ((j.ii ((Z.wrap (l - 1)).toNat) 0) = 3)) then false else true) then false else true) else false) then false else true) then true else (decide (0≤y∧y < ↑d))) (cond (bif (bif (bif (bif (bif (bif (bif (decide ((0:Int) < l)) then z else false) then (bif ((o15_4 t j u x y A z l (m29 (m20 d b g i).1 (m20 d b g i).2.1 (m20 d b g i).2.2.1 (m20 d b g i).2.2.2 ((l - 0).toNat) j (b.ss y.toNat 0)).1 (m29 (m20 d b g i).1 (m20 d b g i).2.1 (m20 d b g i).2.2.1 (m20 d b g i).2.2.2 ((l - 0).toNat) j (b.ss y.toNat 0)).2.1 d b g i v w false 0).getD default) then false else true) else false) then (bif (bif (decide ((j.ii ((Z.wrap (l - 1)).toNat) 0) = 3)) then false else true) then true else (bif (decide ((j.ss ((Z.wrap (l - 1)).toNat) 2) = (b.ss y.toNat 0))) then false else true)) else false) then false else true) then (bif (bif (decide ((0:Int) < l)) then (bif z then false else true) else false) then ((o15_4 t j u x y A z l (m29 (m20 d b g i).1 (m20 d b g i).2.1 (m20 d b g i).2.2.1 (m20 d b g i).2.2.2 ((l - 0).toNat) j (b.ss y.toNat 0)).1 (m29 (m20 d b g i).1 (m20 d b g i).2.1 (m20 d b g i).2.2.1 (m20 d b g i).2.2.2 ((l - 0).toNat) j (b.ss y.toNat 0)).2.1 d b g i v w false 0).getD default) else false) else false) then false else true) then true else (decide (0≤Z.wrap (l - 1)∧Z.wrap (l - 1) < (↑t:Int)))) (cond (bif (bif (bif (bif (bif (bif (bif (bif (decide ((0:Int) < l)) then z else false) then (bif ((o15_4 t j u x y A z l (m29 (m20 d b g i).1 (m20 d b g i).2.1 (m20 d b g i).2.2.1 (m20 d b g i).2.2.2 ((l - 0).toNat) j (b.ss y.toNat 0)).1 (m29 (m20 d b g i).1 (m20 d b g i).2.1 (m20 d b g i).2.2.1 (m20 d b g i).2.2.2 ((l - 0).toNat) j (b.ss y.toNat 0)).2.1 d b g i v w false 0).getD default) then false else true) else false) then (bif (bif (decide ((j.ii ((Z.wrap (l - 1)).toNat) 0) = 3)) then false else true) then true else (bif (decide ((j.ss ((Z.wrap (l - 1)).toNat) 2) = (b.ss y.toNat 0))) then false else true)) else false) then false else true) then (bif (bif (decide ((0:Int) < l)) then (bif z then false else true) else false) then ((o15_4 t j u x y A z l (m29 (m20 d b g i).1 (m20 d b g i).2.1 (m20 d b g i).2.2.1 (m20 d b g i).2.2.2 ((l - 0).toNat) j (b.ss y.toNat 0)).1 (m29 (m20 d b g i).1 (m20 d b g i).2.1 (m20 d b g i).2.2.1 (m20 d b g i).2.2.2 ((l - 0).toNat) j (b.ss y.toNat 0)).2.1 d b g i v w false 0).getD default) else false) else false) then (bif (bif (decide ((j.ii ((Z.wrap (l - 1)).toNat) 0) = 2)) then false else true) then false else true) else false) then false else true) then true else (decide (0≤Z.wrap (l - 1)∧Z.wrap (l - 1) < (↑t:Int)))) (cond (bif (bif (bif (bif (bif (bif (bif (bif (decide ((0:Int) < l)) then z else false) then (bif ((o15_4 t j u x y A z l (m29 (m20 d b g i).1 (m20 d b g i).2.1 (m20 d b g i).2.2.1 (m20 d b g i).2.2.2 ((l - 0).toNat) j (b.ss y.toNat 0)).1 (m29 (m20 d b g i).1 (m20 d b g i).2.1 (m20 d b g i).2.2.1 (m20 d b g i).2.2.2 ((l - 0).toNat) j (b.ss y.toNat 0)).2.1 d b g i v w false 0).getD default) then false else true) else false) then (bif (bif (decide ((j.ii ((Z.wrap (l - 1)).toNat) 0) = 3)) then false else true) then true else (bif (decide ((j.ss ((Z.wrap (l - 1)).toNat) 2) = (b.ss y.toNat 0))) then false else true)) else false) then false else true) then (bif (bif (decide ((0:Int) < l)) then (bif z then false else true) else false) then ((o15_4 t j u x y A z l (m29 (m20 d b g i).1 (m20 d b g i).2.1 (m20 d b g i).2.2.1 (m20 d b g i).2.2.2 ((l - 0).toNat) j (b.ss y.toNat 0)).1 (m29 (m20 d b g i).1 (m20 d b g i).2.1 (m20 d b g i).2.2.1 (m20 d b g i).2.2.2 ((l - 0).toNat) j (b.ss y.toNat 0)).2.1 d b g i v w false 0).getD default) else false) else false) then (bif (bif (decide ((j.ii ((Z.wrap (l - 1)).toNat) 0) = 2)) then false else true) then false else true) else false) then false else true) then true else (decide (0≤y∧y < ↑d))) (cond (bif (bif (bif (bif (decide ((0:Int) < l)) then z else false) then (bif ((o15_4 t j u x y A z l (m29 (m20 d b g i).1 (m20 d b g i).2.1 (m20 d b g i).2.2.1 (m20 d b g i).2.2.2 ((l - 0).toNat) j (b.ss y.toNat 0)).1 (m29 (m20 d b g i).1 (m20 d b g i).2.1 (m20 d b g i).2.2.1 (m20 d b g i).2.2.2 ((l - 0).toNat) j (b.ss y.toNat 0)).2.1 d b g i v w false 0).getD default) then false else true) else false) then (bif (bif (decide ((j.ii ((Z.wrap (l - 1)).toNat) 0) = 3)) then false else true) then true else (bif (decide ((j.ss ((Z.wrap (l - 1)).toNat) 2) = (b.ss y.toNat 0))) then false else true)) else false) then true else (bif (bif (bif (decide ((0:Int) < l)) then (bif z then false else true) else false) then ((o15_4 t j u x y A z l (m29 (m20 d b g i).1 (m20 d b g i).2.1 (m20 d b g i).2.2.1 (m20 d b g i).2.2.2 ((l - 0).toNat) j (b.ss y.toNat 0)).1 (m29 (m20 d b g i).1 (m20 d b g i).2.1 (m20 d b g i).2.2.1 (m20 d b g i).2.2.2 ((l - 0).toNat) j (b.ss y.toNat 0)).2.1 d b g i v w false 0).getD default) else false) then (bif (bif (decide ((j.ii ((Z.wrap (l - 1)).toNat) 0) = 2)) then false else true) then true else (bif (decide ((j.ss ((Z.wrap (l - 1)).toNat) 2) = (b.ss y.toNat 0))) then false else true)) else false)) (some (true,(false,A),default)) (l15_2 t j u x y d b g i v w f (bif A then true else ((o15_4 t j u x y A z l (m29 (m20 d b g i).1 (m20 d b g i).2.1 (m20 d b g i).2.2.1 (m20 d b g i).2.2.2 ((l - 0).toNat) j (b.ss y.toNat 0)).1 (m29 (m20 d b g i).1 (m20 d b g i).2.1 (m20 d b g i).2.2.1 (m20 d b g i).2.2.2 ((l - 0).toNat) j (b.ss y.toNat 0)).2.1 d b g i v w false 0).getD default)) ((o15_4 t j u x y A z l (m29 (m20 d b g i).1 (m20 d b g i).2.1 (m20 d b g i).2.2.1 (m20 d b g i).2.2.2 ((l - 0).toNat) j (b.ss y.toNat 0)).1 (m29 (m20 d b g i).1 (m20 d b g i).2.1 (m20 d b g i).2.2.1 (m20 d b g i).2.2.2 ((l - 0).toNat) j (b.ss y.toNat 0)).2.1 d b g i v w false 0).getD default) (Z.wrap (l + 1)))) none) none) none) none) none) none) none)) none) none) none) none) none) (some (false,default,A)))
abbrev o15_2 (t:Nat) (j:Dat) (u:Nat) (x:Dat) (y:Int) (d:Nat) (b:Dat) (g:Nat) (i:Dat) (v:ByteArray) (w:Int) (A z:Bool) (l:Int):Option (Bool × (Bool × Bool) × (Bool)):=l15_2 t j u x y d b g i v w (t + u + y.toNat + l.toNat + d + g + v.size + w.toNat + 8) A z l
def e15_2 (t:Nat) (j:Dat) (u:Nat) (x:Dat) (y:Int) (d:Nat) (b:Dat) (g:Nat) (i:Dat) (v:ByteArray) (w:Int) (r:Bool × (Bool × Bool) × (Bool)) (K:XR):Prop:=cnd r.1 (K (XE.ret) [.ro [W Z,W Z,.str,.str,.str,.bool] t j,.ptr 0 0,.ptr 1 0,.bool r.2.1.1,.ro [.str] u x,V Z y,.bool r.2.1.2] [.cells 25 [.ro [.str,W Z,W Z] d b,.ro [.str,W Z,W Z,W Z] g i],.cells 47 [.str v,V Z w]]) (K (XE.exit 2) [.ro [W Z,W Z,.str,.str,.str,.bool] t j,.ptr 0 0,.ptr 1 0,.any,.ro [.str] u x,V Z y,.bool r.2.2] [.cells 25 [.ro [.str,W Z,W Z] d b,.ro [.str,W Z,W Z,W Z] g i],.cells 47 [.str v,V Z w]])
def g15_2:LSum:=fun s k=>match czv 0 204 [1,3,5,7,9,10,11,12] 2 [] s with
 | some ([.ro [W Z,W Z,.str,.str,.str,.bool] t j,.ptr 0 0,.ptr 1 0,.ro [.str] u x,V Z y,.bool A,.bool z,V Z l],[.cells 25 [.ro [.str,W Z,W Z] d b,.ro [.str,W Z,W Z,W Z] g i],.cells 47 [.str v,V Z w]])=>needs [(o15_2 t j u x y d b g i v w A z l).isSome] (e15_2 t j u x y d b g i v w ((o15_2 t j u x y d b g i v w A z l).getD default) fun e vs bs=>inBlk 2 k e (mkSt 0 204 [1,3,5,6,7,9,10] vs 2 bs))
 | _=>False
theorem z15_2:LOk Try.prog g15_2 (.block 2 (bodyAt (Try.f15.body.getD .skip) 2)):=by
 refine lb (ι:=Nat × Dat × Nat × Dat × Int × Bool × Bool × Int × Nat × Dat × Nat × Dat × ByteArray × Int) (fuel:=8) (na:=0) (nt:=204) (nx:=2) (Lh:=[1,3,5,7,9,10,11,12]) (Le:=[1,3,5,6,7,9,10]) (gl:=[]) (tc kSeal (tc k18 (tc k20 (tc k29 (tc k42 (tc k57 (tc k58 tn))))))) mix_ok (lam_of rfl (lc z15_4 ln)) rfl (fun f (t,j,u,x,y,A,z,l,d,b,g,i,v,w) K=>GG default (e15_2 t j u x y d b g i v w) K (l15_2 t j u x y d b g i v w f A z l)) (fun (t,j,u,x,y,A,z,l,d,b,g,i,v,w)=>[.ro [W Z,W Z,.str,.str,.str,.bool] t j,.ptr 0 0,.ptr 1 0,.ro [.str] u x,V Z y,.bool A,.bool z,V Z l]) (fun (t,j,u,x,y,A,z,l,d,b,g,i,v,w)=>[.cells 25 [.ro [.str,W Z,W Z] d b,.ro [.str,W Z,W Z,W Z] g i],.cells 47 [.str v,V Z w]]) (fun (_,_,_,_,_,_,_,_,_,_,_,_,_,_) K=>gg_none) ?_ ?_
 ·rintro f ⟨t,j,u,x,y,A,z,l,d,b,g,i,v,w⟩ K hG
  refine ro (fun R=>(cnd (decide (l≤(↑t:Int)))
 (cnd (n20 d b g i)
 (cnd (decide ((0:Int)≤(0:Int)∧(0:Int)≤l∧l≤(↑t:Int)))
 (cnd (decide (((l - 0).toNat)≤1073741824))
 (cnd (decide (0≤y∧y < ↑d))
 (cnd (n29 (m20 d b g i).1 (m20 d b g i).2.1 (m20 d b g i).2.2.1 (m20 d b g i).2.2.2 ((l - 0).toNat) j (b.ss y.toNat 0))
 (cnd (bif (decide ((m29 (m20 d b g i).1 (m20 d b g i).2.1 (m20 d b g i).2.2.1 (m20 d b g i).2.2.2 ((l - 0).toNat) j (b.ss y.toNat 0)).2.2 = 0)) then false else true)
 (R (XE.ret) [.ro [W Z,W Z,.str,.str,.str,.bool] t j,.ptr 0 0,.ptr 1 0,.bool false,.ro [.str] u x,V Z y,.bool A] [.cells 25 [.ro [.str,W Z,W Z] d b,.ro [.str,W Z,W Z,W Z] g i],.cells 47 [.str v,V Z w]])
 (cnd ((o15_4 t j u x y A z l (m29 (m20 d b g i).1 (m20 d b g i).2.1 (m20 d b g i).2.2.1 (m20 d b g i).2.2.2 ((l - 0).toNat) j (b.ss y.toNat 0)).1 (m29 (m20 d b g i).1 (m20 d b g i).2.1 (m20 d b g i).2.2.1 (m20 d b g i).2.2.2 ((l - 0).toNat) j (b.ss y.toNat 0)).2.1 d b g i v w false 0).isSome)
 (cnd (bif (bif (bif (bif (decide ((0:Int) < l)) then z else false) then (bif ((o15_4 t j u x y A z l (m29 (m20 d b g i).1 (m20 d b g i).2.1 (m20 d b g i).2.2.1 (m20 d b g i).2.2.2 ((l - 0).toNat) j (b.ss y.toNat 0)).1 (m29 (m20 d b g i).1 (m20 d b g i).2.1 (m20 d b g i).2.2.1 (m20 d b g i).2.2.2 ((l - 0).toNat) j (b.ss y.toNat 0)).2.1 d b g i v w false 0).getD default) then false else true) else false) then false else true) then true else (decide (0≤Z.wrap (l - 1)∧Z.wrap (l - 1) < (↑t:Int))))
 (cnd (bif (bif (bif (bif (bif (decide ((0:Int) < l)) then z else false) then (bif ((o15_4 t j u x y A z l (m29 (m20 d b g i).1 (m20 d b g i).2.1 (m20 d b g i).2.2.1 (m20 d b g i).2.2.2 ((l - 0).toNat) j (b.ss y.toNat 0)).1 (m29 (m20 d b g i).1 (m20 d b g i).2.1 (m20 d b g i).2.2.1 (m20 d b g i).2.2.2 ((l - 0).toNat) j (b.ss y.toNat 0)).2.1 d b g i v w false 0).getD default) then false else true) else false) then (bif (bif (decide ((j.ii ((Z.wrap (l - 1)).toNat) 0) = 3)) then false else true) then false else true) else false) then false else true) then true else (decide (0≤Z.wrap (l - 1)∧Z.wrap (l - 1) < (↑t:Int))))
 (cnd (bif (bif (bif (bif (bif (decide ((0:Int) < l)) then z else false) then (bif ((o15_4 t j u x y A z l (m29 (m20 d b g i).1 (m20 d b g i).2.1 (m20 d b g i).2.2.1 (m20 d b g i).2.2.2 ((l - 0).toNat) j (b.ss y.toNat 0)).1 (m29 (m20 d b g i).1 (m20 d b g i).2.1 (m20 d b g i).2.2.1 (m20 d b g i).2.2.2 ((l - 0).toNat) j (b.ss y.toNat 0)).2.1 d b g i v w false 0).getD default) then false else true) else false) then (bif (bif (decide ((j.ii ((Z.wrap (l - 1)).toNat) 0) = 3)) then false else true) then false else true) else false) then false else true) then true else (decide (0≤y∧y < ↑d)))
 (cnd (bif (bif (bif (bif (bif (bif (bif (decide ((0:Int) < l)) then z else false) then (bif ((o15_4 t j u x y A z l (m29 (m20 d b g i).1 (m20 d b g i).2.1 (m20 d b g i).2.2.1 (m20 d b g i).2.2.2 ((l - 0).toNat) j (b.ss y.toNat 0)).1 (m29 (m20 d b g i).1 (m20 d b g i).2.1 (m20 d b g i).2.2.1 (m20 d b g i).2.2.2 ((l - 0).toNat) j (b.ss y.toNat 0)).2.1 d b g i v w false 0).getD default) then false else true) else false) then (bif (bif (decide ((j.ii ((Z.wrap (l - 1)).toNat) 0) = 3)) then false else true) then true else (bif (decide ((j.ss ((Z.wrap (l - 1)).toNat) 2) = (b.ss y.toNat 0))) then false else true)) else false) then false else true) then (bif (bif (decide ((0:Int) < l)) then (bif z then false else true) else false) then ((o15_4 t j u x y A z l (m29 (m20 d b g i).1 (m20 d b g i).2.1 (m20 d b g i).2.2.1 (m20 d b g i).2.2.2 ((l - 0).toNat) j (b.ss y.toNat 0)).1 (m29 (m20 d b g i).1 (m20 d b g i).2.1 (m20 d b g i).2.2.1 (m20 d b g i).2.2.2 ((l - 0).toNat) j (b.ss y.toNat 0)).2.1 d b g i v w false 0).getD default) else false) else false) then false else true) then true else (decide (0≤Z.wrap (l - 1)∧Z.wrap (l - 1) < (↑t:Int))))
 (cnd (bif (bif (bif (bif (bif (bif (bif (bif (decide ((0:Int) < l)) then z else false) then (bif ((o15_4 t j u x y A z l (m29 (m20 d b g i).1 (m20 d b g i).2.1 (m20 d b g i).2.2.1 (m20 d b g i).2.2.2 ((l - 0).toNat) j (b.ss y.toNat 0)).1 (m29 (m20 d b g i).1 (m20 d b g i).2.1 (m20 d b g i).2.2.1 (m20 d b g i).2.2.2 ((l - 0).toNat) j (b.ss y.toNat 0)).2.1 d b g i v w false 0).getD default) then false else true) else false) then (bif (bif (decide ((j.ii ((Z.wrap (l - 1)).toNat) 0) = 3)) then false else true) then true else (bif (decide ((j.ss ((Z.wrap (l - 1)).toNat) 2) = (b.ss y.toNat 0))) then false else true)) else false) then false else true) then (bif (bif (decide ((0:Int) < l)) then (bif z then false else true) else false) then ((o15_4 t j u x y A z l (m29 (m20 d b g i).1 (m20 d b g i).2.1 (m20 d b g i).2.2.1 (m20 d b g i).2.2.2 ((l - 0).toNat) j (b.ss y.toNat 0)).1 (m29 (m20 d b g i).1 (m20 d b g i).2.1 (m20 d b g i).2.2.1 (m20 d b g i).2.2.2 ((l - 0).toNat) j (b.ss y.toNat 0)).2.1 d b g i v w false 0).getD default) else false) else false) then (bif (bif (decide ((j.ii ((Z.wrap (l - 1)).toNat) 0) = 2)) then false else true) then false else true) else false) then false else true) then true else (decide (0≤Z.wrap (l - 1)∧Z.wrap (l - 1) < (↑t:Int))))
 (cnd (bif (bif (bif (bif (bif (bif (bif (bif (decide ((0:Int) < l)) then z else false) then (bif ((o15_4 t j u x y A z l (m29 (m20 d b g i).1 (m20 d b g i).2.1 (m20 d b g i).2.2.1 (m20 d b g i).2.2.2 ((l - 0).toNat) j (b.ss y.toNat 0)).1 (m29 (m20 d b g i).1 (m20 d b g i).2.1 (m20 d b g i).2.2.1 (m20 d b g i).2.2.2 ((l - 0).toNat) j (b.ss y.toNat 0)).2.1 d b g i v w false 0).getD default) then false else true) else false) then (bif (bif (decide ((j.ii ((Z.wrap (l - 1)).toNat) 0) = 3)) then false else true) then true else (bif (decide ((j.ss ((Z.wrap (l - 1)).toNat) 2) = (b.ss y.toNat 0))) then false else true)) else false) then false else true) then (bif (bif (decide ((0:Int) < l)) then (bif z then false else true) else false) then ((o15_4 t j u x y A z l (m29 (m20 d b g i).1 (m20 d b g i).2.1 (m20 d b g i).2.2.1 (m20 d b g i).2.2.2 ((l - 0).toNat) j (b.ss y.toNat 0)).1 (m29 (m20 d b g i).1 (m20 d b g i).2.1 (m20 d b g i).2.2.1 (m20 d b g i).2.2.2 ((l - 0).toNat) j (b.ss y.toNat 0)).2.1 d b g i v w false 0).getD default) else false) else false) then (bif (bif (decide ((j.ii ((Z.wrap (l - 1)).toNat) 0) = 2)) then false else true) then false else true) else false) then false else true) then true else (decide (0≤y∧y < ↑d)))
 (cnd (bif (bif (bif (bif (decide ((0:Int) < l)) then z else false) then (bif ((o15_4 t j u x y A z l (m29 (m20 d b g i).1 (m20 d b g i).2.1 (m20 d b g i).2.2.1 (m20 d b g i).2.2.2 ((l - 0).toNat) j (b.ss y.toNat 0)).1 (m29 (m20 d b g i).1 (m20 d b g i).2.1 (m20 d b g i).2.2.1 (m20 d b g i).2.2.2 ((l - 0).toNat) j (b.ss y.toNat 0)).2.1 d b g i v w false 0).getD default) then false else true) else false) then (bif (bif (decide ((j.ii ((Z.wrap (l - 1)).toNat) 0) = 3)) then false else true) then true else (bif (decide ((j.ss ((Z.wrap (l - 1)).toNat) 2) = (b.ss y.toNat 0))) then false else true)) else false) then true else (bif (bif (bif (decide ((0:Int) < l)) then (bif z then false else true) else false) then ((o15_4 t j u x y A z l (m29 (m20 d b g i).1 (m20 d b g i).2.1 (m20 d b g i).2.2.1 (m20 d b g i).2.2.2 ((l - 0).toNat) j (b.ss y.toNat 0)).1 (m29 (m20 d b g i).1 (m20 d b g i).2.1 (m20 d b g i).2.2.1 (m20 d b g i).2.2.2 ((l - 0).toNat) j (b.ss y.toNat 0)).2.1 d b g i v w false 0).getD default) else false) then (bif (bif (decide ((j.ii ((Z.wrap (l - 1)).toNat) 0) = 2)) then false else true) then true else (bif (decide ((j.ss ((Z.wrap (l - 1)).toNat) 2) = (b.ss y.toNat 0))) then false else true)) else false))
 (R (XE.ret) [.ro [W Z,W Z,.str,.str,.str,.bool] t j,.ptr 0 0,.ptr 1 0,.bool false,.ro [.str] u x,V Z y,.bool A] [.cells 25 [.ro [.str,W Z,W Z] d b,.ro [.str,W Z,W Z,W Z] g i],.cells 47 [.str v,V Z w]])
 (R (XE.normal) [.ro [W Z,W Z,.str,.str,.str,.bool] t j,.ptr 0 0,.ptr 1 0,.ro [.str] u x,V Z y,.bool (bif A then true else ((o15_4 t j u x y A z l (m29 (m20 d b g i).1 (m20 d b g i).2.1 (m20 d b g i).2.2.1 (m20 d b g i).2.2.2 ((l - 0).toNat) j (b.ss y.toNat 0)).1 (m29 (m20 d b g i).1 (m20 d b g i).2.1 (m20 d b g i).2.2.1 (m20 d b g i).2.2.2 ((l - 0).toNat) j (b.ss y.toNat 0)).2.1 d b g i v w false 0).getD default)),.bool ((o15_4 t j u x y A z l (m29 (m20 d b g i).1 (m20 d b g i).2.1 (m20 d b g i).2.2.1 (m20 d b g i).2.2.2 ((l - 0).toNat) j (b.ss y.toNat 0)).1 (m29 (m20 d b g i).1 (m20 d b g i).2.1 (m20 d b g i).2.2.1 (m20 d b g i).2.2.2 ((l - 0).toNat) j (b.ss y.toNat 0)).2.1 d b g i v w false 0).getD default),V Z (Z.wrap (l + 1))] [.cells 25 [.ro [.str,W Z,W Z] d b,.ro [.str,W Z,W Z,W Z] g i],.cells 47 [.str v,V Z w]]))
        False)
       False)
       False)
      False)
      False)
     False)
     False))
    False)
   False)
   False)
  False)
  False)
 (R (XE.exit 2) [.ro [W Z,W Z,.str,.str,.str,.bool] t j,.ptr 0 0,.ptr 1 0,.any,.ro [.str] u x,V Z y,.bool A] [.cells 25 [.ro [.str,W Z,W Z] d b,.ro [.str,W Z,W Z,W Z] g i],.cells 47 [.str v,V Z w]]))) (fun R=>by kernel_rfl) ?_
  exact ch hG (fun h0=>cg h0 fun h1=>cg h1 fun h2=>cg h2 fun h3=>cg h3 fun h4=>cg h4 fun h5=>ch h5 (fun h6=>h6.2) (fun h6=>cg h6 fun h7=>cg h7 fun h8=>cg h8 fun h9=>cg h9 fun h10=>cg h10 fun h11=>cg h11 fun h12=>cg h12 fun h13=>ch h13 (fun h14=>h14.2) (fun h14=>⟨(_,_,_,_,_,_,_,_,_,_,_,_,_,_),rfl,rfl,h14⟩))) (fun h0=>h0.2)
 ·intro s k h
  unfold g15_2 at h
  split at h <;> try exact h.elim
  rename_i e1
  rw [needs_iff] at h
  exact ⟨_,e1,_,(_,_,_,_,_,_,_,_,_,_,_,_,_,_),rfl,rfl,h.1 _ (List.mem_singleton.2 rfl),h.2⟩
def l15_0 (t:Nat) (j:Dat) (u:Nat) (x:Dat) (d:Nat) (b:Dat) (g:Nat) (i:Dat) (v:ByteArray) (w:Int):Nat→Int→Option (Bool × (Bool) × (Unit))
 | 0,_=>none
 | f + 1,y=>(cond (decide (y < (↑d:Int))) (cond (decide (0≤y∧y < ↑d)) (cond (bif (decide ((b.ii y.toNat 1) = 1)) then false else true) (cond (decide (0≤y∧y < ↑d)) (cond (n57 u x (b.ss y.toNat 0)) (cond (m57 u x (b.ss y.toNat 0)) (some (true,false,default)) (l15_0 t j u x d b g i v w f (Z.wrap (y + 1)))) none) none) (cond ((o15_2 t j u x y d b g i v w false false 0).isSome) (cond ((o15_2 t j u x y d b g i v w false false 0).getD default).1 (some (true,((o15_2 t j u x y d b g i v w false false 0).getD default).2.1.1,default)) (cond (decide (0≤y∧y < ↑d)) (cond (n57 u x (b.ss y.toNat 0)) (cond (bif (decide (((o15_2 t j u x y d b g i v w false false 0).getD default).2.2 = (m57 u x (b.ss y.toNat 0)))) then false else true) (some (true,false,default)) (l15_0 t j u x d b g i v w f (Z.wrap (y + 1)))) none) none)) none)) none) (some (false,default,())))
abbrev o15_0 (t:Nat) (j:Dat) (u:Nat) (x:Dat) (d:Nat) (b:Dat) (g:Nat) (i:Dat) (v:ByteArray) (w y:Int):Option (Bool × (Bool) × (Unit)):=l15_0 t j u x d b g i v w (t + u + y.toNat + d + g + v.size + w.toNat + 8) y
def e15_0 (t:Nat) (j:Dat) (u:Nat) (x:Dat) (d:Nat) (b:Dat) (g:Nat) (i:Dat) (v:ByteArray) (w:Int) (r:Bool × (Bool) × (Unit)) (K:XR):Prop:=cnd r.1 (K (XE.ret) [.bool r.2.1] [.cells 25 [.ro [.str,W Z,W Z] d b,.ro [.str,W Z,W Z,W Z] g i],.cells 47 [.str v,V Z w]]) (K (XE.exit 0) [.any] [.cells 25 [.ro [.str,W Z,W Z] d b,.ro [.str,W Z,W Z,W Z] g i],.cells 47 [.str v,V Z w]])
def g15_0:LSum:=fun s k=>match czv 0 204 [1,3,5,7,9] 2 [] s with
 | some ([.ro [W Z,W Z,.str,.str,.str,.bool] t j,.ptr 0 0,.ptr 1 0,.ro [.str] u x,V Z y],[.cells 25 [.ro [.str,W Z,W Z] d b,.ro [.str,W Z,W Z,W Z] g i],.cells 47 [.str v,V Z w]])=>needs [(o15_0 t j u x d b g i v w y).isSome] (e15_0 t j u x d b g i v w ((o15_0 t j u x d b g i v w y).getD default) fun e vs bs=>inBlk 0 k e (mkSt 0 204 [6] vs 2 bs))
 | _=>False
theorem z15_0:LOk Try.prog g15_0 (.block 0 (bodyAt (Try.f15.body.getD .skip) 0)):=by
 refine lb (ι:=Nat × Dat × Nat × Dat × Int × Nat × Dat × Nat × Dat × ByteArray × Int) (fuel:=8) (na:=0) (nt:=204) (nx:=2) (Lh:=[1,3,5,7,9]) (Le:=[6]) (gl:=[]) (tc kSeal (tc k18 (tc k20 (tc k29 (tc k42 (tc k57 (tc k58 tn))))))) mix_ok (lam_of rfl (lc z15_4 (lc z15_2 ln))) rfl (fun f (t,j,u,x,y,d,b,g,i,v,w) K=>GG default (e15_0 t j u x d b g i v w) K (l15_0 t j u x d b g i v w f y)) (fun (t,j,u,x,y,d,b,g,i,v,w)=>[.ro [W Z,W Z,.str,.str,.str,.bool] t j,.ptr 0 0,.ptr 1 0,.ro [.str] u x,V Z y]) (fun (t,j,u,x,y,d,b,g,i,v,w)=>[.cells 25 [.ro [.str,W Z,W Z] d b,.ro [.str,W Z,W Z,W Z] g i],.cells 47 [.str v,V Z w]]) (fun (_,_,_,_,_,_,_,_,_,_,_) K=>gg_none) ?_ ?_
 ·rintro f ⟨t,j,u,x,y,d,b,g,i,v,w⟩ K hG
  refine ro (fun R=>(cnd (decide (y < (↑d:Int)))
 (cnd (decide (0≤y∧y < ↑d))
 (cnd (bif (decide ((b.ii y.toNat 1) = 1)) then false else true)
 (cnd (decide (0≤y∧y < ↑d))
 (cnd (n57 u x (b.ss y.toNat 0))
 (cnd (m57 u x (b.ss y.toNat 0))
 (R (XE.ret) [.bool false] [.cells 25 [.ro [.str,W Z,W Z] d b,.ro [.str,W Z,W Z,W Z] g i],.cells 47 [.str v,V Z w]])
 (R (XE.normal) [.ro [W Z,W Z,.str,.str,.str,.bool] t j,.ptr 0 0,.ptr 1 0,.ro [.str] u x,V Z (Z.wrap (y + 1))] [.cells 25 [.ro [.str,W Z,W Z] d b,.ro [.str,W Z,W Z,W Z] g i],.cells 47 [.str v,V Z w]]))
   False)
   False)
 (cnd ((o15_2 t j u x y d b g i v w false false 0).isSome)
 (cnd ((o15_2 t j u x y d b g i v w false false 0).getD default).1
 (R (XE.ret) [.bool ((o15_2 t j u x y d b g i v w false false 0).getD default).2.1.1] [.cells 25 [.ro [.str,W Z,W Z] d b,.ro [.str,W Z,W Z,W Z] g i],.cells 47 [.str v,V Z w]])
 (cnd (decide (0≤y∧y < ↑d))
 (cnd (n57 u x (b.ss y.toNat 0))
 (cnd (bif (decide (((o15_2 t j u x y d b g i v w false false 0).getD default).2.2 = (m57 u x (b.ss y.toNat 0)))) then false else true)
 (R (XE.ret) [.bool false] [.cells 25 [.ro [.str,W Z,W Z] d b,.ro [.str,W Z,W Z,W Z] g i],.cells 47 [.str v,V Z w]])
 (R (XE.normal) [.ro [W Z,W Z,.str,.str,.str,.bool] t j,.ptr 0 0,.ptr 1 0,.ro [.str] u x,V Z (Z.wrap (y + 1))] [.cells 25 [.ro [.str,W Z,W Z] d b,.ro [.str,W Z,W Z,W Z] g i],.cells 47 [.str v,V Z w]]))
    False)
    False))
   False))
  False)
 (R (XE.exit 0) [.any] [.cells 25 [.ro [.str,W Z,W Z] d b,.ro [.str,W Z,W Z,W Z] g i],.cells 47 [.str v,V Z w]]))) (fun R=>by kernel_rfl) ?_
  exact ch hG (fun h0=>cg h0 fun h1=>ch h1 (fun h2=>cg h2 fun h3=>cg h3 fun h4=>ch h4 (fun h5=>h5.2) (fun h5=>⟨(_,_,_,_,_,_,_,_,_,_,_),rfl,rfl,h5⟩)) (fun h2=>cg h2 fun h3=>ch h3 (fun h4=>h4.2) (fun h4=>cg h4 fun h5=>cg h5 fun h6=>ch h6 (fun h7=>h7.2) (fun h7=>⟨(_,_,_,_,_,_,_,_,_,_,_),rfl,rfl,h7⟩)))) (fun h0=>h0.2)
 ·intro s k h
  unfold g15_0 at h
  split at h <;> try exact h.elim
  rename_i e1
  rw [needs_iff] at h
  exact ⟨_,e1,_,(_,_,_,_,_,_,_,_,_,_,_),rfl,rfl,h.1 _ (List.mem_singleton.2 rfl),h.2⟩
def m15 (m:Nat) (n:Dat) (o:Nat) (p:Dat) (E:Nat) (F:Dat) (C:ByteArray) (D:Int):Bool :=
 (cond (bif m58 then false else true) false (cond (bif (bif (m18 m n o p E F) then false else true) then true else (decide ((20:Int) < (↑C.size:Int)))) true (cond (bif (bif (bif (decide ((m42 (m20 m n o p).1 (m20 m n o p).2.1 (m20 m n o p).2.2.1 (m20 m n o p).2.2.2 E F C D).2.2 = 0)) then false else true) then true else (decide (6 < (↑m:Int)))) then true else (decide (12 < (↑E:Int)))) (bif (decide ((↑((m42 (m20 m n o p).1 (m20 m n o p).2.1 (m20 m n o p).2.2.1 (m20 m n o p).2.2.2 E F C D).1):Int) = 0)) then true else (decide ((m42 (m20 m n o p).1 (m20 m n o p).2.1 (m20 m n o p).2.2.1 (m20 m n o p).2.2.2 E F C D).2.2 = 0))) (cond ((o15_0 E F (m42 (m20 m n o p).1 (m20 m n o p).2.1 (m20 m n o p).2.2.1 (m20 m n o p).2.2.2 E F C D).1 (m42 (m20 m n o p).1 (m20 m n o p).2.1 (m20 m n o p).2.2.1 (m20 m n o p).2.2.2 E F C D).2.1 m n o p C D 0).getD default).1 ((o15_0 E F (m42 (m20 m n o p).1 (m20 m n o p).2.1 (m20 m n o p).2.2.1 (m20 m n o p).2.2.2 E F C D).1 (m42 (m20 m n o p).1 (m20 m n o p).2.1 (m20 m n o p).2.2.1 (m20 m n o p).2.2.2 E F C D).2.1 m n o p C D 0).getD default).2.1 true))))
def n15 (m:Nat) (n:Dat) (o:Nat) (p:Dat) (E:Nat) (F:Dat) (C:ByteArray) (D:Int):Bool :=
 ((n58) && (cond (bif m58 then false else true) true ((n18 m n o p E F) && (cond (bif (bif (m18 m n o p E F) then false else true) then true else (decide ((20:Int) < (↑C.size:Int)))) true ((n20 m n o p) && ((decide (E≤1073741824)) && ((n42 (m20 m n o p).1 (m20 m n o p).2.1 (m20 m n o p).2.2.1 (m20 m n o p).2.2.2 E F C D) && (cond (bif (bif (bif (decide ((m42 (m20 m n o p).1 (m20 m n o p).2.1 (m20 m n o p).2.2.1 (m20 m n o p).2.2.2 E F C D).2.2 = 0)) then false else true) then true else (decide (6 < (↑m:Int)))) then true else (decide (12 < (↑E:Int)))) true (((o15_0 E F (m42 (m20 m n o p).1 (m20 m n o p).2.1 (m20 m n o p).2.2.1 (m20 m n o p).2.2.2 E F C D).1 (m42 (m20 m n o p).1 (m20 m n o p).2.1 (m20 m n o p).2.2.1 (m20 m n o p).2.2.2 E F C D).2.1 m n o p C D 0).isSome) && true)))))))))
def q15 (r:Bool):SV × List Blk × List Blk:=(.bool r,[],[])
def g15:GF:=fun vs bs=>match vs,bs with
 | [.agg [.ro [.str,W Z,W Z] m n,.ro [.str,W Z,W Z,W Z] o p],.ro [W Z,W Z,.str,.str,.str,.bool] E F,.agg [.str C,V Z D]],[]=>some (rs 0 (q15 (m15 m n o p E F C D)) [n15 m n o p E F C D])
 | _,_=>none
def c15:Ctr:=genC [.a [.ro [.str,W Z,W Z],.ro [.str,W Z,W Z,W Z]],.ro [W Z,W Z,.str,.str,.str,.bool],.k] g15
theorem k15:CtrOk Try.prog c15 15:=cx (tc kSeal (tc k18 (tc k20 (tc k29 (tc k42 (tc k57 (tc k58 tn))))))) mix_ok 8 (fn:=Try.f15) (c:=(Try.f15.body.getD .skip)) (grs:=[]) (rh:=.k) Try.func15 rfl (by kernel_rfl) (lam_of rfl (lc z15_4 (lc z15_2 (lc z15_0 ln)))) fun vs bs q h hn=>by
 unfold g15 at h
 split at h <;> cases h
 rename_i m n o p E F C D
 have hn:=n1 hn
 exact ⟨_,rfl,ca (fun R=>(cnd (n58)
 (cnd (bif m58 then false else true)
 (R (.bool false) [] [])
 (cnd (n18 m n o p E F)
 (cnd (bif (bif (m18 m n o p E F) then false else true) then true else (decide ((20:Int) < (↑C.size:Int))))
 (R (.bool true) [] [])
 (cnd (n20 m n o p)
 (cnd (decide (E≤1073741824))
 (cnd (n42 (m20 m n o p).1 (m20 m n o p).2.1 (m20 m n o p).2.2.1 (m20 m n o p).2.2.2 E F C D)
 (cnd (bif (bif (bif (decide ((m42 (m20 m n o p).1 (m20 m n o p).2.1 (m20 m n o p).2.2.1 (m20 m n o p).2.2.2 E F C D).2.2 = 0)) then false else true) then true else (decide (6 < (↑m:Int)))) then true else (decide (12 < (↑E:Int))))
 (R (.bool (bif (decide ((↑((m42 (m20 m n o p).1 (m20 m n o p).2.1 (m20 m n o p).2.2.1 (m20 m n o p).2.2.2 E F C D).1):Int) = 0)) then true else (decide ((m42 (m20 m n o p).1 (m20 m n o p).2.1 (m20 m n o p).2.2.1 (m20 m n o p).2.2.2 E F C D).2.2 = 0)))) [] [])
 (cnd ((o15_0 E F (m42 (m20 m n o p).1 (m20 m n o p).2.1 (m20 m n o p).2.2.1 (m20 m n o p).2.2.2 E F C D).1 (m42 (m20 m n o p).1 (m20 m n o p).2.1 (m20 m n o p).2.2.1 (m20 m n o p).2.2.2 E F C D).2.1 m n o p C D 0).isSome)
 (cnd ((o15_0 E F (m42 (m20 m n o p).1 (m20 m n o p).2.1 (m20 m n o p).2.2.1 (m20 m n o p).2.2.2 E F C D).1 (m42 (m20 m n o p).1 (m20 m n o p).2.1 (m20 m n o p).2.2.1 (m20 m n o p).2.2.2 E F C D).2.1 m n o p C D 0).getD default).1
 (R (.bool ((o15_0 E F (m42 (m20 m n o p).1 (m20 m n o p).2.1 (m20 m n o p).2.2.1 (m20 m n o p).2.2.2 E F C D).1 (m42 (m20 m n o p).1 (m20 m n o p).2.1 (m20 m n o p).2.2.1 (m20 m n o p).2.2.2 E F C D).2.1 m n o p C D 0).getD default).2.1) [] [])
 (R (.bool true) [] []))
     False))
    False)
    False)
   False))
  False))
 False)) (fun R=>by kernel_rfl) (cn (al hn) (co (fun h0=>lf (cT h0 rfl) rfl) (fun h0=>cn (al (cf h0 (ar hn))) (co (fun h1=>lf (cF h0 (cT h1 rfl)) rfl) (fun h1=>cn (al (cf h1 (ar (cf h0 (ar hn))))) (cn (al (ar (cf h1 (ar (cf h0 (ar hn)))))) (cn (al (ar (ar (cf h1 (ar (cf h0 (ar hn))))))) (co (fun h2=>lf (cF h0 (cF h1 (cT h2 rfl))) rfl) (fun h2=>cn (al (cf h2 (ar (ar (ar (cf h1 (ar (cf h0 (ar hn))))))))) (co (fun h3=>lf (cF h0 (cF h1 (cF h2 (cT h3 rfl)))) rfl) (fun h3=>lf (cF h0 (cF h1 (cF h2 (cF h3 rfl)))) rfl)))))))))))⟩
end
end Go.Proofs.Ytldjapmfmhifkaa
