/-
 Contracts of functions: models, equations by the kernel, contracts. Conditions: none.
-/
import Derived.Test.YtldjapmfmhifkaaJ5
import Derived.KernelRfl
namespace Go.Proofs.Ytldjapmfmhifkaa
open Go Go.Sy
noncomputable section
set_option linter.unusedVariables false
set_option linter.unusedSimpArgs false
set_option maxRecDepth 100000
set_option maxHeartbeats 2000000
attribute [local irreducible] Go.IntKind.wrap Int.tdiv Int.tmod Int.fdiv
open Go.Sy renaming tabOk_cons→tc,tabOk_nil→tn,cnd_need→cn,leaf_of→lf,cnd_gg→cg,cnd_gg2→ch,cond_f→cf,cond_t→ct,cnd_of→co,callOf→ca,roundOf→ro,cnd_not→nn,lams_cons→lc,lams_nil→ln,condT→cT,condF→cF,need1→n1,resOf→rs,and_l→al,and_r→ar,or_gg→og,ctr_of→cx,loop_blk→lb
open Go.IntKind renaming i64→Z
open Go.Sy.SV renaming int→V
open Go.Sy.Kd renaming int→W
/-! ### shotline/kit.Usable -/
def m19 (b:Nat) (d:Dat) (e:Nat) (g:Dat) (i:Nat) (j:Dat) (l:ByteArray) (m:Int):Bool × Nat × Dat × Int :=
 (cond (bif (decide ((m62 b d e g i j).2.2.2=0)) then false else true) (false,0,noDat,(m62 b d e g i j).2.2.2) (cond (bif (m63 (m62 b d e g i j).2.1 l).1 then false else true) (false,0,noDat,6) (cond (bif (m64 m) then false else true) (false,0,noDat,2) (cond (decide (m<((m62 b d e g i j).2.1.ii 0 3))) (false,0,noDat,19) ((decide ((↑((m65 (m62 b d e g i j).2.1 (m63 (m62 b d e g i j).2.1 l).2 m).1):Int)=0)),(m65 (m62 b d e g i j).2.1 (m63 (m62 b d e g i j).2.1 l).2 m).1,(m65 (m62 b d e g i j).2.1 (m63 (m62 b d e g i j).2.1 l).2 m).2,0)))))
def n19 (b:Nat) (d:Dat) (e:Nat) (g:Dat) (i:Nat) (j:Dat) (l:ByteArray) (m:Int):Bool :=
 ((n62 b d e g i j)&&(cond (bif (decide ((m62 b d e g i j).2.2.2=0)) then false else true) true ((m62 b d e g i j).1&&((n63 (m62 b d e g i j).2.1 l)&&(cond (bif (m63 (m62 b d e g i j).2.1 l).1 then false else true) true (cond (bif (m64 m) then false else true) true ((m62 b d e g i j).1&&(cond (decide (m<((m62 b d e g i j).2.1.ii 0 3))) true ((m62 b d e g i j).1&&((m63 (m62 b d e g i j).2.1 l).1&&((n65 (m62 b d e g i j).2.1 (m63 (m62 b d e g i j).2.1 l).2 m)&&true)))))))))))
def q19 (r:Bool × Nat × Dat × Int):SV × List Blk × List Blk:=(.tup [.bool r.1,.ro [W Z,.str,.str,W Z] r.2.1 r.2.2.1,V Z r.2.2.2],[],[])
def g19:GF:=fun vs bs=>match vs,bs with
 | [.agg [.ro [.str,W Z,W Z] b d,.ro [.str,W Z,W Z,W Z] e g],.ro [W Z,W Z,.str,.str,.str,.bool] i j,.agg [.str l,V Z m]],[]=>some (rs 0 (q19 (m19 b d e g i j l m)) [n19 b d e g i j l m])
 | _,_=>none
def c19:Ctr:=genC [.a [.ro [.str,W Z,W Z],.ro [.str,W Z,W Z,W Z]],.ro [W Z,W Z,.str,.str,.str,.bool],.k] g19
theorem k19:CtrOk Try.prog c19 19:=cx (tc k62 (tc k63 (tc k64 (tc k65 tn)))) mix_ok 8 (fn:=Try.f19) (c:=(Try.f19.body.getD .skip)) (grs:=[]) (rh:=.t [.k,.ro [W Z,.str,.str,W Z],.k]) Try.func19 rfl (by kernel_rfl) noLam fun vs bs q h hn=>by
 unfold g19 at h
 split at h <;> cases h
 rename_i b d e g i j l m
 have hn:=n1 hn
 exact ⟨_,rfl,ca (fun R=>(cnd (n62 b d e g i j)
 (cnd (bif (decide ((m62 b d e g i j).2.2.2=0)) then false else true)
 (R (.tup [.bool false,.ro [W Z,.str,.str,W Z] 0 noDat,V Z (m62 b d e g i j).2.2.2]) [] [])
 (cnd (m62 b d e g i j).1
 (cnd (n63 (m62 b d e g i j).2.1 l)
 (cnd (bif (m63 (m62 b d e g i j).2.1 l).1 then false else true)
 (R (.tup [.bool false,.ro [W Z,.str,.str,W Z] 0 noDat,V Z 6]) [] [])
 (cnd (bif (m64 m) then false else true)
 (R (.tup [.bool false,.ro [W Z,.str,.str,W Z] 0 noDat,V Z 2]) [] [])
 (cnd (m62 b d e g i j).1
 (cnd (decide (m<((m62 b d e g i j).2.1.ii 0 3)))
 (R (.tup [.bool false,.ro [W Z,.str,.str,W Z] 0 noDat,V Z 19]) [] [])
 (cnd (m62 b d e g i j).1
 (cnd (m63 (m62 b d e g i j).2.1 l).1
 (cnd (n65 (m62 b d e g i j).2.1 (m63 (m62 b d e g i j).2.1 l).2 m)
 (R (.tup [.bool (decide ((↑((m65 (m62 b d e g i j).2.1 (m63 (m62 b d e g i j).2.1 l).2 m).1):Int)=0)),.ro [W Z,.str,.str,W Z] (m65 (m62 b d e g i j).2.1 (m63 (m62 b d e g i j).2.1 l).2 m).1 (m65 (m62 b d e g i j).2.1 (m63 (m62 b d e g i j).2.1 l).2 m).2,V Z 0]) [] [])
      False)
      False)
     False))
    False)))
   False)
  False))
 False)) (fun R=>by kernel_rfl) (cn (al hn) (co (fun h0=>lf (cT h0 rfl) rfl) (fun h0=>cn (al (cf h0 (ar hn))) (cn (al (ar (cf h0 (ar hn)))) (co (fun h1=>lf (cF h0 (cT h1 rfl)) rfl) (fun h1=>co (fun h2=>lf (cF h0 (cF h1 (cT h2 rfl))) rfl) (fun h2=>cn (al (cf h2 (cf h1 (ar (ar (cf h0 (ar hn))))))) (co (fun h3=>lf (cF h0 (cF h1 (cF h2 (cT h3 rfl)))) rfl) (fun h3=>cn (al (cf h3 (ar (cf h2 (cf h1 (ar (ar (cf h0 (ar hn))))))))) (cn (al (ar (cf h3 (ar (cf h2 (cf h1 (ar (ar (cf h0 (ar hn)))))))))) (cn (al (ar (ar (cf h3 (ar (cf h2 (cf h1 (ar (ar (cf h0 (ar hn))))))))))) (lf (cF h0 (cF h1 (cF h2 (cF h3 rfl)))) rfl))))))))))))⟩
/-! ### shotline/kit.Quarantined -/
def m31 (b:Nat) (d:Dat) (e:Nat) (g:Dat) (i:Nat) (j:Dat):Nat × Dat × Int :=
 (cond (bif (decide ((m62 b d e g i j).2.2.2=0)) then false else true) (0,noDat,(m62 b d e g i j).2.2.2) ((m72c79 (m62 b d e g i j).2.1 (datC [SV.rp [Kd.sl [Kd.str,Kd.int Z,Kd.int Z],Kd.sl [Kd.str,Kd.int Z,Kd.int Z,Kd.int Z],Kd.sl [Kd.pt [Kd.str,Kd.int Z,Kd.int Z,Kd.mi [Kd.int Z,Kd.int Z,Kd.bool],Kd.mb,Kd.mb,Kd.int Z,Kd.bool,Kd.m1]],Kd.int Z] (m62 b d e g i j).2.1 0 0])).1,(m72c79 (m62 b d e g i j).2.1 (datC [SV.rp [Kd.sl [Kd.str,Kd.int Z,Kd.int Z],Kd.sl [Kd.str,Kd.int Z,Kd.int Z,Kd.int Z],Kd.sl [Kd.pt [Kd.str,Kd.int Z,Kd.int Z,Kd.mi [Kd.int Z,Kd.int Z,Kd.bool],Kd.mb,Kd.mb,Kd.int Z,Kd.bool,Kd.m1]],Kd.int Z] (m62 b d e g i j).2.1 0 0])).2.2,0))
def n31 (b:Nat) (d:Dat) (e:Nat) (g:Dat) (i:Nat) (j:Dat):Bool :=
 ((n62 b d e g i j)&&(cond (bif (decide ((m62 b d e g i j).2.2.2=0)) then false else true) true ((m62 b d e g i j).1&&((m62 b d e g i j).1&&((n72c79 (m62 b d e g i j).2.1 (datC [SV.rp [Kd.sl [Kd.str,Kd.int Z,Kd.int Z],Kd.sl [Kd.str,Kd.int Z,Kd.int Z,Kd.int Z],Kd.sl [Kd.pt [Kd.str,Kd.int Z,Kd.int Z,Kd.mi [Kd.int Z,Kd.int Z,Kd.bool],Kd.mb,Kd.mb,Kd.int Z,Kd.bool,Kd.m1]],Kd.int Z] (m62 b d e g i j).2.1 0 0]))&&((decide ((0+(m72c79 (m62 b d e g i j).2.1 (datC [SV.rp [Kd.sl [Kd.str,Kd.int Z,Kd.int Z],Kd.sl [Kd.str,Kd.int Z,Kd.int Z,Kd.int Z],Kd.sl [Kd.pt [Kd.str,Kd.int Z,Kd.int Z,Kd.mi [Kd.int Z,Kd.int Z,Kd.bool],Kd.mb,Kd.mb,Kd.int Z,Kd.bool,Kd.m1]],Kd.int Z] (m62 b d e g i j).2.1 0 0])).1)≤(m72c79 (m62 b d e g i j).2.1 (datC [SV.rp [Kd.sl [Kd.str,Kd.int Z,Kd.int Z],Kd.sl [Kd.str,Kd.int Z,Kd.int Z,Kd.int Z],Kd.sl [Kd.pt [Kd.str,Kd.int Z,Kd.int Z,Kd.mi [Kd.int Z,Kd.int Z,Kd.bool],Kd.mb,Kd.mb,Kd.int Z,Kd.bool,Kd.m1]],Kd.int Z] (m62 b d e g i j).2.1 0 0])).2.1))&&true))))))
def q31 (r:Nat × Dat × Int):SV × List Blk × List Blk:=(.tup [.ro [.str] r.1 r.2.1,V Z r.2.2],[],[])
def g31:GF:=fun vs bs=>match vs,bs with
 | [.agg [.ro [.str,W Z,W Z] b d,.ro [.str,W Z,W Z,W Z] e g],.ro [W Z,W Z,.str,.str,.str,.bool] i j],[]=>some (rs 0 (q31 (m31 b d e g i j)) [n31 b d e g i j])
 | _,_=>none
def c31:Ctr:=genC [.a [.ro [.str,W Z,W Z],.ro [.str,W Z,W Z,W Z]],.ro [W Z,W Z,.str,.str,.str,.bool]] g31
theorem k31:CtrOk Try.prog c31 31:=cx (tc k62 (tc k72c79 (tc k79 tn))) mix_ok 8 (fn:=Try.f31) (c:=(Try.f31.body.getD .skip)) (grs:=[]) (rh:=.t [.ro [.str],.k]) Try.func31 rfl (by kernel_rfl) noLam fun vs bs q h hn=>by
 unfold g31 at h
 split at h <;> cases h
 rename_i b d e g i j
 have hn:=n1 hn
 exact ⟨_,rfl,ca (fun R=>(cnd (n62 b d e g i j)
 (cnd (bif (decide ((m62 b d e g i j).2.2.2=0)) then false else true)
 (R (.tup [.ro [.str] 0 noDat,V Z (m62 b d e g i j).2.2.2]) [] [])
 (cnd (m62 b d e g i j).1
 (cnd (m62 b d e g i j).1
 (cnd (n72c79 (m62 b d e g i j).2.1 (datC [SV.rp [Kd.sl [Kd.str,Kd.int Z,Kd.int Z],Kd.sl [Kd.str,Kd.int Z,Kd.int Z,Kd.int Z],Kd.sl [Kd.pt [Kd.str,Kd.int Z,Kd.int Z,Kd.mi [Kd.int Z,Kd.int Z,Kd.bool],Kd.mb,Kd.mb,Kd.int Z,Kd.bool,Kd.m1]],Kd.int Z] (m62 b d e g i j).2.1 0 0]))
 (cnd (decide ((0+(m72c79 (m62 b d e g i j).2.1 (datC [SV.rp [Kd.sl [Kd.str,Kd.int Z,Kd.int Z],Kd.sl [Kd.str,Kd.int Z,Kd.int Z,Kd.int Z],Kd.sl [Kd.pt [Kd.str,Kd.int Z,Kd.int Z,Kd.mi [Kd.int Z,Kd.int Z,Kd.bool],Kd.mb,Kd.mb,Kd.int Z,Kd.bool,Kd.m1]],Kd.int Z] (m62 b d e g i j).2.1 0 0])).1)≤(m72c79 (m62 b d e g i j).2.1 (datC [SV.rp [Kd.sl [Kd.str,Kd.int Z,Kd.int Z],Kd.sl [Kd.str,Kd.int Z,Kd.int Z,Kd.int Z],Kd.sl [Kd.pt [Kd.str,Kd.int Z,Kd.int Z,Kd.mi [Kd.int Z,Kd.int Z,Kd.bool],Kd.mb,Kd.mb,Kd.int Z,Kd.bool,Kd.m1]],Kd.int Z] (m62 b d e g i j).2.1 0 0])).2.1))
 (R (.tup [.ro [.str] (m72c79 (m62 b d e g i j).2.1 (datC [SV.rp [Kd.sl [Kd.str,Kd.int Z,Kd.int Z],Kd.sl [Kd.str,Kd.int Z,Kd.int Z,Kd.int Z],Kd.sl [Kd.pt [Kd.str,Kd.int Z,Kd.int Z,Kd.mi [Kd.int Z,Kd.int Z,Kd.bool],Kd.mb,Kd.mb,Kd.int Z,Kd.bool,Kd.m1]],Kd.int Z] (m62 b d e g i j).2.1 0 0])).1 (m72c79 (m62 b d e g i j).2.1 (datC [SV.rp [Kd.sl [Kd.str,Kd.int Z,Kd.int Z],Kd.sl [Kd.str,Kd.int Z,Kd.int Z,Kd.int Z],Kd.sl [Kd.pt [Kd.str,Kd.int Z,Kd.int Z,Kd.mi [Kd.int Z,Kd.int Z,Kd.bool],Kd.mb,Kd.mb,Kd.int Z,Kd.bool,Kd.m1]],Kd.int Z] (m62 b d e g i j).2.1 0 0])).2.2,V Z 0]) [] [])
    False)
   False)
   False)
  False))
 False)) (fun R=>by kernel_rfl) (cn (al hn) (co (fun h0=>lf (cT h0 rfl) rfl) (fun h0=>cn (al (cf h0 (ar hn))) (cn (al (ar (cf h0 (ar hn)))) (cn (al (ar (ar (cf h0 (ar hn))))) (cn (al (ar (ar (ar (cf h0 (ar hn)))))) (lf (cF h0 rfl) rfl)))))))⟩
/-! ### shotline/kit.BatchesIn -/
def l29_1 (y:Bool) (u:Dat) (o:Nat) (m:Dat) (D:Int) (w:Nat) (z:Dat) (x:Nat) (A:Dat):Nat→Nat→Int→Dat→Option (Nat × Nat × Dat)
 | 0,_,_,_=>none
 | f+1,v,p,C=>(cond (decide (p<D)) (cond (decide (0≤p∧p<↑o)) (cond (y) (cond (n77 u (m.ii p.toNat 0) (m.ii p.toNat 1)) (cond (decide ((v+1)≤1073741824)) (l29_1 y u o m D w z x A f (v+1) (Z.wrap (p+1)) (C.app v (datS [SV.str (m77 u (m.ii p.toNat 0) (m.ii p.toNat 1)).1,V Z (m77 u (m.ii p.toNat 0) (m.ii p.toNat 1)).2] 2))) none) none) none) none) (some (v,v,C)))
abbrev o29_1 (y:Bool) (u:Dat) (o:Nat) (m:Dat) (D:Int) (w:Nat) (z:Dat) (x:Nat) (A:Dat) (v:Nat) (p:Int) (C:Dat):Option (Nat × Nat × Dat):=l29_1 y u o m D w z x A (v+o+D.toNat+p.toNat+w+x+8) v p C
def e29_1 (y:Bool) (u:Dat) (o:Nat) (m:Dat) (D:Int) (w:Nat) (z:Dat) (x:Nat) (A:Dat) (r:Nat × Nat × Dat) (K:XR):Prop:=K (XE.exit 1) [.gr 1 2 r.1] [.cells 25 [.ro [.str,W Z,W Z] w z,.ro [.str,W Z,W Z,W Z] x A],.row 47 [.str,W Z] r.2.1 r.2.2]
def g29_1:LSum:=fun s k=>match czv 0 56 [8,12,42,43,44] 2 [⟨true,12,0,1,47,[.str,W Z]⟩] s with
 | some ([.rq y [.sl [.str,W Z,W Z],.sl [.str,W Z,W Z,W Z],.sl [.pt [.str,W Z,W Z,.mi [W Z,W Z,.bool],.mb,.mb,W Z,.bool,.m1]],W Z] u 0 0,.gr 1 2 v,.ro [W Z,W Z] o m,V Z D,V Z p],[.cells 25 [.ro [.str,W Z,W Z] w z,.ro [.str,W Z,W Z,W Z] x A],.row 47 [.str,W Z] b1_0 C])=>needs [decide (v=b1_0),(o29_1 y u o m D w z x A v p C).isSome] (e29_1 y u o m D w z x A ((o29_1 y u o m D w z x A v p C).getD default) fun e vs bs=>inBlk 1 k e (mkSt 0 56 [12] vs 2 bs))
 | _=>False
theorem z29_1:LOk Try.prog g29_1 (.block 1 (bodyAt (Try.f29.body.getD .skip) 1)):=by
 refine lb (ι:=Bool × Dat × Nat × Nat × Dat × Int × Int × Nat × Dat × Nat × Dat × Dat) (fuel:=8) (na:=0) (nt:=56) (nx:=2) (Lh:=[8,12,42,43,44]) (Le:=[12]) (gl:=[⟨true,12,0,1,47,[.str,W Z]⟩]) (tc k62 (tc k63 (tc k75c76 (tc k76 (tc k77 tn))))) mix_ok noLam rfl (fun f (y,u,v,o,m,D,p,w,z,x,A,C) K=>GG default (e29_1 y u o m D w z x A) K (l29_1 y u o m D w z x A f v p C)) (fun (y,u,v,o,m,D,p,w,z,x,A,C)=>[.rq y [.sl [.str,W Z,W Z],.sl [.str,W Z,W Z,W Z],.sl [.pt [.str,W Z,W Z,.mi [W Z,W Z,.bool],.mb,.mb,W Z,.bool,.m1]],W Z] u 0 0,.gr 1 2 v,.ro [W Z,W Z] o m,V Z D,V Z p]) (fun (y,u,v,o,m,D,p,w,z,x,A,C)=>[.cells 25 [.ro [.str,W Z,W Z] w z,.ro [.str,W Z,W Z,W Z] x A],.row 47 [.str,W Z] v C]) (fun (_,_,_,_,_,_,_,_,_,_,_,_) K=>gg_none) ?_ ?_
 ·rintro f ⟨y,u,v,o,m,D,p,w,z,x,A,C⟩ K hG
  refine ro (fun R=>(cnd (decide (p<D))
 (cnd (decide (0≤p∧p<↑o))
 (cnd (y)
 (cnd (n77 u (m.ii p.toNat 0) (m.ii p.toNat 1))
 (cnd (decide (v≤v))
 (cnd (decide ((v+1)≤1073741824))
 (R (XE.normal) [.rq y [.sl [.str,W Z,W Z],.sl [.str,W Z,W Z,W Z],.sl [.pt [.str,W Z,W Z,.mi [W Z,W Z,.bool],.mb,.mb,W Z,.bool,.m1]],W Z] u 0 0,.gr 1 2 (v+1),.ro [W Z,W Z] o m,V Z D,V Z (Z.wrap (p+1))] [.cells 25 [.ro [.str,W Z,W Z] w z,.ro [.str,W Z,W Z,W Z] x A],.row 47 [.str,W Z] (v+1) (C.app v (datS [SV.str (m77 u (m.ii p.toNat 0) (m.ii p.toNat 1)).1,V Z (m77 u (m.ii p.toNat 0) (m.ii p.toNat 1)).2] 2))])
    False)
   False)
   False)
  False)
  False)
 (R (XE.exit 1) [.gr 1 2 v] [.cells 25 [.ro [.str,W Z,W Z] w z,.ro [.str,W Z,W Z,W Z] x A],.row 47 [.str,W Z] v C]))) (fun R=>by kernel_rfl) ?_
  exact ch hG (fun h0=>cg h0 fun h1=>cg h1 fun h2=>cg h2 fun h3=>cn (decide_eq_true (Nat.le_refl _)) (cg h3 fun h4=>⟨(_,_,_,_,_,_,_,_,_,_,_,_),rfl,rfl,h4⟩)) (fun h0=>h0.2)
 ·intro s k h
  unfold g29_1 at h
  split at h <;> try exact h.elim
  rename_i e1
  rw [needs_iff] at h
  have hq:=h.1
  simp only [List.mem_cons,forall_eq_or_imp,decide_eq_true_eq,List.not_mem_nil,false_imp_iff,implies_true,and_true] at hq
  obtain ⟨rfl,hq⟩:=hq
  exact ⟨_,e1,_,(_,_,_,_,_,_,_,_,_,_,_,_),rfl,rfl,hq,h.2⟩
def m29 (b:Nat) (d:Dat) (g:Nat) (i:Dat) (j:Nat) (l:Dat) (n:ByteArray):Nat × Dat × Int :=
 (cond (bif (decide ((m62 b d g i j l).2.2.2=0)) then false else true) (0,noDat,(m62 b d g i j l).2.2.2) (cond (bif (m63 (m62 b d g i j l).2.1 n).1 then false else true) (0,noDat,6) (cond (bif (decide (((m63 (m62 b d g i j l).2.1 n).2.ii 0 1)=1)) then false else true) (0,noDat,27) (((o29_1 (m62 b d g i j l).1 (m62 b d g i j l).2.1 ((m75c76 ((m63 (m62 b d g i j l).2.1 n).2.sub 0 (0+1+1+1+1))).length) ({ ii:=fun q c=>bif decide (c=0) then (↑((m75c76 ((m63 (m62 b d g i j l).2.1 n).2.sub 0 (0+1+1+1+1)))[q]?.getD (0,0)).1:Int) else (↑((m75c76 ((m63 (m62 b d g i j l).2.1 n).2.sub 0 (0+1+1+1+1)))[q]?.getD (0,0)).2:Int),ss:=noDat.ss,bb:=noDat.bb,sn:=noDat.sn,sd:=noDat.sd }) (↑((m75c76 ((m63 (m62 b d g i j l).2.1 n).2.sub 0 (0+1+1+1+1))).length):Int) b d g i 0 0 noDat).getD default).1,((o29_1 (m62 b d g i j l).1 (m62 b d g i j l).2.1 ((m75c76 ((m63 (m62 b d g i j l).2.1 n).2.sub 0 (0+1+1+1+1))).length) ({ ii:=fun q c=>bif decide (c=0) then (↑((m75c76 ((m63 (m62 b d g i j l).2.1 n).2.sub 0 (0+1+1+1+1)))[q]?.getD (0,0)).1:Int) else (↑((m75c76 ((m63 (m62 b d g i j l).2.1 n).2.sub 0 (0+1+1+1+1)))[q]?.getD (0,0)).2:Int),ss:=noDat.ss,bb:=noDat.bb,sn:=noDat.sn,sd:=noDat.sd }) (↑((m75c76 ((m63 (m62 b d g i j l).2.1 n).2.sub 0 (0+1+1+1+1))).length):Int) b d g i 0 0 noDat).getD default).2.2,0))))
def n29 (b:Nat) (d:Dat) (g:Nat) (i:Dat) (j:Nat) (l:Dat) (n:ByteArray):Bool :=
 ((n62 b d g i j l)&&(cond (bif (decide ((m62 b d g i j l).2.2.2=0)) then false else true) true ((m62 b d g i j l).1&&((n63 (m62 b d g i j l).2.1 n)&&(cond (bif (m63 (m62 b d g i j l).2.1 n).1 then false else true) true ((m63 (m62 b d g i j l).2.1 n).1&&(cond (bif (decide (((m63 (m62 b d g i j l).2.1 n).2.ii 0 1)=1)) then false else true) true ((m63 (m62 b d g i j l).2.1 n).1&&((n75c76 ((m63 (m62 b d g i j l).2.1 n).2.sub 0 4))&&(((o29_1 (m62 b d g i j l).1 (m62 b d g i j l).2.1 ((m75c76 ((m63 (m62 b d g i j l).2.1 n).2.sub 0 (0+1+1+1+1))).length) ({ ii:=fun q c=>bif decide (c=0) then (↑((m75c76 ((m63 (m62 b d g i j l).2.1 n).2.sub 0 (0+1+1+1+1)))[q]?.getD (0,0)).1:Int) else (↑((m75c76 ((m63 (m62 b d g i j l).2.1 n).2.sub 0 (0+1+1+1+1)))[q]?.getD (0,0)).2:Int),ss:=noDat.ss,bb:=noDat.bb,sn:=noDat.sn,sd:=noDat.sd }) (↑((m75c76 ((m63 (m62 b d g i j l).2.1 n).2.sub 0 (0+1+1+1+1))).length):Int) b d g i 0 0 noDat).isSome)&&((decide ((0+((o29_1 (m62 b d g i j l).1 (m62 b d g i j l).2.1 ((m75c76 ((m63 (m62 b d g i j l).2.1 n).2.sub 0 (0+1+1+1+1))).length) ({ ii:=fun q c=>bif decide (c=0) then (↑((m75c76 ((m63 (m62 b d g i j l).2.1 n).2.sub 0 (0+1+1+1+1)))[q]?.getD (0,0)).1:Int) else (↑((m75c76 ((m63 (m62 b d g i j l).2.1 n).2.sub 0 (0+1+1+1+1)))[q]?.getD (0,0)).2:Int),ss:=noDat.ss,bb:=noDat.bb,sn:=noDat.sn,sd:=noDat.sd }) (↑((m75c76 ((m63 (m62 b d g i j l).2.1 n).2.sub 0 (0+1+1+1+1))).length):Int) b d g i 0 0 noDat).getD default).1)≤((o29_1 (m62 b d g i j l).1 (m62 b d g i j l).2.1 ((m75c76 ((m63 (m62 b d g i j l).2.1 n).2.sub 0 (0+1+1+1+1))).length) ({ ii:=fun q c=>bif decide (c=0) then (↑((m75c76 ((m63 (m62 b d g i j l).2.1 n).2.sub 0 (0+1+1+1+1)))[q]?.getD (0,0)).1:Int) else (↑((m75c76 ((m63 (m62 b d g i j l).2.1 n).2.sub 0 (0+1+1+1+1)))[q]?.getD (0,0)).2:Int),ss:=noDat.ss,bb:=noDat.bb,sn:=noDat.sn,sd:=noDat.sd }) (↑((m75c76 ((m63 (m62 b d g i j l).2.1 n).2.sub 0 (0+1+1+1+1))).length):Int) b d g i 0 0 noDat).getD default).2.1))&&true)))))))))))
def q29 (r:Nat × Dat × Int):SV × List Blk × List Blk:=(.tup [.ro [.str,W Z] r.1 r.2.1,V Z r.2.2],[],[])
def g29:GF:=fun vs bs=>match vs,bs with
 | [.agg [.ro [.str,W Z,W Z] b d,.ro [.str,W Z,W Z,W Z] g i],.ro [W Z,W Z,.str,.str,.str,.bool] j l,.str n],[]=>some (rs 0 (q29 (m29 b d g i j l n)) [n29 b d g i j l n])
 | _,_=>none
def c29:Ctr:=genC [.a [.ro [.str,W Z,W Z],.ro [.str,W Z,W Z,W Z]],.ro [W Z,W Z,.str,.str,.str,.bool],.k] g29
theorem k29:CtrOk Try.prog c29 29:=cx (tc k62 (tc k63 (tc k75c76 (tc k76 (tc k77 tn))))) mix_ok 8 (fn:=Try.f29) (c:=(Try.f29.body.getD .skip)) (grs:=[]) (rh:=.t [.ro [.str,W Z],.k]) Try.func29 rfl (by kernel_rfl) (lam_of rfl (lc z29_1 ln)) fun vs bs q h hn=>by
 unfold g29 at h
 split at h <;> cases h
 rename_i b d g i j l n
 have hn:=n1 hn
 exact ⟨_,rfl,ca (fun R=>(cnd (n62 b d g i j l)
 (cnd (bif (decide ((m62 b d g i j l).2.2.2=0)) then false else true)
 (R (.tup [.ro [.str,W Z] 0 noDat,V Z (m62 b d g i j l).2.2.2]) [] [])
 (cnd (m62 b d g i j l).1
 (cnd (n63 (m62 b d g i j l).2.1 n)
 (cnd (bif (m63 (m62 b d g i j l).2.1 n).1 then false else true)
 (R (.tup [.ro [.str,W Z] 0 noDat,V Z 6]) [] [])
 (cnd (m63 (m62 b d g i j l).2.1 n).1
 (cnd (bif (decide (((m63 (m62 b d g i j l).2.1 n).2.ii 0 1)=1)) then false else true)
 (R (.tup [.ro [.str,W Z] 0 noDat,V Z 27]) [] [])
 (cnd (m63 (m62 b d g i j l).2.1 n).1
 (cnd (n75c76 ((m63 (m62 b d g i j l).2.1 n).2.sub 0 4))
 (cnd ((o29_1 (m62 b d g i j l).1 (m62 b d g i j l).2.1 ((m75c76 ((m63 (m62 b d g i j l).2.1 n).2.sub 0 (0+1+1+1+1))).length) ({ ii:=fun q c=>bif decide (c=0) then (↑((m75c76 ((m63 (m62 b d g i j l).2.1 n).2.sub 0 (0+1+1+1+1)))[q]?.getD (0,0)).1:Int) else (↑((m75c76 ((m63 (m62 b d g i j l).2.1 n).2.sub 0 (0+1+1+1+1)))[q]?.getD (0,0)).2:Int),ss:=noDat.ss,bb:=noDat.bb,sn:=noDat.sn,sd:=noDat.sd }) (↑((m75c76 ((m63 (m62 b d g i j l).2.1 n).2.sub 0 (0+1+1+1+1))).length):Int) b d g i 0 0 noDat).isSome)
 (cnd (decide ((0+((o29_1 (m62 b d g i j l).1 (m62 b d g i j l).2.1 ((m75c76 ((m63 (m62 b d g i j l).2.1 n).2.sub 0 (0+1+1+1+1))).length) ({ ii:=fun q c=>bif decide (c=0) then (↑((m75c76 ((m63 (m62 b d g i j l).2.1 n).2.sub 0 (0+1+1+1+1)))[q]?.getD (0,0)).1:Int) else (↑((m75c76 ((m63 (m62 b d g i j l).2.1 n).2.sub 0 (0+1+1+1+1)))[q]?.getD (0,0)).2:Int),ss:=noDat.ss,bb:=noDat.bb,sn:=noDat.sn,sd:=noDat.sd }) (↑((m75c76 ((m63 (m62 b d g i j l).2.1 n).2.sub 0 (0+1+1+1+1))).length):Int) b d g i 0 0 noDat).getD default).1)≤((o29_1 (m62 b d g i j l).1 (m62 b d g i j l).2.1 ((m75c76 ((m63 (m62 b d g i j l).2.1 n).2.sub 0 (0+1+1+1+1))).length) ({ ii:=fun q c=>bif decide (c=0) then (↑((m75c76 ((m63 (m62 b d g i j l).2.1 n).2.sub 0 (0+1+1+1+1)))[q]?.getD (0,0)).1:Int) else (↑((m75c76 ((m63 (m62 b d g i j l).2.1 n).2.sub 0 (0+1+1+1+1)))[q]?.getD (0,0)).2:Int),ss:=noDat.ss,bb:=noDat.bb,sn:=noDat.sn,sd:=noDat.sd }) (↑((m75c76 ((m63 (m62 b d g i j l).2.1 n).2.sub 0 (0+1+1+1+1))).length):Int) b d g i 0 0 noDat).getD default).2.1))
 (R (.tup [.ro [.str,W Z] ((o29_1 (m62 b d g i j l).1 (m62 b d g i j l).2.1 ((m75c76 ((m63 (m62 b d g i j l).2.1 n).2.sub 0 (0+1+1+1+1))).length) ({ ii:=fun q c=>bif decide (c=0) then (↑((m75c76 ((m63 (m62 b d g i j l).2.1 n).2.sub 0 (0+1+1+1+1)))[q]?.getD (0,0)).1:Int) else (↑((m75c76 ((m63 (m62 b d g i j l).2.1 n).2.sub 0 (0+1+1+1+1)))[q]?.getD (0,0)).2:Int),ss:=noDat.ss,bb:=noDat.bb,sn:=noDat.sn,sd:=noDat.sd }) (↑((m75c76 ((m63 (m62 b d g i j l).2.1 n).2.sub 0 (0+1+1+1+1))).length):Int) b d g i 0 0 noDat).getD default).1 ((o29_1 (m62 b d g i j l).1 (m62 b d g i j l).2.1 ((m75c76 ((m63 (m62 b d g i j l).2.1 n).2.sub 0 (0+1+1+1+1))).length) ({ ii:=fun q c=>bif decide (c=0) then (↑((m75c76 ((m63 (m62 b d g i j l).2.1 n).2.sub 0 (0+1+1+1+1)))[q]?.getD (0,0)).1:Int) else (↑((m75c76 ((m63 (m62 b d g i j l).2.1 n).2.sub 0 (0+1+1+1+1)))[q]?.getD (0,0)).2:Int),ss:=noDat.ss,bb:=noDat.bb,sn:=noDat.sn,sd:=noDat.sd }) (↑((m75c76 ((m63 (m62 b d g i j l).2.1 n).2.sub 0 (0+1+1+1+1))).length):Int) b d g i 0 0 noDat).getD default).2.2,V Z 0]) [] [])
      False)
      False)
     False)
     False))
    False))
   False)
  False))
 False)) (fun R=>by kernel_rfl) (cn (al hn) (co (fun h0=>lf (cT h0 rfl) rfl) (fun h0=>cn (al (cf h0 (ar hn))) (cn (al (ar (cf h0 (ar hn)))) (co (fun h1=>lf (cF h0 (cT h1 rfl)) rfl) (fun h1=>cn (al (cf h1 (ar (ar (cf h0 (ar hn)))))) (co (fun h2=>lf (cF h0 (cF h1 (cT h2 rfl))) rfl) (fun h2=>cn (al (cf h2 (ar (cf h1 (ar (ar (cf h0 (ar hn)))))))) (cn (al (ar (cf h2 (ar (cf h1 (ar (ar (cf h0 (ar hn))))))))) (cn (al (ar (ar (cf h2 (ar (cf h1 (ar (ar (cf h0 (ar hn)))))))))) (cn (al (ar (ar (ar (cf h2 (ar (cf h1 (ar (ar (cf h0 (ar hn))))))))))) (lf (cF h0 (cF h1 (cF h2 rfl))) rfl))))))))))))⟩
/-! ### shotline/kit.Due -/
def l51_3 (G:Int) (F:Dat) (n:Nat) (j:Dat) (C w:Int) (E:Nat) (A:Dat) (I:Int) (u:Nat) (v o:Dat):Nat→Nat→Int→Nat→Dat→Option (Nat × Nat × Dat)
 | 0,_,_,_,_=>none
 | f+1,D,p,x,y=>(cond (decide (p<I)) (cond (decide (0≤p∧p<↑E)) (cond (bif (bif (bif (bif (bif (bif (decide (0≤p)) then ((F.sub 0 3).bb p.toNat 0) else false) then false else true) then true else (decide ((A.ii p.toNat 2)=0))) then false else true) then false else true) then true else (bif (decide (0≤p)) then ((F.sub 0 3).bb p.toNat 0) else false)) (cond (bif (bif (bif (bif (bif (bif (bif (decide (0≤p)) then ((F.sub 0 3).bb p.toNat 0) else false) then false else true) then true else (decide ((A.ii p.toNat 2)=0))) then true else (bif (((F.sub 0 3).sub p.toNat 1).bb 0 2) then false else true)) then false else true) then false else true) then true else (bif (decide (0≤p)) then ((F.sub 0 3).bb p.toNat 0) else false)) (cond (bif (bif (bif (bif (bif (decide (0≤p)) then ((F.sub 0 3).bb p.toNat 0) else false) then false else true) then true else (decide ((A.ii p.toNat 2)=0))) then true else (bif (((F.sub 0 3).sub p.toNat 1).bb 0 2) then false else true)) then true else (decide (G<(Z.wrap ((((F.sub 0 3).sub p.toNat 1).ii 0 0)+(A.ii p.toNat 2)))))) (l51_3 G F n j C w E A I u v o f D (Z.wrap (p+1)) x y) (cond (bif (decide (0≤p)) then ((F.sub 0 3).bb p.toNat 0) else false) (cond (decide (D≤x)) (cond (decide ((D+1)≤1073741824)) (l51_3 G F n j C w E A I u v o f (D+1) (Z.wrap (p+1)) (D+1) (y.app D (datS [SV.str (F.ss 0 0),SV.str (A.ss p.toNat 0),V Z (Z.wrap ((((F.sub 0 3).sub p.toNat 1).ii 0 0)+(A.ii p.toNat 2)))] 3))) none) none) none)) none) none) none) (some (D,x,y)))
abbrev o51_3 (G:Int) (F:Dat) (n:Nat) (j:Dat) (C w:Int) (E:Nat) (A:Dat) (I:Int) (u:Nat) (v o:Dat) (D:Nat) (p:Int) (x:Nat) (y:Dat):Option (Nat × Nat × Dat):=l51_3 G F n j C w E A I u v o (G.toNat+D+n+C.toNat+w.toNat+E+I.toNat+p.toNat+u+x+8) D p x y
def e51_3 (G:Int) (F:Dat) (n:Nat) (j:Dat) (C w:Int) (E:Nat) (A:Dat) (I:Int) (u:Nat) (v o:Dat) (r:Nat × Nat × Dat) (K:XR):Prop:=K (XE.exit 3) [V Z G,.ptr 0 0,.gr 1 3 r.1,.ro [.pt [.str,W Z,W Z,.mi [W Z,W Z,.bool],.mb,.mb,W Z,.bool,.m1]] n j,V Z C,V Z w] [.cells 25 [.ro [.str,W Z,W Z] u v,.ro [.str,W Z,W Z,W Z] E o],.row 88 [.str,.str,W Z] r.2.1 r.2.2]
def g51_3:LSum:=fun s k=>match czv 0 107 [2,3,11,13,36,37,38,43,44,45] 2 [⟨true,11,0,1,88,[.str,.str,W Z]⟩] s with
 | some ([V Z G,.ptr 0 0,.gr 1 3 D,.rp [.str,W Z,W Z,.mi [W Z,W Z,.bool],.mb,.mb,W Z,.bool,.m1] F 0 0,.ro [.pt [.str,W Z,W Z,.mi [W Z,W Z,.bool],.mb,.mb,W Z,.bool,.m1]] n j,V Z C,V Z w,.ro [.str,W Z,W Z,W Z] E A,V Z I,V Z p],[.cells 25 [.ro [.str,W Z,W Z] u v,.ro [.str,W Z,W Z,W Z] z o],.row 88 [.str,.str,W Z] x y])=>needs [decide (E=z),(o51_3 G F n j C w E A I u v o D p x y).isSome] (e51_3 G F n j C w E A I u v o ((o51_3 G F n j C w E A I u v o D p x y).getD default) fun e vs bs=>inBlk 3 k e (mkSt 0 107 [2,3,11,36,37,38] vs 2 bs))
 | _=>False
theorem z51_3:LOk Try.prog g51_3 (.block 3 (bodyAt (Try.f51.body.getD .skip) 3)):=by
 refine lb (ι:=Int × Nat × Dat × Nat × Dat × Int × Int × Nat × Dat × Int × Int × Nat × Dat × Dat × Nat × Dat) (fuel:=8) (na:=0) (nt:=107) (nx:=2) (Lh:=[2,3,11,13,36,37,38,43,44,45]) (Le:=[2,3,11,36,37,38]) (gl:=[⟨true,11,0,1,88,[.str,.str,W Z]⟩]) (tc k62 (tc k64 (tc k86c87 (tc k87 tn)))) mix_ok noLam rfl (fun f (G,D,F,n,j,C,w,E,A,I,p,u,v,o,x,y) K=>GG default (e51_3 G F n j C w E A I u v o) K (l51_3 G F n j C w E A I u v o f D p x y)) (fun (G,D,F,n,j,C,w,E,A,I,p,u,v,o,x,y)=>[V Z G,.ptr 0 0,.gr 1 3 D,.rp [.str,W Z,W Z,.mi [W Z,W Z,.bool],.mb,.mb,W Z,.bool,.m1] F 0 0,.ro [.pt [.str,W Z,W Z,.mi [W Z,W Z,.bool],.mb,.mb,W Z,.bool,.m1]] n j,V Z C,V Z w,.ro [.str,W Z,W Z,W Z] E A,V Z I,V Z p]) (fun (G,D,F,n,j,C,w,E,A,I,p,u,v,o,x,y)=>[.cells 25 [.ro [.str,W Z,W Z] u v,.ro [.str,W Z,W Z,W Z] E o],.row 88 [.str,.str,W Z] x y]) (fun (_,_,_,_,_,_,_,_,_,_,_,_,_,_,_,_) K=>gg_none) ?_ ?_
 ·rintro f ⟨G,D,F,n,j,C,w,E,A,I,p,u,v,o,x,y⟩ K hG
  refine ro (fun R=>(cnd (decide (p<I))
 (cnd (decide (0≤p∧p<↑E))
 (cnd (bif (bif (bif (bif (bif (bif (decide (0≤p)) then ((F.sub 0 3).bb p.toNat 0) else false) then false else true) then true else (decide ((A.ii p.toNat 2)=0))) then false else true) then false else true) then true else (bif (decide (0≤p)) then ((F.sub 0 3).bb p.toNat 0) else false))
 (cnd (bif (bif (bif (bif (bif (bif (bif (decide (0≤p)) then ((F.sub 0 3).bb p.toNat 0) else false) then false else true) then true else (decide ((A.ii p.toNat 2)=0))) then true else (bif (((F.sub 0 3).sub p.toNat 1).bb 0 2) then false else true)) then false else true) then false else true) then true else (bif (decide (0≤p)) then ((F.sub 0 3).bb p.toNat 0) else false))
 (cnd (bif (bif (bif (bif (bif (decide (0≤p)) then ((F.sub 0 3).bb p.toNat 0) else false) then false else true) then true else (decide ((A.ii p.toNat 2)=0))) then true else (bif (((F.sub 0 3).sub p.toNat 1).bb 0 2) then false else true)) then true else (decide (G<(Z.wrap ((((F.sub 0 3).sub p.toNat 1).ii 0 0)+(A.ii p.toNat 2))))))
 (R (XE.normal) [V Z G,.ptr 0 0,.gr 1 3 D,.rp [.str,W Z,W Z,.mi [W Z,W Z,.bool],.mb,.mb,W Z,.bool,.m1] F 0 0,.ro [.pt [.str,W Z,W Z,.mi [W Z,W Z,.bool],.mb,.mb,W Z,.bool,.m1]] n j,V Z C,V Z w,.ro [.str,W Z,W Z,W Z] E A,V Z I,V Z (Z.wrap (p+1))] [.cells 25 [.ro [.str,W Z,W Z] u v,.ro [.str,W Z,W Z,W Z] E o],.row 88 [.str,.str,W Z] x y])
 (cnd (bif (decide (0≤p)) then ((F.sub 0 3).bb p.toNat 0) else false)
 (cnd (decide (D≤x))
 (cnd (decide ((D+1)≤1073741824))
 (R (XE.normal) [V Z G,.ptr 0 0,.gr 1 3 (D+1),.rp [.str,W Z,W Z,.mi [W Z,W Z,.bool],.mb,.mb,W Z,.bool,.m1] F 0 0,.ro [.pt [.str,W Z,W Z,.mi [W Z,W Z,.bool],.mb,.mb,W Z,.bool,.m1]] n j,V Z C,V Z w,.ro [.str,W Z,W Z,W Z] E A,V Z I,V Z (Z.wrap (p+1))] [.cells 25 [.ro [.str,W Z,W Z] u v,.ro [.str,W Z,W Z,W Z] E o],.row 88 [.str,.str,W Z] (D+1) (y.app D (datS [SV.str (F.ss 0 0),SV.str (A.ss p.toNat 0),V Z (Z.wrap ((((F.sub 0 3).sub p.toNat 1).ii 0 0)+(A.ii p.toNat 2)))] 3))])
     False)
    False)
    False))
   False)
  False)
  False)
 (R (XE.exit 3) [V Z G,.ptr 0 0,.gr 1 3 D,.ro [.pt [.str,W Z,W Z,.mi [W Z,W Z,.bool],.mb,.mb,W Z,.bool,.m1]] n j,V Z C,V Z w] [.cells 25 [.ro [.str,W Z,W Z] u v,.ro [.str,W Z,W Z,W Z] E o],.row 88 [.str,.str,W Z] x y]))) (fun R=>by kernel_rfl) ?_
  exact ch hG (fun h0=>cg h0 fun h1=>cg h1 fun h2=>cg h2 fun h3=>ch h3 (fun h4=>⟨(_,_,_,_,_,_,_,_,_,_,_,_,_,_,_,_),rfl,rfl,h4⟩) (fun h4=>cg h4 fun h5=>cg h5 fun h6=>cg h6 fun h7=>⟨(_,_,_,_,_,_,_,_,_,_,_,_,_,_,_,_),rfl,rfl,h7⟩)) (fun h0=>h0.2)
 ·intro s k h
  unfold g51_3 at h
  split at h <;> try exact h.elim
  rename_i e1
  rw [needs_iff] at h
  have hq:=h.1
  simp only [List.mem_cons,forall_eq_or_imp,decide_eq_true_eq,List.not_mem_nil,false_imp_iff,implies_true,and_true] at hq
  obtain ⟨rfl,hq⟩:=hq
  exact ⟨_,e1,_,(_,_,_,_,_,_,_,_,_,_,_,_,_,_,_,_),rfl,rfl,hq,h.2⟩
def l51_1 (G:Int) (n:Nat) (j:Dat) (C:Int) (u:Nat) (v:Dat) (z:Nat) (o:Dat):Nat→Nat→Int→Nat→Dat→Option (Nat × Nat × Dat)
 | 0,_,_,_,_=>none
 | f+1,D,w,x,y=>(cond (decide (w<C)) (cond (decide (0≤w∧w<↑n)) (cond ((o51_3 G (j.sub w.toNat 0) n j C w z o (↑z:Int) u v o D 0 x y).isSome) (l51_1 G n j C u v z o f ((o51_3 G (j.sub w.toNat 0) n j C w z o (↑z:Int) u v o D 0 x y).getD default).1 (Z.wrap (w+1)) ((o51_3 G (j.sub w.toNat 0) n j C w z o (↑z:Int) u v o D 0 x y).getD default).2.1 ((o51_3 G (j.sub w.toNat 0) n j C w z o (↑z:Int) u v o D 0 x y).getD default).2.2) none) none) (some (D,x,y)))
abbrev o51_1 (G:Int) (n:Nat) (j:Dat) (C:Int) (u:Nat) (v:Dat) (z:Nat) (o:Dat) (D:Nat) (w:Int) (x:Nat) (y:Dat):Option (Nat × Nat × Dat):=l51_1 G n j C u v z o (G.toNat+D+n+C.toNat+w.toNat+u+z+x+8) D w x y
def e51_1 (G:Int) (n:Nat) (j:Dat) (C:Int) (u:Nat) (v:Dat) (z:Nat) (o:Dat) (r:Nat × Nat × Dat) (K:XR):Prop:=K (XE.exit 1) [.gr 1 3 r.1] [.cells 25 [.ro [.str,W Z,W Z] u v,.ro [.str,W Z,W Z,W Z] z o],.row 88 [.str,.str,W Z] r.2.1 r.2.2]
def g51_1:LSum:=fun s k=>match czv 0 107 [2,3,11,36,37,38] 2 [⟨true,11,0,1,88,[.str,.str,W Z]⟩] s with
 | some ([V Z G,.ptr 0 0,.gr 1 3 D,.ro [.pt [.str,W Z,W Z,.mi [W Z,W Z,.bool],.mb,.mb,W Z,.bool,.m1]] n j,V Z C,V Z w],[.cells 25 [.ro [.str,W Z,W Z] u v,.ro [.str,W Z,W Z,W Z] z o],.row 88 [.str,.str,W Z] x y])=>needs [(o51_1 G n j C u v z o D w x y).isSome] (e51_1 G n j C u v z o ((o51_1 G n j C u v z o D w x y).getD default) fun e vs bs=>inBlk 1 k e (mkSt 0 107 [11] vs 2 bs))
 | _=>False
theorem z51_1:LOk Try.prog g51_1 (.block 1 (bodyAt (Try.f51.body.getD .skip) 1)):=by
 refine lb (ι:=Int × Nat × Nat × Dat × Int × Int × Nat × Dat × Nat × Dat × Nat × Dat) (fuel:=8) (na:=0) (nt:=107) (nx:=2) (Lh:=[2,3,11,36,37,38]) (Le:=[11]) (gl:=[⟨true,11,0,1,88,[.str,.str,W Z]⟩]) (tc k62 (tc k64 (tc k86c87 (tc k87 tn)))) mix_ok (lam_of rfl (lc z51_3 ln)) rfl (fun f (G,D,n,j,C,w,u,v,z,o,x,y) K=>GG default (e51_1 G n j C u v z o) K (l51_1 G n j C u v z o f D w x y)) (fun (G,D,n,j,C,w,u,v,z,o,x,y)=>[V Z G,.ptr 0 0,.gr 1 3 D,.ro [.pt [.str,W Z,W Z,.mi [W Z,W Z,.bool],.mb,.mb,W Z,.bool,.m1]] n j,V Z C,V Z w]) (fun (G,D,n,j,C,w,u,v,z,o,x,y)=>[.cells 25 [.ro [.str,W Z,W Z] u v,.ro [.str,W Z,W Z,W Z] z o],.row 88 [.str,.str,W Z] x y]) (fun (_,_,_,_,_,_,_,_,_,_,_,_) K=>gg_none) ?_ ?_
 ·rintro f ⟨G,D,n,j,C,w,u,v,z,o,x,y⟩ K hG
  refine ro (fun R=>(cnd (decide (w<C))
 (cnd (decide (0≤w∧w<↑n))
 (cnd (decide (z=z))
 (cnd ((o51_3 G (j.sub w.toNat 0) n j C w z o (↑z:Int) u v o D 0 x y).isSome)
 (R (XE.normal) [V Z G,.ptr 0 0,.gr 1 3 ((o51_3 G (j.sub w.toNat 0) n j C w z o (↑z:Int) u v o D 0 x y).getD default).1,.ro [.pt [.str,W Z,W Z,.mi [W Z,W Z,.bool],.mb,.mb,W Z,.bool,.m1]] n j,V Z C,V Z (Z.wrap (w+1))] [.cells 25 [.ro [.str,W Z,W Z] u v,.ro [.str,W Z,W Z,W Z] z o],.row 88 [.str,.str,W Z] ((o51_3 G (j.sub w.toNat 0) n j C w z o (↑z:Int) u v o D 0 x y).getD default).2.1 ((o51_3 G (j.sub w.toNat 0) n j C w z o (↑z:Int) u v o D 0 x y).getD default).2.2])
   False)
  False)
  False)
 (R (XE.exit 1) [.gr 1 3 D] [.cells 25 [.ro [.str,W Z,W Z] u v,.ro [.str,W Z,W Z,W Z] z o],.row 88 [.str,.str,W Z] x y]))) (fun R=>by kernel_rfl) ?_
  exact ch hG (fun h0=>cg h0 fun h1=>cn (decide_eq_true rfl) (cg h1 fun h2=>⟨(_,_,_,_,_,_,_,_,_,_,_,_),rfl,rfl,h2⟩)) (fun h0=>h0.2)
 ·intro s k h
  unfold g51_1 at h
  split at h <;> try exact h.elim
  rename_i e1
  rw [needs_iff] at h
  exact ⟨_,e1,_,(_,_,_,_,_,_,_,_,_,_,_,_),rfl,rfl,h.1 _ (List.mem_singleton.2 rfl),h.2⟩
def m51 (b:Nat) (d:Dat) (g:Nat) (i:Dat) (l:Nat) (m:Dat) (J:Int):Nat × Dat × Int :=
 (cond (bif (decide ((m62 b d g i l m).2.2.2=0)) then false else true) (0,noDat,(m62 b d g i l m).2.2.2) (cond (bif (m64 J) then false else true) (0,noDat,2) (((o51_1 J ((m62 b d g i l m).2.1.sn 0 2) ((m62 b d g i l m).2.1.sub 0 2) (↑((m62 b d g i l m).2.1.sn 0 2):Int) b d g i 0 0 0 noDat).getD default).1,(m86c87 ((o51_1 J ((m62 b d g i l m).2.1.sn 0 2) ((m62 b d g i l m).2.1.sub 0 2) (↑((m62 b d g i l m).2.1.sn 0 2):Int) b d g i 0 0 0 noDat).getD default).1 ((o51_1 J ((m62 b d g i l m).2.1.sn 0 2) ((m62 b d g i l m).2.1.sub 0 2) (↑((m62 b d g i l m).2.1.sn 0 2):Int) b d g i 0 0 0 noDat).getD default).2.1 ((o51_1 J ((m62 b d g i l m).2.1.sn 0 2) ((m62 b d g i l m).2.1.sub 0 2) (↑((m62 b d g i l m).2.1.sn 0 2):Int) b d g i 0 0 0 noDat).getD default).2.2).2,0)))
def n51 (b:Nat) (d:Dat) (g:Nat) (i:Dat) (l:Nat) (m:Dat) (J:Int):Bool :=
 ((n62 b d g i l m)&&(cond (bif (decide ((m62 b d g i l m).2.2.2=0)) then false else true) true (cond (bif (m64 J) then false else true) true ((m62 b d g i l m).1&&(((o51_1 J ((m62 b d g i l m).2.1.sn 0 2) ((m62 b d g i l m).2.1.sub 0 2) (↑((m62 b d g i l m).2.1.sn 0 2):Int) b d g i 0 0 0 noDat).isSome)&&((n86c87 ((o51_1 J ((m62 b d g i l m).2.1.sn 0 2) ((m62 b d g i l m).2.1.sub 0 2) (↑((m62 b d g i l m).2.1.sn 0 2):Int) b d g i 0 0 0 noDat).getD default).1 ((o51_1 J ((m62 b d g i l m).2.1.sn 0 2) ((m62 b d g i l m).2.1.sub 0 2) (↑((m62 b d g i l m).2.1.sn 0 2):Int) b d g i 0 0 0 noDat).getD default).2.1 ((o51_1 J ((m62 b d g i l m).2.1.sn 0 2) ((m62 b d g i l m).2.1.sub 0 2) (↑((m62 b d g i l m).2.1.sn 0 2):Int) b d g i 0 0 0 noDat).getD default).2.2)&&((decide ((0+((o51_1 J ((m62 b d g i l m).2.1.sn 0 2) ((m62 b d g i l m).2.1.sub 0 2) (↑((m62 b d g i l m).2.1.sn 0 2):Int) b d g i 0 0 0 noDat).getD default).1)≤(m86c87 ((o51_1 J ((m62 b d g i l m).2.1.sn 0 2) ((m62 b d g i l m).2.1.sub 0 2) (↑((m62 b d g i l m).2.1.sn 0 2):Int) b d g i 0 0 0 noDat).getD default).1 ((o51_1 J ((m62 b d g i l m).2.1.sn 0 2) ((m62 b d g i l m).2.1.sub 0 2) (↑((m62 b d g i l m).2.1.sn 0 2):Int) b d g i 0 0 0 noDat).getD default).2.1 ((o51_1 J ((m62 b d g i l m).2.1.sn 0 2) ((m62 b d g i l m).2.1.sub 0 2) (↑((m62 b d g i l m).2.1.sn 0 2):Int) b d g i 0 0 0 noDat).getD default).2.2).1))&&true)))))))
def q51 (r:Nat × Dat × Int):SV × List Blk × List Blk:=(.tup [.ro [.str,.str,W Z] r.1 r.2.1,V Z r.2.2],[],[])
def g51:GF:=fun vs bs=>match vs,bs with
 | [.agg [.ro [.str,W Z,W Z] b d,.ro [.str,W Z,W Z,W Z] g i],.ro [W Z,W Z,.str,.str,.str,.bool] l m,V Z J],[]=>some (rs 0 (q51 (m51 b d g i l m J)) [n51 b d g i l m J])
 | _,_=>none
def c51:Ctr:=genC [.a [.ro [.str,W Z,W Z],.ro [.str,W Z,W Z,W Z]],.ro [W Z,W Z,.str,.str,.str,.bool],.k] g51
theorem k51:CtrOk Try.prog c51 51:=cx (tc k62 (tc k64 (tc k86c87 (tc k87 tn)))) mix_ok 8 (fn:=Try.f51) (c:=(Try.f51.body.getD .skip)) (grs:=[]) (rh:=.t [.ro [.str,.str,W Z],.k]) Try.func51 rfl (by kernel_rfl) (lam_of rfl (lc z51_3 (lc z51_1 ln))) fun vs bs q h hn=>by
 unfold g51 at h
 split at h <;> cases h
 rename_i b d g i l m J
 have hn:=n1 hn
 exact ⟨_,rfl,ca (fun R=>(cnd (n62 b d g i l m)
 (cnd (bif (decide ((m62 b d g i l m).2.2.2=0)) then false else true)
 (R (.tup [.ro [.str,.str,W Z] 0 noDat,V Z (m62 b d g i l m).2.2.2]) [] [])
 (cnd (bif (m64 J) then false else true)
 (R (.tup [.ro [.str,.str,W Z] 0 noDat,V Z 2]) [] [])
 (cnd (m62 b d g i l m).1
 (cnd ((o51_1 J ((m62 b d g i l m).2.1.sn 0 2) ((m62 b d g i l m).2.1.sub 0 2) (↑((m62 b d g i l m).2.1.sn 0 2):Int) b d g i 0 0 0 noDat).isSome)
 (cnd (n86c87 ((o51_1 J ((m62 b d g i l m).2.1.sn 0 2) ((m62 b d g i l m).2.1.sub 0 2) (↑((m62 b d g i l m).2.1.sn 0 2):Int) b d g i 0 0 0 noDat).getD default).1 ((o51_1 J ((m62 b d g i l m).2.1.sn 0 2) ((m62 b d g i l m).2.1.sub 0 2) (↑((m62 b d g i l m).2.1.sn 0 2):Int) b d g i 0 0 0 noDat).getD default).2.1 ((o51_1 J ((m62 b d g i l m).2.1.sn 0 2) ((m62 b d g i l m).2.1.sub 0 2) (↑((m62 b d g i l m).2.1.sn 0 2):Int) b d g i 0 0 0 noDat).getD default).2.2)
 (cnd (decide ((0+((o51_1 J ((m62 b d g i l m).2.1.sn 0 2) ((m62 b d g i l m).2.1.sub 0 2) (↑((m62 b d g i l m).2.1.sn 0 2):Int) b d g i 0 0 0 noDat).getD default).1)≤(m86c87 ((o51_1 J ((m62 b d g i l m).2.1.sn 0 2) ((m62 b d g i l m).2.1.sub 0 2) (↑((m62 b d g i l m).2.1.sn 0 2):Int) b d g i 0 0 0 noDat).getD default).1 ((o51_1 J ((m62 b d g i l m).2.1.sn 0 2) ((m62 b d g i l m).2.1.sub 0 2) (↑((m62 b d g i l m).2.1.sn 0 2):Int) b d g i 0 0 0 noDat).getD default).2.1 ((o51_1 J ((m62 b d g i l m).2.1.sn 0 2) ((m62 b d g i l m).2.1.sub 0 2) (↑((m62 b d g i l m).2.1.sn 0 2):Int) b d g i 0 0 0 noDat).getD default).2.2).1))
 (R (.tup [.ro [.str,.str,W Z] ((o51_1 J ((m62 b d g i l m).2.1.sn 0 2) ((m62 b d g i l m).2.1.sub 0 2) (↑((m62 b d g i l m).2.1.sn 0 2):Int) b d g i 0 0 0 noDat).getD default).1 (m86c87 ((o51_1 J ((m62 b d g i l m).2.1.sn 0 2) ((m62 b d g i l m).2.1.sub 0 2) (↑((m62 b d g i l m).2.1.sn 0 2):Int) b d g i 0 0 0 noDat).getD default).1 ((o51_1 J ((m62 b d g i l m).2.1.sn 0 2) ((m62 b d g i l m).2.1.sub 0 2) (↑((m62 b d g i l m).2.1.sn 0 2):Int) b d g i 0 0 0 noDat).getD default).2.1 ((o51_1 J ((m62 b d g i l m).2.1.sn 0 2) ((m62 b d g i l m).2.1.sub 0 2) (↑((m62 b d g i l m).2.1.sn 0 2):Int) b d g i 0 0 0 noDat).getD default).2.2).2,V Z 0]) [] [])
    False)
    False)
   False)
   False)))
 False)) (fun R=>by kernel_rfl) (cn (al hn) (co (fun h0=>lf (cT h0 rfl) rfl) (fun h0=>co (fun h1=>lf (cF h0 (cT h1 rfl)) rfl) (fun h1=>cn (al (cf h1 (cf h0 (ar hn)))) (cn (al (ar (cf h1 (cf h0 (ar hn))))) (cn (al (ar (ar (cf h1 (cf h0 (ar hn)))))) (cn (al (ar (ar (ar (cf h1 (cf h0 (ar hn))))))) (lf (cF h0 (cF h1 rfl)) rfl))))))))⟩
/-! ### shotline/kit.AddEvent -/
def m38 (d:Nat) (e:Dat) (g:Nat) (i:Dat) (b:Nat) (s:Dat) (j l:Int) (m n o:ByteArray) (p:Bool):Nat × Dat × Int :=
 (cond (bif (decide ((m71 d e g i b s j l m n o p).2.2=0)) then false else true) (0,noDat,(m71 d e g i b s j l m n o p).2.2) ((b+1),(s.app b (datS [V Z j,V Z l,SV.str m,SV.str n,SV.str o,SV.bool p] 6)),0))
def n38 (d:Nat) (e:Dat) (g:Nat) (i:Dat) (b:Nat) (s:Dat) (j l:Int) (m n o:ByteArray) (p:Bool):Bool :=
 ((n71 d e g i b s j l m n o p)&&(cond (bif (decide ((m71 d e g i b s j l m n o p).2.2=0)) then false else true) true ((decide (b≤1073741824))&&((decide ((b+1)≤1073741824))&&((decide ((0+(b+1))≤(b+1)))&&true)))))
def q38 (r:Nat × Dat × Int):SV × List Blk × List Blk:=(.tup [.ro [W Z,W Z,.str,.str,.str,.bool] r.1 r.2.1,V Z r.2.2],[],[])
def g38:GF:=fun vs bs=>match vs,bs with
 | [.agg [.ro [.str,W Z,W Z] d e,.ro [.str,W Z,W Z,W Z] g i],.ro [W Z,W Z,.str,.str,.str,.bool] b s,.agg [V Z j,V Z l,.str m,.str n,.str o,.bool p]],[]=>some (rs 0 (q38 (m38 d e g i b s j l m n o p)) [n38 d e g i b s j l m n o p])
 | _,_=>none
def c38:Ctr:=genC [.a [.ro [.str,W Z,W Z],.ro [.str,W Z,W Z,W Z]],.ro [W Z,W Z,.str,.str,.str,.bool],.k] g38
theorem k38:CtrOk Try.prog c38 38:=cx (tc k71 (tc k81 tn)) mix_ok 8 (fn:=Try.f38) (c:=(Try.f38.body.getD .skip)) (grs:=[]) (rh:=.t [.ro [W Z,W Z,.str,.str,.str,.bool],.k]) Try.func38 rfl (by kernel_rfl) noLam fun vs bs q h hn=>by
 unfold g38 at h
 split at h <;> cases h
 rename_i d e g i b s j l m n o p
 have hn:=n1 hn
 exact ⟨_,rfl,ca (fun R=>(cnd (n71 d e g i b s j l m n o p)
 (cnd (bif (decide ((m71 d e g i b s j l m n o p).2.2=0)) then false else true)
 (R (.tup [.ro [W Z,W Z,.str,.str,.str,.bool] 0 noDat,V Z (m71 d e g i b s j l m n o p).2.2]) [] [])
 (cnd (decide (b≤1073741824))
 (cnd (decide (b≤b))
 (cnd (decide ((b+1)≤1073741824))
 (cnd (decide ((0+(b+1))≤(b+1)))
 (R (.tup [.ro [W Z,W Z,.str,.str,.str,.bool] (b+1) (s.app b (datS [V Z j,V Z l,SV.str m,SV.str n,SV.str o,SV.bool p] 6)),V Z 0]) [] [])
    False)
   False)
   False)
  False))
 False)) (fun R=>by kernel_rfl) (cn (al hn) (co (fun h0=>lf (cT h0 rfl) rfl) (fun h0=>cn (al (cf h0 (ar hn))) (cn (decide_eq_true (Nat.le_refl _)) (cn (al (ar (cf h0 (ar hn)))) (cn (al (ar (ar (cf h0 (ar hn))))) (lf (cF h0 rfl) rfl)))))))⟩
/-! ### shotline/shotlinelaw07.awake -/
def m17 :Bool :=
 (bif (bif (bif (bif (bif (bif (decide ((m31 4 m60.1 2 m60.2 3 m61).2.2=0)) then (m34 (m31 4 m60.1 2 m60.2 3 m61).1 (m31 4 m60.1 2 m60.2 3 m61).2.1 2 (datS [SV.str ({ data:=#[97] }:ByteArray),SV.str ({ data:=#[98] }:ByteArray)] 1)) else false) then (decide ((m19 4 m60.1 2 m60.2 3 m61 ({ data:=#[98] }:ByteArray) 7).2.2.2=0)) else false) then (bif (m19 4 m60.1 2 m60.2 3 m61 ({ data:=#[98] }:ByteArray) 7).1 then false else true) else false) then (m26 (m19 4 m60.1 2 m60.2 3 m61 ({ data:=#[98] }:ByteArray) 7).2.1 (m19 4 m60.1 2 m60.2 3 m61 ({ data:=#[98] }:ByteArray) 7).2.2.1 1 (datS [V Z 3,SV.str ({ data:=#[] }:ByteArray),SV.str ({ data:=#[99,49] }:ByteArray),V Z 0] 4)) else false) then (decide ((m51 4 m60.1 2 m60.2 0 noDat 600).2.2=0)) else false) then (m54 (m51 4 m60.1 2 m60.2 0 noDat 600).1 (m51 4 m60.1 2 m60.2 0 noDat 600).2.1 1 (datS [SV.str ({ data:=#[114] }:ByteArray),SV.str ({ data:=#[115,101,114,118,105,99,101] }:ByteArray),V Z 465] 3)) else false)
def n17 :Bool :=
 ((n31 4 m60.1 2 m60.2 3 m61)&&((n19 4 m60.1 2 m60.2 3 m61 ({ data:=#[98] }:ByteArray) 7)&&((n51 4 m60.1 2 m60.2 0 noDat 600)&&((bif (bif (decide ((m31 4 m60.1 2 m60.2 3 m61).2.2=0)) then false else true) then true else (n34 (m31 4 m60.1 2 m60.2 3 m61).1 (m31 4 m60.1 2 m60.2 3 m61).2.1 2 (datS [SV.str ({ data:=#[97] }:ByteArray),SV.str ({ data:=#[98] }:ByteArray)] 1)))&&((bif (bif (bif (bif (bif (decide ((m31 4 m60.1 2 m60.2 3 m61).2.2=0)) then (m34 (m31 4 m60.1 2 m60.2 3 m61).1 (m31 4 m60.1 2 m60.2 3 m61).2.1 2 (datS [SV.str ({ data:=#[97] }:ByteArray),SV.str ({ data:=#[98] }:ByteArray)] 1)) else false) then (decide ((m19 4 m60.1 2 m60.2 3 m61 ({ data:=#[98] }:ByteArray) 7).2.2.2=0)) else false) then (bif (m19 4 m60.1 2 m60.2 3 m61 ({ data:=#[98] }:ByteArray) 7).1 then false else true) else false) then false else true) then true else (n26 (m19 4 m60.1 2 m60.2 3 m61 ({ data:=#[98] }:ByteArray) 7).2.1 (m19 4 m60.1 2 m60.2 3 m61 ({ data:=#[98] }:ByteArray) 7).2.2.1 1 (datS [V Z 3,SV.str ({ data:=#[] }:ByteArray),SV.str ({ data:=#[99,49] }:ByteArray),V Z 0] 4)))&&((bif (bif (bif (bif (bif (bif (bif (decide ((m31 4 m60.1 2 m60.2 3 m61).2.2=0)) then (m34 (m31 4 m60.1 2 m60.2 3 m61).1 (m31 4 m60.1 2 m60.2 3 m61).2.1 2 (datS [SV.str ({ data:=#[97] }:ByteArray),SV.str ({ data:=#[98] }:ByteArray)] 1)) else false) then (decide ((m19 4 m60.1 2 m60.2 3 m61 ({ data:=#[98] }:ByteArray) 7).2.2.2=0)) else false) then (bif (m19 4 m60.1 2 m60.2 3 m61 ({ data:=#[98] }:ByteArray) 7).1 then false else true) else false) then (m26 (m19 4 m60.1 2 m60.2 3 m61 ({ data:=#[98] }:ByteArray) 7).2.1 (m19 4 m60.1 2 m60.2 3 m61 ({ data:=#[98] }:ByteArray) 7).2.2.1 1 (datS [V Z 3,SV.str ({ data:=#[] }:ByteArray),SV.str ({ data:=#[99,49] }:ByteArray),V Z 0] 4)) else false) then (decide ((m51 4 m60.1 2 m60.2 0 noDat 600).2.2=0)) else false) then false else true) then true else (n54 (m51 4 m60.1 2 m60.2 0 noDat 600).1 (m51 4 m60.1 2 m60.2 0 noDat 600).2.1 1 (datS [SV.str ({ data:=#[114] }:ByteArray),SV.str ({ data:=#[115,101,114,118,105,99,101] }:ByteArray),V Z 465] 3)))&&true))))))
def q17 (r:Bool):SV × List Blk × List Blk:=(.bool r,[],[])
def g17:GF:=fun vs bs=>match vs,bs with
 | [],[]=>some (rs 0 (q17 (m17)) [n17 ])
 | _,_=>none
def c17:Ctr:=genC [] g17
theorem k17:CtrOk Try.prog c17 17:=cx (tc kSeal (tc k19 (tc k26 (tc k31 (tc k34 (tc k51 (tc k54 (tc k60 (tc k61 tn))))))))) mix_ok 8 (fn:=Try.f17) (c:=(Try.f17.body.getD .skip)) (grs:=[]) (rh:=.k) Try.func17 rfl (by kernel_rfl) noLam fun vs bs q h hn=>by
 unfold g17 at h
 split at h <;> cases h
 have hn:=n1 hn
 exact ⟨_,rfl,ca (fun R=>(cnd (n31 4 m60.1 2 m60.2 3 m61)
 (cnd (n19 4 m60.1 2 m60.2 3 m61 ({ data:=#[98] }:ByteArray) 7)
 (cnd (n51 4 m60.1 2 m60.2 0 noDat 600)
 (cnd (bif (bif (decide ((m31 4 m60.1 2 m60.2 3 m61).2.2=0)) then false else true) then true else (n34 (m31 4 m60.1 2 m60.2 3 m61).1 (m31 4 m60.1 2 m60.2 3 m61).2.1 2 (datS [SV.str ({ data:=#[97] }:ByteArray),SV.str ({ data:=#[98] }:ByteArray)] 1)))
 (cnd (bif (bif (bif (bif (bif (decide ((m31 4 m60.1 2 m60.2 3 m61).2.2=0)) then (m34 (m31 4 m60.1 2 m60.2 3 m61).1 (m31 4 m60.1 2 m60.2 3 m61).2.1 2 (datS [SV.str ({ data:=#[97] }:ByteArray),SV.str ({ data:=#[98] }:ByteArray)] 1)) else false) then (decide ((m19 4 m60.1 2 m60.2 3 m61 ({ data:=#[98] }:ByteArray) 7).2.2.2=0)) else false) then (bif (m19 4 m60.1 2 m60.2 3 m61 ({ data:=#[98] }:ByteArray) 7).1 then false else true) else false) then false else true) then true else (n26 (m19 4 m60.1 2 m60.2 3 m61 ({ data:=#[98] }:ByteArray) 7).2.1 (m19 4 m60.1 2 m60.2 3 m61 ({ data:=#[98] }:ByteArray) 7).2.2.1 1 (datS [V Z 3,SV.str ({ data:=#[] }:ByteArray),SV.str ({ data:=#[99,49] }:ByteArray),V Z 0] 4)))
 (cnd (bif (bif (bif (bif (bif (bif (bif (decide ((m31 4 m60.1 2 m60.2 3 m61).2.2=0)) then (m34 (m31 4 m60.1 2 m60.2 3 m61).1 (m31 4 m60.1 2 m60.2 3 m61).2.1 2 (datS [SV.str ({ data:=#[97] }:ByteArray),SV.str ({ data:=#[98] }:ByteArray)] 1)) else false) then (decide ((m19 4 m60.1 2 m60.2 3 m61 ({ data:=#[98] }:ByteArray) 7).2.2.2=0)) else false) then (bif (m19 4 m60.1 2 m60.2 3 m61 ({ data:=#[98] }:ByteArray) 7).1 then false else true) else false) then (m26 (m19 4 m60.1 2 m60.2 3 m61 ({ data:=#[98] }:ByteArray) 7).2.1 (m19 4 m60.1 2 m60.2 3 m61 ({ data:=#[98] }:ByteArray) 7).2.2.1 1 (datS [V Z 3,SV.str ({ data:=#[] }:ByteArray),SV.str ({ data:=#[99,49] }:ByteArray),V Z 0] 4)) else false) then (decide ((m51 4 m60.1 2 m60.2 0 noDat 600).2.2=0)) else false) then false else true) then true else (n54 (m51 4 m60.1 2 m60.2 0 noDat 600).1 (m51 4 m60.1 2 m60.2 0 noDat 600).2.1 1 (datS [SV.str ({ data:=#[114] }:ByteArray),SV.str ({ data:=#[115,101,114,118,105,99,101] }:ByteArray),V Z 465] 3)))
 (R (.bool (bif (bif (bif (bif (bif (bif (decide ((m31 4 m60.1 2 m60.2 3 m61).2.2=0)) then (m34 (m31 4 m60.1 2 m60.2 3 m61).1 (m31 4 m60.1 2 m60.2 3 m61).2.1 2 (datS [SV.str ({ data:=#[97] }:ByteArray),SV.str ({ data:=#[98] }:ByteArray)] 1)) else false) then (decide ((m19 4 m60.1 2 m60.2 3 m61 ({ data:=#[98] }:ByteArray) 7).2.2.2=0)) else false) then (bif (m19 4 m60.1 2 m60.2 3 m61 ({ data:=#[98] }:ByteArray) 7).1 then false else true) else false) then (m26 (m19 4 m60.1 2 m60.2 3 m61 ({ data:=#[98] }:ByteArray) 7).2.1 (m19 4 m60.1 2 m60.2 3 m61 ({ data:=#[98] }:ByteArray) 7).2.2.1 1 (datS [V Z 3,SV.str ({ data:=#[] }:ByteArray),SV.str ({ data:=#[99,49] }:ByteArray),V Z 0] 4)) else false) then (decide ((m51 4 m60.1 2 m60.2 0 noDat 600).2.2=0)) else false) then (m54 (m51 4 m60.1 2 m60.2 0 noDat 600).1 (m51 4 m60.1 2 m60.2 0 noDat 600).2.1 1 (datS [SV.str ({ data:=#[114] }:ByteArray),SV.str ({ data:=#[115,101,114,118,105,99,101] }:ByteArray),V Z 465] 3)) else false)) [] [])
    False)
   False)
   False)
  False)
  False)
 False)) (fun R=>by kernel_rfl) (cn (al hn) (cn (al (ar hn)) (cn (al (ar (ar hn))) (cn (al (ar (ar (ar hn)))) (cn (al (ar (ar (ar (ar hn))))) (cn (al (ar (ar (ar (ar (ar hn)))))) (lf rfl rfl)))))))⟩
/-! ### shotline/shotlinelaw07.KitFills -/
def l12_0 (P:Nat) (O:Dat) (x:Nat) (w:Dat) (z:Nat) (y:Dat) (A:Nat) (J:Dat) (C:Nat) (L:Dat) (D E:Int) (F G I:ByteArray) (M:Bool):Nat→Int→Option (Bool × (Bool) × (Unit))
 | 0,_=>none
 | f+1,Q=>(cond (decide (Q<(↑x:Int))) (cond (decide (0≤Q∧Q<↑x)) (cond (n56 P O (w.ss Q.toNat 0) (w.ii Q.toNat 1)) (cond (bif (bif (bif (m56 P O (w.ss Q.toNat 0) (w.ii Q.toNat 1)) then false else true) then false else true) then true else (decide (0≤Q∧Q<↑x))) (cond (bif (bif (bif (m56 P O (w.ss Q.toNat 0) (w.ii Q.toNat 1)) then false else true) then false else true) then true else (n56 z y (w.ss Q.toNat 0) (w.ii Q.toNat 1))) (cond (bif (bif (m56 P O (w.ss Q.toNat 0) (w.ii Q.toNat 1)) then false else true) then (bif (m56 z y (w.ss Q.toNat 0) (w.ii Q.toNat 1)) then false else true) else false) (some (true,false,default)) (l12_0 P O x w z y A J C L D E F G I M f (Z.wrap (Q+1)))) none) none) none) none) (some (false,default,())))
abbrev o12_0 (P:Nat) (O:Dat) (x:Nat) (w:Dat) (z:Nat) (y:Dat) (A:Nat) (J:Dat) (C:Nat) (L:Dat) (D E:Int) (F G I:ByteArray) (M:Bool) (Q:Int):Option (Bool × (Bool) × (Unit)):=l12_0 P O x w z y A J C L D E F G I M (P+x+z+Q.toNat+A+C+D.toNat+E.toNat+F.size+G.size+I.size+8) Q
def e12_0 (P:Nat) (O:Dat) (x:Nat) (w:Dat) (z:Nat) (y:Dat) (A:Nat) (J:Dat) (C:Nat) (L:Dat) (D E:Int) (F G I:ByteArray) (M:Bool) (r:Bool × (Bool) × (Unit)) (K:XR):Prop:=cnd r.1 (K (XE.ret) [.bool r.2.1,.ro [.str,W Z] P O,.ro [.str,W Z] x w,.ro [.str,W Z] z y] [.cells 25 [.ro [.str,W Z,W Z] A J,.ro [.str,W Z,W Z,W Z] C L],.cells 42 [V Z D,V Z E,.str F,.str G,.str I,.bool M]]) (K (XE.exit 0) [.any,.ro [.str,W Z] P O,.ro [.str,W Z] x w,.ro [.str,W Z] z y] [.cells 25 [.ro [.str,W Z,W Z] A J,.ro [.str,W Z,W Z,W Z] C L],.cells 42 [V Z D,V Z E,.str F,.str G,.str I,.bool M]])
def g12_0:LSum:=fun s k=>match czv 0 180 [9,11,13,17] 2 [] s with
 | some ([.ro [.str,W Z] P O,.ro [.str,W Z] x w,.ro [.str,W Z] z y,V Z Q],[.cells 25 [.ro [.str,W Z,W Z] A J,.ro [.str,W Z,W Z,W Z] C L],.cells 42 [V Z D,V Z E,.str F,.str G,.str I,.bool M]])=>needs [(o12_0 P O x w z y A J C L D E F G I M Q).isSome] (e12_0 P O x w z y A J C L D E F G I M ((o12_0 P O x w z y A J C L D E F G I M Q).getD default) fun e vs bs=>inBlk 0 k e (mkSt 0 180 [6,9,11,13] vs 2 bs))
 | _=>False
theorem z12_0:LOk Try.prog g12_0 (.block 0 (bodyAt (Try.f12.body.getD .skip) 0)):=by
 refine lb (ι:=Nat × Dat × Nat × Dat × Nat × Dat × Int × Nat × Dat × Nat × Dat × Int × Int × ByteArray × ByteArray × ByteArray × Bool) (fuel:=8) (na:=0) (nt:=180) (nx:=2) (Lh:=[9,11,13,17]) (Le:=[6,9,11,13]) (gl:=[]) (tc k17 (tc k18 (tc k20 (tc k21 (tc k29 (tc k32 (tc k37 (tc k38 (tc k56 tn))))))))) mix_ok noLam rfl (fun f (P,O,x,w,z,y,Q,A,J,C,L,D,E,F,G,I,M) K=>GG default (e12_0 P O x w z y A J C L D E F G I M) K (l12_0 P O x w z y A J C L D E F G I M f Q)) (fun (P,O,x,w,z,y,Q,A,J,C,L,D,E,F,G,I,M)=>[.ro [.str,W Z] P O,.ro [.str,W Z] x w,.ro [.str,W Z] z y,V Z Q]) (fun (P,O,x,w,z,y,Q,A,J,C,L,D,E,F,G,I,M)=>[.cells 25 [.ro [.str,W Z,W Z] A J,.ro [.str,W Z,W Z,W Z] C L],.cells 42 [V Z D,V Z E,.str F,.str G,.str I,.bool M]]) (fun (_,_,_,_,_,_,_,_,_,_,_,_,_,_,_,_,_) K=>gg_none) ?_ ?_
 ·rintro f ⟨P,O,x,w,z,y,Q,A,J,C,L,D,E,F,G,I,M⟩ K hG
  refine ro (fun R=>(cnd (decide (Q<(↑x:Int)))
 (cnd (decide (0≤Q∧Q<↑x))
 (cnd (n56 P O (w.ss Q.toNat 0) (w.ii Q.toNat 1))
 (cnd (bif (bif (bif (m56 P O (w.ss Q.toNat 0) (w.ii Q.toNat 1)) then false else true) then false else true) then true else (decide (0≤Q∧Q<↑x)))
 (cnd (bif (bif (bif (m56 P O (w.ss Q.toNat 0) (w.ii Q.toNat 1)) then false else true) then false else true) then true else (n56 z y (w.ss Q.toNat 0) (w.ii Q.toNat 1)))
 (cnd (bif (bif (m56 P O (w.ss Q.toNat 0) (w.ii Q.toNat 1)) then false else true) then (bif (m56 z y (w.ss Q.toNat 0) (w.ii Q.toNat 1)) then false else true) else false)
 (R (XE.ret) [.bool false,.ro [.str,W Z] P O,.ro [.str,W Z] x w,.ro [.str,W Z] z y] [.cells 25 [.ro [.str,W Z,W Z] A J,.ro [.str,W Z,W Z,W Z] C L],.cells 42 [V Z D,V Z E,.str F,.str G,.str I,.bool M]])
 (R (XE.normal) [.ro [.str,W Z] P O,.ro [.str,W Z] x w,.ro [.str,W Z] z y,V Z (Z.wrap (Q+1))] [.cells 25 [.ro [.str,W Z,W Z] A J,.ro [.str,W Z,W Z,W Z] C L],.cells 42 [V Z D,V Z E,.str F,.str G,.str I,.bool M]]))
   False)
   False)
  False)
  False)
 (R (XE.exit 0) [.any,.ro [.str,W Z] P O,.ro [.str,W Z] x w,.ro [.str,W Z] z y] [.cells 25 [.ro [.str,W Z,W Z] A J,.ro [.str,W Z,W Z,W Z] C L],.cells 42 [V Z D,V Z E,.str F,.str G,.str I,.bool M]]))) (fun R=>by kernel_rfl) ?_
  exact ch hG (fun h0=>cg h0 fun h1=>cg h1 fun h2=>cg h2 fun h3=>cg h3 fun h4=>ch h4 (fun h5=>h5.2) (fun h5=>⟨(_,_,_,_,_,_,_,_,_,_,_,_,_,_,_,_,_),rfl,rfl,h5⟩)) (fun h0=>h0.2)
 ·intro s k h
  unfold g12_0 at h
  split at h <;> try exact h.elim
  rename_i e1
  rw [needs_iff] at h
  exact ⟨_,e1,_,(_,_,_,_,_,_,_,_,_,_,_,_,_,_,_,_,_),rfl,rfl,h.1 _ (List.mem_singleton.2 rfl),h.2⟩
def l12_2 (P:Nat) (O:Dat) (x:Nat) (w:Dat) (z:Nat) (y:Dat) (A:Nat) (J:Dat) (C:Nat) (L:Dat) (D E:Int) (F G I:ByteArray) (M:Bool):Nat→Int→Option (Bool × (Bool) × (Unit))
 | 0,_=>none
 | f+1,S=>(cond (decide (S<(↑P:Int))) (cond (decide (0≤S∧S<↑P)) (cond (n56 x w (O.ss S.toNat 0) (O.ii S.toNat 1)) (cond (bif (m56 x w (O.ss S.toNat 0) (O.ii S.toNat 1)) then false else true) (some (true,false,default)) (l12_2 P O x w z y A J C L D E F G I M f (Z.wrap (S+1)))) none) none) (some (false,default,())))
abbrev o12_2 (P:Nat) (O:Dat) (x:Nat) (w:Dat) (z:Nat) (y:Dat) (A:Nat) (J:Dat) (C:Nat) (L:Dat) (D E:Int) (F G I:ByteArray) (M:Bool) (S:Int):Option (Bool × (Bool) × (Unit)):=l12_2 P O x w z y A J C L D E F G I M (P+x+z+S.toNat+A+C+D.toNat+E.toNat+F.size+G.size+I.size+8) S
def e12_2 (P:Nat) (O:Dat) (x:Nat) (w:Dat) (z:Nat) (y:Dat) (A:Nat) (J:Dat) (C:Nat) (L:Dat) (D E:Int) (F G I:ByteArray) (M:Bool) (r:Bool × (Bool) × (Unit)) (K:XR):Prop:=cnd r.1 (K (XE.ret) [.bool r.2.1,.ro [.str,W Z] x w,.ro [.str,W Z] z y] [.cells 25 [.ro [.str,W Z,W Z] A J,.ro [.str,W Z,W Z,W Z] C L],.cells 42 [V Z D,V Z E,.str F,.str G,.str I,.bool M]]) (K (XE.exit 2) [.any,.ro [.str,W Z] x w,.ro [.str,W Z] z y] [.cells 25 [.ro [.str,W Z,W Z] A J,.ro [.str,W Z,W Z,W Z] C L],.cells 42 [V Z D,V Z E,.str F,.str G,.str I,.bool M]])
def g12_2:LSum:=fun s k=>match czv 0 180 [9,11,13,18] 2 [] s with
 | some ([.ro [.str,W Z] P O,.ro [.str,W Z] x w,.ro [.str,W Z] z y,V Z S],[.cells 25 [.ro [.str,W Z,W Z] A J,.ro [.str,W Z,W Z,W Z] C L],.cells 42 [V Z D,V Z E,.str F,.str G,.str I,.bool M]])=>needs [(o12_2 P O x w z y A J C L D E F G I M S).isSome] (e12_2 P O x w z y A J C L D E F G I M ((o12_2 P O x w z y A J C L D E F G I M S).getD default) fun e vs bs=>inBlk 2 k e (mkSt 0 180 [6,11,13] vs 2 bs))
 | _=>False
theorem z12_2:LOk Try.prog g12_2 (.block 2 (bodyAt (Try.f12.body.getD .skip) 2)):=by
 refine lb (ι:=Nat × Dat × Nat × Dat × Nat × Dat × Int × Nat × Dat × Nat × Dat × Int × Int × ByteArray × ByteArray × ByteArray × Bool) (fuel:=8) (na:=0) (nt:=180) (nx:=2) (Lh:=[9,11,13,18]) (Le:=[6,11,13]) (gl:=[]) (tc k17 (tc k18 (tc k20 (tc k21 (tc k29 (tc k32 (tc k37 (tc k38 (tc k56 tn))))))))) mix_ok (lam_of rfl (lc z12_0 ln)) rfl (fun f (P,O,x,w,z,y,S,A,J,C,L,D,E,F,G,I,M) K=>GG default (e12_2 P O x w z y A J C L D E F G I M) K (l12_2 P O x w z y A J C L D E F G I M f S)) (fun (P,O,x,w,z,y,S,A,J,C,L,D,E,F,G,I,M)=>[.ro [.str,W Z] P O,.ro [.str,W Z] x w,.ro [.str,W Z] z y,V Z S]) (fun (P,O,x,w,z,y,S,A,J,C,L,D,E,F,G,I,M)=>[.cells 25 [.ro [.str,W Z,W Z] A J,.ro [.str,W Z,W Z,W Z] C L],.cells 42 [V Z D,V Z E,.str F,.str G,.str I,.bool M]]) (fun (_,_,_,_,_,_,_,_,_,_,_,_,_,_,_,_,_) K=>gg_none) ?_ ?_
 ·rintro f ⟨P,O,x,w,z,y,S,A,J,C,L,D,E,F,G,I,M⟩ K hG
  refine ro (fun R=>(cnd (decide (S<(↑P:Int)))
 (cnd (decide (0≤S∧S<↑P))
 (cnd (n56 x w (O.ss S.toNat 0) (O.ii S.toNat 1))
 (cnd (bif (m56 x w (O.ss S.toNat 0) (O.ii S.toNat 1)) then false else true)
 (R (XE.ret) [.bool false,.ro [.str,W Z] x w,.ro [.str,W Z] z y] [.cells 25 [.ro [.str,W Z,W Z] A J,.ro [.str,W Z,W Z,W Z] C L],.cells 42 [V Z D,V Z E,.str F,.str G,.str I,.bool M]])
 (R (XE.normal) [.ro [.str,W Z] P O,.ro [.str,W Z] x w,.ro [.str,W Z] z y,V Z (Z.wrap (S+1))] [.cells 25 [.ro [.str,W Z,W Z] A J,.ro [.str,W Z,W Z,W Z] C L],.cells 42 [V Z D,V Z E,.str F,.str G,.str I,.bool M]]))
  False)
  False)
 (R (XE.exit 2) [.any,.ro [.str,W Z] x w,.ro [.str,W Z] z y] [.cells 25 [.ro [.str,W Z,W Z] A J,.ro [.str,W Z,W Z,W Z] C L],.cells 42 [V Z D,V Z E,.str F,.str G,.str I,.bool M]]))) (fun R=>by kernel_rfl) ?_
  exact ch hG (fun h0=>cg h0 fun h1=>cg h1 fun h2=>ch h2 (fun h3=>h3.2) (fun h3=>⟨(_,_,_,_,_,_,_,_,_,_,_,_,_,_,_,_,_),rfl,rfl,h3⟩)) (fun h0=>h0.2)
 ·intro s k h
  unfold g12_2 at h
  split at h <;> try exact h.elim
  rename_i e1
  rw [needs_iff] at h
  exact ⟨_,e1,_,(_,_,_,_,_,_,_,_,_,_,_,_,_,_,_,_,_),rfl,rfl,h.1 _ (List.mem_singleton.2 rfl),h.2⟩
def l12_4 (x:Nat) (w:Dat) (z:Nat) (y:Dat) (A:Nat) (J:Dat) (C:Nat) (L:Dat) (D E:Int) (F G I:ByteArray) (M:Bool):Nat→Int→Option (Bool × (Bool) × (Unit))
 | 0,_=>none
 | f+1,T=>(cond (decide (T<(↑z:Int))) (cond (decide (0≤T∧T<↑z)) (cond (n56 x w (y.ss T.toNat 0) (y.ii T.toNat 1)) (cond (bif (m56 x w (y.ss T.toNat 0) (y.ii T.toNat 1)) then false else true) (some (true,false,default)) (l12_4 x w z y A J C L D E F G I M f (Z.wrap (T+1)))) none) none) (some (false,default,())))
abbrev o12_4 (x:Nat) (w:Dat) (z:Nat) (y:Dat) (A:Nat) (J:Dat) (C:Nat) (L:Dat) (D E:Int) (F G I:ByteArray) (M:Bool) (T:Int):Option (Bool × (Bool) × (Unit)):=l12_4 x w z y A J C L D E F G I M (x+z+T.toNat+A+C+D.toNat+E.toNat+F.size+G.size+I.size+8) T
def e12_4 (x:Nat) (w:Dat) (z:Nat) (y:Dat) (A:Nat) (J:Dat) (C:Nat) (L:Dat) (D E:Int) (F G I:ByteArray) (M:Bool) (r:Bool × (Bool) × (Unit)) (K:XR):Prop:=cnd r.1 (K (XE.ret) [.bool r.2.1] [.cells 25 [.ro [.str,W Z,W Z] A J,.ro [.str,W Z,W Z,W Z] C L],.cells 42 [V Z D,V Z E,.str F,.str G,.str I,.bool M]]) (K (XE.exit 4) [.any] [.cells 25 [.ro [.str,W Z,W Z] A J,.ro [.str,W Z,W Z,W Z] C L],.cells 42 [V Z D,V Z E,.str F,.str G,.str I,.bool M]])
def g12_4:LSum:=fun s k=>match czv 0 180 [11,13,19] 2 [] s with
 | some ([.ro [.str,W Z] x w,.ro [.str,W Z] z y,V Z T],[.cells 25 [.ro [.str,W Z,W Z] A J,.ro [.str,W Z,W Z,W Z] C L],.cells 42 [V Z D,V Z E,.str F,.str G,.str I,.bool M]])=>needs [(o12_4 x w z y A J C L D E F G I M T).isSome] (e12_4 x w z y A J C L D E F G I M ((o12_4 x w z y A J C L D E F G I M T).getD default) fun e vs bs=>inBlk 4 k e (mkSt 0 180 [6] vs 2 bs))
 | _=>False
theorem z12_4:LOk Try.prog g12_4 (.block 4 (bodyAt (Try.f12.body.getD .skip) 4)):=by
 refine lb (ι:=Nat × Dat × Nat × Dat × Int × Nat × Dat × Nat × Dat × Int × Int × ByteArray × ByteArray × ByteArray × Bool) (fuel:=8) (na:=0) (nt:=180) (nx:=2) (Lh:=[11,13,19]) (Le:=[6]) (gl:=[]) (tc k17 (tc k18 (tc k20 (tc k21 (tc k29 (tc k32 (tc k37 (tc k38 (tc k56 tn))))))))) mix_ok (lam_of rfl (lc z12_0 (lc z12_2 ln))) rfl (fun f (x,w,z,y,T,A,J,C,L,D,E,F,G,I,M) K=>GG default (e12_4 x w z y A J C L D E F G I M) K (l12_4 x w z y A J C L D E F G I M f T)) (fun (x,w,z,y,T,A,J,C,L,D,E,F,G,I,M)=>[.ro [.str,W Z] x w,.ro [.str,W Z] z y,V Z T]) (fun (x,w,z,y,T,A,J,C,L,D,E,F,G,I,M)=>[.cells 25 [.ro [.str,W Z,W Z] A J,.ro [.str,W Z,W Z,W Z] C L],.cells 42 [V Z D,V Z E,.str F,.str G,.str I,.bool M]]) (fun (_,_,_,_,_,_,_,_,_,_,_,_,_,_,_) K=>gg_none) ?_ ?_
 ·rintro f ⟨x,w,z,y,T,A,J,C,L,D,E,F,G,I,M⟩ K hG
  refine ro (fun R=>(cnd (decide (T<(↑z:Int)))
 (cnd (decide (0≤T∧T<↑z))
 (cnd (n56 x w (y.ss T.toNat 0) (y.ii T.toNat 1))
 (cnd (bif (m56 x w (y.ss T.toNat 0) (y.ii T.toNat 1)) then false else true)
 (R (XE.ret) [.bool false] [.cells 25 [.ro [.str,W Z,W Z] A J,.ro [.str,W Z,W Z,W Z] C L],.cells 42 [V Z D,V Z E,.str F,.str G,.str I,.bool M]])
 (R (XE.normal) [.ro [.str,W Z] x w,.ro [.str,W Z] z y,V Z (Z.wrap (T+1))] [.cells 25 [.ro [.str,W Z,W Z] A J,.ro [.str,W Z,W Z,W Z] C L],.cells 42 [V Z D,V Z E,.str F,.str G,.str I,.bool M]]))
  False)
  False)
 (R (XE.exit 4) [.any] [.cells 25 [.ro [.str,W Z,W Z] A J,.ro [.str,W Z,W Z,W Z] C L],.cells 42 [V Z D,V Z E,.str F,.str G,.str I,.bool M]]))) (fun R=>by kernel_rfl) ?_
  exact ch hG (fun h0=>cg h0 fun h1=>cg h1 fun h2=>ch h2 (fun h3=>h3.2) (fun h3=>⟨(_,_,_,_,_,_,_,_,_,_,_,_,_,_,_),rfl,rfl,h3⟩)) (fun h0=>h0.2)
 ·intro s k h
  unfold g12_4 at h
  split at h <;> try exact h.elim
  rename_i e1
  rw [needs_iff] at h
  exact ⟨_,e1,_,(_,_,_,_,_,_,_,_,_,_,_,_,_,_,_),rfl,rfl,h.1 _ (List.mem_singleton.2 rfl),h.2⟩
def t12_0 (b:Nat) (d:Dat) (g:Nat) (i:Dat) (t:Nat) (u:Dat) (m n:Int) (j o l:ByteArray) (p:Bool):Nat:=(m20 b d g i).1
def t12_1 (b:Nat) (d:Dat) (g:Nat) (i:Dat) (t:Nat) (u:Dat) (m n:Int) (j o l:ByteArray) (p:Bool):Dat:=(m20 b d g i).2.1
def t12_2 (b:Nat) (d:Dat) (g:Nat) (i:Dat) (t:Nat) (u:Dat) (m n:Int) (j o l:ByteArray) (p:Bool):Nat:=(m20 b d g i).2.2.1
def t12_3 (b:Nat) (d:Dat) (g:Nat) (i:Dat) (t:Nat) (u:Dat) (m n:Int) (j o l:ByteArray) (p:Bool):Dat:=(m20 b d g i).2.2.2
def t12_4 (b:Nat) (d:Dat) (g:Nat) (i:Dat) (t:Nat) (u:Dat) (m n:Int) (j o l:ByteArray) (p:Bool):Nat:=(m38 (t12_0 b d g i t u m n j o l p) (t12_1 b d g i t u m n j o l p) (t12_2 b d g i t u m n j o l p) (t12_3 b d g i t u m n j o l p) (m21 t u).1 (m21 t u).2 m n j o l p).1
def t12_5 (b:Nat) (d:Dat) (g:Nat) (i:Dat) (t:Nat) (u:Dat) (m n:Int) (j o l:ByteArray) (p:Bool):Dat:=(m38 (t12_0 b d g i t u m n j o l p) (t12_1 b d g i t u m n j o l p) (t12_2 b d g i t u m n j o l p) (t12_3 b d g i t u m n j o l p) (m21 t u).1 (m21 t u).2 m n j o l p).2.1
def t12_6 (b:Nat) (d:Dat) (g:Nat) (i:Dat) (t:Nat) (u:Dat) (m n:Int) (j o l:ByteArray) (p:Bool):Nat:=(m29 (t12_0 b d g i t u m n j o l p) (t12_1 b d g i t u m n j o l p) (t12_2 b d g i t u m n j o l p) (t12_3 b d g i t u m n j o l p) (m21 (t12_4 b d g i t u m n j o l p) (t12_5 b d g i t u m n j o l p)).1 (m21 (t12_4 b d g i t u m n j o l p) (t12_5 b d g i t u m n j o l p)).2 j).1
def t12_7 (b:Nat) (d:Dat) (g:Nat) (i:Dat) (t:Nat) (u:Dat) (m n:Int) (j o l:ByteArray) (p:Bool):Int:=(m29 (t12_0 b d g i t u m n j o l p) (t12_1 b d g i t u m n j o l p) (t12_2 b d g i t u m n j o l p) (t12_3 b d g i t u m n j o l p) (m21 t u).1 (m21 t u).2 l).2.2
def t12_8 (b:Nat) (d:Dat) (g:Nat) (i:Dat) (t:Nat) (u:Dat) (m n:Int) (j o l:ByteArray) (p:Bool):Nat:=(m29 (t12_0 b d g i t u m n j o l p) (t12_1 b d g i t u m n j o l p) (t12_2 b d g i t u m n j o l p) (t12_3 b d g i t u m n j o l p) (m21 t u).1 (m21 t u).2 j).1
def t12_9 (b:Nat) (d:Dat) (g:Nat) (i:Dat) (t:Nat) (u:Dat) (m n:Int) (j o l:ByteArray) (p:Bool):Int:=(m29 (t12_0 b d g i t u m n j o l p) (t12_1 b d g i t u m n j o l p) (t12_2 b d g i t u m n j o l p) (t12_3 b d g i t u m n j o l p) (m21 (t12_4 b d g i t u m n j o l p) (t12_5 b d g i t u m n j o l p)).1 (m21 (t12_4 b d g i t u m n j o l p) (t12_5 b d g i t u m n j o l p)).2 l).2.2
def t12_10 (b:Nat) (d:Dat) (g:Nat) (i:Dat) (t:Nat) (u:Dat) (m n:Int) (j o l:ByteArray) (p:Bool):Nat:=(m29 (t12_0 b d g i t u m n j o l p) (t12_1 b d g i t u m n j o l p) (t12_2 b d g i t u m n j o l p) (t12_3 b d g i t u m n j o l p) (m21 (t12_4 b d g i t u m n j o l p) (t12_5 b d g i t u m n j o l p)).1 (m21 (t12_4 b d g i t u m n j o l p) (t12_5 b d g i t u m n j o l p)).2 l).1
def t12_11 (b:Nat) (d:Dat) (g:Nat) (i:Dat) (t:Nat) (u:Dat) (m n:Int) (j o l:ByteArray) (p:Bool):Dat:=(m29 (t12_0 b d g i t u m n j o l p) (t12_1 b d g i t u m n j o l p) (t12_2 b d g i t u m n j o l p) (t12_3 b d g i t u m n j o l p) (m21 (t12_4 b d g i t u m n j o l p) (t12_5 b d g i t u m n j o l p)).1 (m21 (t12_4 b d g i t u m n j o l p) (t12_5 b d g i t u m n j o l p)).2 l).2.1
def t12_12 (b:Nat) (d:Dat) (g:Nat) (i:Dat) (t:Nat) (u:Dat) (m n:Int) (j o l:ByteArray) (p:Bool):Nat:=(m29 (t12_0 b d g i t u m n j o l p) (t12_1 b d g i t u m n j o l p) (t12_2 b d g i t u m n j o l p) (t12_3 b d g i t u m n j o l p) (m21 t u).1 (m21 t u).2 l).1
def t12_13 (b:Nat) (d:Dat) (g:Nat) (i:Dat) (t:Nat) (u:Dat) (m n:Int) (j o l:ByteArray) (p:Bool):Dat:=(m29 (t12_0 b d g i t u m n j o l p) (t12_1 b d g i t u m n j o l p) (t12_2 b d g i t u m n j o l p) (t12_3 b d g i t u m n j o l p) (m21 t u).1 (m21 t u).2 l).2.1
def t12_14 (b:Nat) (d:Dat) (g:Nat) (i:Dat) (t:Nat) (u:Dat) (m n:Int) (j o l:ByteArray) (p:Bool):Dat:=(m29 (t12_0 b d g i t u m n j o l p) (t12_1 b d g i t u m n j o l p) (t12_2 b d g i t u m n j o l p) (t12_3 b d g i t u m n j o l p) (m21 t u).1 (m21 t u).2 j).2.1
def t12_15 (b:Nat) (d:Dat) (g:Nat) (i:Dat) (t:Nat) (u:Dat) (m n:Int) (j o l:ByteArray) (p:Bool):Dat:=(m29 (t12_0 b d g i t u m n j o l p) (t12_1 b d g i t u m n j o l p) (t12_2 b d g i t u m n j o l p) (t12_3 b d g i t u m n j o l p) (m21 (t12_4 b d g i t u m n j o l p) (t12_5 b d g i t u m n j o l p)).1 (m21 (t12_4 b d g i t u m n j o l p) (t12_5 b d g i t u m n j o l p)).2 j).2.1
def U12 (b:Nat) (d:Dat) (g:Nat) (i:Dat) (t:Nat) (u:Dat) (m n:Int) (j o l:ByteArray) (p:Bool) (z0:Nat) (z1:Dat) (z2:Nat) (z3:Dat) (z4:Nat) (z5:Dat) (z6:Nat) (z7:Int) (z8:Nat) (z9:Int) (z10:Nat) (z11:Dat) (z12:Nat) (z13 z14 z15:Dat) (R:SV→List Blk→List Blk→Prop):Prop :=
 (cnd (n17)
 (cnd (bif m17 then false else true)
 (R (.bool false) [] [])
 (cnd (n18 b d g i t u)
 (cnd (bif (bif (bif (m18 b d g i t u) then false else true) then true else (bif (m37 m n j o l p) then false else true)) then true else (bif (bif (decide (m=2)) then false else true) then (bif (decide (m=3)) then false else true) else false))
 (R (.bool true) [] [])
 (cnd (n20 b d g i)
 (cnd (n21 t u)
 (cnd (n38 z0 z1 z2 z3 (m21 t u).1 (m21 t u).2 m n j o l p)
 (cnd (bif (decide ((m38 z0 z1 z2 z3 (m21 t u).1 (m21 t u).2 m n j o l p).2.2=0)) then false else true)
 (R (.bool (decide ((↑z4:Int)=0))) [] [])
 (cnd (n20 b d g i)
 (cnd (n21 t u)
 (cnd (n29 z0 z1 z2 z3 (m21 t u).1 (m21 t u).2 j)
 (cnd (n20 b d g i)
 (cnd (n21 z4 z5)
 (cnd (n29 z0 z1 z2 z3 (m21 z4 z5).1 (m21 z4 z5).2 j)
 (cnd (bif (bif (decide ((m29 z0 z1 z2 z3 (m21 t u).1 (m21 t u).2 j).2.2=0)) then false else true) then true else (bif (decide ((m29 z0 z1 z2 z3 (m21 z4 z5).1 (m21 z4 z5).2 j).2.2=0)) then false else true))
 (R (.bool false) [] [])
 (cnd (decide (m=3))
 (R (.bool (decide ((↑z6:Int)=0))) [] [])
 (cnd (n20 b d g i)
 (cnd (n21 t u)
 (cnd (n29 z0 z1 z2 z3 (m21 t u).1 (m21 t u).2 l)
 (cnd (bif (decide (z7=0)) then false else true)
 (R (.bool (bif (bif (decide (z7=27)) then (decide (1≤(↑z6:Int))) else false) then (decide ((↑z6:Int)≤(Z.wrap ((↑z8:Int)+1)))) else false)) [] [])
 (cnd (n20 b d g i)
 (cnd (n21 z4 z5)
 (cnd (n29 z0 z1 z2 z3 (m21 z4 z5).1 (m21 z4 z5).2 l)
 (cnd (bif (bif (bif (bif (decide (z9=0)) then false else true) then false else true) then false else true) then true else (n32 z10 z11 z12 z13))
 (cnd (bif (bif (decide (z9=0)) then false else true) then true else (bif (m32 z10 z11 z12 z13) then false else true))
 (R (.bool false) [] [])
 (cnd ((o12_0 z8 z14 z6 z15 z12 z13 b d g i m n j o l p 0).isSome)
 (cnd ((o12_0 z8 z14 z6 z15 z12 z13 b d g i m n j o l p 0).getD default).1
 (R (.bool ((o12_0 z8 z14 z6 z15 z12 z13 b d g i m n j o l p 0).getD default).2.1) [] [])
 (cnd ((o12_2 z8 z14 z6 z15 z12 z13 b d g i m n j o l p 0).isSome)
 (cnd ((o12_2 z8 z14 z6 z15 z12 z13 b d g i m n j o l p 0).getD default).1
 (R (.bool ((o12_2 z8 z14 z6 z15 z12 z13 b d g i m n j o l p 0).getD default).2.1) [] [])
 (cnd ((o12_4 z6 z15 z12 z13 b d g i m n j o l p 0).isSome)
 (cnd ((o12_4 z6 z15 z12 z13 b d g i m n j o l p 0).getD default).1
 (R (.bool ((o12_4 z6 z15 z12 z13 b d g i m n j o l p 0).getD default).2.1) [] [])
 (R (.bool true) [] []))
                False))
               False))
              False))
             False)
            False)
            False)
           False))
          False)
          False)
         False)))
        False)
       False)
       False)
      False)
      False)
     False))
    False)
    False)
   False))
  False))
 False)
def w12 (b:Nat) (d:Dat) (g:Nat) (i:Dat) (t:Nat) (u:Dat) (m n:Int) (j o l:ByteArray) (p:Bool) (z0:Nat) (z1:Dat) (z2:Nat) (z3:Dat) (z4:Nat) (z5:Dat) (z6:Nat) (z7:Int) (z8:Nat) (z9:Int) (z10:Nat) (z11:Dat) (z12:Nat) (z13 z14 z15:Dat):Bool :=
 (cond (bif m17 then false else true) false (cond (bif (bif (bif (m18 b d g i t u) then false else true) then true else (bif (m37 m n j o l p) then false else true)) then true else (bif (bif (decide (m=2)) then false else true) then (bif (decide (m=3)) then false else true) else false)) true (cond (bif (decide ((m38 z0 z1 z2 z3 (m21 t u).1 (m21 t u).2 m n j o l p).2.2=0)) then false else true) (decide ((↑z4:Int)=0)) (cond (bif (bif (decide ((m29 z0 z1 z2 z3 (m21 t u).1 (m21 t u).2 j).2.2=0)) then false else true) then true else (bif (decide ((m29 z0 z1 z2 z3 (m21 z4 z5).1 (m21 z4 z5).2 j).2.2=0)) then false else true)) false (cond (decide (m=3)) (decide ((↑z6:Int)=0)) (cond (bif (decide (z7=0)) then false else true) (bif (bif (decide (z7=27)) then (decide (1≤(↑z6:Int))) else false) then (decide ((↑z6:Int)≤(Z.wrap ((↑z8:Int)+1)))) else false) (cond (bif (bif (decide (z9=0)) then false else true) then true else (bif (m32 z10 z11 z12 z13) then false else true)) false (cond ((o12_0 z8 z14 z6 z15 z12 z13 b d g i m n j o l p 0).getD default).1 ((o12_0 z8 z14 z6 z15 z12 z13 b d g i m n j o l p 0).getD default).2.1 (cond ((o12_2 z8 z14 z6 z15 z12 z13 b d g i m n j o l p 0).getD default).1 ((o12_2 z8 z14 z6 z15 z12 z13 b d g i m n j o l p 0).getD default).2.1 (cond ((o12_4 z6 z15 z12 z13 b d g i m n j o l p 0).getD default).1 ((o12_4 z6 z15 z12 z13 b d g i m n j o l p 0).getD default).2.1 true))))))))))
def v12 (b:Nat) (d:Dat) (g:Nat) (i:Dat) (t:Nat) (u:Dat) (m n:Int) (j o l:ByteArray) (p:Bool) (z0:Nat) (z1:Dat) (z2:Nat) (z3:Dat) (z4:Nat) (z5:Dat) (z6:Nat) (z7:Int) (z8:Nat) (z9:Int) (z10:Nat) (z11:Dat) (z12:Nat) (z13 z14 z15:Dat):Bool :=
 ((n17)&&(cond (bif m17 then false else true) true ((n18 b d g i t u)&&(cond (bif (bif (bif (m18 b d g i t u) then false else true) then true else (bif (m37 m n j o l p) then false else true)) then true else (bif (bif (decide (m=2)) then false else true) then (bif (decide (m=3)) then false else true) else false)) true ((n20 b d g i)&&((n21 t u)&&((n38 z0 z1 z2 z3 (m21 t u).1 (m21 t u).2 m n j o l p)&&(cond (bif (decide ((m38 z0 z1 z2 z3 (m21 t u).1 (m21 t u).2 m n j o l p).2.2=0)) then false else true) true ((n20 b d g i)&&((n21 t u)&&((n29 z0 z1 z2 z3 (m21 t u).1 (m21 t u).2 j)&&((n20 b d g i)&&((n21 z4 z5)&&((n29 z0 z1 z2 z3 (m21 z4 z5).1 (m21 z4 z5).2 j)&&(cond (bif (bif (decide ((m29 z0 z1 z2 z3 (m21 t u).1 (m21 t u).2 j).2.2=0)) then false else true) then true else (bif (decide ((m29 z0 z1 z2 z3 (m21 z4 z5).1 (m21 z4 z5).2 j).2.2=0)) then false else true)) true (cond (decide (m=3)) true ((n20 b d g i)&&((n21 t u)&&((n29 z0 z1 z2 z3 (m21 t u).1 (m21 t u).2 l)&&(cond (bif (decide (z7=0)) then false else true) true ((n20 b d g i)&&((n21 z4 z5)&&((n29 z0 z1 z2 z3 (m21 z4 z5).1 (m21 z4 z5).2 l)&&((bif (bif (bif (bif (decide (z9=0)) then false else true) then false else true) then false else true) then true else (n32 z10 z11 z12 z13))&&(cond (bif (bif (decide (z9=0)) then false else true) then true else (bif (m32 z10 z11 z12 z13) then false else true)) true (((o12_0 z8 z14 z6 z15 z12 z13 b d g i m n j o l p 0).isSome)&&(cond ((o12_0 z8 z14 z6 z15 z12 z13 b d g i m n j o l p 0).getD default).1 true (((o12_2 z8 z14 z6 z15 z12 z13 b d g i m n j o l p 0).isSome)&&(cond ((o12_2 z8 z14 z6 z15 z12 z13 b d g i m n j o l p 0).getD default).1 true (((o12_4 z6 z15 z12 z13 b d g i m n j o l p 0).isSome)&&true))))))))))))))))))))))))))))))
def m12 (b:Nat) (d:Dat) (g:Nat) (i:Dat) (t:Nat) (u:Dat) (m n:Int) (j o l:ByteArray) (p:Bool):Bool:=w12 b d g i t u m n j o l p (t12_0 b d g i t u m n j o l p) (t12_1 b d g i t u m n j o l p) (t12_2 b d g i t u m n j o l p) (t12_3 b d g i t u m n j o l p) (t12_4 b d g i t u m n j o l p) (t12_5 b d g i t u m n j o l p) (t12_6 b d g i t u m n j o l p) (t12_7 b d g i t u m n j o l p) (t12_8 b d g i t u m n j o l p) (t12_9 b d g i t u m n j o l p) (t12_10 b d g i t u m n j o l p) (t12_11 b d g i t u m n j o l p) (t12_12 b d g i t u m n j o l p) (t12_13 b d g i t u m n j o l p) (t12_14 b d g i t u m n j o l p) (t12_15 b d g i t u m n j o l p)
def n12 (b:Nat) (d:Dat) (g:Nat) (i:Dat) (t:Nat) (u:Dat) (m n:Int) (j o l:ByteArray) (p:Bool):Bool:=v12 b d g i t u m n j o l p (t12_0 b d g i t u m n j o l p) (t12_1 b d g i t u m n j o l p) (t12_2 b d g i t u m n j o l p) (t12_3 b d g i t u m n j o l p) (t12_4 b d g i t u m n j o l p) (t12_5 b d g i t u m n j o l p) (t12_6 b d g i t u m n j o l p) (t12_7 b d g i t u m n j o l p) (t12_8 b d g i t u m n j o l p) (t12_9 b d g i t u m n j o l p) (t12_10 b d g i t u m n j o l p) (t12_11 b d g i t u m n j o l p) (t12_12 b d g i t u m n j o l p) (t12_13 b d g i t u m n j o l p) (t12_14 b d g i t u m n j o l p) (t12_15 b d g i t u m n j o l p)
def q12 (r:Bool):SV × List Blk × List Blk:=(.bool r,[],[])
def g12:GF:=fun vs bs=>match vs,bs with
 | [.agg [.ro [.str,W Z,W Z] b d,.ro [.str,W Z,W Z,W Z] g i],.ro [W Z,W Z,.str,.str,.str,.bool] t u,.agg [V Z m,V Z n,.str j,.str o,.str l,.bool p]],[]=>some (rs 0 (q12 (m12 b d g i t u m n j o l p)) [n12 b d g i t u m n j o l p])
 | _,_=>none
def c12:Ctr:=genC [.a [.ro [.str,W Z,W Z],.ro [.str,W Z,W Z,W Z]],.ro [W Z,W Z,.str,.str,.str,.bool],.k] g12
theorem u12 (b:Nat) (d:Dat) (g:Nat) (i:Dat) (t:Nat) (u:Dat) (m n:Int) (j o l:ByteArray) (p:Bool) (z0:Nat) (z1:Dat) (z2:Nat) (z3:Dat) (z4:Nat) (z5:Dat) (z6:Nat) (z7:Int) (z8:Nat) (z9:Int) (z10:Nat) (z11:Dat) (z12:Nat) (z13 z14 z15:Dat) (hn:v12 b d g i t u m n j o l p z0 z1 z2 z3 z4 z5 z6 z7 z8 z9 z10 z11 z12 z13 z14 z15=true):U12 b d g i t u m n j o l p z0 z1 z2 z3 z4 z5 z6 z7 z8 z9 z10 z11 z12 z13 z14 z15 (fun v U N=>(v,U,N)=q12 (w12 b d g i t u m n j o l p z0 z1 z2 z3 z4 z5 z6 z7 z8 z9 z10 z11 z12 z13 z14 z15)) :=
 cn (al hn) (co (fun h0=>lf (cT h0 rfl) rfl) (fun h0=>cn (al (cf h0 (ar hn))) (co (fun h1=>lf (cF h0 (cT h1 rfl)) rfl) (fun h1=>cn (al (cf h1 (ar (cf h0 (ar hn))))) (cn (al (ar (cf h1 (ar (cf h0 (ar hn)))))) (cn (al (ar (ar (cf h1 (ar (cf h0 (ar hn))))))) (co (fun h2=>lf (cF h0 (cF h1 (cT h2 rfl))) rfl) (fun h2=>cn (al (cf h2 (ar (ar (ar (cf h1 (ar (cf h0 (ar hn))))))))) (cn (al (ar (cf h2 (ar (ar (ar (cf h1 (ar (cf h0 (ar hn)))))))))) (cn (al (ar (ar (cf h2 (ar (ar (ar (cf h1 (ar (cf h0 (ar hn))))))))))) (cn (al (ar (ar (ar (cf h2 (ar (ar (ar (cf h1 (ar (cf h0 (ar hn)))))))))))) (cn (al (ar (ar (ar (ar (cf h2 (ar (ar (ar (cf h1 (ar (cf h0 (ar hn))))))))))))) (cn (al (ar (ar (ar (ar (ar (cf h2 (ar (ar (ar (cf h1 (ar (cf h0 (ar hn)))))))))))))) (co (fun h3=>lf (cF h0 (cF h1 (cF h2 (cT h3 rfl)))) rfl) (fun h3=>co (fun h4=>lf (cF h0 (cF h1 (cF h2 (cF h3 (cT h4 rfl))))) rfl) (fun h4=>cn (al (cf h4 (cf h3 (ar (ar (ar (ar (ar (ar (cf h2 (ar (ar (ar (cf h1 (ar (cf h0 (ar hn))))))))))))))))) (cn (al (ar (cf h4 (cf h3 (ar (ar (ar (ar (ar (ar (cf h2 (ar (ar (ar (cf h1 (ar (cf h0 (ar hn)))))))))))))))))) (cn (al (ar (ar (cf h4 (cf h3 (ar (ar (ar (ar (ar (ar (cf h2 (ar (ar (ar (cf h1 (ar (cf h0 (ar hn))))))))))))))))))) (co (fun h5=>lf (cF h0 (cF h1 (cF h2 (cF h3 (cF h4 (cT h5 rfl)))))) rfl) (fun h5=>cn (al (cf h5 (ar (ar (ar (cf h4 (cf h3 (ar (ar (ar (ar (ar (ar (cf h2 (ar (ar (ar (cf h1 (ar (cf h0 (ar hn))))))))))))))))))))) (cn (al (ar (cf h5 (ar (ar (ar (cf h4 (cf h3 (ar (ar (ar (ar (ar (ar (cf h2 (ar (ar (ar (cf h1 (ar (cf h0 (ar hn)))))))))))))))))))))) (cn (al (ar (ar (cf h5 (ar (ar (ar (cf h4 (cf h3 (ar (ar (ar (ar (ar (ar (cf h2 (ar (ar (ar (cf h1 (ar (cf h0 (ar hn))))))))))))))))))))))) (cn (al (ar (ar (ar (cf h5 (ar (ar (ar (cf h4 (cf h3 (ar (ar (ar (ar (ar (ar (cf h2 (ar (ar (ar (cf h1 (ar (cf h0 (ar hn)))))))))))))))))))))))) (co (fun h6=>lf (cF h0 (cF h1 (cF h2 (cF h3 (cF h4 (cF h5 (cT h6 rfl))))))) rfl) (fun h6=>cn (al (cf h6 (ar (ar (ar (ar (cf h5 (ar (ar (ar (cf h4 (cf h3 (ar (ar (ar (ar (ar (ar (cf h2 (ar (ar (ar (cf h1 (ar (cf h0 (ar hn)))))))))))))))))))))))))) (co (fun h7=>lf (cF h0 (cF h1 (cF h2 (cF h3 (cF h4 (cF h5 (cF h6 (cT h7 rfl)))))))) rfl) (fun h7=>cn (al (cf h7 (ar (cf h6 (ar (ar (ar (ar (cf h5 (ar (ar (ar (cf h4 (cf h3 (ar (ar (ar (ar (ar (ar (cf h2 (ar (ar (ar (cf h1 (ar (cf h0 (ar hn)))))))))))))))))))))))))))) (co (fun h8=>lf (cF h0 (cF h1 (cF h2 (cF h3 (cF h4 (cF h5 (cF h6 (cF h7 (cT h8 rfl))))))))) rfl) (fun h8=>cn (al (cf h8 (ar (cf h7 (ar (cf h6 (ar (ar (ar (ar (cf h5 (ar (ar (ar (cf h4 (cf h3 (ar (ar (ar (ar (ar (ar (cf h2 (ar (ar (ar (cf h1 (ar (cf h0 (ar hn)))))))))))))))))))))))))))))) (co (fun h9=>lf (cF h0 (cF h1 (cF h2 (cF h3 (cF h4 (cF h5 (cF h6 (cF h7 (cF h8 (cT h9 rfl)))))))))) rfl) (fun h9=>lf (cF h0 (cF h1 (cF h2 (cF h3 (cF h4 (cF h5 (cF h6 (cF h7 (cF h8 (cF h9 rfl)))))))))) rfl)))))))))))))))))))))))))))))))
theorem k12:CtrOk Try.prog c12 12:=cx (tc k17 (tc k18 (tc k20 (tc k21 (tc k29 (tc k32 (tc k37 (tc k38 (tc k56 tn))))))))) mix_ok 8 (fn:=Try.f12) (c:=(Try.f12.body.getD .skip)) (grs:=[]) (rh:=.k) Try.func12 rfl (by kernel_rfl) (lam_of rfl (lc z12_0 (lc z12_2 (lc z12_4 ln)))) fun vs bs q h hn=>by
 unfold g12 at h
 split at h <;> cases h
 rename_i b d g i t u m n j o l p
 have hn:=n1 hn
 exact ⟨_,rfl,ca (fun R=>U12 b d g i t u m n j o l p (t12_0 b d g i t u m n j o l p) (t12_1 b d g i t u m n j o l p) (t12_2 b d g i t u m n j o l p) (t12_3 b d g i t u m n j o l p) (t12_4 b d g i t u m n j o l p) (t12_5 b d g i t u m n j o l p) (t12_6 b d g i t u m n j o l p) (t12_7 b d g i t u m n j o l p) (t12_8 b d g i t u m n j o l p) (t12_9 b d g i t u m n j o l p) (t12_10 b d g i t u m n j o l p) (t12_11 b d g i t u m n j o l p) (t12_12 b d g i t u m n j o l p) (t12_13 b d g i t u m n j o l p) (t12_14 b d g i t u m n j o l p) (t12_15 b d g i t u m n j o l p) R) (fun R=>by kernel_rfl) (u12 b d g i t u m n j o l p (t12_0 b d g i t u m n j o l p) (t12_1 b d g i t u m n j o l p) (t12_2 b d g i t u m n j o l p) (t12_3 b d g i t u m n j o l p) (t12_4 b d g i t u m n j o l p) (t12_5 b d g i t u m n j o l p) (t12_6 b d g i t u m n j o l p) (t12_7 b d g i t u m n j o l p) (t12_8 b d g i t u m n j o l p) (t12_9 b d g i t u m n j o l p) (t12_10 b d g i t u m n j o l p) (t12_11 b d g i t u m n j o l p) (t12_12 b d g i t u m n j o l p) (t12_13 b d g i t u m n j o l p) (t12_14 b d g i t u m n j o l p) (t12_15 b d g i t u m n j o l p) hn)⟩
end
end Go.Proofs.Ytldjapmfmhifkaa
