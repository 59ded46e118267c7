/-
 Contracts of functions: models, equations by the kernel, contracts. Conditions: none.
-/
import Derived.Test.YtldjapmfmhifkaaO5
import Derived.KernelRfl
namespace Go.Proofs.Ytldjapmfmhifkaa
open Go Go.Sy
noncomputable section
set_option linter.unusedVariables false
set_option linter.unusedSimpArgs false
set_option maxRecDepth 100000
set_option maxHeartbeats 2000000
attribute [local irreducible] Go.IntKind.wrap Int.tdiv Int.tmod Int.fdiv
open Go.Sy renaming tabOk_cons→tc,tabOk_nil→tn,cnd_need→cn,leaf_of→lf,cnd_gg→cg,cnd_gg2→ch,cond_f→cf,cond_t→ct,cnd_of→co,callOf→ca,roundOf→ro,cnd_not→nn,lams_cons→lc,lams_nil→ln,condT→cT,condF→cF,need1→n1,resOf→rs,and_l→al,and_r→ar,or_gg→og,ctr_of→cx,loop_blk→lb
open Go.IntKind renaming i64→Z
open Go.Sy.SV renaming int→V
open Go.Sy.Kd renaming int→W
/-! ### shotline/kit.Usable -/
def m19 (b:Nat) (d:Dat) (e:Nat) (g:Dat) (i:Nat) (j:Dat) (l:ByteArray) (m:Int):Bool × Nat × Dat × Int :=
 (cond (bif (decide ((m62 b d e g i j).2.2.2=0)) then false else true) (false,0,noDat,(m62 b d e g i j).2.2.2) (cond (bif (m63 (m62 b d e g i j).2.1 l).1 then false else true) (false,0,noDat,6) (cond (bif (m64 m) then false else true) (false,0,noDat,2) (cond (decide (m<((m62 b d e g i j).2.1.ii 0 3))) (false,0,noDat,19) ((decide ((↑((m65 (m62 b d e g i j).2.1 (m63 (m62 b d e g i j).2.1 l).2 m).1):Int)=0)),(m65 (m62 b d e g i j).2.1 (m63 (m62 b d e g i j).2.1 l).2 m).1,(m65 (m62 b d e g i j).2.1 (m63 (m62 b d e g i j).2.1 l).2 m).2,0)))))
def n19 (b:Nat) (d:Dat) (e:Nat) (g:Dat) (i:Nat) (j:Dat) (l:ByteArray) (m:Int):Bool :=
 ((n62 b d e g i j)&&(cond (bif (decide ((m62 b d e g i j).2.2.2=0)) then false else true) true ((m62 b d e g i j).1&&((n63 (m62 b d e g i j).2.1 l)&&(cond (bif (m63 (m62 b d e g i j).2.1 l).1 then false else true) true (cond (bif (m64 m) then false else true) true ((m62 b d e g i j).1&&(cond (decide (m<((m62 b d e g i j).2.1.ii 0 3))) true ((m62 b d e g i j).1&&((m63 (m62 b d e g i j).2.1 l).1&&((n65 (m62 b d e g i j).2.1 (m63 (m62 b d e g i j).2.1 l).2 m)&&true)))))))))))
def q19 (r:Bool × Nat × Dat × Int):SV × List Blk × List Blk:=(.tup [.bool r.1,.ro [W Z,.str,.str,W Z] r.2.1 r.2.2.1,V Z r.2.2.2],[],[])
def g19:GF:=fun vs bs=>match vs,bs with
 | [.agg [.ro [.str,W Z,W Z] b d,.ro [.str,W Z,W Z,W Z] e g],.ro [W Z,W Z,.str,.str,.str,.bool] i j,.agg [.str l,V Z m]],[]=>some (rs 0 (q19 (m19 b d e g i j l m)) [n19 b d e g i j l m])
 | _,_=>none
def c19:Ctr:=genC [.a [.ro [.str,W Z,W Z],.ro [.str,W Z,W Z,W Z]],.ro [W Z,W Z,.str,.str,.str,.bool],.k] g19
theorem k19:CtrOk Try.prog c19 19:=cx (tc k62 (tc k63 (tc k64 (tc k65 tn)))) mix_ok 8 (fn:=Try.f19) (c:=(Try.f19.body.getD .skip)) (grs:=[]) (rh:=.t [.k,.ro [W Z,.str,.str,W Z],.k]) Try.func19 rfl (by kernel_rfl) noLam fun vs bs q h hn=>by
 unfold g19 at h
 split at h <;> cases h
 rename_i b d e g i j l m
 have hn:=n1 hn
 exact ⟨_,rfl,ca (fun R => 
 let a0:=(m63 (m62 b d e g i j).2.1 l)
 let b0:=(m65 (m62 b d e g i j).2.1 a0.2 m)
 (cnd (n62 b d e g i j)
 (cnd (bif (decide ((m62 b d e g i j).2.2.2=0)) then false else true)
 (R (.tup [.bool false,.ro [W Z,.str,.str,W Z] 0 noDat,V Z (m62 b d e g i j).2.2.2]) [] [])
 (cnd (m62 b d e g i j).1
 (cnd (n63 (m62 b d e g i j).2.1 l)
 (cnd (bif a0.1 then false else true)
 (R (.tup [.bool false,.ro [W Z,.str,.str,W Z] 0 noDat,V Z 6]) [] [])
 (cnd (bif (m64 m) then false else true)
 (R (.tup [.bool false,.ro [W Z,.str,.str,W Z] 0 noDat,V Z 2]) [] [])
 (cnd (m62 b d e g i j).1
 (cnd (decide (m<((m62 b d e g i j).2.1.ii 0 3)))
 (R (.tup [.bool false,.ro [W Z,.str,.str,W Z] 0 noDat,V Z 19]) [] [])
 (cnd (m62 b d e g i j).1
 (cnd a0.1
 (cnd (n65 (m62 b d e g i j).2.1 a0.2 m)
 (R (.tup [.bool (decide ((↑(b0.1):Int)=0)),.ro [W Z,.str,.str,W Z] b0.1 b0.2,V Z 0]) [] [])
      False)
      False)
     False))
    False)))
   False)
  False))
 False)) (fun R=>by kernel_rfl) (cn (al hn) (co (fun h0=>lf (cT h0 rfl) rfl) (fun h0=>cn (al (cf h0 (ar hn))) (cn (al (ar (cf h0 (ar hn)))) (co (fun h1=>lf (cF h0 (cT h1 rfl)) rfl) (fun h1=>co (fun h2=>lf (cF h0 (cF h1 (cT h2 rfl))) rfl) (fun h2=>cn (al (cf h2 (cf h1 (ar (ar (cf h0 (ar hn))))))) (co (fun h3=>lf (cF h0 (cF h1 (cF h2 (cT h3 rfl)))) rfl) (fun h3=>cn (al (cf h3 (ar (cf h2 (cf h1 (ar (ar (cf h0 (ar hn))))))))) (cn (al (ar (cf h3 (ar (cf h2 (cf h1 (ar (ar (cf h0 (ar hn)))))))))) (cn (al (ar (ar (cf h3 (ar (cf h2 (cf h1 (ar (ar (cf h0 (ar hn))))))))))) (lf (cF h0 (cF h1 (cF h2 (cF h3 rfl)))) rfl))))))))))))⟩
/-! ### shotline/kit.Quarantined -/
def m31 (b:Nat) (d:Dat) (e:Nat) (g:Dat) (i:Nat) (j:Dat):Nat × Dat × Int :=
 (cond (bif (decide ((m62 b d e g i j).2.2.2=0)) then false else true) (0,noDat,(m62 b d e g i j).2.2.2) ((m72c79 (m62 b d e g i j).2.1 (datC [SV.rp [Kd.sl [Kd.str,Kd.int Z,Kd.int Z],Kd.sl [Kd.str,Kd.int Z,Kd.int Z,Kd.int Z],Kd.sl [Kd.pt [Kd.str,Kd.int Z,Kd.int Z,Kd.mi [Kd.int Z,Kd.int Z,Kd.bool],Kd.mb,Kd.mb,Kd.int Z,Kd.bool,Kd.m1]],Kd.int Z] (m62 b d e g i j).2.1 0 0])).1,(m72c79 (m62 b d e g i j).2.1 (datC [SV.rp [Kd.sl [Kd.str,Kd.int Z,Kd.int Z],Kd.sl [Kd.str,Kd.int Z,Kd.int Z,Kd.int Z],Kd.sl [Kd.pt [Kd.str,Kd.int Z,Kd.int Z,Kd.mi [Kd.int Z,Kd.int Z,Kd.bool],Kd.mb,Kd.mb,Kd.int Z,Kd.bool,Kd.m1]],Kd.int Z] (m62 b d e g i j).2.1 0 0])).2.2,0))
def n31 (b:Nat) (d:Dat) (e:Nat) (g:Dat) (i:Nat) (j:Dat):Bool :=
 ((n62 b d e g i j)&&(cond (bif (decide ((m62 b d e g i j).2.2.2=0)) then false else true) true ((m62 b d e g i j).1&&((m62 b d e g i j).1&&((n72c79 (m62 b d e g i j).2.1 (datC [SV.rp [Kd.sl [Kd.str,Kd.int Z,Kd.int Z],Kd.sl [Kd.str,Kd.int Z,Kd.int Z,Kd.int Z],Kd.sl [Kd.pt [Kd.str,Kd.int Z,Kd.int Z,Kd.mi [Kd.int Z,Kd.int Z,Kd.bool],Kd.mb,Kd.mb,Kd.int Z,Kd.bool,Kd.m1]],Kd.int Z] (m62 b d e g i j).2.1 0 0]))&&((decide ((0+(m72c79 (m62 b d e g i j).2.1 (datC [SV.rp [Kd.sl [Kd.str,Kd.int Z,Kd.int Z],Kd.sl [Kd.str,Kd.int Z,Kd.int Z,Kd.int Z],Kd.sl [Kd.pt [Kd.str,Kd.int Z,Kd.int Z,Kd.mi [Kd.int Z,Kd.int Z,Kd.bool],Kd.mb,Kd.mb,Kd.int Z,Kd.bool,Kd.m1]],Kd.int Z] (m62 b d e g i j).2.1 0 0])).1)≤(m72c79 (m62 b d e g i j).2.1 (datC [SV.rp [Kd.sl [Kd.str,Kd.int Z,Kd.int Z],Kd.sl [Kd.str,Kd.int Z,Kd.int Z,Kd.int Z],Kd.sl [Kd.pt [Kd.str,Kd.int Z,Kd.int Z,Kd.mi [Kd.int Z,Kd.int Z,Kd.bool],Kd.mb,Kd.mb,Kd.int Z,Kd.bool,Kd.m1]],Kd.int Z] (m62 b d e g i j).2.1 0 0])).2.1))&&true))))))
def q31 (r:Nat × Dat × Int):SV × List Blk × List Blk:=(.tup [.ro [.str] r.1 r.2.1,V Z r.2.2],[],[])
def g31:GF:=fun vs bs=>match vs,bs with
 | [.agg [.ro [.str,W Z,W Z] b d,.ro [.str,W Z,W Z,W Z] e g],.ro [W Z,W Z,.str,.str,.str,.bool] i j],[]=>some (rs 0 (q31 (m31 b d e g i j)) [n31 b d e g i j])
 | _,_=>none
def c31:Ctr:=genC [.a [.ro [.str,W Z,W Z],.ro [.str,W Z,W Z,W Z]],.ro [W Z,W Z,.str,.str,.str,.bool]] g31
theorem k31:CtrOk Try.prog c31 31:=cx (tc k62 (tc k72c79 (tc k79 tn))) mix_ok 8 (fn:=Try.f31) (c:=(Try.f31.body.getD .skip)) (grs:=[]) (rh:=.t [.ro [.str],.k]) Try.func31 rfl (by kernel_rfl) noLam fun vs bs q h hn=>by
 unfold g31 at h
 split at h <;> cases h
 rename_i b d e g i j
 have hn:=n1 hn
 exact ⟨_,rfl,ca (fun R => 
 let a0:=(datC [SV.rp [Kd.sl [Kd.str,Kd.int Z,Kd.int Z],Kd.sl [Kd.str,Kd.int Z,Kd.int Z,Kd.int Z],Kd.sl [Kd.pt [Kd.str,Kd.int Z,Kd.int Z,Kd.mi [Kd.int Z,Kd.int Z,Kd.bool],Kd.mb,Kd.mb,Kd.int Z,Kd.bool,Kd.m1]],Kd.int Z] (m62 b d e g i j).2.1 0 0])
 let b0:=(m72c79 (m62 b d e g i j).2.1 a0)
 (cnd (n62 b d e g i j)
 (cnd (bif (decide ((m62 b d e g i j).2.2.2=0)) then false else true)
 (R (.tup [.ro [.str] 0 noDat,V Z (m62 b d e g i j).2.2.2]) [] [])
 (cnd (m62 b d e g i j).1
 (cnd (m62 b d e g i j).1
 (cnd (n72c79 (m62 b d e g i j).2.1 a0)
 (cnd (decide ((0+b0.1)≤b0.2.1))
 (R (.tup [.ro [.str] b0.1 b0.2.2,V Z 0]) [] [])
    False)
   False)
   False)
  False))
 False)) (fun R=>by kernel_rfl) (cn (al hn) (co (fun h0=>lf (cT h0 rfl) rfl) (fun h0=>cn (al (cf h0 (ar hn))) (cn (al (ar (cf h0 (ar hn)))) (cn (al (ar (ar (cf h0 (ar hn))))) (cn (al (ar (ar (ar (cf h0 (ar hn)))))) (lf (cF h0 rfl) rfl)))))))⟩
/-! ### shotline/kit.BatchesIn -/
def l29_1 (y:Bool) (u:Dat) (o:Nat) (m:Dat) (D:Int) (w:Nat) (z:Dat) (x:Nat) (A:Dat):Nat→Nat→Int→Dat→Option (Nat × Nat × Dat)
 | 0,_,_,_=>none
 | f+1,v,p,C=>(cond (decide (p<D)) (cond (decide (0≤p∧p<↑o)) (cond (y) (cond (n77 u (m.ii p.toNat 0) (m.ii p.toNat 1)) (cond (decide ((v+1)≤1073741824)) (l29_1 y u o m D w z x A f (v+1) (Z.wrap (p+1)) (C.app v (datS [SV.str (m77 u (m.ii p.toNat 0) (m.ii p.toNat 1)).1,V Z (m77 u (m.ii p.toNat 0) (m.ii p.toNat 1)).2] 2))) none) none) none) none) (some (v,v,C)))
abbrev o29_1 (y:Bool) (u:Dat) (o:Nat) (m:Dat) (D:Int) (w:Nat) (z:Dat) (x:Nat) (A:Dat) (v:Nat) (p:Int) (C:Dat):Option (Nat × Nat × Dat):=l29_1 y u o m D w z x A (v+o+D.toNat+p.toNat+w+x+8) v p C
def e29_1 (y:Bool) (u:Dat) (o:Nat) (m:Dat) (D:Int) (w:Nat) (z:Dat) (x:Nat) (A:Dat) (r:Nat × Nat × Dat) (K:XR):Prop:=K (XE.exit 1) [.gr 1 2 r.1] [.cells 25 [.ro [.str,W Z,W Z] w z,.ro [.str,W Z,W Z,W Z] x A],.row 47 [.str,W Z] r.2.1 r.2.2]
def g29_1:LSum:=fun s k=>match czv 0 56 [8,12,42,43,44] 2 [⟨true,12,0,1,47,[.str,W Z]⟩] s with
 | some ([.rq y [.sl [.str,W Z,W Z],.sl [.str,W Z,W Z,W Z],.sl [.pt [.str,W Z,W Z,.mi [W Z,W Z,.bool],.mb,.mb,W Z,.bool,.m1]],W Z] u 0 0,.gr 1 2 v,.ro [W Z,W Z] o m,V Z D,V Z p],[.cells 25 [.ro [.str,W Z,W Z] w z,.ro [.str,W Z,W Z,W Z] x A],.row 47 [.str,W Z] b1_0 C])=>needs [decide (v=b1_0),(o29_1 y u o m D w z x A v p C).isSome] (e29_1 y u o m D w z x A ((o29_1 y u o m D w z x A v p C).getD default) fun e vs bs=>inBlk 1 k e (mkSt 0 56 [12] vs 2 bs))
 | _=>False
theorem z29_1:LOk Try.prog g29_1 (.block 1 (bodyAt (Try.f29.body.getD .skip) 1)):=by
 refine lb (ι:=Bool × Dat × Nat × Nat × Dat × Int × Int × Nat × Dat × Nat × Dat × Dat) (fuel:=8) (na:=0) (nt:=56) (nx:=2) (Lh:=[8,12,42,43,44]) (Le:=[12]) (gl:=[⟨true,12,0,1,47,[.str,W Z]⟩]) (tc k62 (tc k63 (tc k75c76 (tc k76 (tc k77 tn))))) mix_ok noLam rfl (fun f (y,u,v,o,m,D,p,w,z,x,A,C) K=>GG default (e29_1 y u o m D w z x A) K (l29_1 y u o m D w z x A f v p C)) (fun (y,u,v,o,m,D,p,w,z,x,A,C)=>[.rq y [.sl [.str,W Z,W Z],.sl [.str,W Z,W Z,W Z],.sl [.pt [.str,W Z,W Z,.mi [W Z,W Z,.bool],.mb,.mb,W Z,.bool,.m1]],W Z] u 0 0,.gr 1 2 v,.ro [W Z,W Z] o m,V Z D,V Z p]) (fun (y,u,v,o,m,D,p,w,z,x,A,C)=>[.cells 25 [.ro [.str,W Z,W Z] w z,.ro [.str,W Z,W Z,W Z] x A],.row 47 [.str,W Z] v C]) (fun (_,_,_,_,_,_,_,_,_,_,_,_) K=>gg_none) ?_ ?_
 ·rintro f ⟨y,u,v,o,m,D,p,w,z,x,A,C⟩ K hG
  refine ro (fun R=>(cnd (decide (p<D))
 (cnd (decide (0≤p∧p<↑o))
 (cnd (y)
 (cnd (n77 u (m.ii p.toNat 0) (m.ii p.toNat 1))
 (cnd (decide (v≤v))
 (cnd (decide ((v+1)≤1073741824))
 (R (XE.normal) [.rq y [.sl [.str,W Z,W Z],.sl [.str,W Z,W Z,W Z],.sl [.pt [.str,W Z,W Z,.mi [W Z,W Z,.bool],.mb,.mb,W Z,.bool,.m1]],W Z] u 0 0,.gr 1 2 (v+1),.ro [W Z,W Z] o m,V Z D,V Z (Z.wrap (p+1))] [.cells 25 [.ro [.str,W Z,W Z] w z,.ro [.str,W Z,W Z,W Z] x A],.row 47 [.str,W Z] (v+1) (C.app v (datS [SV.str (m77 u (m.ii p.toNat 0) (m.ii p.toNat 1)).1,V Z (m77 u (m.ii p.toNat 0) (m.ii p.toNat 1)).2] 2))])
    False)
   False)
   False)
  False)
  False)
 (R (XE.exit 1) [.gr 1 2 v] [.cells 25 [.ro [.str,W Z,W Z] w z,.ro [.str,W Z,W Z,W Z] x A],.row 47 [.str,W Z] v C]))) (fun R=>by kernel_rfl) ?_
  exact ch hG (fun h0=>cg h0 fun h1=>cg h1 fun h2=>cg h2 fun h3=>cn (decide_eq_true (Nat.le_refl _)) (cg h3 fun h4=>⟨(_,_,_,_,_,_,_,_,_,_,_,_),rfl,rfl,h4⟩)) (fun h0=>h0.2)
 ·intro s k h
  unfold g29_1 at h
  split at h <;> try exact h.elim
  rename_i e1
  rw [needs_iff] at h
  have hq:=h.1
  simp only [List.mem_cons,forall_eq_or_imp,decide_eq_true_eq,List.not_mem_nil,false_imp_iff,implies_true,and_true] at hq
  obtain ⟨rfl,hq⟩:=hq
  exact ⟨_,e1,_,(_,_,_,_,_,_,_,_,_,_,_,_),rfl,rfl,hq,h.2⟩
def m29 (b:Nat) (d:Dat) (g:Nat) (i:Dat) (j:Nat) (l:Dat) (n:ByteArray):Nat × Dat × Int :=
 (cond (bif (decide ((m62 b d g i j l).2.2.2=0)) then false else true) (0,noDat,(m62 b d g i j l).2.2.2) (cond (bif (m63 (m62 b d g i j l).2.1 n).1 then false else true) (0,noDat,6) (cond (bif (decide (((m63 (m62 b d g i j l).2.1 n).2.ii 0 1)=1)) then false else true) (0,noDat,27) (((o29_1 (m62 b d g i j l).1 (m62 b d g i j l).2.1 ((m75c76 ((m63 (m62 b d g i j l).2.1 n).2.sub 0 (0+1+1+1+1))).length) ({ ii:=fun q c=>bif decide (c=0) then (↑((m75c76 ((m63 (m62 b d g i j l).2.1 n).2.sub 0 (0+1+1+1+1)))[q]?.getD (0,0)).1:Int) else (↑((m75c76 ((m63 (m62 b d g i j l).2.1 n).2.sub 0 (0+1+1+1+1)))[q]?.getD (0,0)).2:Int),ss:=noDat.ss,bb:=noDat.bb,sn:=noDat.sn,sd:=noDat.sd }) (↑((m75c76 ((m63 (m62 b d g i j l).2.1 n).2.sub 0 (0+1+1+1+1))).length):Int) b d g i 0 0 noDat).getD default).1,((o29_1 (m62 b d g i j l).1 (m62 b d g i j l).2.1 ((m75c76 ((m63 (m62 b d g i j l).2.1 n).2.sub 0 (0+1+1+1+1))).length) ({ ii:=fun q c=>bif decide (c=0) then (↑((m75c76 ((m63 (m62 b d g i j l).2.1 n).2.sub 0 (0+1+1+1+1)))[q]?.getD (0,0)).1:Int) else (↑((m75c76 ((m63 (m62 b d g i j l).2.1 n).2.sub 0 (0+1+1+1+1)))[q]?.getD (0,0)).2:Int),ss:=noDat.ss,bb:=noDat.bb,sn:=noDat.sn,sd:=noDat.sd }) (↑((m75c76 ((m63 (m62 b d g i j l).2.1 n).2.sub 0 (0+1+1+1+1))).length):Int) b d g i 0 0 noDat).getD default).2.2,0))))
def n29 (b:Nat) (d:Dat) (g:Nat) (i:Dat) (j:Nat) (l:Dat) (n:ByteArray):Bool :=
 ((n62 b d g i j l)&&(cond (bif (decide ((m62 b d g i j l).2.2.2=0)) then false else true) true ((m62 b d g i j l).1&&((n63 (m62 b d g i j l).2.1 n)&&(cond (bif (m63 (m62 b d g i j l).2.1 n).1 then false else true) true ((m63 (m62 b d g i j l).2.1 n).1&&(cond (bif (decide (((m63 (m62 b d g i j l).2.1 n).2.ii 0 1)=1)) then false else true) true ((m63 (m62 b d g i j l).2.1 n).1&&((n75c76 ((m63 (m62 b d g i j l).2.1 n).2.sub 0 4))&&(((o29_1 (m62 b d g i j l).1 (m62 b d g i j l).2.1 ((m75c76 ((m63 (m62 b d g i j l).2.1 n).2.sub 0 (0+1+1+1+1))).length) ({ ii:=fun q c=>bif decide (c=0) then (↑((m75c76 ((m63 (m62 b d g i j l).2.1 n).2.sub 0 (0+1+1+1+1)))[q]?.getD (0,0)).1:Int) else (↑((m75c76 ((m63 (m62 b d g i j l).2.1 n).2.sub 0 (0+1+1+1+1)))[q]?.getD (0,0)).2:Int),ss:=noDat.ss,bb:=noDat.bb,sn:=noDat.sn,sd:=noDat.sd }) (↑((m75c76 ((m63 (m62 b d g i j l).2.1 n).2.sub 0 (0+1+1+1+1))).length):Int) b d g i 0 0 noDat).isSome)&&((decide ((0+((o29_1 (m62 b d g i j l).1 (m62 b d g i j l).2.1 ((m75c76 ((m63 (m62 b d g i j l).2.1 n).2.sub 0 (0+1+1+1+1))).length) ({ ii:=fun q c=>bif decide (c=0) then (↑((m75c76 ((m63 (m62 b d g i j l).2.1 n).2.sub 0 (0+1+1+1+1)))[q]?.getD (0,0)).1:Int) else (↑((m75c76 ((m63 (m62 b d g i j l).2.1 n).2.sub 0 (0+1+1+1+1)))[q]?.getD (0,0)).2:Int),ss:=noDat.ss,bb:=noDat.bb,sn:=noDat.sn,sd:=noDat.sd }) (↑((m75c76 ((m63 (m62 b d g i j l).2.1 n).2.sub 0 (0+1+1+1+1))).length):Int) b d g i 0 0 noDat).getD default).1)≤((o29_1 (m62 b d g i j l).1 (m62 b d g i j l).2.1 ((m75c76 ((m63 (m62 b d g i j l).2.1 n).2.sub 0 (0+1+1+1+1))).length) ({ ii:=fun q c=>bif decide (c=0) then (↑((m75c76 ((m63 (m62 b d g i j l).2.1 n).2.sub 0 (0+1+1+1+1)))[q]?.getD (0,0)).1:Int) else (↑((m75c76 ((m63 (m62 b d g i j l).2.1 n).2.sub 0 (0+1+1+1+1)))[q]?.getD (0,0)).2:Int),ss:=noDat.ss,bb:=noDat.bb,sn:=noDat.sn,sd:=noDat.sd }) (↑((m75c76 ((m63 (m62 b d g i j l).2.1 n).2.sub 0 (0+1+1+1+1))).length):Int) b d g i 0 0 noDat).getD default).2.1))&&true)))))))))))
def q29 (r:Nat × Dat × Int):SV × List Blk × List Blk:=(.tup [.ro [.str,W Z] r.1 r.2.1,V Z r.2.2],[],[])
def g29:GF:=fun vs bs=>match vs,bs with
 | [.agg [.ro [.str,W Z,W Z] b d,.ro [.str,W Z,W Z,W Z] g i],.ro [W Z,W Z,.str,.str,.str,.bool] j l,.str n],[]=>some (rs 0 (q29 (m29 b d g i j l n)) [n29 b d g i j l n])
 | _,_=>none
def c29:Ctr:=genC [.a [.ro [.str,W Z,W Z],.ro [.str,W Z,W Z,W Z]],.ro [W Z,W Z,.str,.str,.str,.bool],.k] g29
theorem k29:CtrOk Try.prog c29 29:=cx (tc k62 (tc k63 (tc k75c76 (tc k76 (tc k77 tn))))) mix_ok 8 (fn:=Try.f29) (c:=(Try.f29.body.getD .skip)) (grs:=[]) (rh:=.t [.ro [.str,W Z],.k]) Try.func29 rfl (by kernel_rfl) (lam_of rfl (lc z29_1 ln)) fun vs bs q h hn=>by
 unfold g29 at h
 split at h <;> cases h
 rename_i b d g i j l n
 have hn:=n1 hn
 exact ⟨_,rfl,ca (fun R => 
 let b0:=(m63 (m62 b d g i j l).2.1 n)
 let a0:=(m75c76 (b0.2.sub 0 (0+1+1+1+1)))
 let c0:=(↑(a0.length):Int)
 (cnd (n62 b d g i j l)
 (cnd (bif (decide ((m62 b d g i j l).2.2.2=0)) then false else true)
 (R (.tup [.ro [.str,W Z] 0 noDat,V Z (m62 b d g i j l).2.2.2]) [] [])
 (cnd (m62 b d g i j l).1
 (cnd (n63 (m62 b d g i j l).2.1 n)
 (cnd (bif b0.1 then false else true)
 (R (.tup [.ro [.str,W Z] 0 noDat,V Z 6]) [] [])
 (cnd b0.1
 (cnd (bif (decide ((b0.2.ii 0 1)=1)) then false else true)
 (R (.tup [.ro [.str,W Z] 0 noDat,V Z 27]) [] [])
 (cnd b0.1
 (cnd (n75c76 (b0.2.sub 0 4))
 (cnd ((o29_1 (m62 b d g i j l).1 (m62 b d g i j l).2.1 (a0.length) ({ ii:=fun q c=>bif decide (c=0) then (↑(a0[q]?.getD (0,0)).1:Int) else (↑(a0[q]?.getD (0,0)).2:Int),ss:=noDat.ss,bb:=noDat.bb,sn:=noDat.sn,sd:=noDat.sd }) c0 b d g i 0 0 noDat).isSome)
 (cnd (decide ((0+((o29_1 (m62 b d g i j l).1 (m62 b d g i j l).2.1 (a0.length) ({ ii:=fun q c=>bif decide (c=0) then (↑(a0[q]?.getD (0,0)).1:Int) else (↑(a0[q]?.getD (0,0)).2:Int),ss:=noDat.ss,bb:=noDat.bb,sn:=noDat.sn,sd:=noDat.sd }) c0 b d g i 0 0 noDat).getD default).1)≤((o29_1 (m62 b d g i j l).1 (m62 b d g i j l).2.1 (a0.length) ({ ii:=fun q c=>bif decide (c=0) then (↑(a0[q]?.getD (0,0)).1:Int) else (↑(a0[q]?.getD (0,0)).2:Int),ss:=noDat.ss,bb:=noDat.bb,sn:=noDat.sn,sd:=noDat.sd }) c0 b d g i 0 0 noDat).getD default).2.1))
 (R (.tup [.ro [.str,W Z] ((o29_1 (m62 b d g i j l).1 (m62 b d g i j l).2.1 (a0.length) ({ ii:=fun q c=>bif decide (c=0) then (↑(a0[q]?.getD (0,0)).1:Int) else (↑(a0[q]?.getD (0,0)).2:Int),ss:=noDat.ss,bb:=noDat.bb,sn:=noDat.sn,sd:=noDat.sd }) c0 b d g i 0 0 noDat).getD default).1 ((o29_1 (m62 b d g i j l).1 (m62 b d g i j l).2.1 (a0.length) ({ ii:=fun q c=>bif decide (c=0) then (↑(a0[q]?.getD (0,0)).1:Int) else (↑(a0[q]?.getD (0,0)).2:Int),ss:=noDat.ss,bb:=noDat.bb,sn:=noDat.sn,sd:=noDat.sd }) c0 b d g i 0 0 noDat).getD default).2.2,V Z 0]) [] [])
      False)
      False)
     False)
     False))
    False))
   False)
  False))
 False)) (fun R=>by kernel_rfl) (cn (al hn) (co (fun h0=>lf (cT h0 rfl) rfl) (fun h0=>cn (al (cf h0 (ar hn))) (cn (al (ar (cf h0 (ar hn)))) (co (fun h1=>lf (cF h0 (cT h1 rfl)) rfl) (fun h1=>cn (al (cf h1 (ar (ar (cf h0 (ar hn)))))) (co (fun h2=>lf (cF h0 (cF h1 (cT h2 rfl))) rfl) (fun h2=>cn (al (cf h2 (ar (cf h1 (ar (ar (cf h0 (ar hn)))))))) (cn (al (ar (cf h2 (ar (cf h1 (ar (ar (cf h0 (ar hn))))))))) (cn (al (ar (ar (cf h2 (ar (cf h1 (ar (ar (cf h0 (ar hn)))))))))) (cn (al (ar (ar (ar (cf h2 (ar (cf h1 (ar (ar (cf h0 (ar hn))))))))))) (lf (cF h0 (cF h1 (cF h2 rfl))) rfl))))))))))))⟩
/-! ### shotline/kit.BadBatches -/
def l30_2 (o:Bool) (m:Dat) (E:Int) (l:Nat) (j:Dat) (C n G:Int) (p:Nat) (x:Dat) (u:Nat) (y:Dat):Nat→Nat→Int→Nat→Dat→Option (Nat × Nat × Dat)
 | 0,_,_,_,_=>none
 | f+1,D,F,z,A=>(cond (decide (F<G)) (cond (o) (cond (n78 m E F) (cond (m78 m E F) (cond (o) (cond (n77 m E F) (cond (decide (D≤z)) (cond (decide ((D+1)≤1073741824)) (l30_2 o m E l j C n G p x u y f (D+1) (Z.wrap (F+1)) (D+1) (A.app D (datS [SV.str (m77 m E F).1,V Z (m77 m E F).2] 2))) none) none) none) none) (l30_2 o m E l j C n G p x u y f D (Z.wrap (F+1)) z A)) none) none) (some (D,z,A)))
abbrev o30_2 (o:Bool) (m:Dat) (E:Int) (l:Nat) (j:Dat) (C n G:Int) (p:Nat) (x:Dat) (u:Nat) (y:Dat) (D:Nat) (F:Int) (z:Nat) (A:Dat):Option (Nat × Nat × Dat):=l30_2 o m E l j C n G p x u y (D+E.toNat+l+C.toNat+n.toNat+G.toNat+F.toNat+p+u+z+8) D F z A
def e30_2 (o:Bool) (m:Dat) (E:Int) (l:Nat) (j:Dat) (C n G:Int) (p:Nat) (x:Dat) (u:Nat) (y:Dat) (r:Nat × Nat × Dat) (K:XR):Prop:=K (XE.exit 2) [.rq o [.sl [.str,W Z,W Z],.sl [.str,W Z,W Z,W Z],.sl [.pt [.str,W Z,W Z,.mi [W Z,W Z,.bool],.mb,.mb,W Z,.bool,.m1]],W Z] m 0 0,.gr 1 2 r.1,.ro [.pt [.str,W Z,W Z,.mi [W Z,W Z,.bool],.mb,.mb,W Z,.bool,.m1]] l j,V Z C,V Z n] [.cells 25 [.ro [.str,W Z,W Z] p x,.ro [.str,W Z,W Z,W Z] u y],.row 47 [.str,W Z] r.2.1 r.2.2]
def g30_2:LSum:=fun s k=>match czv 0 57 [6,9,10,27,28,29,38,39] 2 [⟨true,9,0,1,47,[.str,W Z]⟩] s with
 | some ([.rq o [.sl [.str,W Z,W Z],.sl [.str,W Z,W Z,W Z],.sl [.pt [.str,W Z,W Z,.mi [W Z,W Z,.bool],.mb,.mb,W Z,.bool,.m1]],W Z] m 0 0,.gr 1 2 D,V Z E,.ro [.pt [.str,W Z,W Z,.mi [W Z,W Z,.bool],.mb,.mb,W Z,.bool,.m1]] l j,V Z C,V Z n,V Z G,V Z F],[.cells 25 [.ro [.str,W Z,W Z] p x,.ro [.str,W Z,W Z,W Z] u y],.row 47 [.str,W Z] z A])=>needs [(o30_2 o m E l j C n G p x u y D F z A).isSome] (e30_2 o m E l j C n G p x u y ((o30_2 o m E l j C n G p x u y D F z A).getD default) fun e vs bs=>inBlk 2 k e (mkSt 0 57 [6,9,27,28,29] vs 2 bs))
 | _=>False
theorem z30_2:LOk Try.prog g30_2 (.block 2 (bodyAt (Try.f30.body.getD .skip) 2)):=by
 refine lb (ι:=Bool × Dat × Nat × Int × Nat × Dat × Int × Int × Int × Int × Nat × Dat × Nat × Dat × Nat × Dat) (fuel:=8) (na:=0) (nt:=57) (nx:=2) (Lh:=[6,9,10,27,28,29,38,39]) (Le:=[6,9,27,28,29]) (gl:=[⟨true,9,0,1,47,[.str,W Z]⟩]) (tc k62 (tc k77 (tc k78 tn))) mix_ok noLam rfl (fun f (o,m,D,E,l,j,C,n,G,F,p,x,u,y,z,A) K=>GG default (e30_2 o m E l j C n G p x u y) K (l30_2 o m E l j C n G p x u y f D F z A)) (fun (o,m,D,E,l,j,C,n,G,F,p,x,u,y,z,A)=>[.rq o [.sl [.str,W Z,W Z],.sl [.str,W Z,W Z,W Z],.sl [.pt [.str,W Z,W Z,.mi [W Z,W Z,.bool],.mb,.mb,W Z,.bool,.m1]],W Z] m 0 0,.gr 1 2 D,V Z E,.ro [.pt [.str,W Z,W Z,.mi [W Z,W Z,.bool],.mb,.mb,W Z,.bool,.m1]] l j,V Z C,V Z n,V Z G,V Z F]) (fun (o,m,D,E,l,j,C,n,G,F,p,x,u,y,z,A)=>[.cells 25 [.ro [.str,W Z,W Z] p x,.ro [.str,W Z,W Z,W Z] u y],.row 47 [.str,W Z] z A]) (fun (_,_,_,_,_,_,_,_,_,_,_,_,_,_,_,_) K=>gg_none) ?_ ?_
 ·rintro f ⟨o,m,D,E,l,j,C,n,G,F,p,x,u,y,z,A⟩ K hG
  refine ro (fun R=>(cnd (decide (F<G))
 (cnd (o)
 (cnd (n78 m E F)
 (cnd (m78 m E F)
 (cnd (o)
 (cnd (n77 m E F)
 (cnd (decide (D≤z))
 (cnd (decide ((D+1)≤1073741824))
 (R (XE.normal) [.rq o [.sl [.str,W Z,W Z],.sl [.str,W Z,W Z,W Z],.sl [.pt [.str,W Z,W Z,.mi [W Z,W Z,.bool],.mb,.mb,W Z,.bool,.m1]],W Z] m 0 0,.gr 1 2 (D+1),V Z E,.ro [.pt [.str,W Z,W Z,.mi [W Z,W Z,.bool],.mb,.mb,W Z,.bool,.m1]] l j,V Z C,V Z n,V Z G,V Z (Z.wrap (F+1))] [.cells 25 [.ro [.str,W Z,W Z] p x,.ro [.str,W Z,W Z,W Z] u y],.row 47 [.str,W Z] (D+1) (A.app D (datS [SV.str (m77 m E F).1,V Z (m77 m E F).2] 2))])
     False)
    False)
    False)
   False)
 (R (XE.normal) [.rq o [.sl [.str,W Z,W Z],.sl [.str,W Z,W Z,W Z],.sl [.pt [.str,W Z,W Z,.mi [W Z,W Z,.bool],.mb,.mb,W Z,.bool,.m1]],W Z] m 0 0,.gr 1 2 D,V Z E,.ro [.pt [.str,W Z,W Z,.mi [W Z,W Z,.bool],.mb,.mb,W Z,.bool,.m1]] l j,V Z C,V Z n,V Z G,V Z (Z.wrap (F+1))] [.cells 25 [.ro [.str,W Z,W Z] p x,.ro [.str,W Z,W Z,W Z] u y],.row 47 [.str,W Z] z A]))
  False)
  False)
 (R (XE.exit 2) [.rq o [.sl [.str,W Z,W Z],.sl [.str,W Z,W Z,W Z],.sl [.pt [.str,W Z,W Z,.mi [W Z,W Z,.bool],.mb,.mb,W Z,.bool,.m1]],W Z] m 0 0,.gr 1 2 D,.ro [.pt [.str,W Z,W Z,.mi [W Z,W Z,.bool],.mb,.mb,W Z,.bool,.m1]] l j,V Z C,V Z n] [.cells 25 [.ro [.str,W Z,W Z] p x,.ro [.str,W Z,W Z,W Z] u y],.row 47 [.str,W Z] z A]))) (fun R=>by kernel_rfl) ?_
  exact ch hG (fun h0=>cg h0 fun h1=>cg h1 fun h2=>ch h2 (fun h3=>cg h3 fun h4=>cg h4 fun h5=>cg h5 fun h6=>cg h6 fun h7=>⟨(_,_,_,_,_,_,_,_,_,_,_,_,_,_,_,_),rfl,rfl,h7⟩) (fun h3=>⟨(_,_,_,_,_,_,_,_,_,_,_,_,_,_,_,_),rfl,rfl,h3⟩)) (fun h0=>h0.2)
 ·intro s k h
  unfold g30_2 at h
  split at h <;> try exact h.elim
  rename_i e1
  rw [needs_iff] at h
  exact ⟨_,e1,_,(_,_,_,_,_,_,_,_,_,_,_,_,_,_,_,_),rfl,rfl,h.1 _ (List.mem_singleton.2 rfl),h.2⟩
def l30_0 (o:Bool) (m:Dat) (l:Nat) (j:Dat) (C:Int) (p:Nat) (x:Dat) (u:Nat) (y:Dat):Nat→Nat→Int→Nat→Dat→Option (Nat × Nat × Dat)
 | 0,_,_,_,_=>none
 | f+1,D,n,z,A=>(cond (decide (n<C)) (cond (decide (0≤n∧n<↑l)) (cond ((o30_2 o m n l j C n (Z.wrap (((j.sub n.toNat 0).ii 0 6)+1)) p x u y D 0 z A).isSome) (l30_0 o m l j C p x u y f ((o30_2 o m n l j C n (Z.wrap (((j.sub n.toNat 0).ii 0 6)+1)) p x u y D 0 z A).getD default).1 (Z.wrap (n+1)) ((o30_2 o m n l j C n (Z.wrap (((j.sub n.toNat 0).ii 0 6)+1)) p x u y D 0 z A).getD default).2.1 ((o30_2 o m n l j C n (Z.wrap (((j.sub n.toNat 0).ii 0 6)+1)) p x u y D 0 z A).getD default).2.2) none) none) (some (D,z,A)))
abbrev o30_0 (o:Bool) (m:Dat) (l:Nat) (j:Dat) (C:Int) (p:Nat) (x:Dat) (u:Nat) (y:Dat) (D:Nat) (n:Int) (z:Nat) (A:Dat):Option (Nat × Nat × Dat):=l30_0 o m l j C p x u y (D+l+C.toNat+n.toNat+p+u+z+8) D n z A
def e30_0 (o:Bool) (m:Dat) (l:Nat) (j:Dat) (C:Int) (p:Nat) (x:Dat) (u:Nat) (y:Dat) (r:Nat × Nat × Dat) (K:XR):Prop:=K (XE.exit 0) [.gr 1 2 r.1] [.cells 25 [.ro [.str,W Z,W Z] p x,.ro [.str,W Z,W Z,W Z] u y],.row 47 [.str,W Z] r.2.1 r.2.2]
def g30_0:LSum:=fun s k=>match czv 0 57 [6,9,27,28,29] 2 [⟨true,9,0,1,47,[.str,W Z]⟩] s with
 | some ([.rq o [.sl [.str,W Z,W Z],.sl [.str,W Z,W Z,W Z],.sl [.pt [.str,W Z,W Z,.mi [W Z,W Z,.bool],.mb,.mb,W Z,.bool,.m1]],W Z] m 0 0,.gr 1 2 D,.ro [.pt [.str,W Z,W Z,.mi [W Z,W Z,.bool],.mb,.mb,W Z,.bool,.m1]] l j,V Z C,V Z n],[.cells 25 [.ro [.str,W Z,W Z] p x,.ro [.str,W Z,W Z,W Z] u y],.row 47 [.str,W Z] z A])=>needs [(o30_0 o m l j C p x u y D n z A).isSome] (e30_0 o m l j C p x u y ((o30_0 o m l j C p x u y D n z A).getD default) fun e vs bs=>inBlk 0 k e (mkSt 0 57 [9] vs 2 bs))
 | _=>False
theorem z30_0:LOk Try.prog g30_0 (.block 0 (bodyAt (Try.f30.body.getD .skip) 0)):=by
 refine lb (ι:=Bool × Dat × Nat × Nat × Dat × Int × Int × Nat × Dat × Nat × Dat × Nat × Dat) (fuel:=8) (na:=0) (nt:=57) (nx:=2) (Lh:=[6,9,27,28,29]) (Le:=[9]) (gl:=[⟨true,9,0,1,47,[.str,W Z]⟩]) (tc k62 (tc k77 (tc k78 tn))) mix_ok (lam_of rfl (lc z30_2 ln)) rfl (fun f (o,m,D,l,j,C,n,p,x,u,y,z,A) K=>GG default (e30_0 o m l j C p x u y) K (l30_0 o m l j C p x u y f D n z A)) (fun (o,m,D,l,j,C,n,p,x,u,y,z,A)=>[.rq o [.sl [.str,W Z,W Z],.sl [.str,W Z,W Z,W Z],.sl [.pt [.str,W Z,W Z,.mi [W Z,W Z,.bool],.mb,.mb,W Z,.bool,.m1]],W Z] m 0 0,.gr 1 2 D,.ro [.pt [.str,W Z,W Z,.mi [W Z,W Z,.bool],.mb,.mb,W Z,.bool,.m1]] l j,V Z C,V Z n]) (fun (o,m,D,l,j,C,n,p,x,u,y,z,A)=>[.cells 25 [.ro [.str,W Z,W Z] p x,.ro [.str,W Z,W Z,W Z] u y],.row 47 [.str,W Z] z A]) (fun (_,_,_,_,_,_,_,_,_,_,_,_,_) K=>gg_none) ?_ ?_
 ·rintro f ⟨o,m,D,l,j,C,n,p,x,u,y,z,A⟩ K hG
  refine ro (fun R => 
 let a0:=(o30_2 o m n l j C n (Z.wrap (((j.sub n.toNat 0).ii 0 6)+1)) p x u y D 0 z A)
 (cnd (decide (n<C))
 (cnd (decide (0≤n∧n<↑l))
 (cnd (a0.isSome)
 (R (XE.normal) [.rq o [.sl [.str,W Z,W Z],.sl [.str,W Z,W Z,W Z],.sl [.pt [.str,W Z,W Z,.mi [W Z,W Z,.bool],.mb,.mb,W Z,.bool,.m1]],W Z] m 0 0,.gr 1 2 (a0.getD default).1,.ro [.pt [.str,W Z,W Z,.mi [W Z,W Z,.bool],.mb,.mb,W Z,.bool,.m1]] l j,V Z C,V Z (Z.wrap (n+1))] [.cells 25 [.ro [.str,W Z,W Z] p x,.ro [.str,W Z,W Z,W Z] u y],.row 47 [.str,W Z] (a0.getD default).2.1 (a0.getD default).2.2])
  False)
  False)
 (R (XE.exit 0) [.gr 1 2 D] [.cells 25 [.ro [.str,W Z,W Z] p x,.ro [.str,W Z,W Z,W Z] u y],.row 47 [.str,W Z] z A]))) (fun R=>by kernel_rfl) ?_
  exact ch hG (fun h0=>cg h0 fun h1=>cg h1 fun h2=>⟨(_,_,_,_,_,_,_,_,_,_,_,_,_),rfl,rfl,h2⟩) (fun h0=>h0.2)
 ·intro s k h
  unfold g30_0 at h
  split at h <;> try exact h.elim
  rename_i e1
  rw [needs_iff] at h
  exact ⟨_,e1,_,(_,_,_,_,_,_,_,_,_,_,_,_,_),rfl,rfl,h.1 _ (List.mem_singleton.2 rfl),h.2⟩
def m30 (b:Nat) (d:Dat) (g:Nat) (i:Dat) (v:Nat) (w:Dat):Nat × Dat × Int :=
 (cond (bif (decide ((m62 b d g i v w).2.2.2=0)) then false else true) (0,noDat,(m62 b d g i v w).2.2.2) (((o30_0 (m62 b d g i v w).1 (m62 b d g i v w).2.1 ((m62 b d g i v w).2.1.sn 0 2) ((m62 b d g i v w).2.1.sub 0 2) (↑((m62 b d g i v w).2.1.sn 0 2):Int) b d g i 0 0 0 noDat).getD default).1,((o30_0 (m62 b d g i v w).1 (m62 b d g i v w).2.1 ((m62 b d g i v w).2.1.sn 0 2) ((m62 b d g i v w).2.1.sub 0 2) (↑((m62 b d g i v w).2.1.sn 0 2):Int) b d g i 0 0 0 noDat).getD default).2.2,0))
def n30 (b:Nat) (d:Dat) (g:Nat) (i:Dat) (v:Nat) (w:Dat):Bool :=
 ((n62 b d g i v w)&&(cond (bif (decide ((m62 b d g i v w).2.2.2=0)) then false else true) true ((m62 b d g i v w).1&&(((o30_0 (m62 b d g i v w).1 (m62 b d g i v w).2.1 ((m62 b d g i v w).2.1.sn 0 2) ((m62 b d g i v w).2.1.sub 0 2) (↑((m62 b d g i v w).2.1.sn 0 2):Int) b d g i 0 0 0 noDat).isSome)&&((decide ((0+((o30_0 (m62 b d g i v w).1 (m62 b d g i v w).2.1 ((m62 b d g i v w).2.1.sn 0 2) ((m62 b d g i v w).2.1.sub 0 2) (↑((m62 b d g i v w).2.1.sn 0 2):Int) b d g i 0 0 0 noDat).getD default).1)≤((o30_0 (m62 b d g i v w).1 (m62 b d g i v w).2.1 ((m62 b d g i v w).2.1.sn 0 2) ((m62 b d g i v w).2.1.sub 0 2) (↑((m62 b d g i v w).2.1.sn 0 2):Int) b d g i 0 0 0 noDat).getD default).2.1))&&true)))))
def q30 (r:Nat × Dat × Int):SV × List Blk × List Blk:=(.tup [.ro [.str,W Z] r.1 r.2.1,V Z r.2.2],[],[])
def g30:GF:=fun vs bs=>match vs,bs with
 | [.agg [.ro [.str,W Z,W Z] b d,.ro [.str,W Z,W Z,W Z] g i],.ro [W Z,W Z,.str,.str,.str,.bool] v w],[]=>some (rs 0 (q30 (m30 b d g i v w)) [n30 b d g i v w])
 | _,_=>none
def c30:Ctr:=genC [.a [.ro [.str,W Z,W Z],.ro [.str,W Z,W Z,W Z]],.ro [W Z,W Z,.str,.str,.str,.bool]] g30
theorem k30:CtrOk Try.prog c30 30:=cx (tc k62 (tc k77 (tc k78 tn))) mix_ok 8 (fn:=Try.f30) (c:=(Try.f30.body.getD .skip)) (grs:=[]) (rh:=.t [.ro [.str,W Z],.k]) Try.func30 rfl (by kernel_rfl) (lam_of rfl (lc z30_2 (lc z30_0 ln))) fun vs bs q h hn=>by
 unfold g30 at h
 split at h <;> cases h
 rename_i b d g i v w
 have hn:=n1 hn
 exact ⟨_,rfl,ca (fun R => 
 let a0:=(o30_0 (m62 b d g i v w).1 (m62 b d g i v w).2.1 ((m62 b d g i v w).2.1.sn 0 2) ((m62 b d g i v w).2.1.sub 0 2) (↑((m62 b d g i v w).2.1.sn 0 2):Int) b d g i 0 0 0 noDat)
 (cnd (n62 b d g i v w)
 (cnd (bif (decide ((m62 b d g i v w).2.2.2=0)) then false else true)
 (R (.tup [.ro [.str,W Z] 0 noDat,V Z (m62 b d g i v w).2.2.2]) [] [])
 (cnd (m62 b d g i v w).1
 (cnd (a0.isSome)
 (cnd (decide ((0+(a0.getD default).1)≤(a0.getD default).2.1))
 (R (.tup [.ro [.str,W Z] (a0.getD default).1 (a0.getD default).2.2,V Z 0]) [] [])
   False)
   False)
  False))
 False)) (fun R=>by kernel_rfl) (cn (al hn) (co (fun h0=>lf (cT h0 rfl) rfl) (fun h0=>cn (al (cf h0 (ar hn))) (cn (al (ar (cf h0 (ar hn)))) (cn (al (ar (ar (cf h0 (ar hn))))) (lf (cF h0 rfl) rfl))))))⟩
/-! ### shotline/kit.Reached -/
def m42 (d:Nat) (b:Dat) (e:Nat) (g:Dat) (j:Nat) (l:Dat) (i:ByteArray) (m:Int):Nat × Dat × Int :=
 (cond (bif (decide ((m62 d b e g j l).2.2.2=0)) then false else true) (0,noDat,(m62 d b e g j l).2.2.2) (cond (decide ((m82 d b e g i)<0)) (0,noDat,6) (cond (bif (decide ((b.ii ((m82 d b e g i).toNat) 1)=3)) then false else true) (0,noDat,27) (cond (bif (m83 m 0 ((((m62 d b e g j l).2.1.sub 0 2).sub ((m82 d b e g i).toNat) 0).ii 0 6)) then false else true) (0,noDat,2) ((m72c84 (m62 d b e g j l).2.1 (datC [V Z (m82 d b e g i)]) (datC [SV.str i,V Z m])).1,(m72c84 (m62 d b e g j l).2.1 (datC [V Z (m82 d b e g i)]) (datC [SV.str i,V Z m])).2.2,0)))))
def n42 (d:Nat) (b:Dat) (e:Nat) (g:Dat) (j:Nat) (l:Dat) (i:ByteArray) (m:Int):Bool :=
 ((n62 d b e g j l)&&(cond (bif (decide ((m62 d b e g j l).2.2.2=0)) then false else true) true ((n82 d b e g i)&&(cond (decide ((m82 d b e g i)<0)) true ((decide ((0:Int)≤m82 d b e g i∧m82 d b e g i<(↑d:Int)))&&(cond (bif (decide ((b.ii ((m82 d b e g i).toNat) 1)=3)) then false else true) true ((m62 d b e g j l).1&&((decide ((0:Int)≤m82 d b e g i∧m82 d b e g i<(↑((m62 d b e g j l).2.1.sn (0:Nat) ((0:Nat)+(1:Nat)+(1:Nat))):Int)))&&(cond (bif (m83 m 0 ((((m62 d b e g j l).2.1.sub 0 2).sub ((m82 d b e g i).toNat) 0).ii 0 6)) then false else true) true ((m62 d b e g j l).1&&((n72c84 (m62 d b e g j l).2.1 (datC [V Z (m82 d b e g i)]) (datC [SV.str i,V Z m]))&&((decide ((0+(m72c84 (m62 d b e g j l).2.1 (datC [V Z (m82 d b e g i)]) (datC [SV.str i,V Z m])).1)≤(m72c84 (m62 d b e g j l).2.1 (datC [V Z (m82 d b e g i)]) (datC [SV.str i,V Z m])).2.1))&&true))))))))))))
def q42 (r:Nat × Dat × Int):SV × List Blk × List Blk:=(.tup [.ro [.str] r.1 r.2.1,V Z r.2.2],[],[])
def g42:GF:=fun vs bs=>match vs,bs with
 | [.agg [.ro [.str,W Z,W Z] d b,.ro [.str,W Z,W Z,W Z] e g],.ro [W Z,W Z,.str,.str,.str,.bool] j l,.agg [.str i,V Z m]],[]=>some (rs 0 (q42 (m42 d b e g j l i m)) [n42 d b e g j l i m])
 | _,_=>none
def c42:Ctr:=genC [.a [.ro [.str,W Z,W Z],.ro [.str,W Z,W Z,W Z]],.ro [W Z,W Z,.str,.str,.str,.bool],.k] g42
theorem k42:CtrOk Try.prog c42 42:=cx (tc k62 (tc k72c84 (tc k82 (tc k83 (tc k84 tn))))) mix_ok 8 (fn:=Try.f42) (c:=(Try.f42.body.getD .skip)) (grs:=[]) (rh:=.t [.ro [.str],.k]) Try.func42 rfl (by kernel_rfl) noLam fun vs bs q h hn=>by
 unfold g42 at h
 split at h <;> cases h
 rename_i d b e g j l i m
 have hn:=n1 hn
 exact ⟨_,rfl,ca (fun R => 
 let a0:=(m72c84 (m62 d b e g j l).2.1 (datC [V Z (m82 d b e g i)]) (datC [SV.str i,V Z m]))
 (cnd (n62 d b e g j l)
 (cnd (bif (decide ((m62 d b e g j l).2.2.2=0)) then false else true)
 (R (.tup [.ro [.str] 0 noDat,V Z (m62 d b e g j l).2.2.2]) [] [])
 (cnd (n82 d b e g i)
 (cnd (decide ((m82 d b e g i)<0))
 (R (.tup [.ro [.str] 0 noDat,V Z 6]) [] [])
 (cnd (decide ((0:Int)≤m82 d b e g i∧m82 d b e g i<(↑d:Int)))
 (cnd (bif (decide ((b.ii ((m82 d b e g i).toNat) 1)=3)) then false else true)
 (R (.tup [.ro [.str] 0 noDat,V Z 27]) [] [])
 (cnd (m62 d b e g j l).1
 (cnd (decide ((0:Int)≤m82 d b e g i∧m82 d b e g i<(↑((m62 d b e g j l).2.1.sn (0:Nat) ((0:Nat)+(1:Nat)+(1:Nat))):Int)))
 (cnd (bif (m83 m 0 ((((m62 d b e g j l).2.1.sub 0 2).sub ((m82 d b e g i).toNat) 0).ii 0 6)) then false else true)
 (R (.tup [.ro [.str] 0 noDat,V Z 2]) [] [])
 (cnd (m62 d b e g j l).1
 (cnd (n72c84 (m62 d b e g j l).2.1 (datC [V Z (m82 d b e g i)]) (datC [SV.str i,V Z m]))
 (cnd (decide ((0+a0.1)≤a0.2.1))
 (R (.tup [.ro [.str] a0.1 a0.2.2,V Z 0]) [] [])
       False)
      False)
      False))
     False)
    False))
   False))
  False))
 False)) (fun R=>by kernel_rfl) (cn (al hn) (co (fun h0=>lf (cT h0 rfl) rfl) (fun h0=>cn (al (cf h0 (ar hn))) (co (fun h1=>lf (cF h0 (cT h1 rfl)) rfl) (fun h1=>cn (al (cf h1 (ar (cf h0 (ar hn))))) (co (fun h2=>lf (cF h0 (cF h1 (cT h2 rfl))) rfl) (fun h2=>cn (al (cf h2 (ar (cf h1 (ar (cf h0 (ar hn))))))) (cn (al (ar (cf h2 (ar (cf h1 (ar (cf h0 (ar hn)))))))) (co (fun h3=>lf (cF h0 (cF h1 (cF h2 (cT h3 rfl)))) rfl) (fun h3=>cn (al (cf h3 (ar (ar (cf h2 (ar (cf h1 (ar (cf h0 (ar hn)))))))))) (cn (al (ar (cf h3 (ar (ar (cf h2 (ar (cf h1 (ar (cf h0 (ar hn))))))))))) (cn (al (ar (ar (cf h3 (ar (ar (cf h2 (ar (cf h1 (ar (cf h0 (ar hn)))))))))))) (lf (cF h0 (cF h1 (cF h2 (cF h3 rfl)))) rfl)))))))))))))⟩
/-! ### shotline/kit.Due -/
def l51_3 (G:Int) (F:Dat) (n:Nat) (j:Dat) (C w:Int) (E:Nat) (A:Dat) (I:Int) (u:Nat) (v o:Dat):Nat→Nat→Int→Nat→Dat→Option (Nat × Nat × Dat)
 | 0,_,_,_,_=>none
 | f+1,D,p,x,y=>(cond (decide (p<I)) (cond (decide (0≤p∧p<↑E)) (cond (bif (bif (bif (bif (bif (bif (decide (0≤p)) then ((F.sub 0 3).bb p.toNat 0) else false) then false else true) then true else (decide ((A.ii p.toNat 2)=0))) then false else true) then false else true) then true else (bif (decide (0≤p)) then ((F.sub 0 3).bb p.toNat 0) else false)) (cond (bif (bif (bif (bif (bif (bif (bif (decide (0≤p)) then ((F.sub 0 3).bb p.toNat 0) else false) then false else true) then true else (decide ((A.ii p.toNat 2)=0))) then true else (bif (((F.sub 0 3).sub p.toNat 1).bb 0 2) then false else true)) then false else true) then false else true) then true else (bif (decide (0≤p)) then ((F.sub 0 3).bb p.toNat 0) else false)) (cond (bif (bif (bif (bif (bif (decide (0≤p)) then ((F.sub 0 3).bb p.toNat 0) else false) then false else true) then true else (decide ((A.ii p.toNat 2)=0))) then true else (bif (((F.sub 0 3).sub p.toNat 1).bb 0 2) then false else true)) then true else (decide (G<(Z.wrap ((((F.sub 0 3).sub p.toNat 1).ii 0 0)+(A.ii p.toNat 2)))))) (l51_3 G F n j C w E A I u v o f D (Z.wrap (p+1)) x y) (cond (bif (decide (0≤p)) then ((F.sub 0 3).bb p.toNat 0) else false) (cond (decide (D≤x)) (cond (decide ((D+1)≤1073741824)) (l51_3 G F n j C w E A I u v o f (D+1) (Z.wrap (p+1)) (D+1) (y.app D (datS [SV.str (F.ss 0 0),SV.str (A.ss p.toNat 0),V Z (Z.wrap ((((F.sub 0 3).sub p.toNat 1).ii 0 0)+(A.ii p.toNat 2)))] 3))) none) none) none)) none) none) none) (some (D,x,y)))
abbrev o51_3 (G:Int) (F:Dat) (n:Nat) (j:Dat) (C w:Int) (E:Nat) (A:Dat) (I:Int) (u:Nat) (v o:Dat) (D:Nat) (p:Int) (x:Nat) (y:Dat):Option (Nat × Nat × Dat):=l51_3 G F n j C w E A I u v o (G.toNat+D+n+C.toNat+w.toNat+E+I.toNat+p.toNat+u+x+8) D p x y
def e51_3 (G:Int) (F:Dat) (n:Nat) (j:Dat) (C w:Int) (E:Nat) (A:Dat) (I:Int) (u:Nat) (v o:Dat) (r:Nat × Nat × Dat) (K:XR):Prop:=K (XE.exit 3) [V Z G,.ptr 0 0,.gr 1 3 r.1,.ro [.pt [.str,W Z,W Z,.mi [W Z,W Z,.bool],.mb,.mb,W Z,.bool,.m1]] n j,V Z C,V Z w] [.cells 25 [.ro [.str,W Z,W Z] u v,.ro [.str,W Z,W Z,W Z] E o],.row 88 [.str,.str,W Z] r.2.1 r.2.2]
def g51_3:LSum:=fun s k=>match czv 0 107 [2,3,11,13,36,37,38,43,44,45] 2 [⟨true,11,0,1,88,[.str,.str,W Z]⟩] s with
 | some ([V Z G,.ptr 0 0,.gr 1 3 D,.rp [.str,W Z,W Z,.mi [W Z,W Z,.bool],.mb,.mb,W Z,.bool,.m1] F 0 0,.ro [.pt [.str,W Z,W Z,.mi [W Z,W Z,.bool],.mb,.mb,W Z,.bool,.m1]] n j,V Z C,V Z w,.ro [.str,W Z,W Z,W Z] E A,V Z I,V Z p],[.cells 25 [.ro [.str,W Z,W Z] u v,.ro [.str,W Z,W Z,W Z] z o],.row 88 [.str,.str,W Z] x y])=>needs [decide (E=z),(o51_3 G F n j C w E A I u v o D p x y).isSome] (e51_3 G F n j C w E A I u v o ((o51_3 G F n j C w E A I u v o D p x y).getD default) fun e vs bs=>inBlk 3 k e (mkSt 0 107 [2,3,11,36,37,38] vs 2 bs))
 | _=>False
theorem z51_3:LOk Try.prog g51_3 (.block 3 (bodyAt (Try.f51.body.getD .skip) 3)):=by
 refine lb (ι:=Int × Nat × Dat × Nat × Dat × Int × Int × Nat × Dat × Int × Int × Nat × Dat × Dat × Nat × Dat) (fuel:=8) (na:=0) (nt:=107) (nx:=2) (Lh:=[2,3,11,13,36,37,38,43,44,45]) (Le:=[2,3,11,36,37,38]) (gl:=[⟨true,11,0,1,88,[.str,.str,W Z]⟩]) (tc k62 (tc k64 (tc k86c87 (tc k87 tn)))) mix_ok noLam rfl (fun f (G,D,F,n,j,C,w,E,A,I,p,u,v,o,x,y) K=>GG default (e51_3 G F n j C w E A I u v o) K (l51_3 G F n j C w E A I u v o f D p x y)) (fun (G,D,F,n,j,C,w,E,A,I,p,u,v,o,x,y)=>[V Z G,.ptr 0 0,.gr 1 3 D,.rp [.str,W Z,W Z,.mi [W Z,W Z,.bool],.mb,.mb,W Z,.bool,.m1] F 0 0,.ro [.pt [.str,W Z,W Z,.mi [W Z,W Z,.bool],.mb,.mb,W Z,.bool,.m1]] n j,V Z C,V Z w,.ro [.str,W Z,W Z,W Z] E A,V Z I,V Z p]) (fun (G,D,F,n,j,C,w,E,A,I,p,u,v,o,x,y)=>[.cells 25 [.ro [.str,W Z,W Z] u v,.ro [.str,W Z,W Z,W Z] E o],.row 88 [.str,.str,W Z] x y]) (fun (_,_,_,_,_,_,_,_,_,_,_,_,_,_,_,_) K=>gg_none) ?_ ?_
 ·rintro f ⟨G,D,F,n,j,C,w,E,A,I,p,u,v,o,x,y⟩ K hG
  refine ro (fun R => 
 let a0:=(bif (decide (0≤p)) then ((F.sub 0 3).bb p.toNat 0) else false)
 let b0:=(bif (bif (bif a0 then false else true) then true else (decide ((A.ii p.toNat 2)=0))) then true else (bif (((F.sub 0 3).sub p.toNat 1).bb 0 2) then false else true))
 let c0:=(Z.wrap ((((F.sub 0 3).sub p.toNat 1).ii 0 0)+(A.ii p.toNat 2)))
 (cnd (decide (p<I))
 (cnd (decide (0≤p∧p<↑E))
 (cnd (bif (bif (bif (bif (bif a0 then false else true) then true else (decide ((A.ii p.toNat 2)=0))) then false else true) then false else true) then true else a0)
 (cnd (bif (bif (bif b0 then false else true) then false else true) then true else a0)
 (cnd (bif b0 then true else (decide (G<c0)))
 (R (XE.normal) [V Z G,.ptr 0 0,.gr 1 3 D,.rp [.str,W Z,W Z,.mi [W Z,W Z,.bool],.mb,.mb,W Z,.bool,.m1] F 0 0,.ro [.pt [.str,W Z,W Z,.mi [W Z,W Z,.bool],.mb,.mb,W Z,.bool,.m1]] n j,V Z C,V Z w,.ro [.str,W Z,W Z,W Z] E A,V Z I,V Z (Z.wrap (p+1))] [.cells 25 [.ro [.str,W Z,W Z] u v,.ro [.str,W Z,W Z,W Z] E o],.row 88 [.str,.str,W Z] x y])
 (cnd a0
 (cnd (decide (D≤x))
 (cnd (decide ((D+1)≤1073741824))
 (R (XE.normal) [V Z G,.ptr 0 0,.gr 1 3 (D+1),.rp [.str,W Z,W Z,.mi [W Z,W Z,.bool],.mb,.mb,W Z,.bool,.m1] F 0 0,.ro [.pt [.str,W Z,W Z,.mi [W Z,W Z,.bool],.mb,.mb,W Z,.bool,.m1]] n j,V Z C,V Z w,.ro [.str,W Z,W Z,W Z] E A,V Z I,V Z (Z.wrap (p+1))] [.cells 25 [.ro [.str,W Z,W Z] u v,.ro [.str,W Z,W Z,W Z] E o],.row 88 [.str,.str,W Z] (D+1) (y.app D (datS [SV.str (F.ss 0 0),SV.str (A.ss p.toNat 0),V Z c0] 3))])
     False)
    False)
    False))
   False)
  False)
  False)
 (R (XE.exit 3) [V Z G,.ptr 0 0,.gr 1 3 D,.ro [.pt [.str,W Z,W Z,.mi [W Z,W Z,.bool],.mb,.mb,W Z,.bool,.m1]] n j,V Z C,V Z w] [.cells 25 [.ro [.str,W Z,W Z] u v,.ro [.str,W Z,W Z,W Z] E o],.row 88 [.str,.str,W Z] x y]))) (fun R=>by kernel_rfl) ?_
  exact ch hG (fun h0=>cg h0 fun h1=>cg h1 fun h2=>cg h2 fun h3=>ch h3 (fun h4=>⟨(_,_,_,_,_,_,_,_,_,_,_,_,_,_,_,_),rfl,rfl,h4⟩) (fun h4=>cg h4 fun h5=>cg h5 fun h6=>cg h6 fun h7=>⟨(_,_,_,_,_,_,_,_,_,_,_,_,_,_,_,_),rfl,rfl,h7⟩)) (fun h0=>h0.2)
 ·intro s k h
  unfold g51_3 at h
  split at h <;> try exact h.elim
  rename_i e1
  rw [needs_iff] at h
  have hq:=h.1
  simp only [List.mem_cons,forall_eq_or_imp,decide_eq_true_eq,List.not_mem_nil,false_imp_iff,implies_true,and_true] at hq
  obtain ⟨rfl,hq⟩:=hq
  exact ⟨_,e1,_,(_,_,_,_,_,_,_,_,_,_,_,_,_,_,_,_),rfl,rfl,hq,h.2⟩
def l51_1 (G:Int) (n:Nat) (j:Dat) (C:Int) (u:Nat) (v:Dat) (z:Nat) (o:Dat):Nat→Nat→Int→Nat→Dat→Option (Nat × Nat × Dat)
 | 0,_,_,_,_=>none
 | f+1,D,w,x,y=>(cond (decide (w<C)) (cond (decide (0≤w∧w<↑n)) (cond ((o51_3 G (j.sub w.toNat 0) n j C w z o (↑z:Int) u v o D 0 x y).isSome) (l51_1 G n j C u v z o f ((o51_3 G (j.sub w.toNat 0) n j C w z o (↑z:Int) u v o D 0 x y).getD default).1 (Z.wrap (w+1)) ((o51_3 G (j.sub w.toNat 0) n j C w z o (↑z:Int) u v o D 0 x y).getD default).2.1 ((o51_3 G (j.sub w.toNat 0) n j C w z o (↑z:Int) u v o D 0 x y).getD default).2.2) none) none) (some (D,x,y)))
abbrev o51_1 (G:Int) (n:Nat) (j:Dat) (C:Int) (u:Nat) (v:Dat) (z:Nat) (o:Dat) (D:Nat) (w:Int) (x:Nat) (y:Dat):Option (Nat × Nat × Dat):=l51_1 G n j C u v z o (G.toNat+D+n+C.toNat+w.toNat+u+z+x+8) D w x y
def e51_1 (G:Int) (n:Nat) (j:Dat) (C:Int) (u:Nat) (v:Dat) (z:Nat) (o:Dat) (r:Nat × Nat × Dat) (K:XR):Prop:=K (XE.exit 1) [.gr 1 3 r.1] [.cells 25 [.ro [.str,W Z,W Z] u v,.ro [.str,W Z,W Z,W Z] z o],.row 88 [.str,.str,W Z] r.2.1 r.2.2]
def g51_1:LSum:=fun s k=>match czv 0 107 [2,3,11,36,37,38] 2 [⟨true,11,0,1,88,[.str,.str,W Z]⟩] s with
 | some ([V Z G,.ptr 0 0,.gr 1 3 D,.ro [.pt [.str,W Z,W Z,.mi [W Z,W Z,.bool],.mb,.mb,W Z,.bool,.m1]] n j,V Z C,V Z w],[.cells 25 [.ro [.str,W Z,W Z] u v,.ro [.str,W Z,W Z,W Z] z o],.row 88 [.str,.str,W Z] x y])=>needs [(o51_1 G n j C u v z o D w x y).isSome] (e51_1 G n j C u v z o ((o51_1 G n j C u v z o D w x y).getD default) fun e vs bs=>inBlk 1 k e (mkSt 0 107 [11] vs 2 bs))
 | _=>False
theorem z51_1:LOk Try.prog g51_1 (.block 1 (bodyAt (Try.f51.body.getD .skip) 1)):=by
 refine lb (ι:=Int × Nat × Nat × Dat × Int × Int × Nat × Dat × Nat × Dat × Nat × Dat) (fuel:=8) (na:=0) (nt:=107) (nx:=2) (Lh:=[2,3,11,36,37,38]) (Le:=[11]) (gl:=[⟨true,11,0,1,88,[.str,.str,W Z]⟩]) (tc k62 (tc k64 (tc k86c87 (tc k87 tn)))) mix_ok (lam_of rfl (lc z51_3 ln)) rfl (fun f (G,D,n,j,C,w,u,v,z,o,x,y) K=>GG default (e51_1 G n j C u v z o) K (l51_1 G n j C u v z o f D w x y)) (fun (G,D,n,j,C,w,u,v,z,o,x,y)=>[V Z G,.ptr 0 0,.gr 1 3 D,.ro [.pt [.str,W Z,W Z,.mi [W Z,W Z,.bool],.mb,.mb,W Z,.bool,.m1]] n j,V Z C,V Z w]) (fun (G,D,n,j,C,w,u,v,z,o,x,y)=>[.cells 25 [.ro [.str,W Z,W Z] u v,.ro [.str,W Z,W Z,W Z] z o],.row 88 [.str,.str,W Z] x y]) (fun (_,_,_,_,_,_,_,_,_,_,_,_) K=>gg_none) ?_ ?_
 ·rintro f ⟨G,D,n,j,C,w,u,v,z,o,x,y⟩ K hG
  refine ro (fun R => 
 let a0:=(o51_3 G (j.sub w.toNat 0) n j C w z o (↑z:Int) u v o D 0 x y)
 (cnd (decide (w<C))
 (cnd (decide (0≤w∧w<↑n))
 (cnd (decide (z=z))
 (cnd (a0.isSome)
 (R (XE.normal) [V Z G,.ptr 0 0,.gr 1 3 (a0.getD default).1,.ro [.pt [.str,W Z,W Z,.mi [W Z,W Z,.bool],.mb,.mb,W Z,.bool,.m1]] n j,V Z C,V Z (Z.wrap (w+1))] [.cells 25 [.ro [.str,W Z,W Z] u v,.ro [.str,W Z,W Z,W Z] z o],.row 88 [.str,.str,W Z] (a0.getD default).2.1 (a0.getD default).2.2])
   False)
  False)
  False)
 (R (XE.exit 1) [.gr 1 3 D] [.cells 25 [.ro [.str,W Z,W Z] u v,.ro [.str,W Z,W Z,W Z] z o],.row 88 [.str,.str,W Z] x y]))) (fun R=>by kernel_rfl) ?_
  exact ch hG (fun h0=>cg h0 fun h1=>cn (decide_eq_true rfl) (cg h1 fun h2=>⟨(_,_,_,_,_,_,_,_,_,_,_,_),rfl,rfl,h2⟩)) (fun h0=>h0.2)
 ·intro s k h
  unfold g51_1 at h
  split at h <;> try exact h.elim
  rename_i e1
  rw [needs_iff] at h
  exact ⟨_,e1,_,(_,_,_,_,_,_,_,_,_,_,_,_),rfl,rfl,h.1 _ (List.mem_singleton.2 rfl),h.2⟩
def m51 (b:Nat) (d:Dat) (g:Nat) (i:Dat) (l:Nat) (m:Dat) (J:Int):Nat × Dat × Int :=
 (cond (bif (decide ((m62 b d g i l m).2.2.2=0)) then false else true) (0,noDat,(m62 b d g i l m).2.2.2) (cond (bif (m64 J) then false else true) (0,noDat,2) (((o51_1 J ((m62 b d g i l m).2.1.sn 0 2) ((m62 b d g i l m).2.1.sub 0 2) (↑((m62 b d g i l m).2.1.sn 0 2):Int) b d g i 0 0 0 noDat).getD default).1,(m86c87 ((o51_1 J ((m62 b d g i l m).2.1.sn 0 2) ((m62 b d g i l m).2.1.sub 0 2) (↑((m62 b d g i l m).2.1.sn 0 2):Int) b d g i 0 0 0 noDat).getD default).1 ((o51_1 J ((m62 b d g i l m).2.1.sn 0 2) ((m62 b d g i l m).2.1.sub 0 2) (↑((m62 b d g i l m).2.1.sn 0 2):Int) b d g i 0 0 0 noDat).getD default).2.1 ((o51_1 J ((m62 b d g i l m).2.1.sn 0 2) ((m62 b d g i l m).2.1.sub 0 2) (↑((m62 b d g i l m).2.1.sn 0 2):Int) b d g i 0 0 0 noDat).getD default).2.2).2,0)))
def n51 (b:Nat) (d:Dat) (g:Nat) (i:Dat) (l:Nat) (m:Dat) (J:Int):Bool :=
 ((n62 b d g i l m)&&(cond (bif (decide ((m62 b d g i l m).2.2.2=0)) then false else true) true (cond (bif (m64 J) then false else true) true ((m62 b d g i l m).1&&(((o51_1 J ((m62 b d g i l m).2.1.sn 0 2) ((m62 b d g i l m).2.1.sub 0 2) (↑((m62 b d g i l m).2.1.sn 0 2):Int) b d g i 0 0 0 noDat).isSome)&&((n86c87 ((o51_1 J ((m62 b d g i l m).2.1.sn 0 2) ((m62 b d g i l m).2.1.sub 0 2) (↑((m62 b d g i l m).2.1.sn 0 2):Int) b d g i 0 0 0 noDat).getD default).1 ((o51_1 J ((m62 b d g i l m).2.1.sn 0 2) ((m62 b d g i l m).2.1.sub 0 2) (↑((m62 b d g i l m).2.1.sn 0 2):Int) b d g i 0 0 0 noDat).getD default).2.1 ((o51_1 J ((m62 b d g i l m).2.1.sn 0 2) ((m62 b d g i l m).2.1.sub 0 2) (↑((m62 b d g i l m).2.1.sn 0 2):Int) b d g i 0 0 0 noDat).getD default).2.2)&&((decide ((0+((o51_1 J ((m62 b d g i l m).2.1.sn 0 2) ((m62 b d g i l m).2.1.sub 0 2) (↑((m62 b d g i l m).2.1.sn 0 2):Int) b d g i 0 0 0 noDat).getD default).1)≤(m86c87 ((o51_1 J ((m62 b d g i l m).2.1.sn 0 2) ((m62 b d g i l m).2.1.sub 0 2) (↑((m62 b d g i l m).2.1.sn 0 2):Int) b d g i 0 0 0 noDat).getD default).1 ((o51_1 J ((m62 b d g i l m).2.1.sn 0 2) ((m62 b d g i l m).2.1.sub 0 2) (↑((m62 b d g i l m).2.1.sn 0 2):Int) b d g i 0 0 0 noDat).getD default).2.1 ((o51_1 J ((m62 b d g i l m).2.1.sn 0 2) ((m62 b d g i l m).2.1.sub 0 2) (↑((m62 b d g i l m).2.1.sn 0 2):Int) b d g i 0 0 0 noDat).getD default).2.2).1))&&true)))))))
def q51 (r:Nat × Dat × Int):SV × List Blk × List Blk:=(.tup [.ro [.str,.str,W Z] r.1 r.2.1,V Z r.2.2],[],[])
def g51:GF:=fun vs bs=>match vs,bs with
 | [.agg [.ro [.str,W Z,W Z] b d,.ro [.str,W Z,W Z,W Z] g i],.ro [W Z,W Z,.str,.str,.str,.bool] l m,V Z J],[]=>some (rs 0 (q51 (m51 b d g i l m J)) [n51 b d g i l m J])
 | _,_=>none
def c51:Ctr:=genC [.a [.ro [.str,W Z,W Z],.ro [.str,W Z,W Z,W Z]],.ro [W Z,W Z,.str,.str,.str,.bool],.k] g51
theorem k51:CtrOk Try.prog c51 51:=cx (tc k62 (tc k64 (tc k86c87 (tc k87 tn)))) mix_ok 8 (fn:=Try.f51) (c:=(Try.f51.body.getD .skip)) (grs:=[]) (rh:=.t [.ro [.str,.str,W Z],.k]) Try.func51 rfl (by kernel_rfl) (lam_of rfl (lc z51_3 (lc z51_1 ln))) fun vs bs q h hn=>by
 unfold g51 at h
 split at h <;> cases h
 rename_i b d g i l m J
 have hn:=n1 hn
 exact ⟨_,rfl,ca (fun R => 
 let a0:=((o51_1 J ((m62 b d g i l m).2.1.sn 0 2) ((m62 b d g i l m).2.1.sub 0 2) (↑((m62 b d g i l m).2.1.sn 0 2):Int) b d g i 0 0 0 noDat).getD default)
 (cnd (n62 b d g i l m)
 (cnd (bif (decide ((m62 b d g i l m).2.2.2=0)) then false else true)
 (R (.tup [.ro [.str,.str,W Z] 0 noDat,V Z (m62 b d g i l m).2.2.2]) [] [])
 (cnd (bif (m64 J) then false else true)
 (R (.tup [.ro [.str,.str,W Z] 0 noDat,V Z 2]) [] [])
 (cnd (m62 b d g i l m).1
 (cnd ((o51_1 J ((m62 b d g i l m).2.1.sn 0 2) ((m62 b d g i l m).2.1.sub 0 2) (↑((m62 b d g i l m).2.1.sn 0 2):Int) b d g i 0 0 0 noDat).isSome)
 (cnd (n86c87 a0.1 a0.2.1 a0.2.2)
 (cnd (decide ((0+a0.1)≤(m86c87 a0.1 a0.2.1 a0.2.2).1))
 (R (.tup [.ro [.str,.str,W Z] a0.1 (m86c87 a0.1 a0.2.1 a0.2.2).2,V Z 0]) [] [])
    False)
    False)
   False)
   False)))
 False)) (fun R=>by kernel_rfl) (cn (al hn) (co (fun h0=>lf (cT h0 rfl) rfl) (fun h0=>co (fun h1=>lf (cF h0 (cT h1 rfl)) rfl) (fun h1=>cn (al (cf h1 (cf h0 (ar hn)))) (cn (al (ar (cf h1 (cf h0 (ar hn))))) (cn (al (ar (ar (cf h1 (cf h0 (ar hn)))))) (cn (al (ar (ar (ar (cf h1 (cf h0 (ar hn))))))) (lf (cF h0 (cF h1 rfl)) rfl))))))))⟩
/-! ### shotline/shotlinelaw07.awake -/
def m17 :Bool :=
 (bif (bif (bif (bif (bif (bif (decide ((m31 4 m60.1 2 m60.2 3 m61).2.2=0)) then (m34 (m31 4 m60.1 2 m60.2 3 m61).1 (m31 4 m60.1 2 m60.2 3 m61).2.1 2 (datS [SV.str ({ data:=#[97] }:ByteArray),SV.str ({ data:=#[98] }:ByteArray)] 1)) else false) then (decide ((m19 4 m60.1 2 m60.2 3 m61 ({ data:=#[98] }:ByteArray) 7).2.2.2=0)) else false) then (bif (m19 4 m60.1 2 m60.2 3 m61 ({ data:=#[98] }:ByteArray) 7).1 then false else true) else false) then (m26 (m19 4 m60.1 2 m60.2 3 m61 ({ data:=#[98] }:ByteArray) 7).2.1 (m19 4 m60.1 2 m60.2 3 m61 ({ data:=#[98] }:ByteArray) 7).2.2.1 1 (datS [V Z 3,SV.str ({ data:=#[] }:ByteArray),SV.str ({ data:=#[99,49] }:ByteArray),V Z 0] 4)) else false) then (decide ((m51 4 m60.1 2 m60.2 0 noDat 600).2.2=0)) else false) then (m54 (m51 4 m60.1 2 m60.2 0 noDat 600).1 (m51 4 m60.1 2 m60.2 0 noDat 600).2.1 1 (datS [SV.str ({ data:=#[114] }:ByteArray),SV.str ({ data:=#[115,101,114,118,105,99,101] }:ByteArray),V Z 465] 3)) else false)
def n17 :Bool :=
 ((n31 4 m60.1 2 m60.2 3 m61)&&((n19 4 m60.1 2 m60.2 3 m61 ({ data:=#[98] }:ByteArray) 7)&&((n51 4 m60.1 2 m60.2 0 noDat 600)&&((bif (bif (decide ((m31 4 m60.1 2 m60.2 3 m61).2.2=0)) then false else true) then true else (n34 (m31 4 m60.1 2 m60.2 3 m61).1 (m31 4 m60.1 2 m60.2 3 m61).2.1 2 (datS [SV.str ({ data:=#[97] }:ByteArray),SV.str ({ data:=#[98] }:ByteArray)] 1)))&&((bif (bif (bif (bif (bif (decide ((m31 4 m60.1 2 m60.2 3 m61).2.2=0)) then (m34 (m31 4 m60.1 2 m60.2 3 m61).1 (m31 4 m60.1 2 m60.2 3 m61).2.1 2 (datS [SV.str ({ data:=#[97] }:ByteArray),SV.str ({ data:=#[98] }:ByteArray)] 1)) else false) then (decide ((m19 4 m60.1 2 m60.2 3 m61 ({ data:=#[98] }:ByteArray) 7).2.2.2=0)) else false) then (bif (m19 4 m60.1 2 m60.2 3 m61 ({ data:=#[98] }:ByteArray) 7).1 then false else true) else false) then false else true) then true else (n26 (m19 4 m60.1 2 m60.2 3 m61 ({ data:=#[98] }:ByteArray) 7).2.1 (m19 4 m60.1 2 m60.2 3 m61 ({ data:=#[98] }:ByteArray) 7).2.2.1 1 (datS [V Z 3,SV.str ({ data:=#[] }:ByteArray),SV.str ({ data:=#[99,49] }:ByteArray),V Z 0] 4)))&&((bif (bif (bif (bif (bif (bif (bif (decide ((m31 4 m60.1 2 m60.2 3 m61).2.2=0)) then (m34 (m31 4 m60.1 2 m60.2 3 m61).1 (m31 4 m60.1 2 m60.2 3 m61).2.1 2 (datS [SV.str ({ data:=#[97] }:ByteArray),SV.str ({ data:=#[98] }:ByteArray)] 1)) else false) then (decide ((m19 4 m60.1 2 m60.2 3 m61 ({ data:=#[98] }:ByteArray) 7).2.2.2=0)) else false) then (bif (m19 4 m60.1 2 m60.2 3 m61 ({ data:=#[98] }:ByteArray) 7).1 then false else true) else false) then (m26 (m19 4 m60.1 2 m60.2 3 m61 ({ data:=#[98] }:ByteArray) 7).2.1 (m19 4 m60.1 2 m60.2 3 m61 ({ data:=#[98] }:ByteArray) 7).2.2.1 1 (datS [V Z 3,SV.str ({ data:=#[] }:ByteArray),SV.str ({ data:=#[99,49] }:ByteArray),V Z 0] 4)) else false) then (decide ((m51 4 m60.1 2 m60.2 0 noDat 600).2.2=0)) else false) then false else true) then true else (n54 (m51 4 m60.1 2 m60.2 0 noDat 600).1 (m51 4 m60.1 2 m60.2 0 noDat 600).2.1 1 (datS [SV.str ({ data:=#[114] }:ByteArray),SV.str ({ data:=#[115,101,114,118,105,99,101] }:ByteArray),V Z 465] 3)))&&true))))))
def q17 (r:Bool):SV × List Blk × List Blk:=(.bool r,[],[])
def g17:GF:=fun vs bs=>match vs,bs with
 | [],[]=>some (rs 0 (q17 (m17)) [n17 ])
 | _,_=>none
def c17:Ctr:=genC [] g17
theorem k17:CtrOk Try.prog c17 17:=cx (tc kSeal (tc k19 (tc k26 (tc k31 (tc k34 (tc k51 (tc k54 (tc k60 (tc k61 tn))))))))) mix_ok 8 (fn:=Try.f17) (c:=(Try.f17.body.getD .skip)) (grs:=[]) (rh:=.k) Try.func17 rfl (by kernel_rfl) noLam fun vs bs q h hn=>by
 unfold g17 at h
 split at h <;> cases h
 have hn:=n1 hn
 exact ⟨_,rfl,ca (fun R => 
 let d0:=({ data:=#[98] }:ByteArray)
 let f0:=(m31 4 m60.1 2 m60.2 3 m61)
 let a0:=(bif (bif (bif (decide (f0.2.2=0)) then (m34 f0.1 f0.2.1 2 (datS [SV.str ({ data:=#[97] }:ByteArray),SV.str d0] 1)) else false) then (decide ((m19 4 m60.1 2 m60.2 3 m61 d0 7).2.2.2=0)) else false) then (bif (m19 4 m60.1 2 m60.2 3 m61 d0 7).1 then false else true) else false)
 let e0:=(m51 4 m60.1 2 m60.2 0 noDat 600)
 let b0:=(bif (bif a0 then (m26 (m19 4 m60.1 2 m60.2 3 m61 d0 7).2.1 (m19 4 m60.1 2 m60.2 3 m61 d0 7).2.2.1 1 (datS [V Z 3,SV.str ({ data:=#[] }:ByteArray),SV.str ({ data:=#[99,49] }:ByteArray),V Z 0] 4)) else false) then (decide (e0.2.2=0)) else false)
 let c0:=(datS [SV.str ({ data:=#[114] }:ByteArray),SV.str ({ data:=#[115,101,114,118,105,99,101] }:ByteArray),V Z 465] 3)
 (cnd (n31 4 m60.1 2 m60.2 3 m61)
 (cnd (n19 4 m60.1 2 m60.2 3 m61 d0 7)
 (cnd (n51 4 m60.1 2 m60.2 0 noDat 600)
 (cnd (bif (bif (decide (f0.2.2=0)) then false else true) then true else (n34 f0.1 f0.2.1 2 (datS [SV.str ({ data:=#[97] }:ByteArray),SV.str d0] 1)))
 (cnd (bif (bif a0 then false else true) then true else (n26 (m19 4 m60.1 2 m60.2 3 m61 d0 7).2.1 (m19 4 m60.1 2 m60.2 3 m61 d0 7).2.2.1 1 (datS [V Z 3,SV.str ({ data:=#[] }:ByteArray),SV.str ({ data:=#[99,49] }:ByteArray),V Z 0] 4)))
 (cnd (bif (bif b0 then false else true) then true else (n54 e0.1 e0.2.1 1 c0))
 (R (.bool (bif b0 then (m54 e0.1 e0.2.1 1 c0) else false)) [] [])
    False)
   False)
   False)
  False)
  False)
 False)) (fun R=>by kernel_rfl) (cn (al hn) (cn (al (ar hn)) (cn (al (ar (ar hn))) (cn (al (ar (ar (ar hn)))) (cn (al (ar (ar (ar (ar hn))))) (cn (al (ar (ar (ar (ar (ar hn)))))) (lf rfl rfl)))))))⟩
/-! ### shotline/shotlinelaw07.KitQuarantine -/
def l13_4 (j:Nat) (l:Dat) (u:Nat) (x:Dat) (t:Nat) (v:Dat) (w:Int) (E:ByteArray) (D:Nat) (y:Dat) (F C:Int) (d:Nat) (b:Dat) (g:Nat) (i:Dat):Nat→Bool→Int→Option (Bool)
 | 0,_,_=>none
 | f+1,G,L=>(cond (decide (L<(↑u:Int))) (cond (bif (bif (bif G then false else true) then false else true) then true else (decide (0≤L∧L<↑u))) (cond (bif (bif (bif G then false else true) then false else true) then true else (decide (0≤C∧C<↑D))) (l13_4 j l u x t v w E D y F C d b g i f (bif G then true else (bif (decide ((x.ss L.toNat 0)=(y.ss C.toNat 0))) then (bif (decide ((x.ii L.toNat 1)=(y.ii C.toNat 1))) then true else false) else false)) (Z.wrap (L+1))) none) none) (some G))
abbrev o13_4 (j:Nat) (l:Dat) (u:Nat) (x:Dat) (t:Nat) (v:Dat) (w:Int) (E:ByteArray) (D:Nat) (y:Dat) (F C:Int) (d:Nat) (b:Dat) (g:Nat) (i:Dat) (G:Bool) (L:Int):Option (Bool):=l13_4 j l u x t v w E D y F C d b g i (j+u+t+w.toNat+E.size+D+F.toNat+C.toNat+L.toNat+d+g+8) G L
def e13_4 (j:Nat) (l:Dat) (u:Nat) (x:Dat) (t:Nat) (v:Dat) (w:Int) (E:ByteArray) (D:Nat) (y:Dat) (F C:Int) (d:Nat) (b:Dat) (g:Nat) (i:Dat) (r:Bool) (K:XR):Prop:=K (XE.exit 4) [.ro [W Z,W Z,.str,.str,.str,.bool] j l,.ptr 0 0,.ro [.str,W Z] u x,.ro [.str] t v,V Z w,.str E,.ro [.str,W Z] D y,V Z F,.bool r,V Z C] [.cells 25 [.ro [.str,W Z,W Z] d b,.ro [.str,W Z,W Z,W Z] g i]]
def g13_4:LSum:=fun s k=>match czv 0 215 [1,2,5,7,9,10,11,12,13,14,17] 1 [] s with
 | some ([.ro [W Z,W Z,.str,.str,.str,.bool] j l,.ptr 0 0,.ro [.str,W Z] u x,.ro [.str] t v,V Z w,.str E,.ro [.str,W Z] D y,V Z F,.bool G,V Z C,V Z L],[.cells 25 [.ro [.str,W Z,W Z] d b,.ro [.str,W Z,W Z,W Z] g i]])=>needs [(o13_4 j l u x t v w E D y F C d b g i G L).isSome] (e13_4 j l u x t v w E D y F C d b g i ((o13_4 j l u x t v w E D y F C d b g i G L).getD default) fun e vs bs=>inBlk 4 k e (mkSt 0 215 [1,2,5,7,9,10,11,12,13,14] vs 1 bs))
 | _=>False
theorem z13_4:LOk Try.prog g13_4 (.block 4 (bodyAt (Try.f13.body.getD .skip) 4)):=by
 refine lb (ι:=Nat × Dat × Nat × Dat × Nat × Dat × Int × ByteArray × Nat × Dat × Int × Bool × Int × Int × Nat × Dat × Nat × Dat) (fuel:=8) (na:=0) (nt:=215) (nx:=1) (Lh:=[1,2,5,7,9,10,11,12,13,14,17]) (Le:=[1,2,5,7,9,10,11,12,13,14]) (gl:=[]) (tc kSeal4 (tc kSeal (tc k17 (tc k18 (tc k19 (tc k20 (tc k21 (tc k21r (tc k29 (tc k30 (tc k31 (tc k42 (tc k57 tn))))))))))))) mix_ok noLam rfl (fun f (j,l,u,x,t,v,w,E,D,y,F,G,C,L,d,b,g,i) K=>GG default (e13_4 j l u x t v w E D y F C d b g i) K (l13_4 j l u x t v w E D y F C d b g i f G L)) (fun (j,l,u,x,t,v,w,E,D,y,F,G,C,L,d,b,g,i)=>[.ro [W Z,W Z,.str,.str,.str,.bool] j l,.ptr 0 0,.ro [.str,W Z] u x,.ro [.str] t v,V Z w,.str E,.ro [.str,W Z] D y,V Z F,.bool G,V Z C,V Z L]) (fun (j,l,u,x,t,v,w,E,D,y,F,G,C,L,d,b,g,i)=>[.cells 25 [.ro [.str,W Z,W Z] d b,.ro [.str,W Z,W Z,W Z] g i]]) (fun (_,_,_,_,_,_,_,_,_,_,_,_,_,_,_,_,_,_) K=>gg_none) ?_ ?_
 ·rintro f ⟨j,l,u,x,t,v,w,E,D,y,F,G,C,L,d,b,g,i⟩ K hG
  refine ro (fun R => 
 let a0:=(bif (bif G then false else true) then false else true)
 (cnd (decide (L<(↑u:Int)))
 (cnd (bif a0 then true else (decide (0≤L∧L<↑u)))
 (cnd (bif a0 then true else (decide (0≤C∧C<↑D)))
 (R (XE.normal) [.ro [W Z,W Z,.str,.str,.str,.bool] j l,.ptr 0 0,.ro [.str,W Z] u x,.ro [.str] t v,V Z w,.str E,.ro [.str,W Z] D y,V Z F,.bool (bif G then true else (bif (decide ((x.ss L.toNat 0)=(y.ss C.toNat 0))) then (bif (decide ((x.ii L.toNat 1)=(y.ii C.toNat 1))) then true else false) else false)),V Z C,V Z (Z.wrap (L+1))] [.cells 25 [.ro [.str,W Z,W Z] d b,.ro [.str,W Z,W Z,W Z] g i]])
  False)
  False)
 (R (XE.exit 4) [.ro [W Z,W Z,.str,.str,.str,.bool] j l,.ptr 0 0,.ro [.str,W Z] u x,.ro [.str] t v,V Z w,.str E,.ro [.str,W Z] D y,V Z F,.bool G,V Z C] [.cells 25 [.ro [.str,W Z,W Z] d b,.ro [.str,W Z,W Z,W Z] g i]]))) (fun R=>by kernel_rfl) ?_
  exact ch hG (fun h0=>cg h0 fun h1=>cg h1 fun h2=>⟨(_,_,_,_,_,_,_,_,_,_,_,_,_,_,_,_,_,_),rfl,rfl,h2⟩) (fun h0=>h0.2)
 ·intro s k h
  unfold g13_4 at h
  split at h <;> try exact h.elim
  rename_i e1
  rw [needs_iff] at h
  exact ⟨_,e1,_,(_,_,_,_,_,_,_,_,_,_,_,_,_,_,_,_,_,_),rfl,rfl,h.1 _ (List.mem_singleton.2 rfl),h.2⟩
def l13_2 (j:Nat) (l:Dat) (u:Nat) (x:Dat) (t:Nat) (v:Dat) (w:Int) (E:ByteArray) (D:Nat) (y:Dat) (F:Int) (d:Nat) (b:Dat) (g:Nat) (i:Dat):Nat→Bool→Int→Option (Bool × (Bool × Bool) × (Bool))
 | 0,_,_=>none
 | f+1,G,C=>(cond (bif (decide (C<(↑D:Int))) then (decide (C<40)) else false) (cond (n20 d b g i) (cond (n21 j l) (cond (decide (0≤C∧C<↑D)) (cond (n42 (m20 d b g i).1 (m20 d b g i).2.1 (m20 d b g i).2.2.1 (m20 d b g i).2.2.2 (m21 j l).1 (m21 j l).2 (y.ss C.toNat 0) (y.ii C.toNat 1)) (cond (bif (bif (bif (bif (decide ((m42 (m20 d b g i).1 (m20 d b g i).2.1 (m20 d b g i).2.2.1 (m20 d b g i).2.2.2 (m21 j l).1 (m21 j l).2 (y.ss C.toNat 0) (y.ii C.toNat 1)).2.2=0)) then false else true) then false else true) then false else true) then true else (n57 (m42 (m20 d b g i).1 (m20 d b g i).2.1 (m20 d b g i).2.2.1 (m20 d b g i).2.2.2 (m21 j l).1 (m21 j l).2 (y.ss C.toNat 0) (y.ii C.toNat 1)).1 (m42 (m20 d b g i).1 (m20 d b g i).2.1 (m20 d b g i).2.2.1 (m20 d b g i).2.2.2 (m21 j l).1 (m21 j l).2 (y.ss C.toNat 0) (y.ii C.toNat 1)).2.1 E)) (cond (bif (bif (decide ((m42 (m20 d b g i).1 (m20 d b g i).2.1 (m20 d b g i).2.2.1 (m20 d b g i).2.2.2 (m21 j l).1 (m21 j l).2 (y.ss C.toNat 0) (y.ii C.toNat 1)).2.2=0)) then false else true) then true else (bif (m57 (m42 (m20 d b g i).1 (m20 d b g i).2.1 (m20 d b g i).2.2.1 (m20 d b g i).2.2.2 (m21 j l).1 (m21 j l).2 (y.ss C.toNat 0) (y.ii C.toNat 1)).1 (m42 (m20 d b g i).1 (m20 d b g i).2.1 (m20 d b g i).2.2.1 (m20 d b g i).2.2.2 (m21 j l).1 (m21 j l).2 (y.ss C.toNat 0) (y.ii C.toNat 1)).2.1 E) then false else true)) (some (true,(false,G),default)) (cond ((o13_4 j l u x t v w E D y F C d b g i G 0).isSome) (l13_2 j l u x t v w E D y F d b g i f ((o13_4 j l u x t v w E D y F C d b g i G 0).getD default) (Z.wrap (C+1))) none)) none) none) none) none) none) (some (false,default,G)))
abbrev o13_2 (j:Nat) (l:Dat) (u:Nat) (x:Dat) (t:Nat) (v:Dat) (w:Int) (E:ByteArray) (D:Nat) (y:Dat) (F:Int) (d:Nat) (b:Dat) (g:Nat) (i:Dat) (G:Bool) (C:Int):Option (Bool × (Bool × Bool) × (Bool)):=l13_2 j l u x t v w E D y F d b g i (j+u+t+w.toNat+E.size+D+F.toNat+C.toNat+d+g+8) G C
def e13_2 (j:Nat) (l:Dat) (u:Nat) (x:Dat) (t:Nat) (v:Dat) (w:Int) (E:ByteArray) (D:Nat) (y:Dat) (F:Int) (d:Nat) (b:Dat) (g:Nat) (i:Dat) (r:Bool × (Bool × Bool) × (Bool)) (K:XR):Prop:=cnd r.1 (K (XE.ret) [.ro [W Z,W Z,.str,.str,.str,.bool] j l,.ptr 0 0,.bool r.2.1.1,.ro [.str,W Z] u x,.ro [.str] t v,V Z w,.str E,V Z F,.bool r.2.1.2] [.cells 25 [.ro [.str,W Z,W Z] d b,.ro [.str,W Z,W Z,W Z] g i]]) (K (XE.exit 2) [.ro [W Z,W Z,.str,.str,.str,.bool] j l,.ptr 0 0,.any,.ro [.str,W Z] u x,.ro [.str] t v,V Z w,.str E,V Z F,.bool r.2.2] [.cells 25 [.ro [.str,W Z,W Z] d b,.ro [.str,W Z,W Z,W Z] g i]])
def g13_2:LSum:=fun s k=>match czv 0 215 [1,2,5,7,9,10,11,12,13,14] 1 [] s with
 | some ([.ro [W Z,W Z,.str,.str,.str,.bool] j l,.ptr 0 0,.ro [.str,W Z] u x,.ro [.str] t v,V Z w,.str E,.ro [.str,W Z] D y,V Z F,.bool G,V Z C],[.cells 25 [.ro [.str,W Z,W Z] d b,.ro [.str,W Z,W Z,W Z] g i]])=>needs [(o13_2 j l u x t v w E D y F d b g i G C).isSome] (e13_2 j l u x t v w E D y F d b g i ((o13_2 j l u x t v w E D y F d b g i G C).getD default) fun e vs bs=>inBlk 2 k e (mkSt 0 215 [1,2,4,5,7,9,10,12,13] vs 1 bs))
 | _=>False
theorem z13_2:LOk Try.prog g13_2 (.block 2 (bodyAt (Try.f13.body.getD .skip) 2)):=by
 refine lb (ι:=Nat × Dat × Nat × Dat × Nat × Dat × Int × ByteArray × Nat × Dat × Int × Bool × Int × Nat × Dat × Nat × Dat) (fuel:=8) (na:=0) (nt:=215) (nx:=1) (Lh:=[1,2,5,7,9,10,11,12,13,14]) (Le:=[1,2,4,5,7,9,10,12,13]) (gl:=[]) (tc kSeal4 (tc kSeal (tc k17 (tc k18 (tc k19 (tc k20 (tc k21 (tc k21r (tc k29 (tc k30 (tc k31 (tc k42 (tc k57 tn))))))))))))) mix_ok (lam_of rfl (lc z13_4 ln)) rfl (fun f (j,l,u,x,t,v,w,E,D,y,F,G,C,d,b,g,i) K=>GG default (e13_2 j l u x t v w E D y F d b g i) K (l13_2 j l u x t v w E D y F d b g i f G C)) (fun (j,l,u,x,t,v,w,E,D,y,F,G,C,d,b,g,i)=>[.ro [W Z,W Z,.str,.str,.str,.bool] j l,.ptr 0 0,.ro [.str,W Z] u x,.ro [.str] t v,V Z w,.str E,.ro [.str,W Z] D y,V Z F,.bool G,V Z C]) (fun (j,l,u,x,t,v,w,E,D,y,F,G,C,d,b,g,i)=>[.cells 25 [.ro [.str,W Z,W Z] d b,.ro [.str,W Z,W Z,W Z] g i]]) (fun (_,_,_,_,_,_,_,_,_,_,_,_,_,_,_,_,_) K=>gg_none) ?_ ?_
 ·rintro f ⟨j,l,u,x,t,v,w,E,D,y,F,G,C,d,b,g,i⟩ K hG
  refine ro (fun R => 
 let a0:=(m42 (m20 d b g i).1 (m20 d b g i).2.1 (m20 d b g i).2.2.1 (m20 d b g i).2.2.2 (m21 j l).1 (m21 j l).2 (y.ss C.toNat 0) (y.ii C.toNat 1))
 (cnd (bif (decide (C<(↑D:Int))) then (decide (C<40)) else false)
 ((cnd (n20 d b g i)
 (cnd (n21 j l)
 (cnd (decide (0≤C∧C<↑D))
 (cnd (n42 (m20 d b g i).1 (m20 d b g i).2.1 (m20 d b g i).2.2.1 (m20 d b g i).2.2.2 (m21 j l).1 (m21 j l).2 (y.ss C.toNat 0) (y.ii C.toNat 1))
 (cnd (bif (bif (bif (bif (decide (a0.2.2=0)) then false else true) then false else true) then false else true) then true else (n57 a0.1 a0.2.1 E))
 (cnd (bif (bif (decide (a0.2.2=0)) then false else true) then true else (bif (m57 a0.1 a0.2.1 E) then false else true))
 (R (XE.ret) [.ro [W Z,W Z,.str,.str,.str,.bool] j l,.ptr 0 0,.bool false,.ro [.str,W Z] u x,.ro [.str] t v,V Z w,.str E,V Z F,.bool G] [.cells 25 [.ro [.str,W Z,W Z] d b,.ro [.str,W Z,W Z,W Z] g i]])
 (cnd ((o13_4 j l u x t v w E D y F C d b g i G 0).isSome)
 (R (XE.normal) [.ro [W Z,W Z,.str,.str,.str,.bool] j l,.ptr 0 0,.ro [.str,W Z] u x,.ro [.str] t v,V Z w,.str E,.ro [.str,W Z] D y,V Z F,.bool ((o13_4 j l u x t v w E D y F C d b g i G 0).getD default),V Z (Z.wrap (C+1))] [.cells 25 [.ro [.str,W Z,W Z] d b,.ro [.str,W Z,W Z,W Z] g i]])
     False))
    False)
    False)
   False)
   False)
  False) ∨
  False)
 (R (XE.exit 2) [.ro [W Z,W Z,.str,.str,.str,.bool] j l,.ptr 0 0,.any,.ro [.str,W Z] u x,.ro [.str] t v,V Z w,.str E,V Z F,.bool G] [.cells 25 [.ro [.str,W Z,W Z] d b,.ro [.str,W Z,W Z,W Z] g i]]))) (fun R=>by kernel_rfl) ?_
  exact ch hG (fun h0=>Or.inl (cg h0 fun h1=>cg h1 fun h2=>cg h2 fun h3=>cg h3 fun h4=>cg h4 fun h5=>ch h5 (fun h6=>h6.2) (fun h6=>cg h6 fun h7=>⟨(_,_,_,_,_,_,_,_,_,_,_,_,_,_,_,_,_),rfl,rfl,h7⟩))) (fun h0=>h0.2)
 ·intro s k h
  unfold g13_2 at h
  split at h <;> try exact h.elim
  rename_i e1
  rw [needs_iff] at h
  exact ⟨_,e1,_,(_,_,_,_,_,_,_,_,_,_,_,_,_,_,_,_,_),rfl,rfl,h.1 _ (List.mem_singleton.2 rfl),h.2⟩
def l13_6 (j:Nat) (l:Dat) (u:Nat) (x:Dat) (t:Nat) (v:Dat) (w:Int) (I:Nat) (J:Dat) (d:Nat) (b:Dat) (g:Nat) (i:Dat):Nat→Int→Option (Bool × (Bool) × (Unit))
 | 0,_=>none
 | f+1,M=>(cond (decide (M<(↑I:Int))) (cond (decide (0≤M∧M<↑I)) (cond (decide ((J.ii M.toNat 0)=3)) (some (true,false,default)) (l13_6 j l u x t v w I J d b g i f (Z.wrap (M+1)))) none) (some (false,default,())))
abbrev o13_6 (j:Nat) (l:Dat) (u:Nat) (x:Dat) (t:Nat) (v:Dat) (w:Int) (I:Nat) (J:Dat) (d:Nat) (b:Dat) (g:Nat) (i:Dat) (M:Int):Option (Bool × (Bool) × (Unit)):=l13_6 j l u x t v w I J d b g i (j+u+t+w.toNat+I+M.toNat+d+g+8) M
def e13_6 (j:Nat) (l:Dat) (u:Nat) (x:Dat) (t:Nat) (v:Dat) (w:Int) (I:Nat) (J:Dat) (d:Nat) (b:Dat) (g:Nat) (i:Dat) (r:Bool × (Bool) × (Unit)) (K:XR):Prop:=cnd r.1 (K (XE.ret) [.ro [W Z,W Z,.str,.str,.str,.bool] j l,.ptr 0 0,.bool r.2.1,.ro [.str,W Z] u x,.ro [.str] t v,V Z w] [.cells 25 [.ro [.str,W Z,W Z] d b,.ro [.str,W Z,W Z,W Z] g i],.unk,.unk]) (K (XE.exit 6) [.ro [W Z,W Z,.str,.str,.str,.bool] j l,.ptr 0 0,.any,.ro [.str,W Z] u x,.ro [.str] t v,V Z w] [.cells 25 [.ro [.str,W Z,W Z] d b,.ro [.str,W Z,W Z,W Z] g i],.unk,.unk])
def g13_6:LSum:=fun s k=>match czv 0 215 [1,2,5,7,9,23,25] 3 [] s with
 | some ([.ro [W Z,W Z,.str,.str,.str,.bool] j l,.ptr 0 0,.ro [.str,W Z] u x,.ro [.str] t v,V Z w,.ro [W Z,.str,.str,W Z] I J,V Z M],[.cells 25 [.ro [.str,W Z,W Z] d b,.ro [.str,W Z,W Z,W Z] g i],.unk,.unk])=>needs [(o13_6 j l u x t v w I J d b g i M).isSome] (e13_6 j l u x t v w I J d b g i ((o13_6 j l u x t v w I J d b g i M).getD default) fun e vs bs=>inBlk 6 k e (mkSt 0 215 [1,2,4,5,7,9] vs 3 bs))
 | _=>False
theorem z13_6:LOk Try.prog g13_6 (.block 6 (bodyAt (Try.f13.body.getD .skip) 6)):=by
 refine lb (ι:=Nat × Dat × Nat × Dat × Nat × Dat × Int × Nat × Dat × Int × Nat × Dat × Nat × Dat) (fuel:=8) (na:=0) (nt:=215) (nx:=3) (Lh:=[1,2,5,7,9,23,25]) (Le:=[1,2,4,5,7,9]) (gl:=[]) (tc kSeal4 (tc kSeal (tc k17 (tc k18 (tc k19 (tc k20 (tc k21 (tc k21r (tc k29 (tc k30 (tc k31 (tc k42 (tc k57 tn))))))))))))) mix_ok (lam_of rfl (lc z13_4 (lc z13_2 ln))) rfl (fun f (j,l,u,x,t,v,w,I,J,M,d,b,g,i) K=>GG default (e13_6 j l u x t v w I J d b g i) K (l13_6 j l u x t v w I J d b g i f M)) (fun (j,l,u,x,t,v,w,I,J,M,d,b,g,i)=>[.ro [W Z,W Z,.str,.str,.str,.bool] j l,.ptr 0 0,.ro [.str,W Z] u x,.ro [.str] t v,V Z w,.ro [W Z,.str,.str,W Z] I J,V Z M]) (fun (j,l,u,x,t,v,w,I,J,M,d,b,g,i)=>[.cells 25 [.ro [.str,W Z,W Z] d b,.ro [.str,W Z,W Z,W Z] g i],.unk,.unk]) (fun (_,_,_,_,_,_,_,_,_,_,_,_,_,_) K=>gg_none) ?_ ?_
 ·rintro f ⟨j,l,u,x,t,v,w,I,J,M,d,b,g,i⟩ K hG
  refine ro (fun R=>(cnd (decide (M<(↑I:Int)))
 (cnd (decide (0≤M∧M<↑I))
 (cnd (decide ((J.ii M.toNat 0)=3))
 (R (XE.ret) [.ro [W Z,W Z,.str,.str,.str,.bool] j l,.ptr 0 0,.bool false,.ro [.str,W Z] u x,.ro [.str] t v,V Z w] [.cells 25 [.ro [.str,W Z,W Z] d b,.ro [.str,W Z,W Z,W Z] g i],.unk,.unk])
 (R (XE.normal) [.ro [W Z,W Z,.str,.str,.str,.bool] j l,.ptr 0 0,.ro [.str,W Z] u x,.ro [.str] t v,V Z w,.ro [W Z,.str,.str,W Z] I J,V Z (Z.wrap (M+1))] [.cells 25 [.ro [.str,W Z,W Z] d b,.ro [.str,W Z,W Z,W Z] g i],.unk,.unk]))
  False)
 (R (XE.exit 6) [.ro [W Z,W Z,.str,.str,.str,.bool] j l,.ptr 0 0,.any,.ro [.str,W Z] u x,.ro [.str] t v,V Z w] [.cells 25 [.ro [.str,W Z,W Z] d b,.ro [.str,W Z,W Z,W Z] g i],.unk,.unk]))) (fun R=>by kernel_rfl) ?_
  exact ch hG (fun h0=>cg h0 fun h1=>ch h1 (fun h2=>h2.2) (fun h2=>⟨(_,_,_,_,_,_,_,_,_,_,_,_,_,_),rfl,rfl,h2⟩)) (fun h0=>h0.2)
 ·intro s k h
  unfold g13_6 at h
  split at h <;> try exact h.elim
  rename_i e1
  rw [needs_iff] at h
  exact ⟨_,e1,_,(_,_,_,_,_,_,_,_,_,_,_,_,_,_),rfl,rfl,h.1 _ (List.mem_singleton.2 rfl),h.2⟩
def l13_0 (j:Nat) (l:Dat) (u:Nat) (x:Dat) (t:Nat) (v:Dat) (d:Nat) (b:Dat) (g:Nat) (i:Dat):Nat→Int→Option (Bool × (Bool) × (Unit))
 | 0,_=>none
 | f+1,w=>(cond (bif (decide (w<(↑d:Int))) then (decide (w<6)) else false) (cond (decide (0≤w∧w<↑d)) (cond (decide (0≤w∧w<↑d)) (cond (bif (decide ((b.ii w.toNat 1)=1)) then false else true) (cond (n57 t v (b.ss w.toNat 0)) (cond (m57 t v (b.ss w.toNat 0)) (some (true,false,default)) (l13_0 j l u x t v d b g i f (Z.wrap (w+1)))) none) (cond (n20 d b g i) (cond (n21 j l) (cond (n29 (m20 d b g i).1 (m20 d b g i).2.1 (m20 d b g i).2.2.1 (m20 d b g i).2.2.2 (m21 j l).1 (m21 j l).2 (b.ss w.toNat 0)) (cond ((o13_2 j l u x t v w (b.ss w.toNat 0) (m29 (m20 d b g i).1 (m20 d b g i).2.1 (m20 d b g i).2.2.1 (m20 d b g i).2.2.2 (m21 j l).1 (m21 j l).2 (b.ss w.toNat 0)).1 (m29 (m20 d b g i).1 (m20 d b g i).2.1 (m20 d b g i).2.2.1 (m20 d b g i).2.2.2 (m21 j l).1 (m21 j l).2 (b.ss w.toNat 0)).2.1 (m29 (m20 d b g i).1 (m20 d b g i).2.1 (m20 d b g i).2.2.1 (m20 d b g i).2.2.2 (m21 j l).1 (m21 j l).2 (b.ss w.toNat 0)).2.2 d b g i false 0).isSome) (cond ((o13_2 j l u x t v w (b.ss w.toNat 0) (m29 (m20 d b g i).1 (m20 d b g i).2.1 (m20 d b g i).2.2.1 (m20 d b g i).2.2.2 (m21 j l).1 (m21 j l).2 (b.ss w.toNat 0)).1 (m29 (m20 d b g i).1 (m20 d b g i).2.1 (m20 d b g i).2.2.1 (m20 d b g i).2.2.2 (m21 j l).1 (m21 j l).2 (b.ss w.toNat 0)).2.1 (m29 (m20 d b g i).1 (m20 d b g i).2.1 (m20 d b g i).2.2.1 (m20 d b g i).2.2.2 (m21 j l).1 (m21 j l).2 (b.ss w.toNat 0)).2.2 d b g i false 0).getD default).1 (some (true,((o13_2 j l u x t v w (b.ss w.toNat 0) (m29 (m20 d b g i).1 (m20 d b g i).2.1 (m20 d b g i).2.2.1 (m20 d b g i).2.2.2 (m21 j l).1 (m21 j l).2 (b.ss w.toNat 0)).1 (m29 (m20 d b g i).1 (m20 d b g i).2.1 (m20 d b g i).2.2.1 (m20 d b g i).2.2.2 (m21 j l).1 (m21 j l).2 (b.ss w.toNat 0)).2.1 (m29 (m20 d b g i).1 (m20 d b g i).2.1 (m20 d b g i).2.2.1 (m20 d b g i).2.2.2 (m21 j l).1 (m21 j l).2 (b.ss w.toNat 0)).2.2 d b g i false 0).getD default).2.1.1,default)) (cond (bif (bif (bif (bif (decide ((m29 (m20 d b g i).1 (m20 d b g i).2.1 (m20 d b g i).2.2.1 (m20 d b g i).2.2.2 (m21 j l).1 (m21 j l).2 (b.ss w.toNat 0)).2.2=0)) then false else true) then false else true) then false else true) then true else (n57 t v (b.ss w.toNat 0))) (cond (bif (bif (decide ((m29 (m20 d b g i).1 (m20 d b g i).2.1 (m20 d b g i).2.2.1 (m20 d b g i).2.2.2 (m21 j l).1 (m21 j l).2 (b.ss w.toNat 0)).2.2=0)) then false else true) then true else (bif (decide (((o13_2 j l u x t v w (b.ss w.toNat 0) (m29 (m20 d b g i).1 (m20 d b g i).2.1 (m20 d b g i).2.2.1 (m20 d b g i).2.2.2 (m21 j l).1 (m21 j l).2 (b.ss w.toNat 0)).1 (m29 (m20 d b g i).1 (m20 d b g i).2.1 (m20 d b g i).2.2.1 (m20 d b g i).2.2.2 (m21 j l).1 (m21 j l).2 (b.ss w.toNat 0)).2.1 (m29 (m20 d b g i).1 (m20 d b g i).2.1 (m20 d b g i).2.2.1 (m20 d b g i).2.2.2 (m21 j l).1 (m21 j l).2 (b.ss w.toNat 0)).2.2 d b g i false 0).getD default).2.2=(m57 t v (b.ss w.toNat 0)))) then false else true)) (some (true,false,default)) (cond (bif (decide ((↑j:Int)=0)) then true else (decide (12≤(↑j:Int)))) (l13_0 j l u x t v d b g i f (Z.wrap (w+1))) (cond (decide (0≤Z.wrap ((↑j:Int) - 1)∧Z.wrap ((↑j:Int) - 1)<(↑j:Int))) (cond (n21r j l) (cond (decide ((m21r j l).1≤(m21r j l).2.1)) (cond (decide (((m21r j l).1+1)≤1073741824)) (cond (n20 d b g i) (cond (n31 (m20 d b g i).1 (m20 d b g i).2.1 (m20 d b g i).2.2.1 (m20 d b g i).2.2.2 ((m21r j l).1+1) ((m21r j l).2.2.app (m21r j l).1 (datS [V Z 3,V Z (l.ii ((Z.wrap ((↑j:Int) - 1)).toNat) 1),SV.str (b.ss w.toNat 0),SV.str ({ data:=#[] }:ByteArray),SV.str ({ data:=#[] }:ByteArray),SV.bool false] 6))) (cond (decide ((m31 (m20 d b g i).1 (m20 d b g i).2.1 (m20 d b g i).2.2.1 (m20 d b g i).2.2.2 ((m21r j l).1+1) ((m21r j l).2.2.app (m21r j l).1 (datS [V Z 3,V Z (l.ii ((Z.wrap ((↑j:Int) - 1)).toNat) 1),SV.str (b.ss w.toNat 0),SV.str ({ data:=#[] }:ByteArray),SV.str ({ data:=#[] }:ByteArray),SV.bool false] 6))).2.2=19)) (l13_0 j l u x t v d b g i f (Z.wrap (w+1))) (cond (n20 d b g i) (cond (n19 (m20 d b g i).1 (m20 d b g i).2.1 (m20 d b g i).2.2.1 (m20 d b g i).2.2.2 ((m21r j l).1+1) ((m21r j l).2.2.app (m21r j l).1 (datS [V Z 3,V Z (l.ii ((Z.wrap ((↑j:Int) - 1)).toNat) 1),SV.str (b.ss w.toNat 0),SV.str ({ data:=#[] }:ByteArray),SV.str ({ data:=#[] }:ByteArray),SV.bool false] 6)) (b.ss w.toNat 0) (l.ii ((Z.wrap ((↑j:Int) - 1)).toNat) 1)) (cond (bif (bif (bif (bif (bif (decide ((m31 (m20 d b g i).1 (m20 d b g i).2.1 (m20 d b g i).2.2.1 (m20 d b g i).2.2.2 ((m21r j l).1+1) ((m21r j l).2.2.app (m21r j l).1 (datS [V Z 3,V Z (l.ii ((Z.wrap ((↑j:Int) - 1)).toNat) 1),SV.str (b.ss w.toNat 0),SV.str ({ data:=#[] }:ByteArray),SV.str ({ data:=#[] }:ByteArray),SV.bool false] 6))).2.2=0)) then false else true) then true else (bif (decide ((m19 (m20 d b g i).1 (m20 d b g i).2.1 (m20 d b g i).2.2.1 (m20 d b g i).2.2.2 ((m21r j l).1+1) ((m21r j l).2.2.app (m21r j l).1 (datS [V Z 3,V Z (l.ii ((Z.wrap ((↑j:Int) - 1)).toNat) 1),SV.str (b.ss w.toNat 0),SV.str ({ data:=#[] }:ByteArray),SV.str ({ data:=#[] }:ByteArray),SV.bool false] 6)) (b.ss w.toNat 0) (l.ii ((Z.wrap ((↑j:Int) - 1)).toNat) 1)).2.2.2=0)) then false else true)) then false else true) then false else true) then true else (n57 (m31 (m20 d b g i).1 (m20 d b g i).2.1 (m20 d b g i).2.2.1 (m20 d b g i).2.2.2 ((m21r j l).1+1) ((m21r j l).2.2.app (m21r j l).1 (datS [V Z 3,V Z (l.ii ((Z.wrap ((↑j:Int) - 1)).toNat) 1),SV.str (b.ss w.toNat 0),SV.str ({ data:=#[] }:ByteArray),SV.str ({ data:=#[] }:ByteArray),SV.bool false] 6))).1 (m31 (m20 d b g i).1 (m20 d b g i).2.1 (m20 d b g i).2.2.1 (m20 d b g i).2.2.2 ((m21r j l).1+1) ((m21r j l).2.2.app (m21r j l).1 (datS [V Z 3,V Z (l.ii ((Z.wrap ((↑j:Int) - 1)).toNat) 1),SV.str (b.ss w.toNat 0),SV.str ({ data:=#[] }:ByteArray),SV.str ({ data:=#[] }:ByteArray),SV.bool false] 6))).2.1 (b.ss w.toNat 0))) (cond (bif (bif (bif (decide ((m31 (m20 d b g i).1 (m20 d b g i).2.1 (m20 d b g i).2.2.1 (m20 d b g i).2.2.2 ((m21r j l).1+1) ((m21r j l).2.2.app (m21r j l).1 (datS [V Z 3,V Z (l.ii ((Z.wrap ((↑j:Int) - 1)).toNat) 1),SV.str (b.ss w.toNat 0),SV.str ({ data:=#[] }:ByteArray),SV.str ({ data:=#[] }:ByteArray),SV.bool false] 6))).2.2=0)) then false else true) then true else (bif (decide ((m19 (m20 d b g i).1 (m20 d b g i).2.1 (m20 d b g i).2.2.1 (m20 d b g i).2.2.2 ((m21r j l).1+1) ((m21r j l).2.2.app (m21r j l).1 (datS [V Z 3,V Z (l.ii ((Z.wrap ((↑j:Int) - 1)).toNat) 1),SV.str (b.ss w.toNat 0),SV.str ({ data:=#[] }:ByteArray),SV.str ({ data:=#[] }:ByteArray),SV.bool false] 6)) (b.ss w.toNat 0) (l.ii ((Z.wrap ((↑j:Int) - 1)).toNat) 1)).2.2.2=0)) then false else true)) then true else (m57 (m31 (m20 d b g i).1 (m20 d b g i).2.1 (m20 d b g i).2.2.1 (m20 d b g i).2.2.2 ((m21r j l).1+1) ((m21r j l).2.2.app (m21r j l).1 (datS [V Z 3,V Z (l.ii ((Z.wrap ((↑j:Int) - 1)).toNat) 1),SV.str (b.ss w.toNat 0),SV.str ({ data:=#[] }:ByteArray),SV.str ({ data:=#[] }:ByteArray),SV.bool false] 6))).1 (m31 (m20 d b g i).1 (m20 d b g i).2.1 (m20 d b g i).2.2.1 (m20 d b g i).2.2.2 ((m21r j l).1+1) ((m21r j l).2.2.app (m21r j l).1 (datS [V Z 3,V Z (l.ii ((Z.wrap ((↑j:Int) - 1)).toNat) 1),SV.str (b.ss w.toNat 0),SV.str ({ data:=#[] }:ByteArray),SV.str ({ data:=#[] }:ByteArray),SV.bool false] 6))).2.1 (b.ss w.toNat 0))) (some (true,false,default)) (cond ((o13_6 j l u x t v w (m19 (m20 d b g i).1 (m20 d b g i).2.1 (m20 d b g i).2.2.1 (m20 d b g i).2.2.2 ((m21r j l).1+1) ((m21r j l).2.2.app (m21r j l).1 (datS [V Z 3,V Z (l.ii ((Z.wrap ((↑j:Int) - 1)).toNat) 1),SV.str (b.ss w.toNat 0),SV.str ({ data:=#[] }:ByteArray),SV.str ({ data:=#[] }:ByteArray),SV.bool false] 6)) (b.ss w.toNat 0) (l.ii ((Z.wrap ((↑j:Int) - 1)).toNat) 1)).2.1 (m19 (m20 d b g i).1 (m20 d b g i).2.1 (m20 d b g i).2.2.1 (m20 d b g i).2.2.2 ((m21r j l).1+1) ((m21r j l).2.2.app (m21r j l).1 (datS [V Z 3,V Z (l.ii ((Z.wrap ((↑j:Int) - 1)).toNat) 1),SV.str (b.ss w.toNat 0),SV.str ({ data:=#[] }:ByteArray),SV.str ({ data:=#[] }:ByteArray),SV.bool false] 6)) (b.ss w.toNat 0) (l.ii ((Z.wrap ((↑j:Int) - 1)).toNat) 1)).2.2.1 d b g i 0).isSome) (cond ((o13_6 j l u x t v w (m19 (m20 d b g i).1 (m20 d b g i).2.1 (m20 d b g i).2.2.1 (m20 d b g i).2.2.2 ((m21r j l).1+1) ((m21r j l).2.2.app (m21r j l).1 (datS [V Z 3,V Z (l.ii ((Z.wrap ((↑j:Int) - 1)).toNat) 1),SV.str (b.ss w.toNat 0),SV.str ({ data:=#[] }:ByteArray),SV.str ({ data:=#[] }:ByteArray),SV.bool false] 6)) (b.ss w.toNat 0) (l.ii ((Z.wrap ((↑j:Int) - 1)).toNat) 1)).2.1 (m19 (m20 d b g i).1 (m20 d b g i).2.1 (m20 d b g i).2.2.1 (m20 d b g i).2.2.2 ((m21r j l).1+1) ((m21r j l).2.2.app (m21r j l).1 (datS [V Z 3,V Z (l.ii ((Z.wrap ((↑j:Int) - 1)).toNat) 1),SV.str (b.ss w.toNat 0),SV.str ({ data:=#[] }:ByteArray),SV.str ({ data:=#[] }:ByteArray),SV.bool false] 6)) (b.ss w.toNat 0) (l.ii ((Z.wrap ((↑j:Int) - 1)).toNat) 1)).2.2.1 d b g i 0).getD default).1 (some (true,((o13_6 j l u x t v w (m19 (m20 d b g i).1 (m20 d b g i).2.1 (m20 d b g i).2.2.1 (m20 d b g i).2.2.2 ((m21r j l).1+1) ((m21r j l).2.2.app (m21r j l).1 (datS [V Z 3,V Z (l.ii ((Z.wrap ((↑j:Int) - 1)).toNat) 1),SV.str (b.ss w.toNat 0),SV.str ({ data:=#[] }:ByteArray),SV.str ({ data:=#[] }:ByteArray),SV.bool false] 6)) (b.ss w.toNat 0) (l.ii ((Z.wrap ((↑j:Int) - 1)).toNat) 1)).2.1 (m19 (m20 d b g i).1 (m20 d b g i).2.1 (m20 d b g i).2.2.1 (m20 d b g i).2.2.2 ((m21r j l).1+1) ((m21r j l).2.2.app (m21r j l).1 (datS [V Z 3,V Z (l.ii ((Z.wrap ((↑j:Int) - 1)).toNat) 1),SV.str (b.ss w.toNat 0),SV.str ({ data:=#[] }:ByteArray),SV.str ({ data:=#[] }:ByteArray),SV.bool false] 6)) (b.ss w.toNat 0) (l.ii ((Z.wrap ((↑j:Int) - 1)).toNat) 1)).2.2.1 d b g i 0).getD default).2.1,default)) (l13_0 j l u x t v d b g i f (Z.wrap (w+1)))) none)) none) none) none)) none) none) none) none) none) none))) none)) none) none) none) none)) none) none) (some (false,default,())))
abbrev o13_0 (j:Nat) (l:Dat) (u:Nat) (x:Dat) (t:Nat) (v:Dat) (d:Nat) (b:Dat) (g:Nat) (i:Dat) (w:Int):Option (Bool × (Bool) × (Unit)):=l13_0 j l u x t v d b g i (j+u+t+w.toNat+d+g+8) w
def e13_0 (j:Nat) (l:Dat) (u:Nat) (x:Dat) (t:Nat) (v:Dat) (d:Nat) (b:Dat) (g:Nat) (i:Dat) (r:Bool × (Bool) × (Unit)) (K:XR):Prop:=cnd r.1 (K (XE.ret) [.bool r.2.1] [.cells 25 [.ro [.str,W Z,W Z] d b,.ro [.str,W Z,W Z,W Z] g i]]) (K (XE.exit 0) [.any] [.cells 25 [.ro [.str,W Z,W Z] d b,.ro [.str,W Z,W Z,W Z] g i]])
def g13_0:LSum:=fun s k=>match czv 0 215 [1,2,5,7,9] 1 [] s with
 | some ([.ro [W Z,W Z,.str,.str,.str,.bool] j l,.ptr 0 0,.ro [.str,W Z] u x,.ro [.str] t v,V Z w],[.cells 25 [.ro [.str,W Z,W Z] d b,.ro [.str,W Z,W Z,W Z] g i]])=>needs [(o13_0 j l u x t v d b g i w).isSome] (e13_0 j l u x t v d b g i ((o13_0 j l u x t v d b g i w).getD default) fun e vs bs=>inBlk 0 k e (mkSt 0 215 [4] vs 1 bs))
 | _=>False
theorem z13_0:LOk Try.prog g13_0 (.block 0 (bodyAt (Try.f13.body.getD .skip) 0)):=by
 refine lb (ι:=Nat × Dat × Nat × Dat × Nat × Dat × Int × Nat × Dat × Nat × Dat) (fuel:=8) (na:=0) (nt:=215) (nx:=1) (Lh:=[1,2,5,7,9]) (Le:=[4]) (gl:=[]) (tc kSeal4 (tc kSeal (tc k17 (tc k18 (tc k19 (tc k20 (tc k21 (tc k21r (tc k29 (tc k30 (tc k31 (tc k42 (tc k57 tn))))))))))))) mix_ok (lam_of rfl (lc z13_4 (lc z13_2 (lc z13_6 ln)))) rfl (fun f (j,l,u,x,t,v,w,d,b,g,i) K=>GG default (e13_0 j l u x t v d b g i) K (l13_0 j l u x t v d b g i f w)) (fun (j,l,u,x,t,v,w,d,b,g,i)=>[.ro [W Z,W Z,.str,.str,.str,.bool] j l,.ptr 0 0,.ro [.str,W Z] u x,.ro [.str] t v,V Z w]) (fun (j,l,u,x,t,v,w,d,b,g,i)=>[.cells 25 [.ro [.str,W Z,W Z] d b,.ro [.str,W Z,W Z,W Z] g i]]) (fun (_,_,_,_,_,_,_,_,_,_,_) K=>gg_none) ?_ ?_
 ·rintro f ⟨j,l,u,x,t,v,w,d,b,g,i⟩ K hG
  refine ro (fun R => 
 let a0:=((m21r j l).2.2.app (m21r j l).1 (datS [V Z 3,V Z (l.ii ((Z.wrap ((↑j:Int) - 1)).toNat) 1),SV.str (b.ss w.toNat 0),SV.str ({ data:=#[] }:ByteArray),SV.str ({ data:=#[] }:ByteArray),SV.bool false] 6))
 let b0:=(m29 (m20 d b g i).1 (m20 d b g i).2.1 (m20 d b g i).2.2.1 (m20 d b g i).2.2.2 (m21 j l).1 (m21 j l).2 (b.ss w.toNat 0))
 let h0:=((m21r j l).1+1)
 let c0:=(m19 (m20 d b g i).1 (m20 d b g i).2.1 (m20 d b g i).2.2.1 (m20 d b g i).2.2.2 h0 a0 (b.ss w.toNat 0) (l.ii ((Z.wrap ((↑j:Int) - 1)).toNat) 1))
 let d0:=(m31 (m20 d b g i).1 (m20 d b g i).2.1 (m20 d b g i).2.2.1 (m20 d b g i).2.2.2 h0 a0)
 let e0:=(o13_2 j l u x t v w (b.ss w.toNat 0) b0.1 b0.2.1 b0.2.2 d b g i false 0)
 let f0:=(bif (bif (decide (d0.2.2=0)) then false else true) then true else (bif (decide (c0.2.2.2=0)) then false else true))
 let g0:=(o13_6 j l u x t v w c0.2.1 c0.2.2.1 d b g i 0)
 (cnd (bif (decide (w<(↑d:Int))) then (decide (w<6)) else false)
 (cnd (decide (0≤w∧w<↑d))
 (cnd (decide (0≤w∧w<↑d))
 (cnd (bif (decide ((b.ii w.toNat 1)=1)) then false else true)
 (cnd (n57 t v (b.ss w.toNat 0))
 (cnd (m57 t v (b.ss w.toNat 0))
 (R (XE.ret) [.bool false] [.cells 25 [.ro [.str,W Z,W Z] d b,.ro [.str,W Z,W Z,W Z] g i]])
 (R (XE.normal) [.ro [W Z,W Z,.str,.str,.str,.bool] j l,.ptr 0 0,.ro [.str,W Z] u x,.ro [.str] t v,V Z (Z.wrap (w+1))] [.cells 25 [.ro [.str,W Z,W Z] d b,.ro [.str,W Z,W Z,W Z] g i]]))
   False)
   ((cnd (n20 d b g i)
 (cnd (n21 j l)
 (cnd (n29 (m20 d b g i).1 (m20 d b g i).2.1 (m20 d b g i).2.2.1 (m20 d b g i).2.2.2 (m21 j l).1 (m21 j l).2 (b.ss w.toNat 0))
 (cnd (e0.isSome)
 (cnd (e0.getD default).1
 (R (XE.ret) [.bool (e0.getD default).2.1.1] [.cells 25 [.ro [.str,W Z,W Z] d b,.ro [.str,W Z,W Z,W Z] g i]])
 (cnd (bif (bif (bif (bif (decide (b0.2.2=0)) then false else true) then false else true) then false else true) then true else (n57 t v (b.ss w.toNat 0)))
 (cnd (bif (bif (decide (b0.2.2=0)) then false else true) then true else (bif (decide ((e0.getD default).2.2=(m57 t v (b.ss w.toNat 0)))) then false else true))
 (R (XE.ret) [.bool false] [.cells 25 [.ro [.str,W Z,W Z] d b,.ro [.str,W Z,W Z,W Z] g i]])
 (cnd (bif (decide ((↑j:Int)=0)) then true else (decide (12≤(↑j:Int))))
 (R (XE.normal) [.ro [W Z,W Z,.str,.str,.str,.bool] j l,.ptr 0 0,.ro [.str,W Z] u x,.ro [.str] t v,V Z (Z.wrap (w+1))] [.cells 25 [.ro [.str,W Z,W Z] d b,.ro [.str,W Z,W Z,W Z] g i]])
 (cnd (decide (0≤Z.wrap ((↑j:Int) - 1)∧Z.wrap ((↑j:Int) - 1)<(↑j:Int)))
        ((cnd (n21 j l)
         False
         False) ∨
 (cnd (n21r j l)
 (cnd (decide ((m21r j l).1≤(m21r j l).2.1))
 (cnd (decide (h0≤1073741824))
 (cnd (decide (h0≤h0))
 (cnd (n20 d b g i)
 (cnd (n31 (m20 d b g i).1 (m20 d b g i).2.1 (m20 d b g i).2.2.1 (m20 d b g i).2.2.2 h0 a0)
 (cnd (decide (d0.2.2=19))
 (R (XE.normal) [.ro [W Z,W Z,.str,.str,.str,.bool] j l,.ptr 0 0,.ro [.str,W Z] u x,.ro [.str] t v,V Z (Z.wrap (w+1))] [.cells 25 [.ro [.str,W Z,W Z] d b,.ro [.str,W Z,W Z,W Z] g i]])
 (cnd (n20 d b g i)
 (cnd (n19 (m20 d b g i).1 (m20 d b g i).2.1 (m20 d b g i).2.2.1 (m20 d b g i).2.2.2 h0 a0 (b.ss w.toNat 0) (l.ii ((Z.wrap ((↑j:Int) - 1)).toNat) 1))
 (cnd (bif (bif (bif f0 then false else true) then false else true) then true else (n57 d0.1 d0.2.1 (b.ss w.toNat 0)))
 (cnd (bif f0 then true else (m57 d0.1 d0.2.1 (b.ss w.toNat 0)))
 (R (XE.ret) [.bool false] [.cells 25 [.ro [.str,W Z,W Z] d b,.ro [.str,W Z,W Z,W Z] g i]])
 (cnd (g0.isSome)
 (cnd (g0.getD default).1
 (R (XE.ret) [.bool (g0.getD default).2.1] [.cells 25 [.ro [.str,W Z,W Z] d b,.ro [.str,W Z,W Z,W Z] g i]])
 (R (XE.normal) [.ro [W Z,W Z,.str,.str,.str,.bool] j l,.ptr 0 0,.ro [.str,W Z] u x,.ro [.str] t v,V Z (Z.wrap (w+1))] [.cells 25 [.ro [.str,W Z,W Z] d b,.ro [.str,W Z,W Z,W Z] g i]]))
              False))
             False)
             False)
            False))
           False)
           False)
          False)
          False)
         False)
         False))
        False)))
      False))
     False)
     False)
    False)
    False) ∨
 (cnd (n20 d b g i)
 (cnd (n21r j l)
    False
    False)
    False)))
  False)
  False)
 (R (XE.exit 0) [.any] [.cells 25 [.ro [.str,W Z,W Z] d b,.ro [.str,W Z,W Z,W Z] g i]]))) (fun R=>by kernel_rfl) ?_
  exact ch hG (fun h0=>cg h0 fun h1=>cg h1 fun h2=>ch h2 (fun h3=>cg h3 fun h4=>ch h4 (fun h5=>h5.2) (fun h5=>⟨(_,_,_,_,_,_,_,_,_,_,_),rfl,rfl,h5⟩)) (fun h3=>Or.inl (cg h3 fun h4=>cg h4 fun h5=>cg h5 fun h6=>cg h6 fun h7=>ch h7 (fun h8=>h8.2) (fun h8=>cg h8 fun h9=>ch h9 (fun h10=>h10.2) (fun h10=>ch h10 (fun h11=>⟨(_,_,_,_,_,_,_,_,_,_,_),rfl,rfl,h11⟩) (fun h11=>cg h11 fun h12=>Or.inr (cg h12 fun h13=>cg h13 fun h14=>cg h14 fun h15=>cn (decide_eq_true (Nat.le_refl _)) (cg h15 fun h16=>cg h16 fun h17=>ch h17 (fun h18=>⟨(_,_,_,_,_,_,_,_,_,_,_),rfl,rfl,h18⟩) (fun h18=>cg h18 fun h19=>cg h19 fun h20=>cg h20 fun h21=>ch h21 (fun h22=>h22.2) (fun h22=>cg h22 fun h23=>ch h23 (fun h24=>h24.2) (fun h24=>⟨(_,_,_,_,_,_,_,_,_,_,_),rfl,rfl,h24⟩))))))))))) (fun h0=>h0.2)
 ·intro s k h
  unfold g13_0 at h
  split at h <;> try exact h.elim
  rename_i e1
  rw [needs_iff] at h
  exact ⟨_,e1,_,(_,_,_,_,_,_,_,_,_,_,_),rfl,rfl,h.1 _ (List.mem_singleton.2 rfl),h.2⟩
def m13 (m:Nat) (n:Dat) (o:Nat) (p:Dat) (z:Nat) (A:Dat):Bool :=
 (cond (bif m17 then false else true) false (cond (bif (m18 m n o p z A) then false else true) true (cond (bif (bif (decide ((m30 (m20 m n o p).1 (m20 m n o p).2.1 (m20 m n o p).2.2.1 (m20 m n o p).2.2.2 (m21 z A).1 (m21 z A).2).2.2=0)) then false else true) then true else (bif (decide ((m31 (m20 m n o p).1 (m20 m n o p).2.1 (m20 m n o p).2.2.1 (m20 m n o p).2.2.2 (m21 z A).1 (m21 z A).2).2.2=0)) then false else true)) (decide ((m30 (m20 m n o p).1 (m20 m n o p).2.1 (m20 m n o p).2.2.1 (m20 m n o p).2.2.2 (m21 z A).1 (m21 z A).2).2.2=(m31 (m20 m n o p).1 (m20 m n o p).2.1 (m20 m n o p).2.2.1 (m20 m n o p).2.2.2 (m21 z A).1 (m21 z A).2).2.2)) (cond ((o13_0 z A (m30 (m20 m n o p).1 (m20 m n o p).2.1 (m20 m n o p).2.2.1 (m20 m n o p).2.2.2 (m21 z A).1 (m21 z A).2).1 (m30 (m20 m n o p).1 (m20 m n o p).2.1 (m20 m n o p).2.2.1 (m20 m n o p).2.2.2 (m21 z A).1 (m21 z A).2).2.1 (m31 (m20 m n o p).1 (m20 m n o p).2.1 (m20 m n o p).2.2.1 (m20 m n o p).2.2.2 (m21 z A).1 (m21 z A).2).1 (m31 (m20 m n o p).1 (m20 m n o p).2.1 (m20 m n o p).2.2.1 (m20 m n o p).2.2.2 (m21 z A).1 (m21 z A).2).2.1 m n o p 0).getD default).1 ((o13_0 z A (m30 (m20 m n o p).1 (m20 m n o p).2.1 (m20 m n o p).2.2.1 (m20 m n o p).2.2.2 (m21 z A).1 (m21 z A).2).1 (m30 (m20 m n o p).1 (m20 m n o p).2.1 (m20 m n o p).2.2.1 (m20 m n o p).2.2.2 (m21 z A).1 (m21 z A).2).2.1 (m31 (m20 m n o p).1 (m20 m n o p).2.1 (m20 m n o p).2.2.1 (m20 m n o p).2.2.2 (m21 z A).1 (m21 z A).2).1 (m31 (m20 m n o p).1 (m20 m n o p).2.1 (m20 m n o p).2.2.1 (m20 m n o p).2.2.2 (m21 z A).1 (m21 z A).2).2.1 m n o p 0).getD default).2.1 true))))
def n13 (m:Nat) (n:Dat) (o:Nat) (p:Dat) (z:Nat) (A:Dat):Bool :=
 ((n17)&&(cond (bif m17 then false else true) true ((n18 m n o p z A)&&(cond (bif (m18 m n o p z A) then false else true) true ((n20 m n o p)&&((n21 z A)&&((n30 (m20 m n o p).1 (m20 m n o p).2.1 (m20 m n o p).2.2.1 (m20 m n o p).2.2.2 (m21 z A).1 (m21 z A).2)&&((n20 m n o p)&&((n21 z A)&&((n31 (m20 m n o p).1 (m20 m n o p).2.1 (m20 m n o p).2.2.1 (m20 m n o p).2.2.2 (m21 z A).1 (m21 z A).2)&&(cond (bif (bif (decide ((m30 (m20 m n o p).1 (m20 m n o p).2.1 (m20 m n o p).2.2.1 (m20 m n o p).2.2.2 (m21 z A).1 (m21 z A).2).2.2=0)) then false else true) then true else (bif (decide ((m31 (m20 m n o p).1 (m20 m n o p).2.1 (m20 m n o p).2.2.1 (m20 m n o p).2.2.2 (m21 z A).1 (m21 z A).2).2.2=0)) then false else true)) true (((o13_0 z A (m30 (m20 m n o p).1 (m20 m n o p).2.1 (m20 m n o p).2.2.1 (m20 m n o p).2.2.2 (m21 z A).1 (m21 z A).2).1 (m30 (m20 m n o p).1 (m20 m n o p).2.1 (m20 m n o p).2.2.1 (m20 m n o p).2.2.2 (m21 z A).1 (m21 z A).2).2.1 (m31 (m20 m n o p).1 (m20 m n o p).2.1 (m20 m n o p).2.2.1 (m20 m n o p).2.2.2 (m21 z A).1 (m21 z A).2).1 (m31 (m20 m n o p).1 (m20 m n o p).2.1 (m20 m n o p).2.2.1 (m20 m n o p).2.2.2 (m21 z A).1 (m21 z A).2).2.1 m n o p 0).isSome)&&true))))))))))))
def q13 (r:Bool):SV × List Blk × List Blk:=(.bool r,[],[])
def g13:GF:=fun vs bs=>match vs,bs with
 | [.agg [.ro [.str,W Z,W Z] m n,.ro [.str,W Z,W Z,W Z] o p],.ro [W Z,W Z,.str,.str,.str,.bool] z A],[]=>some (rs 0 (q13 (m13 m n o p z A)) [n13 m n o p z A])
 | _,_=>none
def c13:Ctr:=genC [.a [.ro [.str,W Z,W Z],.ro [.str,W Z,W Z,W Z]],.ro [W Z,W Z,.str,.str,.str,.bool]] g13
theorem k13:CtrOk Try.prog c13 13:=cx (tc kSeal4 (tc kSeal (tc k17 (tc k18 (tc k19 (tc k20 (tc k21 (tc k21r (tc k29 (tc k30 (tc k31 (tc k42 (tc k57 tn))))))))))))) mix_ok 8 (fn:=Try.f13) (c:=(Try.f13.body.getD .skip)) (grs:=[]) (rh:=.k) Try.func13 rfl (by kernel_rfl) (lam_of rfl (lc z13_4 (lc z13_2 (lc z13_6 (lc z13_0 ln))))) fun vs bs q h hn=>by
 unfold g13 at h
 split at h <;> cases h
 rename_i m n o p z A
 have hn:=n1 hn
 exact ⟨_,rfl,ca (fun R => 
 let b0:=(m30 (m20 m n o p).1 (m20 m n o p).2.1 (m20 m n o p).2.2.1 (m20 m n o p).2.2.2 (m21 z A).1 (m21 z A).2)
 let c0:=(m31 (m20 m n o p).1 (m20 m n o p).2.1 (m20 m n o p).2.2.1 (m20 m n o p).2.2.2 (m21 z A).1 (m21 z A).2)
 let a0:=(o13_0 z A b0.1 b0.2.1 c0.1 c0.2.1 m n o p 0)
 (cnd (n17)
 (cnd (bif m17 then false else true)
 (R (.bool false) [] [])
 (cnd (n18 m n o p z A)
 (cnd (bif (m18 m n o p z A) then false else true)
 (R (.bool true) [] [])
   ((cnd (n20 m n o p)
 (cnd (n21 z A)
 (cnd (n30 (m20 m n o p).1 (m20 m n o p).2.1 (m20 m n o p).2.2.1 (m20 m n o p).2.2.2 (m21 z A).1 (m21 z A).2)
     ((cnd (n20 m n o p)
 (cnd (n21 z A)
 (cnd (n31 (m20 m n o p).1 (m20 m n o p).2.1 (m20 m n o p).2.2.1 (m20 m n o p).2.2.2 (m21 z A).1 (m21 z A).2)
 (cnd (bif (bif (decide (b0.2.2=0)) then false else true) then true else (bif (decide (c0.2.2=0)) then false else true))
 (R (.bool (decide (b0.2.2=c0.2.2))) [] [])
 (cnd (a0.isSome)
 (cnd (a0.getD default).1
 (R (.bool (a0.getD default).2.1) [] [])
 (R (.bool true) [] []))
        False))
       False)
      False)
      False) ∨
 (cnd (n20 m n o p)
 (cnd (n21r z A)
      False
      False)
      False))
     False)
    False)
    False) ∨
 (cnd (n20 m n o p)
 (cnd (n21r z A)
    False
    False)
    False)))
  False))
 False)) (fun R=>by kernel_rfl) (cn (al hn) (co (fun h0=>lf (cT h0 rfl) rfl) (fun h0=>cn (al (cf h0 (ar hn))) (co (fun h1=>lf (cF h0 (cT h1 rfl)) rfl) (fun h1=>Or.inl (cn (al (cf h1 (ar (cf h0 (ar hn))))) (cn (al (ar (cf h1 (ar (cf h0 (ar hn)))))) (cn (al (ar (ar (cf h1 (ar (cf h0 (ar hn))))))) (Or.inl (cn (al (ar (ar (ar (cf h1 (ar (cf h0 (ar hn)))))))) (cn (al (ar (ar (ar (ar (cf h1 (ar (cf h0 (ar hn))))))))) (cn (al (ar (ar (ar (ar (ar (cf h1 (ar (cf h0 (ar hn)))))))))) (co (fun h2=>lf (cF h0 (cF h1 (cT h2 rfl))) rfl) (fun h2=>cn (al (cf h2 (ar (ar (ar (ar (ar (ar (cf h1 (ar (cf h0 (ar hn)))))))))))) (co (fun h3=>lf (cF h0 (cF h1 (cF h2 (cT h3 rfl)))) rfl) (fun h3=>lf (cF h0 (cF h1 (cF h2 (cF h3 rfl)))) rfl))))))))))))))))⟩
end
end Go.Proofs.Ytldjapmfmhifkaa
