/-
 Contracts of functions: models, equations by the kernel, contracts. Conditions: none.
-/
import Derived.Test.YtldjapmfmhifkaaQ5
import Derived.KernelRfl
namespace Go.Proofs.Ytldjapmfmhifkaa
open Go Go.Sy
noncomputable section
set_option linter.unusedVariables false
set_option linter.unusedSimpArgs false
set_option maxRecDepth 100000
set_option maxHeartbeats 2000000
attribute [local irreducible] Go.IntKind.wrap Int.tdiv Int.tmod Int.fdiv
open Go.Sy renaming tabOk_cons→tc,tabOk_nil→tn,cnd_need→cn,leaf_of→lf,cnd_gg→cg,cnd_gg2→ch,cond_f→cf,cond_t→ct,cnd_of→co,callOf→ca,roundOf→ro,cnd_not→nn,lams_cons→lc,lams_nil→ln,condT→cT,condF→cF,need1→n1,resOf→rs,and_l→al,and_r→ar,or_gg→og,ctr_of→cx,loop_blk→lb
open Go.IntKind renaming i64→Z
open Go.Sy.SV renaming int→V
open Go.Sy.Kd renaming int→W
/-! ### shotline/kit.Usable -/
def m19 (b:Nat) (d:Dat) (e:Nat) (g:Dat) (i:Nat) (j:Dat) (l:ByteArray) (m:Int):Bool × Nat × Dat × Int :=
 (cond (bif (decide ((m62 b d e g i j).2.2.2=0)) then false else true) (false,0,noDat,(m62 b d e g i j).2.2.2) (cond (bif (m63 (m62 b d e g i j).2.1 l).1 then false else true) (false,0,noDat,6) (cond (bif (m64 m) then false else true) (false,0,noDat,2) (cond (decide (m<((m62 b d e g i j).2.1.ii 0 3))) (false,0,noDat,19) ((decide ((↑((m65 (m62 b d e g i j).2.1 (m63 (m62 b d e g i j).2.1 l).2 m).1):Int)=0)),(m65 (m62 b d e g i j).2.1 (m63 (m62 b d e g i j).2.1 l).2 m).1,(m65 (m62 b d e g i j).2.1 (m63 (m62 b d e g i j).2.1 l).2 m).2,0)))))
def n19 (b:Nat) (d:Dat) (e:Nat) (g:Dat) (i:Nat) (j:Dat) (l:ByteArray) (m:Int):Bool :=
 ((n62 b d e g i j)&&(cond (bif (decide ((m62 b d e g i j).2.2.2=0)) then false else true) true ((m62 b d e g i j).1&&((n63 (m62 b d e g i j).2.1 l)&&(cond (bif (m63 (m62 b d e g i j).2.1 l).1 then false else true) true (cond (bif (m64 m) then false else true) true ((m62 b d e g i j).1&&(cond (decide (m<((m62 b d e g i j).2.1.ii 0 3))) true ((m62 b d e g i j).1&&((m63 (m62 b d e g i j).2.1 l).1&&((n65 (m62 b d e g i j).2.1 (m63 (m62 b d e g i j).2.1 l).2 m)&&true)))))))))))
def q19 (r:Bool × Nat × Dat × Int):SV × List Blk × List Blk:=(.tup [.bool r.1,.ro [W Z,.str,.str,W Z] r.2.1 r.2.2.1,V Z r.2.2.2],[],[])
def g19:GF:=fun vs bs=>match vs,bs with
 | [.agg [.ro [.str,W Z,W Z] b d,.ro [.str,W Z,W Z,W Z] e g],.ro [W Z,W Z,.str,.str,.str,.bool] i j,.agg [.str l,V Z m]],[]=>some (rs 0 (q19 (m19 b d e g i j l m)) [n19 b d e g i j l m])
 | _,_=>none
def c19:Ctr:=genC [.a [.ro [.str,W Z,W Z],.ro [.str,W Z,W Z,W Z]],.ro [W Z,W Z,.str,.str,.str,.bool],.k] g19
theorem k19:CtrOk Try.prog c19 19:=cx (tc k62 (tc k63 (tc k64 (tc k65 tn)))) mix_ok 8 (fn:=Try.f19) (c:=(Try.f19.body.getD .skip)) (grs:=[]) (rh:=.t [.k,.ro [W Z,.str,.str,W Z],.k]) Try.func19 rfl (by kernel_rfl) noLam fun vs bs q h hn=>by
 unfold g19 at h
 split at h <;> cases h
 rename_i b d e g i j l m
 have hn:=n1 hn
 exact ⟨_,rfl,ca (fun R=>(cnd (n62 b d e g i j)
 (cnd (bif (decide ((m62 b d e g i j).2.2.2=0)) then false else true)
 (R (.tup [.bool false,.ro [W Z,.str,.str,W Z] 0 noDat,V Z (m62 b d e g i j).2.2.2]) [] [])
 (cnd (m62 b d e g i j).1
 (cnd (n63 (m62 b d e g i j).2.1 l)
 (cnd (bif (m63 (m62 b d e g i j).2.1 l).1 then false else true)
 (R (.tup [.bool false,.ro [W Z,.str,.str,W Z] 0 noDat,V Z 6]) [] [])
 (cnd (bif (m64 m) then false else true)
 (R (.tup [.bool false,.ro [W Z,.str,.str,W Z] 0 noDat,V Z 2]) [] [])
 (cnd (m62 b d e g i j).1
 (cnd (decide (m<((m62 b d e g i j).2.1.ii 0 3)))
 (R (.tup [.bool false,.ro [W Z,.str,.str,W Z] 0 noDat,V Z 19]) [] [])
 (cnd (m62 b d e g i j).1
 (cnd (m63 (m62 b d e g i j).2.1 l).1
 (cnd (n65 (m62 b d e g i j).2.1 (m63 (m62 b d e g i j).2.1 l).2 m)
 (R (.tup [.bool (decide ((↑((m65 (m62 b d e g i j).2.1 (m63 (m62 b d e g i j).2.1 l).2 m).1):Int)=0)),.ro [W Z,.str,.str,W Z] (m65 (m62 b d e g i j).2.1 (m63 (m62 b d e g i j).2.1 l).2 m).1 (m65 (m62 b d e g i j).2.1 (m63 (m62 b d e g i j).2.1 l).2 m).2,V Z 0]) [] [])
      False)
      False)
     False))
    False)))
   False)
  False))
 False)) (fun R=>by kernel_rfl) (cn (al hn) (co (fun h0=>lf (cT h0 rfl) rfl) (fun h0=>cn (al (cf h0 (ar hn))) (cn (al (ar (cf h0 (ar hn)))) (co (fun h1=>lf (cF h0 (cT h1 rfl)) rfl) (fun h1=>co (fun h2=>lf (cF h0 (cF h1 (cT h2 rfl))) rfl) (fun h2=>cn (al (cf h2 (cf h1 (ar (ar (cf h0 (ar hn))))))) (co (fun h3=>lf (cF h0 (cF h1 (cF h2 (cT h3 rfl)))) rfl) (fun h3=>cn (al (cf h3 (ar (cf h2 (cf h1 (ar (ar (cf h0 (ar hn))))))))) (cn (al (ar (cf h3 (ar (cf h2 (cf h1 (ar (ar (cf h0 (ar hn)))))))))) (cn (al (ar (ar (cf h3 (ar (cf h2 (cf h1 (ar (ar (cf h0 (ar hn))))))))))) (lf (cF h0 (cF h1 (cF h2 (cF h3 rfl)))) rfl))))))))))))⟩
/-! ### shotline/kit.Quarantined -/
def m31 (b:Nat) (d:Dat) (e:Nat) (g:Dat) (i:Nat) (j:Dat):Nat × Dat × Int :=
 (cond (bif (decide ((m62 b d e g i j).2.2.2=0)) then false else true) (0,noDat,(m62 b d e g i j).2.2.2) ((m72c79 (m62 b d e g i j).2.1 (datC [SV.rp [Kd.sl [Kd.str,Kd.int Z,Kd.int Z],Kd.sl [Kd.str,Kd.int Z,Kd.int Z,Kd.int Z],Kd.sl [Kd.pt [Kd.str,Kd.int Z,Kd.int Z,Kd.mi [Kd.int Z,Kd.int Z,Kd.bool],Kd.mb,Kd.mb,Kd.int Z,Kd.bool,Kd.m1]],Kd.int Z] (m62 b d e g i j).2.1 0 0])).1,(m72c79 (m62 b d e g i j).2.1 (datC [SV.rp [Kd.sl [Kd.str,Kd.int Z,Kd.int Z],Kd.sl [Kd.str,Kd.int Z,Kd.int Z,Kd.int Z],Kd.sl [Kd.pt [Kd.str,Kd.int Z,Kd.int Z,Kd.mi [Kd.int Z,Kd.int Z,Kd.bool],Kd.mb,Kd.mb,Kd.int Z,Kd.bool,Kd.m1]],Kd.int Z] (m62 b d e g i j).2.1 0 0])).2.2,0))
def n31 (b:Nat) (d:Dat) (e:Nat) (g:Dat) (i:Nat) (j:Dat):Bool :=
 ((n62 b d e g i j)&&(cond (bif (decide ((m62 b d e g i j).2.2.2=0)) then false else true) true ((m62 b d e g i j).1&&((m62 b d e g i j).1&&((n72c79 (m62 b d e g i j).2.1 (datC [SV.rp [Kd.sl [Kd.str,Kd.int Z,Kd.int Z],Kd.sl [Kd.str,Kd.int Z,Kd.int Z,Kd.int Z],Kd.sl [Kd.pt [Kd.str,Kd.int Z,Kd.int Z,Kd.mi [Kd.int Z,Kd.int Z,Kd.bool],Kd.mb,Kd.mb,Kd.int Z,Kd.bool,Kd.m1]],Kd.int Z] (m62 b d e g i j).2.1 0 0]))&&((decide ((0+(m72c79 (m62 b d e g i j).2.1 (datC [SV.rp [Kd.sl [Kd.str,Kd.int Z,Kd.int Z],Kd.sl [Kd.str,Kd.int Z,Kd.int Z,Kd.int Z],Kd.sl [Kd.pt [Kd.str,Kd.int Z,Kd.int Z,Kd.mi [Kd.int Z,Kd.int Z,Kd.bool],Kd.mb,Kd.mb,Kd.int Z,Kd.bool,Kd.m1]],Kd.int Z] (m62 b d e g i j).2.1 0 0])).1)≤(m72c79 (m62 b d e g i j).2.1 (datC [SV.rp [Kd.sl [Kd.str,Kd.int Z,Kd.int Z],Kd.sl [Kd.str,Kd.int Z,Kd.int Z,Kd.int Z],Kd.sl [Kd.pt [Kd.str,Kd.int Z,Kd.int Z,Kd.mi [Kd.int Z,Kd.int Z,Kd.bool],Kd.mb,Kd.mb,Kd.int Z,Kd.bool,Kd.m1]],Kd.int Z] (m62 b d e g i j).2.1 0 0])).2.1))&&true))))))
def q31 (r:Nat × Dat × Int):SV × List Blk × List Blk:=(.tup [.ro [.str] r.1 r.2.1,V Z r.2.2],[],[])
def g31:GF:=fun vs bs=>match vs,bs with
 | [.agg [.ro [.str,W Z,W Z] b d,.ro [.str,W Z,W Z,W Z] e g],.ro [W Z,W Z,.str,.str,.str,.bool] i j],[]=>some (rs 0 (q31 (m31 b d e g i j)) [n31 b d e g i j])
 | _,_=>none
def c31:Ctr:=genC [.a [.ro [.str,W Z,W Z],.ro [.str,W Z,W Z,W Z]],.ro [W Z,W Z,.str,.str,.str,.bool]] g31
theorem k31:CtrOk Try.prog c31 31:=cx (tc k62 (tc k72c79 (tc k79 tn))) mix_ok 8 (fn:=Try.f31) (c:=(Try.f31.body.getD .skip)) (grs:=[]) (rh:=.t [.ro [.str],.k]) Try.func31 rfl (by kernel_rfl) noLam fun vs bs q h hn=>by
 unfold g31 at h
 split at h <;> cases h
 rename_i b d e g i j
 have hn:=n1 hn
 exact ⟨_,rfl,ca (fun R=>(cnd (n62 b d e g i j)
 (cnd (bif (decide ((m62 b d e g i j).2.2.2=0)) then false else true)
 (R (.tup [.ro [.str] 0 noDat,V Z (m62 b d e g i j).2.2.2]) [] [])
 (cnd (m62 b d e g i j).1
 (cnd (m62 b d e g i j).1
 (cnd (n72c79 (m62 b d e g i j).2.1 (datC [SV.rp [Kd.sl [Kd.str,Kd.int Z,Kd.int Z],Kd.sl [Kd.str,Kd.int Z,Kd.int Z,Kd.int Z],Kd.sl [Kd.pt [Kd.str,Kd.int Z,Kd.int Z,Kd.mi [Kd.int Z,Kd.int Z,Kd.bool],Kd.mb,Kd.mb,Kd.int Z,Kd.bool,Kd.m1]],Kd.int Z] (m62 b d e g i j).2.1 0 0]))
 (cnd (decide ((0+(m72c79 (m62 b d e g i j).2.1 (datC [SV.rp [Kd.sl [Kd.str,Kd.int Z,Kd.int Z],Kd.sl [Kd.str,Kd.int Z,Kd.int Z,Kd.int Z],Kd.sl [Kd.pt [Kd.str,Kd.int Z,Kd.int Z,Kd.mi [Kd.int Z,Kd.int Z,Kd.bool],Kd.mb,Kd.mb,Kd.int Z,Kd.bool,Kd.m1]],Kd.int Z] (m62 b d e g i j).2.1 0 0])).1)≤(m72c79 (m62 b d e g i j).2.1 (datC [SV.rp [Kd.sl [Kd.str,Kd.int Z,Kd.int Z],Kd.sl [Kd.str,Kd.int Z,Kd.int Z,Kd.int Z],Kd.sl [Kd.pt [Kd.str,Kd.int Z,Kd.int Z,Kd.mi [Kd.int Z,Kd.int Z,Kd.bool],Kd.mb,Kd.mb,Kd.int Z,Kd.bool,Kd.m1]],Kd.int Z] (m62 b d e g i j).2.1 0 0])).2.1))
 (R (.tup [.ro [.str] (m72c79 (m62 b d e g i j).2.1 (datC [SV.rp [Kd.sl [Kd.str,Kd.int Z,Kd.int Z],Kd.sl [Kd.str,Kd.int Z,Kd.int Z,Kd.int Z],Kd.sl [Kd.pt [Kd.str,Kd.int Z,Kd.int Z,Kd.mi [Kd.int Z,Kd.int Z,Kd.bool],Kd.mb,Kd.mb,Kd.int Z,Kd.bool,Kd.m1]],Kd.int Z] (m62 b d e g i j).2.1 0 0])).1 (m72c79 (m62 b d e g i j).2.1 (datC [SV.rp [Kd.sl [Kd.str,Kd.int Z,Kd.int Z],Kd.sl [Kd.str,Kd.int Z,Kd.int Z,Kd.int Z],Kd.sl [Kd.pt [Kd.str,Kd.int Z,Kd.int Z,Kd.mi [Kd.int Z,Kd.int Z,Kd.bool],Kd.mb,Kd.mb,Kd.int Z,Kd.bool,Kd.m1]],Kd.int Z] (m62 b d e g i j).2.1 0 0])).2.2,V Z 0]) [] [])
    False)
   False)
   False)
  False))
 False)) (fun R=>by kernel_rfl) (cn (al hn) (co (fun h0=>lf (cT h0 rfl) rfl) (fun h0=>cn (al (cf h0 (ar hn))) (cn (al (ar (cf h0 (ar hn)))) (cn (al (ar (ar (cf h0 (ar hn))))) (cn (al (ar (ar (ar (cf h0 (ar hn)))))) (lf (cF h0 rfl) rfl)))))))⟩
/-! ### shotline/kit.Due -/
def l51_3 (G:Int) (F:Dat) (n:Nat) (j:Dat) (C w:Int) (E:Nat) (A:Dat) (I:Int) (u:Nat) (v o:Dat):Nat→Nat→Int→Nat→Dat→Option (Nat × Nat × Dat)
 | 0,_,_,_,_=>none
 | f+1,D,p,x,y=>(cond (decide (p<I)) (cond (decide (0≤p∧p<↑E)) (cond (bif (bif (bif (bif (bif (bif (decide (0≤p)) then ((F.sub 0 3).bb p.toNat 0) else false) then false else true) then true else (decide ((A.ii p.toNat 2)=0))) then false else true) then false else true) then true else (bif (decide (0≤p)) then ((F.sub 0 3).bb p.toNat 0) else false)) (cond (bif (bif (bif (bif (bif (bif (bif (decide (0≤p)) then ((F.sub 0 3).bb p.toNat 0) else false) then false else true) then true else (decide ((A.ii p.toNat 2)=0))) then true else (bif (((F.sub 0 3).sub p.toNat 1).bb 0 2) then false else true)) then false else true) then false else true) then true else (bif (decide (0≤p)) then ((F.sub 0 3).bb p.toNat 0) else false)) (cond (bif (bif (bif (bif (bif (decide (0≤p)) then ((F.sub 0 3).bb p.toNat 0) else false) then false else true) then true else (decide ((A.ii p.toNat 2)=0))) then true else (bif (((F.sub 0 3).sub p.toNat 1).bb 0 2) then false else true)) then true else (decide (G<(Z.wrap ((((F.sub 0 3).sub p.toNat 1).ii 0 0)+(A.ii p.toNat 2)))))) (l51_3 G F n j C w E A I u v o f D (Z.wrap (p+1)) x y) (cond (bif (decide (0≤p)) then ((F.sub 0 3).bb p.toNat 0) else false) (cond (decide (D≤x)) (cond (decide ((D+1)≤1073741824)) (l51_3 G F n j C w E A I u v o f (D+1) (Z.wrap (p+1)) (D+1) (y.app D (datS [SV.str (F.ss 0 0),SV.str (A.ss p.toNat 0),V Z (Z.wrap ((((F.sub 0 3).sub p.toNat 1).ii 0 0)+(A.ii p.toNat 2)))] 3))) none) none) none)) none) none) none) (some (D,x,y)))
abbrev o51_3 (G:Int) (F:Dat) (n:Nat) (j:Dat) (C w:Int) (E:Nat) (A:Dat) (I:Int) (u:Nat) (v o:Dat) (D:Nat) (p:Int) (x:Nat) (y:Dat):Option (Nat × Nat × Dat):=l51_3 G F n j C w E A I u v o (G.toNat+D+n+C.toNat+w.toNat+E+I.toNat+p.toNat+u+x+8) D p x y
def e51_3 (G:Int) (F:Dat) (n:Nat) (j:Dat) (C w:Int) (E:Nat) (A:Dat) (I:Int) (u:Nat) (v o:Dat) (r:Nat × Nat × Dat) (K:XR):Prop:=K (XE.exit 3) [V Z G,.ptr 0 0,.gr 1 3 r.1,.ro [.pt [.str,W Z,W Z,.mi [W Z,W Z,.bool],.mb,.mb,W Z,.bool,.m1]] n j,V Z C,V Z w] [.cells 25 [.ro [.str,W Z,W Z] u v,.ro [.str,W Z,W Z,W Z] E o],.row 88 [.str,.str,W Z] r.2.1 r.2.2]
def g51_3:LSum:=fun s k=>match czv 0 107 [2,3,11,13,36,37,38,43,44,45] 2 [⟨true,11,0,1,88,[.str,.str,W Z]⟩] s with
 | some ([V Z G,.ptr 0 0,.gr 1 3 D,.rp [.str,W Z,W Z,.mi [W Z,W Z,.bool],.mb,.mb,W Z,.bool,.m1] F 0 0,.ro [.pt [.str,W Z,W Z,.mi [W Z,W Z,.bool],.mb,.mb,W Z,.bool,.m1]] n j,V Z C,V Z w,.ro [.str,W Z,W Z,W Z] E A,V Z I,V Z p],[.cells 25 [.ro [.str,W Z,W Z] u v,.ro [.str,W Z,W Z,W Z] z o],.row 88 [.str,.str,W Z] x y])=>needs [decide (E=z),(o51_3 G F n j C w E A I u v o D p x y).isSome] (e51_3 G F n j C w E A I u v o ((o51_3 G F n j C w E A I u v o D p x y).getD default) fun e vs bs=>inBlk 3 k e (mkSt 0 107 [2,3,11,36,37,38] vs 2 bs))
 | _=>False
theorem z51_3:LOk Try.prog g51_3 (.block 3 (bodyAt (Try.f51.body.getD .skip) 3)):=by
 refine lb (ι:=Int × Nat × Dat × Nat × Dat × Int × Int × Nat × Dat × Int × Int × Nat × Dat × Dat × Nat × Dat) (fuel:=8) (na:=0) (nt:=107) (nx:=2) (Lh:=[2,3,11,13,36,37,38,43,44,45]) (Le:=[2,3,11,36,37,38]) (gl:=[⟨true,11,0,1,88,[.str,.str,W Z]⟩]) (tc k62 (tc k64 (tc k86c87 (tc k87 tn)))) mix_ok noLam rfl (fun f (G,D,F,n,j,C,w,E,A,I,p,u,v,o,x,y) K=>GG default (e51_3 G F n j C w E A I u v o) K (l51_3 G F n j C w E A I u v o f D p x y)) (fun (G,D,F,n,j,C,w,E,A,I,p,u,v,o,x,y)=>[V Z G,.ptr 0 0,.gr 1 3 D,.rp [.str,W Z,W Z,.mi [W Z,W Z,.bool],.mb,.mb,W Z,.bool,.m1] F 0 0,.ro [.pt [.str,W Z,W Z,.mi [W Z,W Z,.bool],.mb,.mb,W Z,.bool,.m1]] n j,V Z C,V Z w,.ro [.str,W Z,W Z,W Z] E A,V Z I,V Z p]) (fun (G,D,F,n,j,C,w,E,A,I,p,u,v,o,x,y)=>[.cells 25 [.ro [.str,W Z,W Z] u v,.ro [.str,W Z,W Z,W Z] E o],.row 88 [.str,.str,W Z] x y]) (fun (_,_,_,_,_,_,_,_,_,_,_,_,_,_,_,_) K=>gg_none) ?_ ?_
 ·rintro f ⟨G,D,F,n,j,C,w,E,A,I,p,u,v,o,x,y⟩ K hG
  refine ro (fun R=>(cnd (decide (p<I))
 (cnd (decide (0≤p∧p<↑E))
 (cnd (bif (bif (bif (bif (bif (bif (decide (0≤p)) then ((F.sub 0 3).bb p.toNat 0) else false) then false else true) then true else (decide ((A.ii p.toNat 2)=0))) then false else true) then false else true) then true else (bif (decide (0≤p)) then ((F.sub 0 3).bb p.toNat 0) else false))
 (cnd (bif (bif (bif (bif (bif (bif (bif (decide (0≤p)) then ((F.sub 0 3).bb p.toNat 0) else false) then false else true) then true else (decide ((A.ii p.toNat 2)=0))) then true else (bif (((F.sub 0 3).sub p.toNat 1).bb 0 2) then false else true)) then false else true) then false else true) then true else (bif (decide (0≤p)) then ((F.sub 0 3).bb p.toNat 0) else false))
 (cnd (bif (bif (bif (bif (bif (decide (0≤p)) then ((F.sub 0 3).bb p.toNat 0) else false) then false else true) then true else (decide ((A.ii p.toNat 2)=0))) then true else (bif (((F.sub 0 3).sub p.toNat 1).bb 0 2) then false else true)) then true else (decide (G<(Z.wrap ((((F.sub 0 3).sub p.toNat 1).ii 0 0)+(A.ii p.toNat 2))))))
 (R (XE.normal) [V Z G,.ptr 0 0,.gr 1 3 D,.rp [.str,W Z,W Z,.mi [W Z,W Z,.bool],.mb,.mb,W Z,.bool,.m1] F 0 0,.ro [.pt [.str,W Z,W Z,.mi [W Z,W Z,.bool],.mb,.mb,W Z,.bool,.m1]] n j,V Z C,V Z w,.ro [.str,W Z,W Z,W Z] E A,V Z I,V Z (Z.wrap (p+1))] [.cells 25 [.ro [.str,W Z,W Z] u v,.ro [.str,W Z,W Z,W Z] E o],.row 88 [.str,.str,W Z] x y])
 (cnd (bif (decide (0≤p)) then ((F.sub 0 3).bb p.toNat 0) else false)
 (cnd (decide (D≤x))
 (cnd (decide ((D+1)≤1073741824))
 (R (XE.normal) [V Z G,.ptr 0 0,.gr 1 3 (D+1),.rp [.str,W Z,W Z,.mi [W Z,W Z,.bool],.mb,.mb,W Z,.bool,.m1] F 0 0,.ro [.pt [.str,W Z,W Z,.mi [W Z,W Z,.bool],.mb,.mb,W Z,.bool,.m1]] n j,V Z C,V Z w,.ro [.str,W Z,W Z,W Z] E A,V Z I,V Z (Z.wrap (p+1))] [.cells 25 [.ro [.str,W Z,W Z] u v,.ro [.str,W Z,W Z,W Z] E o],.row 88 [.str,.str,W Z] (D+1) (y.app D (datS [SV.str (F.ss 0 0),SV.str (A.ss p.toNat 0),V Z (Z.wrap ((((F.sub 0 3).sub p.toNat 1).ii 0 0)+(A.ii p.toNat 2)))] 3))])
     False)
    False)
    False))
   False)
  False)
  False)
 (R (XE.exit 3) [V Z G,.ptr 0 0,.gr 1 3 D,.ro [.pt [.str,W Z,W Z,.mi [W Z,W Z,.bool],.mb,.mb,W Z,.bool,.m1]] n j,V Z C,V Z w] [.cells 25 [.ro [.str,W Z,W Z] u v,.ro [.str,W Z,W Z,W Z] E o],.row 88 [.str,.str,W Z] x y]))) (fun R=>by kernel_rfl) ?_
  exact ch hG (fun h0=>cg h0 fun h1=>cg h1 fun h2=>cg h2 fun h3=>ch h3 (fun h4=>⟨(_,_,_,_,_,_,_,_,_,_,_,_,_,_,_,_),rfl,rfl,h4⟩) (fun h4=>cg h4 fun h5=>cg h5 fun h6=>cg h6 fun h7=>⟨(_,_,_,_,_,_,_,_,_,_,_,_,_,_,_,_),rfl,rfl,h7⟩)) (fun h0=>h0.2)
 ·intro s k h
  unfold g51_3 at h
  split at h <;> try exact h.elim
  rename_i e1
  rw [needs_iff] at h
  have hq:=h.1
  simp only [List.mem_cons,forall_eq_or_imp,decide_eq_true_eq,List.not_mem_nil,false_imp_iff,implies_true,and_true] at hq
  obtain ⟨rfl,hq⟩:=hq
  exact ⟨_,e1,_,(_,_,_,_,_,_,_,_,_,_,_,_,_,_,_,_),rfl,rfl,hq,h.2⟩
def l51_1 (G:Int) (n:Nat) (j:Dat) (C:Int) (u:Nat) (v:Dat) (z:Nat) (o:Dat):Nat→Nat→Int→Nat→Dat→Option (Nat × Nat × Dat)
 | 0,_,_,_,_=>none
 | f+1,D,w,x,y=>(cond (decide (w<C)) (cond (decide (0≤w∧w<↑n)) (cond ((o51_3 G (j.sub w.toNat 0) n j C w z o (↑z:Int) u v o D 0 x y).isSome) (l51_1 G n j C u v z o f ((o51_3 G (j.sub w.toNat 0) n j C w z o (↑z:Int) u v o D 0 x y).getD default).1 (Z.wrap (w+1)) ((o51_3 G (j.sub w.toNat 0) n j C w z o (↑z:Int) u v o D 0 x y).getD default).2.1 ((o51_3 G (j.sub w.toNat 0) n j C w z o (↑z:Int) u v o D 0 x y).getD default).2.2) none) none) (some (D,x,y)))
abbrev o51_1 (G:Int) (n:Nat) (j:Dat) (C:Int) (u:Nat) (v:Dat) (z:Nat) (o:Dat) (D:Nat) (w:Int) (x:Nat) (y:Dat):Option (Nat × Nat × Dat):=l51_1 G n j C u v z o (G.toNat+D+n+C.toNat+w.toNat+u+z+x+8) D w x y
def e51_1 (G:Int) (n:Nat) (j:Dat) (C:Int) (u:Nat) (v:Dat) (z:Nat) (o:Dat) (r:Nat × Nat × Dat) (K:XR):Prop:=K (XE.exit 1) [.gr 1 3 r.1] [.cells 25 [.ro [.str,W Z,W Z] u v,.ro [.str,W Z,W Z,W Z] z o],.row 88 [.str,.str,W Z] r.2.1 r.2.2]
def g51_1:LSum:=fun s k=>match czv 0 107 [2,3,11,36,37,38] 2 [⟨true,11,0,1,88,[.str,.str,W Z]⟩] s with
 | some ([V Z G,.ptr 0 0,.gr 1 3 D,.ro [.pt [.str,W Z,W Z,.mi [W Z,W Z,.bool],.mb,.mb,W Z,.bool,.m1]] n j,V Z C,V Z w],[.cells 25 [.ro [.str,W Z,W Z] u v,.ro [.str,W Z,W Z,W Z] z o],.row 88 [.str,.str,W Z] x y])=>needs [(o51_1 G n j C u v z o D w x y).isSome] (e51_1 G n j C u v z o ((o51_1 G n j C u v z o D w x y).getD default) fun e vs bs=>inBlk 1 k e (mkSt 0 107 [11] vs 2 bs))
 | _=>False
theorem z51_1:LOk Try.prog g51_1 (.block 1 (bodyAt (Try.f51.body.getD .skip) 1)):=by
 refine lb (ι:=Int × Nat × Nat × Dat × Int × Int × Nat × Dat × Nat × Dat × Nat × Dat) (fuel:=8) (na:=0) (nt:=107) (nx:=2) (Lh:=[2,3,11,36,37,38]) (Le:=[11]) (gl:=[⟨true,11,0,1,88,[.str,.str,W Z]⟩]) (tc k62 (tc k64 (tc k86c87 (tc k87 tn)))) mix_ok (lam_of rfl (lc z51_3 ln)) rfl (fun f (G,D,n,j,C,w,u,v,z,o,x,y) K=>GG default (e51_1 G n j C u v z o) K (l51_1 G n j C u v z o f D w x y)) (fun (G,D,n,j,C,w,u,v,z,o,x,y)=>[V Z G,.ptr 0 0,.gr 1 3 D,.ro [.pt [.str,W Z,W Z,.mi [W Z,W Z,.bool],.mb,.mb,W Z,.bool,.m1]] n j,V Z C,V Z w]) (fun (G,D,n,j,C,w,u,v,z,o,x,y)=>[.cells 25 [.ro [.str,W Z,W Z] u v,.ro [.str,W Z,W Z,W Z] z o],.row 88 [.str,.str,W Z] x y]) (fun (_,_,_,_,_,_,_,_,_,_,_,_) K=>gg_none) ?_ ?_
 ·rintro f ⟨G,D,n,j,C,w,u,v,z,o,x,y⟩ K hG
  refine ro (fun R=>(cnd (decide (w<C))
 (cnd (decide (0≤w∧w<↑n))
 (cnd (decide (z=z))
 (cnd ((o51_3 G (j.sub w.toNat 0) n j C w z o (↑z:Int) u v o D 0 x y).isSome)
 (R (XE.normal) [V Z G,.ptr 0 0,.gr 1 3 ((o51_3 G (j.sub w.toNat 0) n j C w z o (↑z:Int) u v o D 0 x y).getD default).1,.ro [.pt [.str,W Z,W Z,.mi [W Z,W Z,.bool],.mb,.mb,W Z,.bool,.m1]] n j,V Z C,V Z (Z.wrap (w+1))] [.cells 25 [.ro [.str,W Z,W Z] u v,.ro [.str,W Z,W Z,W Z] z o],.row 88 [.str,.str,W Z] ((o51_3 G (j.sub w.toNat 0) n j C w z o (↑z:Int) u v o D 0 x y).getD default).2.1 ((o51_3 G (j.sub w.toNat 0) n j C w z o (↑z:Int) u v o D 0 x y).getD default).2.2])
   False)
  False)
  False)
 (R (XE.exit 1) [.gr 1 3 D] [.cells 25 [.ro [.str,W Z,W Z] u v,.ro [.str,W Z,W Z,W Z] z o],.row 88 [.str,.str,W Z] x y]))) (fun R=>by kernel_rfl) ?_
  exact ch hG (fun h0=>cg h0 fun h1=>cn (decide_eq_true rfl) (cg h1 fun h2=>⟨(_,_,_,_,_,_,_,_,_,_,_,_),rfl,rfl,h2⟩)) (fun h0=>h0.2)
 ·intro s k h
  unfold g51_1 at h
  split at h <;> try exact h.elim
  rename_i e1
  rw [needs_iff] at h
  exact ⟨_,e1,_,(_,_,_,_,_,_,_,_,_,_,_,_),rfl,rfl,h.1 _ (List.mem_singleton.2 rfl),h.2⟩
def m51 (b:Nat) (d:Dat) (g:Nat) (i:Dat) (l:Nat) (m:Dat) (J:Int):Nat × Dat × Int :=
 (cond (bif (decide ((m62 b d g i l m).2.2.2=0)) then false else true) (0,noDat,(m62 b d g i l m).2.2.2) (cond (bif (m64 J) then false else true) (0,noDat,2) (((o51_1 J ((m62 b d g i l m).2.1.sn 0 2) ((m62 b d g i l m).2.1.sub 0 2) (↑((m62 b d g i l m).2.1.sn 0 2):Int) b d g i 0 0 0 noDat).getD default).1,(m86c87 ((o51_1 J ((m62 b d g i l m).2.1.sn 0 2) ((m62 b d g i l m).2.1.sub 0 2) (↑((m62 b d g i l m).2.1.sn 0 2):Int) b d g i 0 0 0 noDat).getD default).1 ((o51_1 J ((m62 b d g i l m).2.1.sn 0 2) ((m62 b d g i l m).2.1.sub 0 2) (↑((m62 b d g i l m).2.1.sn 0 2):Int) b d g i 0 0 0 noDat).getD default).2.1 ((o51_1 J ((m62 b d g i l m).2.1.sn 0 2) ((m62 b d g i l m).2.1.sub 0 2) (↑((m62 b d g i l m).2.1.sn 0 2):Int) b d g i 0 0 0 noDat).getD default).2.2).2,0)))
def n51 (b:Nat) (d:Dat) (g:Nat) (i:Dat) (l:Nat) (m:Dat) (J:Int):Bool :=
 ((n62 b d g i l m)&&(cond (bif (decide ((m62 b d g i l m).2.2.2=0)) then false else true) true (cond (bif (m64 J) then false else true) true ((m62 b d g i l m).1&&(((o51_1 J ((m62 b d g i l m).2.1.sn 0 2) ((m62 b d g i l m).2.1.sub 0 2) (↑((m62 b d g i l m).2.1.sn 0 2):Int) b d g i 0 0 0 noDat).isSome)&&((n86c87 ((o51_1 J ((m62 b d g i l m).2.1.sn 0 2) ((m62 b d g i l m).2.1.sub 0 2) (↑((m62 b d g i l m).2.1.sn 0 2):Int) b d g i 0 0 0 noDat).getD default).1 ((o51_1 J ((m62 b d g i l m).2.1.sn 0 2) ((m62 b d g i l m).2.1.sub 0 2) (↑((m62 b d g i l m).2.1.sn 0 2):Int) b d g i 0 0 0 noDat).getD default).2.1 ((o51_1 J ((m62 b d g i l m).2.1.sn 0 2) ((m62 b d g i l m).2.1.sub 0 2) (↑((m62 b d g i l m).2.1.sn 0 2):Int) b d g i 0 0 0 noDat).getD default).2.2)&&((decide ((0+((o51_1 J ((m62 b d g i l m).2.1.sn 0 2) ((m62 b d g i l m).2.1.sub 0 2) (↑((m62 b d g i l m).2.1.sn 0 2):Int) b d g i 0 0 0 noDat).getD default).1)≤(m86c87 ((o51_1 J ((m62 b d g i l m).2.1.sn 0 2) ((m62 b d g i l m).2.1.sub 0 2) (↑((m62 b d g i l m).2.1.sn 0 2):Int) b d g i 0 0 0 noDat).getD default).1 ((o51_1 J ((m62 b d g i l m).2.1.sn 0 2) ((m62 b d g i l m).2.1.sub 0 2) (↑((m62 b d g i l m).2.1.sn 0 2):Int) b d g i 0 0 0 noDat).getD default).2.1 ((o51_1 J ((m62 b d g i l m).2.1.sn 0 2) ((m62 b d g i l m).2.1.sub 0 2) (↑((m62 b d g i l m).2.1.sn 0 2):Int) b d g i 0 0 0 noDat).getD default).2.2).1))&&true)))))))
def q51 (r:Nat × Dat × Int):SV × List Blk × List Blk:=(.tup [.ro [.str,.str,W Z] r.1 r.2.1,V Z r.2.2],[],[])
def g51:GF:=fun vs bs=>match vs,bs with
 | [.agg [.ro [.str,W Z,W Z] b d,.ro [.str,W Z,W Z,W Z] g i],.ro [W Z,W Z,.str,.str,.str,.bool] l m,V Z J],[]=>some (rs 0 (q51 (m51 b d g i l m J)) [n51 b d g i l m J])
 | _,_=>none
def c51:Ctr:=genC [.a [.ro [.str,W Z,W Z],.ro [.str,W Z,W Z,W Z]],.ro [W Z,W Z,.str,.str,.str,.bool],.k] g51
theorem k51:CtrOk Try.prog c51 51:=cx (tc k62 (tc k64 (tc k86c87 (tc k87 tn)))) mix_ok 8 (fn:=Try.f51) (c:=(Try.f51.body.getD .skip)) (grs:=[]) (rh:=.t [.ro [.str,.str,W Z],.k]) Try.func51 rfl (by kernel_rfl) (lam_of rfl (lc z51_3 (lc z51_1 ln))) fun vs bs q h hn=>by
 unfold g51 at h
 split at h <;> cases h
 rename_i b d g i l m J
 have hn:=n1 hn
 exact ⟨_,rfl,ca (fun R=>(cnd (n62 b d g i l m)
 (cnd (bif (decide ((m62 b d g i l m).2.2.2=0)) then false else true)
 (R (.tup [.ro [.str,.str,W Z] 0 noDat,V Z (m62 b d g i l m).2.2.2]) [] [])
 (cnd (bif (m64 J) then false else true)
 (R (.tup [.ro [.str,.str,W Z] 0 noDat,V Z 2]) [] [])
 (cnd (m62 b d g i l m).1
 (cnd ((o51_1 J ((m62 b d g i l m).2.1.sn 0 2) ((m62 b d g i l m).2.1.sub 0 2) (↑((m62 b d g i l m).2.1.sn 0 2):Int) b d g i 0 0 0 noDat).isSome)
 (cnd (n86c87 ((o51_1 J ((m62 b d g i l m).2.1.sn 0 2) ((m62 b d g i l m).2.1.sub 0 2) (↑((m62 b d g i l m).2.1.sn 0 2):Int) b d g i 0 0 0 noDat).getD default).1 ((o51_1 J ((m62 b d g i l m).2.1.sn 0 2) ((m62 b d g i l m).2.1.sub 0 2) (↑((m62 b d g i l m).2.1.sn 0 2):Int) b d g i 0 0 0 noDat).getD default).2.1 ((o51_1 J ((m62 b d g i l m).2.1.sn 0 2) ((m62 b d g i l m).2.1.sub 0 2) (↑((m62 b d g i l m).2.1.sn 0 2):Int) b d g i 0 0 0 noDat).getD default).2.2)
 (cnd (decide ((0+((o51_1 J ((m62 b d g i l m).2.1.sn 0 2) ((m62 b d g i l m).2.1.sub 0 2) (↑((m62 b d g i l m).2.1.sn 0 2):Int) b d g i 0 0 0 noDat).getD default).1)≤(m86c87 ((o51_1 J ((m62 b d g i l m).2.1.sn 0 2) ((m62 b d g i l m).2.1.sub 0 2) (↑((m62 b d g i l m).2.1.sn 0 2):Int) b d g i 0 0 0 noDat).getD default).1 ((o51_1 J ((m62 b d g i l m).2.1.sn 0 2) ((m62 b d g i l m).2.1.sub 0 2) (↑((m62 b d g i l m).2.1.sn 0 2):Int) b d g i 0 0 0 noDat).getD default).2.1 ((o51_1 J ((m62 b d g i l m).2.1.sn 0 2) ((m62 b d g i l m).2.1.sub 0 2) (↑((m62 b d g i l m).2.1.sn 0 2):Int) b d g i 0 0 0 noDat).getD default).2.2).1))
 (R (.tup [.ro [.str,.str,W Z] ((o51_1 J ((m62 b d g i l m).2.1.sn 0 2) ((m62 b d g i l m).2.1.sub 0 2) (↑((m62 b d g i l m).2.1.sn 0 2):Int) b d g i 0 0 0 noDat).getD default).1 (m86c87 ((o51_1 J ((m62 b d g i l m).2.1.sn 0 2) ((m62 b d g i l m).2.1.sub 0 2) (↑((m62 b d g i l m).2.1.sn 0 2):Int) b d g i 0 0 0 noDat).getD default).1 ((o51_1 J ((m62 b d g i l m).2.1.sn 0 2) ((m62 b d g i l m).2.1.sub 0 2) (↑((m62 b d g i l m).2.1.sn 0 2):Int) b d g i 0 0 0 noDat).getD default).2.1 ((o51_1 J ((m62 b d g i l m).2.1.sn 0 2) ((m62 b d g i l m).2.1.sub 0 2) (↑((m62 b d g i l m).2.1.sn 0 2):Int) b d g i 0 0 0 noDat).getD default).2.2).2,V Z 0]) [] [])
    False)
    False)
   False)
   False)))
 False)) (fun R=>by kernel_rfl) (cn (al hn) (co (fun h0=>lf (cT h0 rfl) rfl) (fun h0=>co (fun h1=>lf (cF h0 (cT h1 rfl)) rfl) (fun h1=>cn (al (cf h1 (cf h0 (ar hn)))) (cn (al (ar (cf h1 (cf h0 (ar hn))))) (cn (al (ar (ar (cf h1 (cf h0 (ar hn)))))) (cn (al (ar (ar (ar (cf h1 (cf h0 (ar hn))))))) (lf (cF h0 (cF h1 rfl)) rfl))))))))⟩
/-! ### shotline/shotlinelaw07.awake -/
def m17 :Bool :=
 (bif (bif (bif (bif (bif (bif (decide ((m31 4 m60.1 2 m60.2 3 m61).2.2=0)) then (m34 (m31 4 m60.1 2 m60.2 3 m61).1 (m31 4 m60.1 2 m60.2 3 m61).2.1 2 (datS [SV.str ({ data:=#[97] }:ByteArray),SV.str ({ data:=#[98] }:ByteArray)] 1)) else false) then (decide ((m19 4 m60.1 2 m60.2 3 m61 ({ data:=#[98] }:ByteArray) 7).2.2.2=0)) else false) then (bif (m19 4 m60.1 2 m60.2 3 m61 ({ data:=#[98] }:ByteArray) 7).1 then false else true) else false) then (m26 (m19 4 m60.1 2 m60.2 3 m61 ({ data:=#[98] }:ByteArray) 7).2.1 (m19 4 m60.1 2 m60.2 3 m61 ({ data:=#[98] }:ByteArray) 7).2.2.1 1 (datS [V Z 3,SV.str ({ data:=#[] }:ByteArray),SV.str ({ data:=#[99,49] }:ByteArray),V Z 0] 4)) else false) then (decide ((m51 4 m60.1 2 m60.2 0 noDat 600).2.2=0)) else false) then (m54 (m51 4 m60.1 2 m60.2 0 noDat 600).1 (m51 4 m60.1 2 m60.2 0 noDat 600).2.1 1 (datS [SV.str ({ data:=#[114] }:ByteArray),SV.str ({ data:=#[115,101,114,118,105,99,101] }:ByteArray),V Z 465] 3)) else false)
def n17 :Bool :=
 ((n31 4 m60.1 2 m60.2 3 m61)&&((n19 4 m60.1 2 m60.2 3 m61 ({ data:=#[98] }:ByteArray) 7)&&((n51 4 m60.1 2 m60.2 0 noDat 600)&&((bif (bif (decide ((m31 4 m60.1 2 m60.2 3 m61).2.2=0)) then false else true) then true else (n34 (m31 4 m60.1 2 m60.2 3 m61).1 (m31 4 m60.1 2 m60.2 3 m61).2.1 2 (datS [SV.str ({ data:=#[97] }:ByteArray),SV.str ({ data:=#[98] }:ByteArray)] 1)))&&((bif (bif (bif (bif (bif (decide ((m31 4 m60.1 2 m60.2 3 m61).2.2=0)) then (m34 (m31 4 m60.1 2 m60.2 3 m61).1 (m31 4 m60.1 2 m60.2 3 m61).2.1 2 (datS [SV.str ({ data:=#[97] }:ByteArray),SV.str ({ data:=#[98] }:ByteArray)] 1)) else false) then (decide ((m19 4 m60.1 2 m60.2 3 m61 ({ data:=#[98] }:ByteArray) 7).2.2.2=0)) else false) then (bif (m19 4 m60.1 2 m60.2 3 m61 ({ data:=#[98] }:ByteArray) 7).1 then false else true) else false) then false else true) then true else (n26 (m19 4 m60.1 2 m60.2 3 m61 ({ data:=#[98] }:ByteArray) 7).2.1 (m19 4 m60.1 2 m60.2 3 m61 ({ data:=#[98] }:ByteArray) 7).2.2.1 1 (datS [V Z 3,SV.str ({ data:=#[] }:ByteArray),SV.str ({ data:=#[99,49] }:ByteArray),V Z 0] 4)))&&((bif (bif (bif (bif (bif (bif (bif (decide ((m31 4 m60.1 2 m60.2 3 m61).2.2=0)) then (m34 (m31 4 m60.1 2 m60.2 3 m61).1 (m31 4 m60.1 2 m60.2 3 m61).2.1 2 (datS [SV.str ({ data:=#[97] }:ByteArray),SV.str ({ data:=#[98] }:ByteArray)] 1)) else false) then (decide ((m19 4 m60.1 2 m60.2 3 m61 ({ data:=#[98] }:ByteArray) 7).2.2.2=0)) else false) then (bif (m19 4 m60.1 2 m60.2 3 m61 ({ data:=#[98] }:ByteArray) 7).1 then false else true) else false) then (m26 (m19 4 m60.1 2 m60.2 3 m61 ({ data:=#[98] }:ByteArray) 7).2.1 (m19 4 m60.1 2 m60.2 3 m61 ({ data:=#[98] }:ByteArray) 7).2.2.1 1 (datS [V Z 3,SV.str ({ data:=#[] }:ByteArray),SV.str ({ data:=#[99,49] }:ByteArray),V Z 0] 4)) else false) then (decide ((m51 4 m60.1 2 m60.2 0 noDat 600).2.2=0)) else false) then false else true) then true else (n54 (m51 4 m60.1 2 m60.2 0 noDat 600).1 (m51 4 m60.1 2 m60.2 0 noDat 600).2.1 1 (datS [SV.str ({ data:=#[114] }:ByteArray),SV.str ({ data:=#[115,101,114,118,105,99,101] }:ByteArray),V Z 465] 3)))&&true))))))
def q17 (r:Bool):SV × List Blk × List Blk:=(.bool r,[],[])
def g17:GF:=fun vs bs=>match vs,bs with
 | [],[]=>some (rs 0 (q17 (m17)) [n17 ])
 | _,_=>none
def c17:Ctr:=genC [] g17
theorem k17:CtrOk Try.prog c17 17:=cx (tc kSeal (tc k19 (tc k26 (tc k31 (tc k34 (tc k51 (tc k54 (tc k60 (tc k61 tn))))))))) mix_ok 8 (fn:=Try.f17) (c:=(Try.f17.body.getD .skip)) (grs:=[]) (rh:=.k) Try.func17 rfl (by kernel_rfl) noLam fun vs bs q h hn=>by
 unfold g17 at h
 split at h <;> cases h
 have hn:=n1 hn
 exact ⟨_,rfl,ca (fun R=>(cnd (n31 4 m60.1 2 m60.2 3 m61)
 (cnd (n19 4 m60.1 2 m60.2 3 m61 ({ data:=#[98] }:ByteArray) 7)
 (cnd (n51 4 m60.1 2 m60.2 0 noDat 600)
 (cnd (bif (bif (decide ((m31 4 m60.1 2 m60.2 3 m61).2.2=0)) then false else true) then true else (n34 (m31 4 m60.1 2 m60.2 3 m61).1 (m31 4 m60.1 2 m60.2 3 m61).2.1 2 (datS [SV.str ({ data:=#[97] }:ByteArray),SV.str ({ data:=#[98] }:ByteArray)] 1)))
 (cnd (bif (bif (bif (bif (bif (decide ((m31 4 m60.1 2 m60.2 3 m61).2.2=0)) then (m34 (m31 4 m60.1 2 m60.2 3 m61).1 (m31 4 m60.1 2 m60.2 3 m61).2.1 2 (datS [SV.str ({ data:=#[97] }:ByteArray),SV.str ({ data:=#[98] }:ByteArray)] 1)) else false) then (decide ((m19 4 m60.1 2 m60.2 3 m61 ({ data:=#[98] }:ByteArray) 7).2.2.2=0)) else false) then (bif (m19 4 m60.1 2 m60.2 3 m61 ({ data:=#[98] }:ByteArray) 7).1 then false else true) else false) then false else true) then true else (n26 (m19 4 m60.1 2 m60.2 3 m61 ({ data:=#[98] }:ByteArray) 7).2.1 (m19 4 m60.1 2 m60.2 3 m61 ({ data:=#[98] }:ByteArray) 7).2.2.1 1 (datS [V Z 3,SV.str ({ data:=#[] }:ByteArray),SV.str ({ data:=#[99,49] }:ByteArray),V Z 0] 4)))
 (cnd (bif (bif (bif (bif (bif (bif (bif (decide ((m31 4 m60.1 2 m60.2 3 m61).2.2=0)) then (m34 (m31 4 m60.1 2 m60.2 3 m61).1 (m31 4 m60.1 2 m60.2 3 m61).2.1 2 (datS [SV.str ({ data:=#[97] }:ByteArray),SV.str ({ data:=#[98] }:ByteArray)] 1)) else false) then (decide ((m19 4 m60.1 2 m60.2 3 m61 ({ data:=#[98] }:ByteArray) 7).2.2.2=0)) else false) then (bif (m19 4 m60.1 2 m60.2 3 m61 ({ data:=#[98] }:ByteArray) 7).1 then false else true) else false) then (m26 (m19 4 m60.1 2 m60.2 3 m61 ({ data:=#[98] }:ByteArray) 7).2.1 (m19 4 m60.1 2 m60.2 3 m61 ({ data:=#[98] }:ByteArray) 7).2.2.1 1 (datS [V Z 3,SV.str ({ data:=#[] }:ByteArray),SV.str ({ data:=#[99,49] }:ByteArray),V Z 0] 4)) else false) then (decide ((m51 4 m60.1 2 m60.2 0 noDat 600).2.2=0)) else false) then false else true) then true else (n54 (m51 4 m60.1 2 m60.2 0 noDat 600).1 (m51 4 m60.1 2 m60.2 0 noDat 600).2.1 1 (datS [SV.str ({ data:=#[114] }:ByteArray),SV.str ({ data:=#[115,101,114,118,105,99,101] }:ByteArray),V Z 465] 3)))
 (R (.bool (bif (bif (bif (bif (bif (bif (decide ((m31 4 m60.1 2 m60.2 3 m61).2.2=0)) then (m34 (m31 4 m60.1 2 m60.2 3 m61).1 (m31 4 m60.1 2 m60.2 3 m61).2.1 2 (datS [SV.str ({ data:=#[97] }:ByteArray),SV.str ({ data:=#[98] }:ByteArray)] 1)) else false) then (decide ((m19 4 m60.1 2 m60.2 3 m61 ({ data:=#[98] }:ByteArray) 7).2.2.2=0)) else false) then (bif (m19 4 m60.1 2 m60.2 3 m61 ({ data:=#[98] }:ByteArray) 7).1 then false else true) else false) then (m26 (m19 4 m60.1 2 m60.2 3 m61 ({ data:=#[98] }:ByteArray) 7).2.1 (m19 4 m60.1 2 m60.2 3 m61 ({ data:=#[98] }:ByteArray) 7).2.2.1 1 (datS [V Z 3,SV.str ({ data:=#[] }:ByteArray),SV.str ({ data:=#[99,49] }:ByteArray),V Z 0] 4)) else false) then (decide ((m51 4 m60.1 2 m60.2 0 noDat 600).2.2=0)) else false) then (m54 (m51 4 m60.1 2 m60.2 0 noDat 600).1 (m51 4 m60.1 2 m60.2 0 noDat 600).2.1 1 (datS [SV.str ({ data:=#[114] }:ByteArray),SV.str ({ data:=#[115,101,114,118,105,99,101] }:ByteArray),V Z 465] 3)) else false)) [] [])
    False)
   False)
   False)
  False)
  False)
 False)) (fun R=>by kernel_rfl) (cn (al hn) (cn (al (ar hn)) (cn (al (ar (ar hn))) (cn (al (ar (ar (ar hn)))) (cn (al (ar (ar (ar (ar hn))))) (cn (al (ar (ar (ar (ar (ar hn)))))) (lf rfl rfl)))))))⟩
/-! ### shotline/shotlinelaw07.KitLater -/
def l4r_2 (o:Nat) (p:Dat) (A:Nat) (v:Dat) (F:Nat) (w:Dat) (E:Int) (b:Nat) (g:Dat) (d:Nat) (i:Dat) (t:ByteArray) (u:Int):Nat→Bool→Int→Option (Bool)
 | 0,_,_=>none
 | f+1,I,G=>(cond (decide (G<(↑F:Int))) (cond (bif (bif (bif I then false else true) then false else true) then true else (decide (0≤G∧G<↑F))) (cond (bif (bif (bif I then false else true) then false else true) then true else (decide (0≤E∧E<↑A))) (cond (bif (bif (bif (bif I then true else (bif (decide ((w.ii G.toNat 0)=(v.ii E.toNat 0))) then (bif (decide ((w.ss G.toNat 1)=(v.ss E.toNat 1))) then (bif (bif (decide ((w.ss G.toNat 2)=(v.ss E.toNat 2))) then (bif (decide ((w.ii G.toNat 3)=(v.ii E.toNat 3))) then true else false) else false) then true else false) else false) else false)) then false else true) then false else true) then true else (decide (0≤E∧E<↑A))) (cond (bif (bif (bif (bif (bif I then true else (bif (decide ((w.ii G.toNat 0)=(v.ii E.toNat 0))) then (bif (decide ((w.ss G.toNat 1)=(v.ss E.toNat 1))) then (bif (bif (decide ((w.ss G.toNat 2)=(v.ss E.toNat 2))) then (bif (decide ((w.ii G.toNat 3)=(v.ii E.toNat 3))) then true else false) else false) then true else false) else false) else false)) then false else true) then (decide ((v.ii E.toNat 0)=2)) else false) then false else true) then true else (decide (0≤G∧G<↑F))) (cond (bif (bif (bif (bif (bif I then true else (bif (decide ((w.ii G.toNat 0)=(v.ii E.toNat 0))) then (bif (decide ((w.ss G.toNat 1)=(v.ss E.toNat 1))) then (bif (bif (decide ((w.ss G.toNat 2)=(v.ss E.toNat 2))) then (bif (decide ((w.ii G.toNat 3)=(v.ii E.toNat 3))) then true else false) else false) then true else false) else false) else false)) then false else true) then (bif (decide ((v.ii E.toNat 0)=2)) then (decide ((w.ii G.toNat 0)=1)) else false) else false) then false else true) then true else (decide (0≤G∧G<↑F))) (cond (bif (bif (bif (bif (bif I then true else (bif (decide ((w.ii G.toNat 0)=(v.ii E.toNat 0))) then (bif (decide ((w.ss G.toNat 1)=(v.ss E.toNat 1))) then (bif (bif (decide ((w.ss G.toNat 2)=(v.ss E.toNat 2))) then (bif (decide ((w.ii G.toNat 3)=(v.ii E.toNat 3))) then true else false) else false) then true else false) else false) else false)) then false else true) then (bif (decide ((v.ii E.toNat 0)=2)) then (decide ((w.ii G.toNat 0)=1)) else false) else false) then false else true) then true else (decide (0≤E∧E<↑A))) (l4r_2 o p A v F w E b g d i t u f (bif (bif I then true else (bif (decide ((w.ii G.toNat 0)=(v.ii E.toNat 0))) then (bif (decide ((w.ss G.toNat 1)=(v.ss E.toNat 1))) then (bif (bif (decide ((w.ss G.toNat 2)=(v.ss E.toNat 2))) then (bif (decide ((w.ii G.toNat 3)=(v.ii E.toNat 3))) then true else false) else false) then true else false) else false) else false)) then true else (bif (bif (decide ((v.ii E.toNat 0)=2)) then (decide ((w.ii G.toNat 0)=1)) else false) then (decide ((w.ss G.toNat 1)=(v.ss E.toNat 1))) else false)) (Z.wrap (G+1))) none) none) none) none) none) none) (some I))
abbrev o4r_2 (o:Nat) (p:Dat) (A:Nat) (v:Dat) (F:Nat) (w:Dat) (E:Int) (b:Nat) (g:Dat) (d:Nat) (i:Dat) (t:ByteArray) (u:Int) (I:Bool) (G:Int):Option (Bool):=l4r_2 o p A v F w E b g d i t u (o+A+F+E.toNat+G.toNat+b+d+t.size+u.toNat+8) I G
def e4r_2 (o:Nat) (p:Dat) (A:Nat) (v:Dat) (F:Nat) (w:Dat) (E:Int) (b:Nat) (g:Dat) (d:Nat) (i:Dat) (t:ByteArray) (u:Int) (r:Bool) (K:XR):Prop:=K (XE.exit 2) [.ro [W Z,W Z,.str,.str,.str,.bool] o p,.ptr 0 0,.ptr 1 0,.ro [W Z,.str,.str,W Z] A v,.ro [W Z,.str,.str,W Z] F w,V Z E,.bool r] [.cells 25 [.ro [.str,W Z,W Z] b g,.ro [.str,W Z,W Z,W Z] d i],.cells 28 [.str t,V Z u]]
def g4r_2:LSum:=fun s k=>match czv 0 192 [1,3,5,8,11,13,14,15] 2 [] s with
 | some ([.ro [W Z,W Z,.str,.str,.str,.bool] o p,.ptr 0 0,.ptr 1 0,.ro [W Z,.str,.str,W Z] A v,.ro [W Z,.str,.str,W Z] F w,V Z E,.bool I,V Z G],[.cells 25 [.ro [.str,W Z,W Z] b g,.ro [.str,W Z,W Z,W Z] d i],.cells 28 [.str t,V Z u]])=>needs [(o4r_2 o p A v F w E b g d i t u I G).isSome] (e4r_2 o p A v F w E b g d i t u ((o4r_2 o p A v F w E b g d i t u I G).getD default) fun e vs bs=>inBlk 2 k e (mkSt 0 192 [1,3,5,8,11,13,14] vs 2 bs))
 | _=>False
theorem z4r_2:LOk Try.prog g4r_2 (.block 2 (bodyAt (Try.f4.body.getD .skip) 2)):=by
 refine lb (ι:=Nat × Dat × Nat × Dat × Nat × Dat × Int × Bool × Int × Nat × Dat × Nat × Dat × ByteArray × Int) (fuel:=8) (na:=0) (nt:=192) (nx:=2) (Lh:=[1,3,5,8,11,13,14,15]) (Le:=[1,3,5,8,11,13,14]) (gl:=[]) (tc kSeal4 (tc k17 (tc k18 (tc k19 (tc k20 (tc k21 (tc k21r (tc k26 tn)))))))) mix_ok noLam rfl (fun f (o,p,A,v,F,w,E,I,G,b,g,d,i,t,u) K=>GG default (e4r_2 o p A v F w E b g d i t u) K (l4r_2 o p A v F w E b g d i t u f I G)) (fun (o,p,A,v,F,w,E,I,G,b,g,d,i,t,u)=>[.ro [W Z,W Z,.str,.str,.str,.bool] o p,.ptr 0 0,.ptr 1 0,.ro [W Z,.str,.str,W Z] A v,.ro [W Z,.str,.str,W Z] F w,V Z E,.bool I,V Z G]) (fun (o,p,A,v,F,w,E,I,G,b,g,d,i,t,u)=>[.cells 25 [.ro [.str,W Z,W Z] b g,.ro [.str,W Z,W Z,W Z] d i],.cells 28 [.str t,V Z u]]) (fun (_,_,_,_,_,_,_,_,_,_,_,_,_,_,_) K=>gg_none) ?_ ?_
 ·rintro f ⟨o,p,A,v,F,w,E,I,G,b,g,d,i,t,u⟩ K hG
  refine ro (fun R=>(cnd (decide (G<(↑F:Int)))
 (cnd (bif (bif (bif I then false else true) then false else true) then true else (decide (0≤G∧G<↑F)))
 (cnd (bif (bif (bif I then false else true) then false else true) then true else (decide (0≤E∧E<↑A)))
 (cnd (bif (bif (bif (bif I then true else (bif (decide ((w.ii G.toNat 0)=(v.ii E.toNat 0))) then (bif (decide ((w.ss G.toNat 1)=(v.ss E.toNat 1))) then (bif (bif (decide ((w.ss G.toNat 2)=(v.ss E.toNat 2))) then (bif (decide ((w.ii G.toNat 3)=(v.ii E.toNat 3))) then true else false) else false) then true else false) else false) else false)) then false else true) then false else true) then true else (decide (0≤E∧E<↑A)))
 (cnd (bif (bif (bif (bif (bif I then true else (bif (decide ((w.ii G.toNat 0)=(v.ii E.toNat 0))) then (bif (decide ((w.ss G.toNat 1)=(v.ss E.toNat 1))) then (bif (bif (decide ((w.ss G.toNat 2)=(v.ss E.toNat 2))) then (bif (decide ((w.ii G.toNat 3)=(v.ii E.toNat 3))) then true else false) else false) then true else false) else false) else false)) then false else true) then (decide ((v.ii E.toNat 0)=2)) else false) then false else true) then true else (decide (0≤G∧G<↑F)))
 (cnd (bif (bif (bif (bif (bif I then true else (bif (decide ((w.ii G.toNat 0)=(v.ii E.toNat 0))) then (bif (decide ((w.ss G.toNat 1)=(v.ss E.toNat 1))) then (bif (bif (decide ((w.ss G.toNat 2)=(v.ss E.toNat 2))) then (bif (decide ((w.ii G.toNat 3)=(v.ii E.toNat 3))) then true else false) else false) then true else false) else false) else false)) then false else true) then (bif (decide ((v.ii E.toNat 0)=2)) then (decide ((w.ii G.toNat 0)=1)) else false) else false) then false else true) then true else (decide (0≤G∧G<↑F)))
 (cnd (bif (bif (bif (bif (bif I then true else (bif (decide ((w.ii G.toNat 0)=(v.ii E.toNat 0))) then (bif (decide ((w.ss G.toNat 1)=(v.ss E.toNat 1))) then (bif (bif (decide ((w.ss G.toNat 2)=(v.ss E.toNat 2))) then (bif (decide ((w.ii G.toNat 3)=(v.ii E.toNat 3))) then true else false) else false) then true else false) else false) else false)) then false else true) then (bif (decide ((v.ii E.toNat 0)=2)) then (decide ((w.ii G.toNat 0)=1)) else false) else false) then false else true) then true else (decide (0≤E∧E<↑A)))
 (R (XE.normal) [.ro [W Z,W Z,.str,.str,.str,.bool] o p,.ptr 0 0,.ptr 1 0,.ro [W Z,.str,.str,W Z] A v,.ro [W Z,.str,.str,W Z] F w,V Z E,.bool (bif (bif I then true else (bif (decide ((w.ii G.toNat 0)=(v.ii E.toNat 0))) then (bif (decide ((w.ss G.toNat 1)=(v.ss E.toNat 1))) then (bif (bif (decide ((w.ss G.toNat 2)=(v.ss E.toNat 2))) then (bif (decide ((w.ii G.toNat 3)=(v.ii E.toNat 3))) then true else false) else false) then true else false) else false) else false)) then true else (bif (bif (decide ((v.ii E.toNat 0)=2)) then (decide ((w.ii G.toNat 0)=1)) else false) then (decide ((w.ss G.toNat 1)=(v.ss E.toNat 1))) else false)),V Z (Z.wrap (G+1))] [.cells 25 [.ro [.str,W Z,W Z] b g,.ro [.str,W Z,W Z,W Z] d i],.cells 28 [.str t,V Z u]])
    False)
    False)
   False)
   False)
  False)
  False)
 (R (XE.exit 2) [.ro [W Z,W Z,.str,.str,.str,.bool] o p,.ptr 0 0,.ptr 1 0,.ro [W Z,.str,.str,W Z] A v,.ro [W Z,.str,.str,W Z] F w,V Z E,.bool I] [.cells 25 [.ro [.str,W Z,W Z] b g,.ro [.str,W Z,W Z,W Z] d i],.cells 28 [.str t,V Z u]]))) (fun R=>by kernel_rfl) ?_
  exact ch hG (fun h0=>cg h0 fun h1=>cg h1 fun h2=>cg h2 fun h3=>cg h3 fun h4=>cg h4 fun h5=>cg h5 fun h6=>⟨(_,_,_,_,_,_,_,_,_,_,_,_,_,_,_),rfl,rfl,h6⟩) (fun h0=>h0.2)
 ·intro s k h
  unfold g4r_2 at h
  split at h <;> try exact h.elim
  rename_i e1
  rw [needs_iff] at h
  exact ⟨_,e1,_,(_,_,_,_,_,_,_,_,_,_,_,_,_,_,_),rfl,rfl,h.1 _ (List.mem_singleton.2 rfl),h.2⟩
def l4r_0 (o:Nat) (p:Dat) (A:Nat) (v:Dat) (F:Nat) (w:Dat) (b:Nat) (g:Dat) (d:Nat) (i:Dat) (t:ByteArray) (u:Int):Nat→Int→Option (Bool × (Bool) × (Unit))
 | 0,_=>none
 | f+1,E=>(cond (decide (E<(↑A:Int))) (cond ((o4r_2 o p A v F w E b g d i t u false 0).isSome) (cond (bif ((o4r_2 o p A v F w E b g d i t u false 0).getD default) then false else true) (some (true,false,default)) (l4r_0 o p A v F w b g d i t u f (Z.wrap (E+1)))) none) (some (false,default,())))
abbrev o4r_0 (o:Nat) (p:Dat) (A:Nat) (v:Dat) (F:Nat) (w:Dat) (b:Nat) (g:Dat) (d:Nat) (i:Dat) (t:ByteArray) (u E:Int):Option (Bool × (Bool) × (Unit)):=l4r_0 o p A v F w b g d i t u (o+A+F+E.toNat+b+d+t.size+u.toNat+8) E
def e4r_0 (o:Nat) (p:Dat) (A:Nat) (v:Dat) (F:Nat) (w:Dat) (b:Nat) (g:Dat) (d:Nat) (i:Dat) (t:ByteArray) (u:Int) (r:Bool × (Bool) × (Unit)) (K:XR):Prop:=cnd r.1 (K (XE.ret) [.ro [W Z,W Z,.str,.str,.str,.bool] o p,.ptr 0 0,.ptr 1 0,.bool r.2.1,.ro [W Z,.str,.str,W Z] A v] [.cells 25 [.ro [.str,W Z,W Z] b g,.ro [.str,W Z,W Z,W Z] d i],.cells 28 [.str t,V Z u]]) (K (XE.exit 0) [.ro [W Z,W Z,.str,.str,.str,.bool] o p,.ptr 0 0,.ptr 1 0,.any,.ro [W Z,.str,.str,W Z] A v] [.cells 25 [.ro [.str,W Z,W Z] b g,.ro [.str,W Z,W Z,W Z] d i],.cells 28 [.str t,V Z u]])
def g4r_0:LSum:=fun s k=>match czv 0 192 [1,3,5,8,11,13] 2 [] s with
 | some ([.ro [W Z,W Z,.str,.str,.str,.bool] o p,.ptr 0 0,.ptr 1 0,.ro [W Z,.str,.str,W Z] A v,.ro [W Z,.str,.str,W Z] F w,V Z E],[.cells 25 [.ro [.str,W Z,W Z] b g,.ro [.str,W Z,W Z,W Z] d i],.cells 28 [.str t,V Z u]])=>needs [(o4r_0 o p A v F w b g d i t u E).isSome] (e4r_0 o p A v F w b g d i t u ((o4r_0 o p A v F w b g d i t u E).getD default) fun e vs bs=>inBlk 0 k e (mkSt 0 192 [1,3,5,6,8] vs 2 bs))
 | _=>False
theorem z4r_0:LOk Try.prog g4r_0 (.block 0 (bodyAt (Try.f4.body.getD .skip) 0)):=by
 refine lb (ι:=Nat × Dat × Nat × Dat × Nat × Dat × Int × Nat × Dat × Nat × Dat × ByteArray × Int) (fuel:=8) (na:=0) (nt:=192) (nx:=2) (Lh:=[1,3,5,8,11,13]) (Le:=[1,3,5,6,8]) (gl:=[]) (tc kSeal4 (tc k17 (tc k18 (tc k19 (tc k20 (tc k21 (tc k21r (tc k26 tn)))))))) mix_ok (lam_of rfl (lc z4r_2 ln)) rfl (fun f (o,p,A,v,F,w,E,b,g,d,i,t,u) K=>GG default (e4r_0 o p A v F w b g d i t u) K (l4r_0 o p A v F w b g d i t u f E)) (fun (o,p,A,v,F,w,E,b,g,d,i,t,u)=>[.ro [W Z,W Z,.str,.str,.str,.bool] o p,.ptr 0 0,.ptr 1 0,.ro [W Z,.str,.str,W Z] A v,.ro [W Z,.str,.str,W Z] F w,V Z E]) (fun (o,p,A,v,F,w,E,b,g,d,i,t,u)=>[.cells 25 [.ro [.str,W Z,W Z] b g,.ro [.str,W Z,W Z,W Z] d i],.cells 28 [.str t,V Z u]]) (fun (_,_,_,_,_,_,_,_,_,_,_,_,_) K=>gg_none) ?_ ?_
 ·rintro f ⟨o,p,A,v,F,w,E,b,g,d,i,t,u⟩ K hG
  refine ro (fun R=>(cnd (decide (E<(↑A:Int)))
 (cnd ((o4r_2 o p A v F w E b g d i t u false 0).isSome)
 (cnd (bif ((o4r_2 o p A v F w E b g d i t u false 0).getD default) then false else true)
 (R (XE.ret) [.ro [W Z,W Z,.str,.str,.str,.bool] o p,.ptr 0 0,.ptr 1 0,.bool false,.ro [W Z,.str,.str,W Z] A v] [.cells 25 [.ro [.str,W Z,W Z] b g,.ro [.str,W Z,W Z,W Z] d i],.cells 28 [.str t,V Z u]])
 (R (XE.normal) [.ro [W Z,W Z,.str,.str,.str,.bool] o p,.ptr 0 0,.ptr 1 0,.ro [W Z,.str,.str,W Z] A v,.ro [W Z,.str,.str,W Z] F w,V Z (Z.wrap (E+1))] [.cells 25 [.ro [.str,W Z,W Z] b g,.ro [.str,W Z,W Z,W Z] d i],.cells 28 [.str t,V Z u]]))
  False)
 (R (XE.exit 0) [.ro [W Z,W Z,.str,.str,.str,.bool] o p,.ptr 0 0,.ptr 1 0,.any,.ro [W Z,.str,.str,W Z] A v] [.cells 25 [.ro [.str,W Z,W Z] b g,.ro [.str,W Z,W Z,W Z] d i],.cells 28 [.str t,V Z u]]))) (fun R=>by kernel_rfl) ?_
  exact ch hG (fun h0=>cg h0 fun h1=>ch h1 (fun h2=>h2.2) (fun h2=>⟨(_,_,_,_,_,_,_,_,_,_,_,_,_),rfl,rfl,h2⟩)) (fun h0=>h0.2)
 ·intro s k h
  unfold g4r_0 at h
  split at h <;> try exact h.elim
  rename_i e1
  rw [needs_iff] at h
  exact ⟨_,e1,_,(_,_,_,_,_,_,_,_,_,_,_,_,_),rfl,rfl,h.1 _ (List.mem_singleton.2 rfl),h.2⟩
def l4r_4 (o:Nat) (p:Dat) (A:Nat) (v:Dat) (b:Nat) (g:Dat) (d:Nat) (i:Dat) (t:ByteArray) (u:Int):Nat→Int→Option (Bool × (Bool) × (Unit))
 | 0,_=>none
 | f+1,x=>(cond (bif (bif (decide (x<(↑A:Int))) then (decide (x<8)) else false) then (decide ((↑o:Int)<12)) else false) (cond (decide (0≤x∧x<↑A)) (cond (decide ((v.ii x.toNat 0)=3)) (l4r_4 o p A v b g d i t u f (Z.wrap (x+1))) (cond (n21r o p) (cond (decide (0≤x∧x<↑A)) (cond (decide ((m21r o p).1≤(m21r o p).2.1)) (cond (decide (((m21r o p).1+1)≤1073741824)) (cond (n20 b g d i) (cond (n19 (m20 b g d i).1 (m20 b g d i).2.1 (m20 b g d i).2.2.1 (m20 b g d i).2.2.2 ((m21r o p).1+1) ((m21r o p).2.2.app (m21r o p).1 (datS [V Z 0,V Z u,SV.str t,SV.str (v.ss x.toNat 1),SV.str ({ data:=#[] }:ByteArray),SV.bool true] 6)) t u) (cond (decide ((m19 (m20 b g d i).1 (m20 b g d i).2.1 (m20 b g d i).2.2.1 (m20 b g d i).2.2.2 ((m21r o p).1+1) ((m21r o p).2.2.app (m21r o p).1 (datS [V Z 0,V Z u,SV.str t,SV.str (v.ss x.toNat 1),SV.str ({ data:=#[] }:ByteArray),SV.bool true] 6)) t u).2.2.2=19)) (l4r_4 o p A v b g d i t u f (Z.wrap (x+1))) (cond (bif (decide ((m19 (m20 b g d i).1 (m20 b g d i).2.1 (m20 b g d i).2.2.1 (m20 b g d i).2.2.2 ((m21r o p).1+1) ((m21r o p).2.2.app (m21r o p).1 (datS [V Z 0,V Z u,SV.str t,SV.str (v.ss x.toNat 1),SV.str ({ data:=#[] }:ByteArray),SV.bool true] 6)) t u).2.2.2=0)) then false else true) (cond (bif (decide ((m19 (m20 b g d i).1 (m20 b g d i).2.1 (m20 b g d i).2.2.1 (m20 b g d i).2.2.2 ((m21r o p).1+1) ((m21r o p).2.2.app (m21r o p).1 (datS [V Z 0,V Z u,SV.str t,SV.str (v.ss x.toNat 1),SV.str ({ data:=#[] }:ByteArray),SV.bool true] 6)) t u).2.2.2=0)) then false else true) (cond (bif (decide ((m19 (m20 b g d i).1 (m20 b g d i).2.1 (m20 b g d i).2.2.1 (m20 b g d i).2.2.2 ((m21r o p).1+1) ((m21r o p).2.2.app (m21r o p).1 (datS [V Z 0,V Z u,SV.str t,SV.str (v.ss x.toNat 1),SV.str ({ data:=#[] }:ByteArray),SV.bool true] 6)) t u).2.2.2=0)) then false else true) (cond (bif (decide ((m19 (m20 b g d i).1 (m20 b g d i).2.1 (m20 b g d i).2.2.1 (m20 b g d i).2.2.2 ((m21r o p).1+1) ((m21r o p).2.2.app (m21r o p).1 (datS [V Z 0,V Z u,SV.str t,SV.str (v.ss x.toNat 1),SV.str ({ data:=#[] }:ByteArray),SV.bool true] 6)) t u).2.2.2=0)) then false else true) (cond (bif (decide ((m19 (m20 b g d i).1 (m20 b g d i).2.1 (m20 b g d i).2.2.1 (m20 b g d i).2.2.2 ((m21r o p).1+1) ((m21r o p).2.2.app (m21r o p).1 (datS [V Z 0,V Z u,SV.str t,SV.str (v.ss x.toNat 1),SV.str ({ data:=#[] }:ByteArray),SV.bool true] 6)) t u).2.2.2=0)) then false else true) (cond (bif (decide ((m19 (m20 b g d i).1 (m20 b g d i).2.1 (m20 b g d i).2.2.1 (m20 b g d i).2.2.2 ((m21r o p).1+1) ((m21r o p).2.2.app (m21r o p).1 (datS [V Z 0,V Z u,SV.str t,SV.str (v.ss x.toNat 1),SV.str ({ data:=#[] }:ByteArray),SV.bool true] 6)) t u).2.2.2=0)) then false else true) (cond (bif (decide ((m19 (m20 b g d i).1 (m20 b g d i).2.1 (m20 b g d i).2.2.1 (m20 b g d i).2.2.2 ((m21r o p).1+1) ((m21r o p).2.2.app (m21r o p).1 (datS [V Z 0,V Z u,SV.str t,SV.str (v.ss x.toNat 1),SV.str ({ data:=#[] }:ByteArray),SV.bool true] 6)) t u).2.2.2=0)) then false else true) (cond (bif (decide ((m19 (m20 b g d i).1 (m20 b g d i).2.1 (m20 b g d i).2.2.1 (m20 b g d i).2.2.2 ((m21r o p).1+1) ((m21r o p).2.2.app (m21r o p).1 (datS [V Z 0,V Z u,SV.str t,SV.str (v.ss x.toNat 1),SV.str ({ data:=#[] }:ByteArray),SV.bool true] 6)) t u).2.2.2=0)) then false else true) (cond (bif (decide ((m19 (m20 b g d i).1 (m20 b g d i).2.1 (m20 b g d i).2.2.1 (m20 b g d i).2.2.2 ((m21r o p).1+1) ((m21r o p).2.2.app (m21r o p).1 (datS [V Z 0,V Z u,SV.str t,SV.str (v.ss x.toNat 1),SV.str ({ data:=#[] }:ByteArray),SV.bool true] 6)) t u).2.2.2=0)) then false else true) (cond (bif (decide ((m19 (m20 b g d i).1 (m20 b g d i).2.1 (m20 b g d i).2.2.1 (m20 b g d i).2.2.2 ((m21r o p).1+1) ((m21r o p).2.2.app (m21r o p).1 (datS [V Z 0,V Z u,SV.str t,SV.str (v.ss x.toNat 1),SV.str ({ data:=#[] }:ByteArray),SV.bool true] 6)) t u).2.2.2=0)) then false else true) (cond (bif (decide ((m19 (m20 b g d i).1 (m20 b g d i).2.1 (m20 b g d i).2.2.1 (m20 b g d i).2.2.2 ((m21r o p).1+1) ((m21r o p).2.2.app (m21r o p).1 (datS [V Z 0,V Z u,SV.str t,SV.str (v.ss x.toNat 1),SV.str ({ data:=#[] }:ByteArray),SV.bool true] 6)) t u).2.2.2=0)) then false else true) (cond (bif (decide ((m19 (m20 b g d i).1 (m20 b g d i).2.1 (m20 b g d i).2.2.1 (m20 b g d i).2.2.2 ((m21r o p).1+1) ((m21r o p).2.2.app (m21r o p).1 (datS [V Z 0,V Z u,SV.str t,SV.str (v.ss x.toNat 1),SV.str ({ data:=#[] }:ByteArray),SV.bool true] 6)) t u).2.2.2=0)) then false else true) (cond (bif (decide ((m19 (m20 b g d i).1 (m20 b g d i).2.1 (m20 b g d i).2.2.1 (m20 b g d i).2.2.2 ((m21r o p).1+1) ((m21r o p).2.2.app (m21r o p).1 (datS [V Z 0,V Z u,SV.str t,SV.str (v.ss x.toNat 1),SV.str ({ data:=#[] }:ByteArray),SV.bool true] 6)) t u).2.2.2=0)) then false else true) (cond (bif (decide ((m19 (m20 b g d i).1 (m20 b g d i).2.1 (m20 b g d i).2.2.1 (m20 b g d i).2.2.2 ((m21r o p).1+1) ((m21r o p).2.2.app (m21r o p).1 (datS [V Z 0,V Z u,SV.str t,SV.str (v.ss x.toNat 1),SV.str ({ data:=#[] }:ByteArray),SV.bool true] 6)) t u).2.2.2=0)) then false else true) (cond (bif (bif (decide ((m19 (m20 b g d i).1 (m20 b g d i).2.1 (m20 b g d i).2.2.1 (m20 b g d i).2.2.2 ((m21r o p).1+1) ((m21r o p).2.2.app (m21r o p).1 (datS [V Z 0,V Z u,SV.str t,SV.str (v.ss x.toNat 1),SV.str ({ data:=#[] }:ByteArray),SV.bool true] 6)) t u).2.2.2=0)) then false else true) then true else true) (some (true,false,default)) (l4r_4 o p A v b g d i t u f (Z.wrap (x+1)))) none) none) none) none) none) none) none) none) none) none) none) none) none) (cond (bif (bif (decide ((m19 (m20 b g d i).1 (m20 b g d i).2.1 (m20 b g d i).2.2.1 (m20 b g d i).2.2.2 ((m21r o p).1+1) ((m21r o p).2.2.app (m21r o p).1 (datS [V Z 0,V Z u,SV.str t,SV.str (v.ss x.toNat 1),SV.str ({ data:=#[] }:ByteArray),SV.bool true] 6)) t u).2.2.2=0)) then false else true) then false else true) (cond (bif (bif (decide ((m19 (m20 b g d i).1 (m20 b g d i).2.1 (m20 b g d i).2.2.1 (m20 b g d i).2.2.2 ((m21r o p).1+1) ((m21r o p).2.2.app (m21r o p).1 (datS [V Z 0,V Z u,SV.str t,SV.str (v.ss x.toNat 1),SV.str ({ data:=#[] }:ByteArray),SV.bool true] 6)) t u).2.2.2=0)) then false else true) then false else true) (cond (bif (bif (decide ((m19 (m20 b g d i).1 (m20 b g d i).2.1 (m20 b g d i).2.2.1 (m20 b g d i).2.2.2 ((m21r o p).1+1) ((m21r o p).2.2.app (m21r o p).1 (datS [V Z 0,V Z u,SV.str t,SV.str (v.ss x.toNat 1),SV.str ({ data:=#[] }:ByteArray),SV.bool true] 6)) t u).2.2.2=0)) then false else true) then false else true) (cond (bif (bif (decide ((m19 (m20 b g d i).1 (m20 b g d i).2.1 (m20 b g d i).2.2.1 (m20 b g d i).2.2.2 ((m21r o p).1+1) ((m21r o p).2.2.app (m21r o p).1 (datS [V Z 0,V Z u,SV.str t,SV.str (v.ss x.toNat 1),SV.str ({ data:=#[] }:ByteArray),SV.bool true] 6)) t u).2.2.2=0)) then false else true) then false else true) (cond (bif (bif (decide ((m19 (m20 b g d i).1 (m20 b g d i).2.1 (m20 b g d i).2.2.1 (m20 b g d i).2.2.2 ((m21r o p).1+1) ((m21r o p).2.2.app (m21r o p).1 (datS [V Z 0,V Z u,SV.str t,SV.str (v.ss x.toNat 1),SV.str ({ data:=#[] }:ByteArray),SV.bool true] 6)) t u).2.2.2=0)) then false else true) then false else true) (cond (decide ((0:Int)≤(0:Int)∧(0:Int)≤x∧x≤(↑A:Int))) (cond (bif (bif (decide ((m19 (m20 b g d i).1 (m20 b g d i).2.1 (m20 b g d i).2.2.1 (m20 b g d i).2.2.2 ((m21r o p).1+1) ((m21r o p).2.2.app (m21r o p).1 (datS [V Z 0,V Z u,SV.str t,SV.str (v.ss x.toNat 1),SV.str ({ data:=#[] }:ByteArray),SV.bool true] 6)) t u).2.2.2=0)) then false else true) then false else true) (cond (decide ((0+((x - 0).toNat))≤1073741824)) (cond (bif (bif (decide ((m19 (m20 b g d i).1 (m20 b g d i).2.1 (m20 b g d i).2.2.1 (m20 b g d i).2.2.2 ((m21r o p).1+1) ((m21r o p).2.2.app (m21r o p).1 (datS [V Z 0,V Z u,SV.str t,SV.str (v.ss x.toNat 1),SV.str ({ data:=#[] }:ByteArray),SV.bool true] 6)) t u).2.2.2=0)) then false else true) then false else true) (cond (bif (bif (decide ((m19 (m20 b g d i).1 (m20 b g d i).2.1 (m20 b g d i).2.2.1 (m20 b g d i).2.2.2 ((m21r o p).1+1) ((m21r o p).2.2.app (m21r o p).1 (datS [V Z 0,V Z u,SV.str t,SV.str (v.ss x.toNat 1),SV.str ({ data:=#[] }:ByteArray),SV.bool true] 6)) t u).2.2.2=0)) then false else true) then false else true) (cond (bif (bif (decide ((m19 (m20 b g d i).1 (m20 b g d i).2.1 (m20 b g d i).2.2.1 (m20 b g d i).2.2.2 ((m21r o p).1+1) ((m21r o p).2.2.app (m21r o p).1 (datS [V Z 0,V Z u,SV.str t,SV.str (v.ss x.toNat 1),SV.str ({ data:=#[] }:ByteArray),SV.bool true] 6)) t u).2.2.2=0)) then false else true) then false else true) (cond (bif (bif (decide ((m19 (m20 b g d i).1 (m20 b g d i).2.1 (m20 b g d i).2.2.1 (m20 b g d i).2.2.2 ((m21r o p).1+1) ((m21r o p).2.2.app (m21r o p).1 (datS [V Z 0,V Z u,SV.str t,SV.str (v.ss x.toNat 1),SV.str ({ data:=#[] }:ByteArray),SV.bool true] 6)) t u).2.2.2=0)) then false else true) then false else true) (cond (decide (0≤Z.wrap (x+1)∧Z.wrap (x+1)≤(↑A:Int)∧(↑A:Int)≤(↑A:Int))) (cond (bif (bif (decide ((m19 (m20 b g d i).1 (m20 b g d i).2.1 (m20 b g d i).2.2.1 (m20 b g d i).2.2.2 ((m21r o p).1+1) ((m21r o p).2.2.app (m21r o p).1 (datS [V Z 0,V Z u,SV.str t,SV.str (v.ss x.toNat 1),SV.str ({ data:=#[] }:ByteArray),SV.bool true] 6)) t u).2.2.2=0)) then false else true) then false else true) (cond (decide (((0+((x - 0).toNat))+(((↑A:Int) - (Z.wrap (x+1))).toNat))≤1073741824)) (cond (bif (bif (decide ((m19 (m20 b g d i).1 (m20 b g d i).2.1 (m20 b g d i).2.2.1 (m20 b g d i).2.2.2 ((m21r o p).1+1) ((m21r o p).2.2.app (m21r o p).1 (datS [V Z 0,V Z u,SV.str t,SV.str (v.ss x.toNat 1),SV.str ({ data:=#[] }:ByteArray),SV.bool true] 6)) t u).2.2.2=0)) then false else true) then false else true) (cond (decide ((0+((0+((x - 0).toNat))+(((↑A:Int) - (Z.wrap (x+1))).toNat)))≤((0+((x - 0).toNat))+(((↑A:Int) - (Z.wrap (x+1))).toNat)))) (cond (n26 (m19 (m20 b g d i).1 (m20 b g d i).2.1 (m20 b g d i).2.2.1 (m20 b g d i).2.2.2 ((m21r o p).1+1) ((m21r o p).2.2.app (m21r o p).1 (datS [V Z 0,V Z u,SV.str t,SV.str (v.ss x.toNat 1),SV.str ({ data:=#[] }:ByteArray),SV.bool true] 6)) t u).2.1 (m19 (m20 b g d i).1 (m20 b g d i).2.1 (m20 b g d i).2.2.1 (m20 b g d i).2.2.2 ((m21r o p).1+1) ((m21r o p).2.2.app (m21r o p).1 (datS [V Z 0,V Z u,SV.str t,SV.str (v.ss x.toNat 1),SV.str ({ data:=#[] }:ByteArray),SV.bool true] 6)) t u).2.2.1 ((0+((x - 0).toNat))+(((↑A:Int) - (Z.wrap (x+1))).toNat)) (((datS [] 4).app 0 v).app (0+((x - 0).toNat)) (v.shift ((Z.wrap (x+1)).toNat)))) (cond (bif (bif (decide ((m19 (m20 b g d i).1 (m20 b g d i).2.1 (m20 b g d i).2.2.1 (m20 b g d i).2.2.2 ((m21r o p).1+1) ((m21r o p).2.2.app (m21r o p).1 (datS [V Z 0,V Z u,SV.str t,SV.str (v.ss x.toNat 1),SV.str ({ data:=#[] }:ByteArray),SV.bool true] 6)) t u).2.2.2=0)) then false else true) then false else true) (cond (bif (bif (decide ((m19 (m20 b g d i).1 (m20 b g d i).2.1 (m20 b g d i).2.2.1 (m20 b g d i).2.2.2 ((m21r o p).1+1) ((m21r o p).2.2.app (m21r o p).1 (datS [V Z 0,V Z u,SV.str t,SV.str (v.ss x.toNat 1),SV.str ({ data:=#[] }:ByteArray),SV.bool true] 6)) t u).2.2.2=0)) then false else true) then true else (bif (m26 (m19 (m20 b g d i).1 (m20 b g d i).2.1 (m20 b g d i).2.2.1 (m20 b g d i).2.2.2 ((m21r o p).1+1) ((m21r o p).2.2.app (m21r o p).1 (datS [V Z 0,V Z u,SV.str t,SV.str (v.ss x.toNat 1),SV.str ({ data:=#[] }:ByteArray),SV.bool true] 6)) t u).2.1 (m19 (m20 b g d i).1 (m20 b g d i).2.1 (m20 b g d i).2.2.1 (m20 b g d i).2.2.2 ((m21r o p).1+1) ((m21r o p).2.2.app (m21r o p).1 (datS [V Z 0,V Z u,SV.str t,SV.str (v.ss x.toNat 1),SV.str ({ data:=#[] }:ByteArray),SV.bool true] 6)) t u).2.2.1 ((0+((x - 0).toNat))+(((↑A:Int) - (Z.wrap (x+1))).toNat)) (((datS [] 4).app 0 v).app (0+((x - 0).toNat)) (v.shift ((Z.wrap (x+1)).toNat)))) then false else true)) (some (true,false,default)) (l4r_4 o p A v b g d i t u f (Z.wrap (x+1)))) none) none) none) none) none) none) none) none) none) none) none) none) none) none) none) none) none) none) none))) none) none) none) none) none) none)) none) (some (false,default,())))
abbrev o4r_4 (o:Nat) (p:Dat) (A:Nat) (v:Dat) (b:Nat) (g:Dat) (d:Nat) (i:Dat) (t:ByteArray) (u x:Int):Option (Bool × (Bool) × (Unit)):=l4r_4 o p A v b g d i t u (o+A+x.toNat+b+d+t.size+u.toNat+8) x
def e4r_4 (o:Nat) (p:Dat) (A:Nat) (v:Dat) (b:Nat) (g:Dat) (d:Nat) (i:Dat) (t:ByteArray) (u:Int) (r:Bool × (Bool) × (Unit)) (K:XR):Prop:=cnd r.1 (K (XE.ret) [.bool r.2.1] [.cells 25 [.ro [.str,W Z,W Z] b g,.ro [.str,W Z,W Z,W Z] d i],.cells 28 [.str t,V Z u]]) (K (XE.exit 4) [.any] [.cells 25 [.ro [.str,W Z,W Z] b g,.ro [.str,W Z,W Z,W Z] d i],.cells 28 [.str t,V Z u]])
def g4r_4:LSum:=fun s k=>match czv 0 192 [1,3,5,8,16] 2 [] s with
 | some ([.ro [W Z,W Z,.str,.str,.str,.bool] o p,.ptr 0 0,.ptr 1 0,.ro [W Z,.str,.str,W Z] A v,V Z x],[.cells 25 [.ro [.str,W Z,W Z] b g,.ro [.str,W Z,W Z,W Z] d i],.cells 28 [.str t,V Z u]])=>needs [(o4r_4 o p A v b g d i t u x).isSome] (e4r_4 o p A v b g d i t u ((o4r_4 o p A v b g d i t u x).getD default) fun e vs bs=>inBlk 4 k e (mkSt 0 192 [6] vs 2 bs))
 | _=>False
theorem z4r_4:LOk Try.prog g4r_4 (.block 4 (bodyAt (Try.f4.body.getD .skip) 4)):=by
 refine lb (ι:=Nat × Dat × Nat × Dat × Int × Nat × Dat × Nat × Dat × ByteArray × Int) (fuel:=8) (na:=0) (nt:=192) (nx:=2) (Lh:=[1,3,5,8,16]) (Le:=[6]) (gl:=[]) (tc kSeal4 (tc k17 (tc k18 (tc k19 (tc k20 (tc k21 (tc k21r (tc k26 tn)))))))) mix_ok (lam_of rfl (lc z4r_2 (lc z4r_0 ln))) rfl (fun f (o,p,A,v,x,b,g,d,i,t,u) K=>GG default (e4r_4 o p A v b g d i t u) K (l4r_4 o p A v b g d i t u f x)) (fun (o,p,A,v,x,b,g,d,i,t,u)=>[.ro [W Z,W Z,.str,.str,.str,.bool] o p,.ptr 0 0,.ptr 1 0,.ro [W Z,.str,.str,W Z] A v,V Z x]) (fun (o,p,A,v,x,b,g,d,i,t,u)=>[.cells 25 [.ro [.str,W Z,W Z] b g,.ro [.str,W Z,W Z,W Z] d i],.cells 28 [.str t,V Z u]]) (fun (_,_,_,_,_,_,_,_,_,_,_) K=>gg_none) ?_ ?_
 ·rintro f ⟨o,p,A,v,x,b,g,d,i,t,u⟩ K hG
  refine ro (fun R=>(cnd (bif (bif (decide (x<(↑A:Int))) then (decide (x<8)) else false) then (decide ((↑o:Int)<12)) else false)
 (cnd (decide (0≤x∧x<↑A))
 (cnd (decide ((v.ii x.toNat 0)=3))
 (R (XE.normal) [.ro [W Z,W Z,.str,.str,.str,.bool] o p,.ptr 0 0,.ptr 1 0,.ro [W Z,.str,.str,W Z] A v,V Z (Z.wrap (x+1))] [.cells 25 [.ro [.str,W Z,W Z] b g,.ro [.str,W Z,W Z,W Z] d i],.cells 28 [.str t,V Z u]])
  (False ∨
 (cnd (n21r o p)
 (cnd (decide (0≤x∧x<↑A))
 (cnd (decide ((m21r o p).1≤(m21r o p).2.1))
 (cnd (decide (((m21r o p).1+1)≤1073741824))
 (cnd (decide (((m21r o p).1+1)≤((m21r o p).1+1)))
 (cnd (n20 b g d i)
 (cnd (n19 (m20 b g d i).1 (m20 b g d i).2.1 (m20 b g d i).2.2.1 (m20 b g d i).2.2.2 ((m21r o p).1+1) ((m21r o p).2.2.app (m21r o p).1 (datS [V Z 0,V Z u,SV.str t,SV.str (v.ss x.toNat 1),SV.str ({ data:=#[] }:ByteArray),SV.bool true] 6)) t u)
 (cnd (decide ((m19 (m20 b g d i).1 (m20 b g d i).2.1 (m20 b g d i).2.2.1 (m20 b g d i).2.2.2 ((m21r o p).1+1) ((m21r o p).2.2.app (m21r o p).1 (datS [V Z 0,V Z u,SV.str t,SV.str (v.ss x.toNat 1),SV.str ({ data:=#[] }:ByteArray),SV.bool true] 6)) t u).2.2.2=19))
 (R (XE.normal) [.ro [W Z,W Z,.str,.str,.str,.bool] o p,.ptr 0 0,.ptr 1 0,.ro [W Z,.str,.str,W Z] A v,V Z (Z.wrap (x+1))] [.cells 25 [.ro [.str,W Z,W Z] b g,.ro [.str,W Z,W Z,W Z] d i],.cells 28 [.str t,V Z u]])
 (cnd (bif (decide ((m19 (m20 b g d i).1 (m20 b g d i).2.1 (m20 b g d i).2.2.1 (m20 b g d i).2.2.2 ((m21r o p).1+1) ((m21r o p).2.2.app (m21r o p).1 (datS [V Z 0,V Z u,SV.str t,SV.str (v.ss x.toNat 1),SV.str ({ data:=#[] }:ByteArray),SV.bool true] 6)) t u).2.2.2=0)) then false else true)
 (cnd (bif (decide ((m19 (m20 b g d i).1 (m20 b g d i).2.1 (m20 b g d i).2.2.1 (m20 b g d i).2.2.2 ((m21r o p).1+1) ((m21r o p).2.2.app (m21r o p).1 (datS [V Z 0,V Z u,SV.str t,SV.str (v.ss x.toNat 1),SV.str ({ data:=#[] }:ByteArray),SV.bool true] 6)) t u).2.2.2=0)) then false else true)
 (cnd (bif (decide ((m19 (m20 b g d i).1 (m20 b g d i).2.1 (m20 b g d i).2.2.1 (m20 b g d i).2.2.2 ((m21r o p).1+1) ((m21r o p).2.2.app (m21r o p).1 (datS [V Z 0,V Z u,SV.str t,SV.str (v.ss x.toNat 1),SV.str ({ data:=#[] }:ByteArray),SV.bool true] 6)) t u).2.2.2=0)) then false else true)
 (cnd (bif (decide ((m19 (m20 b g d i).1 (m20 b g d i).2.1 (m20 b g d i).2.2.1 (m20 b g d i).2.2.2 ((m21r o p).1+1) ((m21r o p).2.2.app (m21r o p).1 (datS [V Z 0,V Z u,SV.str t,SV.str (v.ss x.toNat 1),SV.str ({ data:=#[] }:ByteArray),SV.bool true] 6)) t u).2.2.2=0)) then false else true)
 (cnd (bif (decide ((m19 (m20 b g d i).1 (m20 b g d i).2.1 (m20 b g d i).2.2.1 (m20 b g d i).2.2.2 ((m21r o p).1+1) ((m21r o p).2.2.app (m21r o p).1 (datS [V Z 0,V Z u,SV.str t,SV.str (v.ss x.toNat 1),SV.str ({ data:=#[] }:ByteArray),SV.bool true] 6)) t u).2.2.2=0)) then false else true)
 (cnd (bif (decide ((m19 (m20 b g d i).1 (m20 b g d i).2.1 (m20 b g d i).2.2.1 (m20 b g d i).2.2.2 ((m21r o p).1+1) ((m21r o p).2.2.app (m21r o p).1 (datS [V Z 0,V Z u,SV.str t,SV.str (v.ss x.toNat 1),SV.str ({ data:=#[] }:ByteArray),SV.bool true] 6)) t u).2.2.2=0)) then false else true)
 (cnd (bif (decide ((m19 (m20 b g d i).1 (m20 b g d i).2.1 (m20 b g d i).2.2.1 (m20 b g d i).2.2.2 ((m21r o p).1+1) ((m21r o p).2.2.app (m21r o p).1 (datS [V Z 0,V Z u,SV.str t,SV.str (v.ss x.toNat 1),SV.str ({ data:=#[] }:ByteArray),SV.bool true] 6)) t u).2.2.2=0)) then false else true)
 (cnd (bif (decide ((m19 (m20 b g d i).1 (m20 b g d i).2.1 (m20 b g d i).2.2.1 (m20 b g d i).2.2.2 ((m21r o p).1+1) ((m21r o p).2.2.app (m21r o p).1 (datS [V Z 0,V Z u,SV.str t,SV.str (v.ss x.toNat 1),SV.str ({ data:=#[] }:ByteArray),SV.bool true] 6)) t u).2.2.2=0)) then false else true)
 (cnd (bif (decide ((m19 (m20 b g d i).1 (m20 b g d i).2.1 (m20 b g d i).2.2.1 (m20 b g d i).2.2.2 ((m21r o p).1+1) ((m21r o p).2.2.app (m21r o p).1 (datS [V Z 0,V Z u,SV.str t,SV.str (v.ss x.toNat 1),SV.str ({ data:=#[] }:ByteArray),SV.bool true] 6)) t u).2.2.2=0)) then false else true)
 (cnd (bif (decide ((m19 (m20 b g d i).1 (m20 b g d i).2.1 (m20 b g d i).2.2.1 (m20 b g d i).2.2.2 ((m21r o p).1+1) ((m21r o p).2.2.app (m21r o p).1 (datS [V Z 0,V Z u,SV.str t,SV.str (v.ss x.toNat 1),SV.str ({ data:=#[] }:ByteArray),SV.bool true] 6)) t u).2.2.2=0)) then false else true)
 (cnd (bif (decide ((m19 (m20 b g d i).1 (m20 b g d i).2.1 (m20 b g d i).2.2.1 (m20 b g d i).2.2.2 ((m21r o p).1+1) ((m21r o p).2.2.app (m21r o p).1 (datS [V Z 0,V Z u,SV.str t,SV.str (v.ss x.toNat 1),SV.str ({ data:=#[] }:ByteArray),SV.bool true] 6)) t u).2.2.2=0)) then false else true)
 (cnd (bif (decide ((m19 (m20 b g d i).1 (m20 b g d i).2.1 (m20 b g d i).2.2.1 (m20 b g d i).2.2.2 ((m21r o p).1+1) ((m21r o p).2.2.app (m21r o p).1 (datS [V Z 0,V Z u,SV.str t,SV.str (v.ss x.toNat 1),SV.str ({ data:=#[] }:ByteArray),SV.bool true] 6)) t u).2.2.2=0)) then false else true)
 (cnd (bif (decide ((m19 (m20 b g d i).1 (m20 b g d i).2.1 (m20 b g d i).2.2.1 (m20 b g d i).2.2.2 ((m21r o p).1+1) ((m21r o p).2.2.app (m21r o p).1 (datS [V Z 0,V Z u,SV.str t,SV.str (v.ss x.toNat 1),SV.str ({ data:=#[] }:ByteArray),SV.bool true] 6)) t u).2.2.2=0)) then false else true)
 (cnd (bif (decide ((m19 (m20 b g d i).1 (m20 b g d i).2.1 (m20 b g d i).2.2.1 (m20 b g d i).2.2.2 ((m21r o p).1+1) ((m21r o p).2.2.app (m21r o p).1 (datS [V Z 0,V Z u,SV.str t,SV.str (v.ss x.toNat 1),SV.str ({ data:=#[] }:ByteArray),SV.bool true] 6)) t u).2.2.2=0)) then false else true)
 (cnd (bif (bif (decide ((m19 (m20 b g d i).1 (m20 b g d i).2.1 (m20 b g d i).2.2.1 (m20 b g d i).2.2.2 ((m21r o p).1+1) ((m21r o p).2.2.app (m21r o p).1 (datS [V Z 0,V Z u,SV.str t,SV.str (v.ss x.toNat 1),SV.str ({ data:=#[] }:ByteArray),SV.bool true] 6)) t u).2.2.2=0)) then false else true) then true else true)
 (R (XE.ret) [.bool false] [.cells 25 [.ro [.str,W Z,W Z] b g,.ro [.str,W Z,W Z,W Z] d i],.cells 28 [.str t,V Z u]])
 (R (XE.normal) [.ro [W Z,W Z,.str,.str,.str,.bool] o p,.ptr 0 0,.ptr 1 0,.ro [W Z,.str,.str,W Z] A v,V Z (Z.wrap (x+1))] [.cells 25 [.ro [.str,W Z,W Z] b g,.ro [.str,W Z,W Z,W Z] d i],.cells 28 [.str t,V Z u]]))
              False)
             False)
             False)
            False)
            False)
           False)
           False)
          False)
          False)
         False)
         False)
        False)
        False)
 (cnd (bif (bif (decide ((m19 (m20 b g d i).1 (m20 b g d i).2.1 (m20 b g d i).2.2.1 (m20 b g d i).2.2.2 ((m21r o p).1+1) ((m21r o p).2.2.app (m21r o p).1 (datS [V Z 0,V Z u,SV.str t,SV.str (v.ss x.toNat 1),SV.str ({ data:=#[] }:ByteArray),SV.bool true] 6)) t u).2.2.2=0)) then false else true) then false else true)
 (cnd (bif (bif (decide ((m19 (m20 b g d i).1 (m20 b g d i).2.1 (m20 b g d i).2.2.1 (m20 b g d i).2.2.2 ((m21r o p).1+1) ((m21r o p).2.2.app (m21r o p).1 (datS [V Z 0,V Z u,SV.str t,SV.str (v.ss x.toNat 1),SV.str ({ data:=#[] }:ByteArray),SV.bool true] 6)) t u).2.2.2=0)) then false else true) then false else true)
 (cnd (bif (bif (decide ((m19 (m20 b g d i).1 (m20 b g d i).2.1 (m20 b g d i).2.2.1 (m20 b g d i).2.2.2 ((m21r o p).1+1) ((m21r o p).2.2.app (m21r o p).1 (datS [V Z 0,V Z u,SV.str t,SV.str (v.ss x.toNat 1),SV.str ({ data:=#[] }:ByteArray),SV.bool true] 6)) t u).2.2.2=0)) then false else true) then false else true)
 (cnd (bif (bif (decide ((m19 (m20 b g d i).1 (m20 b g d i).2.1 (m20 b g d i).2.2.1 (m20 b g d i).2.2.2 ((m21r o p).1+1) ((m21r o p).2.2.app (m21r o p).1 (datS [V Z 0,V Z u,SV.str t,SV.str (v.ss x.toNat 1),SV.str ({ data:=#[] }:ByteArray),SV.bool true] 6)) t u).2.2.2=0)) then false else true) then false else true)
 (cnd (bif (bif (decide ((m19 (m20 b g d i).1 (m20 b g d i).2.1 (m20 b g d i).2.2.1 (m20 b g d i).2.2.2 ((m21r o p).1+1) ((m21r o p).2.2.app (m21r o p).1 (datS [V Z 0,V Z u,SV.str t,SV.str (v.ss x.toNat 1),SV.str ({ data:=#[] }:ByteArray),SV.bool true] 6)) t u).2.2.2=0)) then false else true) then false else true)
 (cnd (decide ((0:Int)≤(0:Int)∧(0:Int)≤x∧x≤(↑A:Int)))
 (cnd (bif (bif (decide ((m19 (m20 b g d i).1 (m20 b g d i).2.1 (m20 b g d i).2.2.1 (m20 b g d i).2.2.2 ((m21r o p).1+1) ((m21r o p).2.2.app (m21r o p).1 (datS [V Z 0,V Z u,SV.str t,SV.str (v.ss x.toNat 1),SV.str ({ data:=#[] }:ByteArray),SV.bool true] 6)) t u).2.2.2=0)) then false else true) then false else true)
 (cnd (decide ((0+((x - 0).toNat))≤1073741824))
 (cnd (bif (bif (decide ((m19 (m20 b g d i).1 (m20 b g d i).2.1 (m20 b g d i).2.2.1 (m20 b g d i).2.2.2 ((m21r o p).1+1) ((m21r o p).2.2.app (m21r o p).1 (datS [V Z 0,V Z u,SV.str t,SV.str (v.ss x.toNat 1),SV.str ({ data:=#[] }:ByteArray),SV.bool true] 6)) t u).2.2.2=0)) then false else true) then false else true)
 (cnd (bif (bif (decide ((m19 (m20 b g d i).1 (m20 b g d i).2.1 (m20 b g d i).2.2.1 (m20 b g d i).2.2.2 ((m21r o p).1+1) ((m21r o p).2.2.app (m21r o p).1 (datS [V Z 0,V Z u,SV.str t,SV.str (v.ss x.toNat 1),SV.str ({ data:=#[] }:ByteArray),SV.bool true] 6)) t u).2.2.2=0)) then false else true) then false else true)
 (cnd (bif (bif (decide ((m19 (m20 b g d i).1 (m20 b g d i).2.1 (m20 b g d i).2.2.1 (m20 b g d i).2.2.2 ((m21r o p).1+1) ((m21r o p).2.2.app (m21r o p).1 (datS [V Z 0,V Z u,SV.str t,SV.str (v.ss x.toNat 1),SV.str ({ data:=#[] }:ByteArray),SV.bool true] 6)) t u).2.2.2=0)) then false else true) then false else true)
 (cnd (bif (bif (decide ((m19 (m20 b g d i).1 (m20 b g d i).2.1 (m20 b g d i).2.2.1 (m20 b g d i).2.2.2 ((m21r o p).1+1) ((m21r o p).2.2.app (m21r o p).1 (datS [V Z 0,V Z u,SV.str t,SV.str (v.ss x.toNat 1),SV.str ({ data:=#[] }:ByteArray),SV.bool true] 6)) t u).2.2.2=0)) then false else true) then false else true)
 (cnd (decide (0≤Z.wrap (x+1)∧Z.wrap (x+1)≤(↑A:Int)∧(↑A:Int)≤(↑A:Int)))
 (cnd (bif (bif (decide ((m19 (m20 b g d i).1 (m20 b g d i).2.1 (m20 b g d i).2.2.1 (m20 b g d i).2.2.2 ((m21r o p).1+1) ((m21r o p).2.2.app (m21r o p).1 (datS [V Z 0,V Z u,SV.str t,SV.str (v.ss x.toNat 1),SV.str ({ data:=#[] }:ByteArray),SV.bool true] 6)) t u).2.2.2=0)) then false else true) then false else true)
 (cnd (decide ((0+((x - 0).toNat))≤(0+((x - 0).toNat))))
 (cnd (decide (((0+((x - 0).toNat))+(((↑A:Int) - (Z.wrap (x+1))).toNat))≤1073741824))
 (cnd (bif (bif (decide ((m19 (m20 b g d i).1 (m20 b g d i).2.1 (m20 b g d i).2.2.1 (m20 b g d i).2.2.2 ((m21r o p).1+1) ((m21r o p).2.2.app (m21r o p).1 (datS [V Z 0,V Z u,SV.str t,SV.str (v.ss x.toNat 1),SV.str ({ data:=#[] }:ByteArray),SV.bool true] 6)) t u).2.2.2=0)) then false else true) then false else true)
 (cnd (decide ((0+((0+((x - 0).toNat))+(((↑A:Int) - (Z.wrap (x+1))).toNat)))≤((0+((x - 0).toNat))+(((↑A:Int) - (Z.wrap (x+1))).toNat))))
 (cnd (n26 (m19 (m20 b g d i).1 (m20 b g d i).2.1 (m20 b g d i).2.2.1 (m20 b g d i).2.2.2 ((m21r o p).1+1) ((m21r o p).2.2.app (m21r o p).1 (datS [V Z 0,V Z u,SV.str t,SV.str (v.ss x.toNat 1),SV.str ({ data:=#[] }:ByteArray),SV.bool true] 6)) t u).2.1 (m19 (m20 b g d i).1 (m20 b g d i).2.1 (m20 b g d i).2.2.1 (m20 b g d i).2.2.2 ((m21r o p).1+1) ((m21r o p).2.2.app (m21r o p).1 (datS [V Z 0,V Z u,SV.str t,SV.str (v.ss x.toNat 1),SV.str ({ data:=#[] }:ByteArray),SV.bool true] 6)) t u).2.2.1 ((0+((x - 0).toNat))+(((↑A:Int) - (Z.wrap (x+1))).toNat)) (((datS [] 4).app 0 v).app (0+((x - 0).toNat)) (v.shift ((Z.wrap (x+1)).toNat))))
 (cnd (bif (bif (decide ((m19 (m20 b g d i).1 (m20 b g d i).2.1 (m20 b g d i).2.2.1 (m20 b g d i).2.2.2 ((m21r o p).1+1) ((m21r o p).2.2.app (m21r o p).1 (datS [V Z 0,V Z u,SV.str t,SV.str (v.ss x.toNat 1),SV.str ({ data:=#[] }:ByteArray),SV.bool true] 6)) t u).2.2.2=0)) then false else true) then false else true)
 (cnd (bif (bif (decide ((m19 (m20 b g d i).1 (m20 b g d i).2.1 (m20 b g d i).2.2.1 (m20 b g d i).2.2.2 ((m21r o p).1+1) ((m21r o p).2.2.app (m21r o p).1 (datS [V Z 0,V Z u,SV.str t,SV.str (v.ss x.toNat 1),SV.str ({ data:=#[] }:ByteArray),SV.bool true] 6)) t u).2.2.2=0)) then false else true) then true else (bif (m26 (m19 (m20 b g d i).1 (m20 b g d i).2.1 (m20 b g d i).2.2.1 (m20 b g d i).2.2.2 ((m21r o p).1+1) ((m21r o p).2.2.app (m21r o p).1 (datS [V Z 0,V Z u,SV.str t,SV.str (v.ss x.toNat 1),SV.str ({ data:=#[] }:ByteArray),SV.bool true] 6)) t u).2.1 (m19 (m20 b g d i).1 (m20 b g d i).2.1 (m20 b g d i).2.2.1 (m20 b g d i).2.2.2 ((m21r o p).1+1) ((m21r o p).2.2.app (m21r o p).1 (datS [V Z 0,V Z u,SV.str t,SV.str (v.ss x.toNat 1),SV.str ({ data:=#[] }:ByteArray),SV.bool true] 6)) t u).2.2.1 ((0+((x - 0).toNat))+(((↑A:Int) - (Z.wrap (x+1))).toNat)) (((datS [] 4).app 0 v).app (0+((x - 0).toNat)) (v.shift ((Z.wrap (x+1)).toNat)))) then false else true))
 (R (XE.ret) [.bool false] [.cells 25 [.ro [.str,W Z,W Z] b g,.ro [.str,W Z,W Z,W Z] d i],.cells 28 [.str t,V Z u]])
 (R (XE.normal) [.ro [W Z,W Z,.str,.str,.str,.bool] o p,.ptr 0 0,.ptr 1 0,.ro [W Z,.str,.str,W Z] A v,V Z (Z.wrap (x+1))] [.cells 25 [.ro [.str,W Z,W Z] b g,.ro [.str,W Z,W Z,W Z] d i],.cells 28 [.str t,V Z u]]))
                 False)
                 False)
                False)
                False)
               False)
               False)
              False)
              False)
             False)
             False)
            False)
            False)
           False)
           False)
          False)
          False)
         False)
         False)
        False)
        False)))
      False)
      False)
     False)
     False)
    False)
    False)
   False)))
  False)
 (R (XE.exit 4) [.any] [.cells 25 [.ro [.str,W Z,W Z] b g,.ro [.str,W Z,W Z,W Z] d i],.cells 28 [.str t,V Z u]]))) (fun R=>by kernel_rfl) ?_
  exact ch hG (fun h0=>cg h0 fun h1=>ch h1 (fun h2=>⟨(_,_,_,_,_,_,_,_,_,_,_),rfl,rfl,h2⟩) (fun h2=>Or.inr (cg h2 fun h3=>cg h3 fun h4=>cg h4 fun h5=>cg h5 fun h6=>cn (decide_eq_true (Nat.le_refl _)) (cg h6 fun h7=>cg h7 fun h8=>ch h8 (fun h9=>⟨(_,_,_,_,_,_,_,_,_,_,_),rfl,rfl,h9⟩) (fun h9=>ch h9 (fun h10=>cg h10 fun h11=>cg h11 fun h12=>cg h12 fun h13=>cg h13 fun h14=>cg h14 fun h15=>cg h15 fun h16=>cg h16 fun h17=>cg h17 fun h18=>cg h18 fun h19=>cg h19 fun h20=>cg h20 fun h21=>cg h21 fun h22=>cg h22 fun h23=>ch h23 (fun h24=>h24.2) (fun h24=>⟨(_,_,_,_,_,_,_,_,_,_,_),rfl,rfl,h24⟩)) (fun h10=>cg h10 fun h11=>cg h11 fun h12=>cg h12 fun h13=>cg h13 fun h14=>cg h14 fun h15=>cg h15 fun h16=>cg h16 fun h17=>cg h17 fun h18=>cg h18 fun h19=>cg h19 fun h20=>cg h20 fun h21=>cg h21 fun h22=>cg h22 fun h23=>cg h23 fun h24=>cn (decide_eq_true (Nat.le_refl _)) (cg h24 fun h25=>cg h25 fun h26=>cg h26 fun h27=>cg h27 fun h28=>cg h28 fun h29=>ch h29 (fun h30=>h30.2) (fun h30=>⟨(_,_,_,_,_,_,_,_,_,_,_),rfl,rfl,h30⟩)))))))) (fun h0=>h0.2)
 ·intro s k h
  unfold g4r_4 at h
  split at h <;> try exact h.elim
  rename_i e1
  rw [needs_iff] at h
  exact ⟨_,e1,_,(_,_,_,_,_,_,_,_,_,_,_),rfl,rfl,h.1 _ (List.mem_singleton.2 rfl),h.2⟩
def m4r (j:Nat) (l:Dat) (m:Nat) (n:Dat) (y:Nat) (z:Dat) (C:ByteArray) (D:Int):Bool :=
 (cond (bif m17 then false else true) false (cond (bif (bif (m18 j l m n y z) then false else true) then true else (decide ((20:Int)<(↑C.size:Int)))) true (cond (bif (bif (decide ((m19 (m20 j l m n).1 (m20 j l m n).2.1 (m20 j l m n).2.2.1 (m20 j l m n).2.2.2 (m21 y z).1 (m21 y z).2 C D).2.2.2=0)) then false else true) then true else (decide (100000≤D))) true (cond (bif (bif (decide ((m19 (m20 j l m n).1 (m20 j l m n).2.1 (m20 j l m n).2.2.1 (m20 j l m n).2.2.2 (m21 y z).1 (m21 y z).2 C (Z.wrap (D+1))).2.2.2=0)) then false else true) then true else (decide ((↑((m19 (m20 j l m n).1 (m20 j l m n).2.1 (m20 j l m n).2.2.1 (m20 j l m n).2.2.2 (m21 y z).1 (m21 y z).2 C (Z.wrap (D+1))).2.1):Int)<(↑((m19 (m20 j l m n).1 (m20 j l m n).2.1 (m20 j l m n).2.2.1 (m20 j l m n).2.2.2 (m21 y z).1 (m21 y z).2 C D).2.1):Int)))) false (cond ((o4r_0 y z (m19 (m20 j l m n).1 (m20 j l m n).2.1 (m20 j l m n).2.2.1 (m20 j l m n).2.2.2 (m21 y z).1 (m21 y z).2 C D).2.1 (m19 (m20 j l m n).1 (m20 j l m n).2.1 (m20 j l m n).2.2.1 (m20 j l m n).2.2.2 (m21 y z).1 (m21 y z).2 C D).2.2.1 (m19 (m20 j l m n).1 (m20 j l m n).2.1 (m20 j l m n).2.2.1 (m20 j l m n).2.2.2 (m21 y z).1 (m21 y z).2 C (Z.wrap (D+1))).2.1 (m19 (m20 j l m n).1 (m20 j l m n).2.1 (m20 j l m n).2.2.1 (m20 j l m n).2.2.2 (m21 y z).1 (m21 y z).2 C (Z.wrap (D+1))).2.2.1 j l m n C D 0).getD default).1 ((o4r_0 y z (m19 (m20 j l m n).1 (m20 j l m n).2.1 (m20 j l m n).2.2.1 (m20 j l m n).2.2.2 (m21 y z).1 (m21 y z).2 C D).2.1 (m19 (m20 j l m n).1 (m20 j l m n).2.1 (m20 j l m n).2.2.1 (m20 j l m n).2.2.2 (m21 y z).1 (m21 y z).2 C D).2.2.1 (m19 (m20 j l m n).1 (m20 j l m n).2.1 (m20 j l m n).2.2.1 (m20 j l m n).2.2.2 (m21 y z).1 (m21 y z).2 C (Z.wrap (D+1))).2.1 (m19 (m20 j l m n).1 (m20 j l m n).2.1 (m20 j l m n).2.2.1 (m20 j l m n).2.2.2 (m21 y z).1 (m21 y z).2 C (Z.wrap (D+1))).2.2.1 j l m n C D 0).getD default).2.1 (cond ((o4r_4 y z (m19 (m20 j l m n).1 (m20 j l m n).2.1 (m20 j l m n).2.2.1 (m20 j l m n).2.2.2 (m21 y z).1 (m21 y z).2 C D).2.1 (m19 (m20 j l m n).1 (m20 j l m n).2.1 (m20 j l m n).2.2.1 (m20 j l m n).2.2.2 (m21 y z).1 (m21 y z).2 C D).2.2.1 j l m n C D 0).getD default).1 ((o4r_4 y z (m19 (m20 j l m n).1 (m20 j l m n).2.1 (m20 j l m n).2.2.1 (m20 j l m n).2.2.2 (m21 y z).1 (m21 y z).2 C D).2.1 (m19 (m20 j l m n).1 (m20 j l m n).2.1 (m20 j l m n).2.2.1 (m20 j l m n).2.2.2 (m21 y z).1 (m21 y z).2 C D).2.2.1 j l m n C D 0).getD default).2.1 true))))))
def n4r (j:Nat) (l:Dat) (m:Nat) (n:Dat) (y:Nat) (z:Dat) (C:ByteArray) (D:Int):Bool :=
 ((n17)&&(cond (bif m17 then false else true) true ((n18 j l m n y z)&&(cond (bif (bif (m18 j l m n y z) then false else true) then true else (decide ((20:Int)<(↑C.size:Int)))) true ((n20 j l m n)&&((n21 y z)&&((n19 (m20 j l m n).1 (m20 j l m n).2.1 (m20 j l m n).2.2.1 (m20 j l m n).2.2.2 (m21 y z).1 (m21 y z).2 C D)&&(cond (bif (bif (decide ((m19 (m20 j l m n).1 (m20 j l m n).2.1 (m20 j l m n).2.2.1 (m20 j l m n).2.2.2 (m21 y z).1 (m21 y z).2 C D).2.2.2=0)) then false else true) then true else (decide (100000≤D))) true ((n20 j l m n)&&((n21 y z)&&((n19 (m20 j l m n).1 (m20 j l m n).2.1 (m20 j l m n).2.2.1 (m20 j l m n).2.2.2 (m21 y z).1 (m21 y z).2 C (Z.wrap (D+1)))&&(cond (bif (bif (decide ((m19 (m20 j l m n).1 (m20 j l m n).2.1 (m20 j l m n).2.2.1 (m20 j l m n).2.2.2 (m21 y z).1 (m21 y z).2 C (Z.wrap (D+1))).2.2.2=0)) then false else true) then true else (decide ((↑((m19 (m20 j l m n).1 (m20 j l m n).2.1 (m20 j l m n).2.2.1 (m20 j l m n).2.2.2 (m21 y z).1 (m21 y z).2 C (Z.wrap (D+1))).2.1):Int)<(↑((m19 (m20 j l m n).1 (m20 j l m n).2.1 (m20 j l m n).2.2.1 (m20 j l m n).2.2.2 (m21 y z).1 (m21 y z).2 C D).2.1):Int)))) true (((o4r_0 y z (m19 (m20 j l m n).1 (m20 j l m n).2.1 (m20 j l m n).2.2.1 (m20 j l m n).2.2.2 (m21 y z).1 (m21 y z).2 C D).2.1 (m19 (m20 j l m n).1 (m20 j l m n).2.1 (m20 j l m n).2.2.1 (m20 j l m n).2.2.2 (m21 y z).1 (m21 y z).2 C D).2.2.1 (m19 (m20 j l m n).1 (m20 j l m n).2.1 (m20 j l m n).2.2.1 (m20 j l m n).2.2.2 (m21 y z).1 (m21 y z).2 C (Z.wrap (D+1))).2.1 (m19 (m20 j l m n).1 (m20 j l m n).2.1 (m20 j l m n).2.2.1 (m20 j l m n).2.2.2 (m21 y z).1 (m21 y z).2 C (Z.wrap (D+1))).2.2.1 j l m n C D 0).isSome)&&(cond ((o4r_0 y z (m19 (m20 j l m n).1 (m20 j l m n).2.1 (m20 j l m n).2.2.1 (m20 j l m n).2.2.2 (m21 y z).1 (m21 y z).2 C D).2.1 (m19 (m20 j l m n).1 (m20 j l m n).2.1 (m20 j l m n).2.2.1 (m20 j l m n).2.2.2 (m21 y z).1 (m21 y z).2 C D).2.2.1 (m19 (m20 j l m n).1 (m20 j l m n).2.1 (m20 j l m n).2.2.1 (m20 j l m n).2.2.2 (m21 y z).1 (m21 y z).2 C (Z.wrap (D+1))).2.1 (m19 (m20 j l m n).1 (m20 j l m n).2.1 (m20 j l m n).2.2.1 (m20 j l m n).2.2.2 (m21 y z).1 (m21 y z).2 C (Z.wrap (D+1))).2.2.1 j l m n C D 0).getD default).1 true (((o4r_4 y z (m19 (m20 j l m n).1 (m20 j l m n).2.1 (m20 j l m n).2.2.1 (m20 j l m n).2.2.2 (m21 y z).1 (m21 y z).2 C D).2.1 (m19 (m20 j l m n).1 (m20 j l m n).2.1 (m20 j l m n).2.2.1 (m20 j l m n).2.2.2 (m21 y z).1 (m21 y z).2 C D).2.2.1 j l m n C D 0).isSome)&&true)))))))))))))))
def q4r (r:Bool):SV × List Blk × List Blk:=(.bool r,[],[])
def g4r:GF:=fun vs bs=>match vs,bs with
 | [.agg [.ro [.str,W Z,W Z] j l,.ro [.str,W Z,W Z,W Z] m n],.ro [W Z,W Z,.str,.str,.str,.bool] y z,.agg [.str C,V Z D]],[]=>some (rs 0 (q4r (m4r j l m n y z C D)) [n4r j l m n y z C D])
 | _,_=>none
def c4r:Ctr:=genC [.a [.ro [.str,W Z,W Z],.ro [.str,W Z,W Z,W Z]],.ro [W Z,W Z,.str,.str,.str,.bool],.k] g4r
theorem k4r:CtrOk Try.prog c4r 4:=cx (tc kSeal4 (tc k17 (tc k18 (tc k19 (tc k20 (tc k21 (tc k21r (tc k26 tn)))))))) mix_ok 8 (fn:=Try.f4) (c:=(Try.f4.body.getD .skip)) (grs:=[]) (rh:=.k) Try.func4 rfl (by kernel_rfl) (lam_of rfl (lc z4r_2 (lc z4r_0 (lc z4r_4 ln)))) fun vs bs q h hn=>by
 unfold g4r at h
 split at h <;> cases h
 rename_i j l m n y z C D
 have hn:=n1 hn
 exact ⟨_,rfl,ca (fun R=>(cnd (n17)
 (cnd (bif m17 then false else true)
 (R (.bool false) [] [])
 (cnd (n18 j l m n y z)
 (cnd (bif (bif (m18 j l m n y z) then false else true) then true else (decide ((20:Int)<(↑C.size:Int))))
 (R (.bool true) [] [])
   ((cnd (n20 j l m n)
 (cnd (n21 y z)
 (cnd (n19 (m20 j l m n).1 (m20 j l m n).2.1 (m20 j l m n).2.2.1 (m20 j l m n).2.2.2 (m21 y z).1 (m21 y z).2 C D)
 (cnd (bif (bif (decide ((m19 (m20 j l m n).1 (m20 j l m n).2.1 (m20 j l m n).2.2.1 (m20 j l m n).2.2.2 (m21 y z).1 (m21 y z).2 C D).2.2.2=0)) then false else true) then true else (decide (100000≤D)))
 (R (.bool true) [] [])
     ((cnd (n20 j l m n)
 (cnd (n21 y z)
 (cnd (n19 (m20 j l m n).1 (m20 j l m n).2.1 (m20 j l m n).2.2.1 (m20 j l m n).2.2.2 (m21 y z).1 (m21 y z).2 C (Z.wrap (D+1)))
 (cnd (bif (bif (decide ((m19 (m20 j l m n).1 (m20 j l m n).2.1 (m20 j l m n).2.2.1 (m20 j l m n).2.2.2 (m21 y z).1 (m21 y z).2 C (Z.wrap (D+1))).2.2.2=0)) then false else true) then true else (decide ((↑((m19 (m20 j l m n).1 (m20 j l m n).2.1 (m20 j l m n).2.2.1 (m20 j l m n).2.2.2 (m21 y z).1 (m21 y z).2 C (Z.wrap (D+1))).2.1):Int)<(↑((m19 (m20 j l m n).1 (m20 j l m n).2.1 (m20 j l m n).2.2.1 (m20 j l m n).2.2.2 (m21 y z).1 (m21 y z).2 C D).2.1):Int))))
 (R (.bool false) [] [])
 (cnd ((o4r_0 y z (m19 (m20 j l m n).1 (m20 j l m n).2.1 (m20 j l m n).2.2.1 (m20 j l m n).2.2.2 (m21 y z).1 (m21 y z).2 C D).2.1 (m19 (m20 j l m n).1 (m20 j l m n).2.1 (m20 j l m n).2.2.1 (m20 j l m n).2.2.2 (m21 y z).1 (m21 y z).2 C D).2.2.1 (m19 (m20 j l m n).1 (m20 j l m n).2.1 (m20 j l m n).2.2.1 (m20 j l m n).2.2.2 (m21 y z).1 (m21 y z).2 C (Z.wrap (D+1))).2.1 (m19 (m20 j l m n).1 (m20 j l m n).2.1 (m20 j l m n).2.2.1 (m20 j l m n).2.2.2 (m21 y z).1 (m21 y z).2 C (Z.wrap (D+1))).2.2.1 j l m n C D 0).isSome)
 (cnd ((o4r_0 y z (m19 (m20 j l m n).1 (m20 j l m n).2.1 (m20 j l m n).2.2.1 (m20 j l m n).2.2.2 (m21 y z).1 (m21 y z).2 C D).2.1 (m19 (m20 j l m n).1 (m20 j l m n).2.1 (m20 j l m n).2.2.1 (m20 j l m n).2.2.2 (m21 y z).1 (m21 y z).2 C D).2.2.1 (m19 (m20 j l m n).1 (m20 j l m n).2.1 (m20 j l m n).2.2.1 (m20 j l m n).2.2.2 (m21 y z).1 (m21 y z).2 C (Z.wrap (D+1))).2.1 (m19 (m20 j l m n).1 (m20 j l m n).2.1 (m20 j l m n).2.2.1 (m20 j l m n).2.2.2 (m21 y z).1 (m21 y z).2 C (Z.wrap (D+1))).2.2.1 j l m n C D 0).getD default).1
 (R (.bool ((o4r_0 y z (m19 (m20 j l m n).1 (m20 j l m n).2.1 (m20 j l m n).2.2.1 (m20 j l m n).2.2.2 (m21 y z).1 (m21 y z).2 C D).2.1 (m19 (m20 j l m n).1 (m20 j l m n).2.1 (m20 j l m n).2.2.1 (m20 j l m n).2.2.2 (m21 y z).1 (m21 y z).2 C D).2.2.1 (m19 (m20 j l m n).1 (m20 j l m n).2.1 (m20 j l m n).2.2.1 (m20 j l m n).2.2.2 (m21 y z).1 (m21 y z).2 C (Z.wrap (D+1))).2.1 (m19 (m20 j l m n).1 (m20 j l m n).2.1 (m20 j l m n).2.2.1 (m20 j l m n).2.2.2 (m21 y z).1 (m21 y z).2 C (Z.wrap (D+1))).2.2.1 j l m n C D 0).getD default).2.1) [] [])
 (cnd ((o4r_4 y z (m19 (m20 j l m n).1 (m20 j l m n).2.1 (m20 j l m n).2.2.1 (m20 j l m n).2.2.2 (m21 y z).1 (m21 y z).2 C D).2.1 (m19 (m20 j l m n).1 (m20 j l m n).2.1 (m20 j l m n).2.2.1 (m20 j l m n).2.2.2 (m21 y z).1 (m21 y z).2 C D).2.2.1 j l m n C D 0).isSome)
 (cnd ((o4r_4 y z (m19 (m20 j l m n).1 (m20 j l m n).2.1 (m20 j l m n).2.2.1 (m20 j l m n).2.2.2 (m21 y z).1 (m21 y z).2 C D).2.1 (m19 (m20 j l m n).1 (m20 j l m n).2.1 (m20 j l m n).2.2.1 (m20 j l m n).2.2.2 (m21 y z).1 (m21 y z).2 C D).2.2.1 j l m n C D 0).getD default).1
 (R (.bool ((o4r_4 y z (m19 (m20 j l m n).1 (m20 j l m n).2.1 (m20 j l m n).2.2.1 (m20 j l m n).2.2.2 (m21 y z).1 (m21 y z).2 C D).2.1 (m19 (m20 j l m n).1 (m20 j l m n).2.1 (m20 j l m n).2.2.1 (m20 j l m n).2.2.2 (m21 y z).1 (m21 y z).2 C D).2.2.1 j l m n C D 0).getD default).2.1) [] [])
 (R (.bool true) [] []))
         False))
        False))
       False)
       False)
      False) ∨
      False))
     False)
    False)
    False) ∨
   False))
  False))
 False)) (fun R=>by kernel_rfl) (cn (al hn) (co (fun h0=>lf (cT h0 rfl) rfl) (fun h0=>cn (al (cf h0 (ar hn))) (co (fun h1=>lf (cF h0 (cT h1 rfl)) rfl) (fun h1=>Or.inl (cn (al (cf h1 (ar (cf h0 (ar hn))))) (cn (al (ar (cf h1 (ar (cf h0 (ar hn)))))) (cn (al (ar (ar (cf h1 (ar (cf h0 (ar hn))))))) (co (fun h2=>lf (cF h0 (cF h1 (cT h2 rfl))) rfl) (fun h2=>Or.inl (cn (al (cf h2 (ar (ar (ar (cf h1 (ar (cf h0 (ar hn))))))))) (cn (al (ar (cf h2 (ar (ar (ar (cf h1 (ar (cf h0 (ar hn)))))))))) (cn (al (ar (ar (cf h2 (ar (ar (ar (cf h1 (ar (cf h0 (ar hn))))))))))) (co (fun h3=>lf (cF h0 (cF h1 (cF h2 (cT h3 rfl)))) rfl) (fun h3=>cn (al (cf h3 (ar (ar (ar (cf h2 (ar (ar (ar (cf h1 (ar (cf h0 (ar hn))))))))))))) (co (fun h4=>lf (cF h0 (cF h1 (cF h2 (cF h3 (cT h4 rfl))))) rfl) (fun h4=>cn (al (cf h4 (ar (cf h3 (ar (ar (ar (cf h2 (ar (ar (ar (cf h1 (ar (cf h0 (ar hn))))))))))))))) (co (fun h5=>lf (cF h0 (cF h1 (cF h2 (cF h3 (cF h4 (cT h5 rfl)))))) rfl) (fun h5=>lf (cF h0 (cF h1 (cF h2 (cF h3 (cF h4 (cF h5 rfl)))))) rfl)))))))))))))))))))⟩
end
end Go.Proofs.Ytldjapmfmhifkaa
