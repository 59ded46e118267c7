/-
 Contracts of functions: models, equations by the kernel, contracts. Conditions: none.
-/
import Derived.Test.YtldjapmfmhifkaaU3
import Derived.KernelRfl
namespace Go.Proofs.Ytldjapmfmhifkaa
open Go Go.Sy
noncomputable section
set_option linter.unusedVariables false
set_option linter.unusedSimpArgs false
set_option maxRecDepth 100000
set_option maxHeartbeats 2000000
attribute [local irreducible] Go.IntKind.wrap Int.tdiv Int.tmod Int.fdiv
open Go.Sy renaming tabOk_cons->tc,tabOk_nil->tn,cnd_need->cn,leaf_of->lf,cnd_gg->cg,cnd_gg2->ch,cond_f->cf,cond_t->ct,cnd_of->co,callOf->ca,roundOf->ro,cnd_not->nn,lams_cons->lc,lams_nil->ln,condT->cT,condF->cF,need1->n1,resOf->rs,and_l->al,and_r->ar,or_gg->og,ctr_of->cx,loop_blk->lb
open Go.IntKind renaming i64->Z
open Go.Sy.SV renaming int->V
open Go.Sy.Kd renaming int->W
open Decidable renaming decide->aq
open Inhabited renaming default->ax
open Option renaming none->az
/-! ### (*shotline/kit.shop).reasons -/
def l65_0(u o:Dat)(y:Int)(m:Nat)(d:Dat)(w:Int):Nat->Nat->Int->Dat->Option (Nat × Nat × Dat)
 | 0,_,_,_=>az
 | f+1,n,i,l=>(cond (aq (i<w)) (cond (aq (0<=i/\i<↑m)) (cond (bif (aq (0<=i)) then ((o.sub 0 3).bb i.toNat 0) else false) (cond (bif (aq (0<=i)) then ((o.sub 0 3).bb i.toNat 0) else false) (cond (m93 ((o.sub 0 3).sub i.toNat 1) (d.ss i.toNat 0) (d.ii i.toNat 1) (d.ii i.toNat 2) (d.ii i.toNat 3) y).2 (cond (aq ((n+1)<=1073741824)) (l65_0 u o y m d w f (n+1) (Z.wrap (i+1)) (l.app n (datS [V Z (m93 ((o.sub 0 3).sub i.toNat 1) (d.ss i.toNat 0) (d.ii i.toNat 1) (d.ii i.toNat 2) (d.ii i.toNat 3) y).1,SV.str (d.ss i.toNat 0),SV.str ({ data:=#[] }:ByteArray),V Z 0] 4))) az) (l65_0 u o y m d w f n (Z.wrap (i+1)) l)) az) (l65_0 u o y m d w f n (Z.wrap (i+1)) l)) az) (some (n,n,l)))
abbrev o65_0(u o:Dat)(y:Int)(m:Nat)(d:Dat)(w:Int)(n:Nat)(i:Int)(l:Dat):Option (Nat × Nat × Dat):=l65_0 u o y m d w (y.toNat+n+m+w.toNat+i.toNat+8) n i l
def e65_0(u o:Dat)(y:Int)(m:Nat)(d:Dat)(w:Int)(r:Nat × Nat × Dat)(K:XR):Prop:=K (XE.exit 0) [.rp [.sl [.str,W Z,W Z],.sl [.str,W Z,W Z,W Z],.sl [.pt [.str,W Z,W Z,.mi [W Z,W Z,.bool],.mb,.mb,W Z,.bool,.m1]],W Z] u 0 0,.rp [.str,W Z,W Z,.mi [W Z,W Z,.bool],.mb,.mb,W Z,.bool,.m1] o 0 0,.gr 0 4 r.1] [.row 49 [W Z,.str,.str,W Z] r.2.1 r.2.2]
def g65_0:LSum:=fun s k=>match czv 0 92 [0,1,2,7,20,21,22] 1 [⟨true,7,0,0,49,[W Z,.str,.str,W Z]⟩] s with
 | some ([.rp [.sl [.str,W Z,W Z],.sl [.str,W Z,W Z,W Z],.sl [.pt [.str,W Z,W Z,.mi [W Z,W Z,.bool],.mb,.mb,W Z,.bool,.m1]],W Z] u 0 0,.rp [.str,W Z,W Z,.mi [W Z,W Z,.bool],.mb,.mb,W Z,.bool,.m1] o 0 0,V Z y,.gr 0 4 n,.ro [.str,W Z,W Z,W Z] m d,V Z w,V Z i],[.row 49 [W Z,.str,.str,W Z] v l])=>needs [decide (n=v),(o65_0 u o y m d w n i l).isSome] (e65_0 u o y m d w ((o65_0 u o y m d w n i l).getD ax) fun e vs bs=>inBlk 0 k e (mkSt 0 92 [0,1,7] vs 1 bs))
 | _=>False
theorem z65_0:LOk Try.prog g65_0 (.block 0 (bodyAt (Try.f65.body.getD .skip) 0)):=by
 refine lb (ι:=Dat × Dat × Int × Nat × Nat × Dat × Int × Int × Dat) (fuel:=8) (na:=0) (nt:=92) (nx:=1) (Lh:=[0,1,2,7,20,21,22]) (Le:=[0,1,7]) (gl:=[⟨true,7,0,0,49,[W Z,.str,.str,W Z]⟩]) (tc k75c78 (tc k77 (tc k78 (tc k93 tn)))) mix_ok noLam rfl (fun f (u,o,y,n,m,d,w,i,l) K=>GG ax (e65_0 u o y m d w) K (l65_0 u o y m d w f n i l)) (fun (u,o,y,n,m,d,w,i,l)=>[.rp [.sl [.str,W Z,W Z],.sl [.str,W Z,W Z,W Z],.sl [.pt [.str,W Z,W Z,.mi [W Z,W Z,.bool],.mb,.mb,W Z,.bool,.m1]],W Z] u 0 0,.rp [.str,W Z,W Z,.mi [W Z,W Z,.bool],.mb,.mb,W Z,.bool,.m1] o 0 0,V Z y,.gr 0 4 n,.ro [.str,W Z,W Z,W Z] m d,V Z w,V Z i]) (fun (u,o,y,n,m,d,w,i,l)=>[.row 49 [W Z,.str,.str,W Z] n l]) (fun (_,_,_,_,_,_,_,_,_) K=>gg_none) ?_ ?_
 ·rintro f ⟨u,o,y,n,m,d,w,i,l⟩ K hG
  refine ro (fun R => 
 let a0:=(m93 ((o.sub 0 3).sub i.toNat 1) (d.ss i.toNat 0) (d.ii i.toNat 1) (d.ii i.toNat 2) (d.ii i.toNat 3) y)
 let b0:=(bif (aq (0<=i)) then ((o.sub 0 3).bb i.toNat 0) else false)
 (cnd (aq (i<w))
 (cnd (aq (0<=i/\i<↑m))
 (cnd b0
 (cnd b0
 (cnd a0.2
 (cnd (aq (n<=n))
 (cnd (aq ((n+1)<=1073741824))
 (R (XE.normal) [.rp [.sl [.str,W Z,W Z],.sl [.str,W Z,W Z,W Z],.sl [.pt [.str,W Z,W Z,.mi [W Z,W Z,.bool],.mb,.mb,W Z,.bool,.m1]],W Z] u 0 0,.rp [.str,W Z,W Z,.mi [W Z,W Z,.bool],.mb,.mb,W Z,.bool,.m1] o 0 0,V Z y,.gr 0 4 (n+1),.ro [.str,W Z,W Z,W Z] m d,V Z w,V Z (Z.wrap (i+1))] [.row 49 [W Z,.str,.str,W Z] (n+1) (l.app n (datS [V Z a0.1,SV.str (d.ss i.toNat 0),SV.str ({ data:=#[] }:ByteArray),V Z 0] 4))])
    False)
    False)
 (R (XE.normal) [.rp [.sl [.str,W Z,W Z],.sl [.str,W Z,W Z,W Z],.sl [.pt [.str,W Z,W Z,.mi [W Z,W Z,.bool],.mb,.mb,W Z,.bool,.m1]],W Z] u 0 0,.rp [.str,W Z,W Z,.mi [W Z,W Z,.bool],.mb,.mb,W Z,.bool,.m1] o 0 0,V Z y,.gr 0 4 n,.ro [.str,W Z,W Z,W Z] m d,V Z w,V Z (Z.wrap (i+1))] [.row 49 [W Z,.str,.str,W Z] n l]))
   False)
 (R (XE.normal) [.rp [.sl [.str,W Z,W Z],.sl [.str,W Z,W Z,W Z],.sl [.pt [.str,W Z,W Z,.mi [W Z,W Z,.bool],.mb,.mb,W Z,.bool,.m1]],W Z] u 0 0,.rp [.str,W Z,W Z,.mi [W Z,W Z,.bool],.mb,.mb,W Z,.bool,.m1] o 0 0,V Z y,.gr 0 4 n,.ro [.str,W Z,W Z,W Z] m d,V Z w,V Z (Z.wrap (i+1))] [.row 49 [W Z,.str,.str,W Z] n l]))
  False)
 (R (XE.exit 0) [.rp [.sl [.str,W Z,W Z],.sl [.str,W Z,W Z,W Z],.sl [.pt [.str,W Z,W Z,.mi [W Z,W Z,.bool],.mb,.mb,W Z,.bool,.m1]],W Z] u 0 0,.rp [.str,W Z,W Z,.mi [W Z,W Z,.bool],.mb,.mb,W Z,.bool,.m1] o 0 0,.gr 0 4 n] [.row 49 [W Z,.str,.str,W Z] n l]))) (fun R=>by kernel_rfl) ?_
  exact ch hG (fun h0=>cg h0 fun h1=>ch h1 (fun h2=>cg h2 fun h3=>ch h3 (fun h4=>cn (decide_eq_true (Nat.le_refl _)) (cg h4 fun h5=>⟨(_,_,_,_,_,_,_,_,_),rfl,rfl,h5⟩)) (fun h4=>⟨(_,_,_,_,_,_,_,_,_),rfl,rfl,h4⟩)) (fun h2=>⟨(_,_,_,_,_,_,_,_,_),rfl,rfl,h2⟩)) (fun h0=>h0.2)
 ·intro s k h
  unfold g65_0 at h
  split at h <;> try exact h.elim
  rename_i e1
  rw [needs_iff] at h
  have hq:=h.1
  simp only [List.mem_cons,forall_eq_or_imp,decide_eq_true_eq,List.not_mem_nil,false_imp_iff,implies_true,and_true] at hq
  obtain ⟨rfl,hq⟩:=hq
  exact ⟨_,e1,_,(_,_,_,_,_,_,_,_,_),rfl,rfl,hq,h.2⟩
def l65_2(u o:Dat)(p:Nat)(j:Dat)(x:Int):Nat->Nat->Int->Nat->Dat->Option (Nat × Nat × Dat)
 | 0,_,_,_,_=>az
 | f+1,n,t,v,l=>(cond (aq (t<x)) (cond (aq (0<=t/\t<↑p)) (cond (n77 u (j.ii t.toNat 0) (j.ii t.toNat 1)) (cond (aq (n<=v)) (cond (aq ((n+1)<=1073741824)) (l65_2 u o p j x f (n+1) (Z.wrap (t+1)) (n+1) (l.app n (datS [V Z 3,SV.str ({ data:=#[] }:ByteArray),SV.str (m77 u (j.ii t.toNat 0) (j.ii t.toNat 1)).1,V Z (m77 u (j.ii t.toNat 0) (j.ii t.toNat 1)).2] 4))) az) az) az) az) (some (n,v,l)))
abbrev o65_2(u o:Dat)(p:Nat)(j:Dat)(x:Int)(n:Nat)(t:Int)(v:Nat)(l:Dat):Option (Nat × Nat × Dat):=l65_2 u o p j x (n+p+x.toNat+t.toNat+v+8) n t v l
def e65_2(u o:Dat)(p:Nat)(j:Dat)(x:Int)(r:Nat × Nat × Dat)(K:XR):Prop:=K (XE.exit 2) [.rp [.str,W Z,W Z,.mi [W Z,W Z,.bool],.mb,.mb,W Z,.bool,.m1] o 0 0,.gr 0 4 r.1] [.row 49 [W Z,.str,.str,W Z] r.2.1 r.2.2]
def g65_2:LSum:=fun s k=>match czv 0 92 [0,1,7,59,60,61] 1 [⟨true,7,0,0,49,[W Z,.str,.str,W Z]⟩] s with
 | some ([.rp [.sl [.str,W Z,W Z],.sl [.str,W Z,W Z,W Z],.sl [.pt [.str,W Z,W Z,.mi [W Z,W Z,.bool],.mb,.mb,W Z,.bool,.m1]],W Z] u 0 0,.rp [.str,W Z,W Z,.mi [W Z,W Z,.bool],.mb,.mb,W Z,.bool,.m1] o 0 0,.gr 0 4 n,.ro [W Z,W Z] p j,V Z x,V Z t],[.row 49 [W Z,.str,.str,W Z] v l])=>needs [(o65_2 u o p j x n t v l).isSome] (e65_2 u o p j x ((o65_2 u o p j x n t v l).getD ax) fun e vs bs=>inBlk 2 k e (mkSt 0 92 [1,7] vs 1 bs))
 | _=>False
theorem z65_2:LOk Try.prog g65_2 (.block 2 (bodyAt (Try.f65.body.getD .skip) 2)):=by
 refine lb (ι:=Dat × Dat × Nat × Nat × Dat × Int × Int × Nat × Dat) (fuel:=8) (na:=0) (nt:=92) (nx:=1) (Lh:=[0,1,7,59,60,61]) (Le:=[1,7]) (gl:=[⟨true,7,0,0,49,[W Z,.str,.str,W Z]⟩]) (tc k75c78 (tc k77 (tc k78 (tc k93 tn)))) mix_ok (lam_of rfl (lc z65_0 ln)) rfl (fun f (u,o,n,p,j,x,t,v,l) K=>GG ax (e65_2 u o p j x) K (l65_2 u o p j x f n t v l)) (fun (u,o,n,p,j,x,t,v,l)=>[.rp [.sl [.str,W Z,W Z],.sl [.str,W Z,W Z,W Z],.sl [.pt [.str,W Z,W Z,.mi [W Z,W Z,.bool],.mb,.mb,W Z,.bool,.m1]],W Z] u 0 0,.rp [.str,W Z,W Z,.mi [W Z,W Z,.bool],.mb,.mb,W Z,.bool,.m1] o 0 0,.gr 0 4 n,.ro [W Z,W Z] p j,V Z x,V Z t]) (fun (u,o,n,p,j,x,t,v,l)=>[.row 49 [W Z,.str,.str,W Z] v l]) (fun (_,_,_,_,_,_,_,_,_) K=>gg_none) ?_ ?_
 ·rintro f ⟨u,o,n,p,j,x,t,v,l⟩ K hG
  refine ro (fun R=>(cnd (aq (t<x))
 (cnd (aq (0<=t/\t<↑p))
 (cnd (n77 u (j.ii t.toNat 0) (j.ii t.toNat 1))
 (cnd (aq (n<=v))
 (cnd (aq ((n+1)<=1073741824))
 (R (XE.normal) [.rp [.sl [.str,W Z,W Z],.sl [.str,W Z,W Z,W Z],.sl [.pt [.str,W Z,W Z,.mi [W Z,W Z,.bool],.mb,.mb,W Z,.bool,.m1]],W Z] u 0 0,.rp [.str,W Z,W Z,.mi [W Z,W Z,.bool],.mb,.mb,W Z,.bool,.m1] o 0 0,.gr 0 4 (n+1),.ro [W Z,W Z] p j,V Z x,V Z (Z.wrap (t+1))] [.row 49 [W Z,.str,.str,W Z] (n+1) (l.app n (datS [V Z 3,SV.str ({ data:=#[] }:ByteArray),SV.str (m77 u (j.ii t.toNat 0) (j.ii t.toNat 1)).1,V Z (m77 u (j.ii t.toNat 0) (j.ii t.toNat 1)).2] 4))])
   False)
   False)
  False)
  False)
 (R (XE.exit 2) [.rp [.str,W Z,W Z,.mi [W Z,W Z,.bool],.mb,.mb,W Z,.bool,.m1] o 0 0,.gr 0 4 n] [.row 49 [W Z,.str,.str,W Z] v l]))) (fun R=>by kernel_rfl) ?_
  exact ch hG (fun h0=>cg h0 fun h1=>cg h1 fun h2=>cg h2 fun h3=>cg h3 fun h4=>⟨(_,_,_,_,_,_,_,_,_),rfl,rfl,h4⟩) (fun h0=>h0.2)
 ·intro s k h
  unfold g65_2 at h
  split at h <;> try exact h.elim
  rename_i e1
  rw [needs_iff] at h
  exact ⟨_,e1,_,(_,_,_,_,_,_,_,_,_),rfl,rfl,h.1 _ (List.mem_singleton.2 rfl),h.2⟩
def m65(a b:Dat)(g:Int):Nat × Dat :=
 (cond (b.3 0 (0+1+1+1+1+1+1+1)) ((((o65_2 a b ((m75c78 a (b.sub 0 (0+1+1+1+1))).length) ({ ii:=fun q c=>bif decide (c=0) then (↑((m75c78 a (b.sub 0 (0+1+1+1+1)))[q]?.getD (0,0)).1:Int) else (↑((m75c78 a (b.sub 0 (0+1+1+1+1)))[q]?.getD (0,0)).2:Int),ss:=noDat.ss,bb:=noDat.bb,sn:=noDat.sn,sd:=noDat.sd }) (↑((m75c78 a (b.sub 0 (0+1+1+1+1))).length):Int) ((o65_0 a b g (a.sn 0 1) (a.sub 0 1) (↑(a.sn 0 1):Int) 0 0 noDat).getD ax).1 0 ((o65_0 a b g (a.sn 0 1) (a.sub 0 1) (↑(a.sn 0 1):Int) 0 0 noDat).getD ax).2.1 ((o65_0 a b g (a.sn 0 1) (a.sub 0 1) (↑(a.sn 0 1):Int) 0 0 noDat).getD ax).2.2).getD ax).1+1),(((o65_2 a b ((m75c78 a (b.sub 0 (0+1+1+1+1))).length) ({ ii:=fun q c=>bif decide (c=0) then (↑((m75c78 a (b.sub 0 (0+1+1+1+1)))[q]?.getD (0,0)).1:Int) else (↑((m75c78 a (b.sub 0 (0+1+1+1+1)))[q]?.getD (0,0)).2:Int),ss:=noDat.ss,bb:=noDat.bb,sn:=noDat.sn,sd:=noDat.sd }) (↑((m75c78 a (b.sub 0 (0+1+1+1+1))).length):Int) ((o65_0 a b g (a.sn 0 1) (a.sub 0 1) (↑(a.sn 0 1):Int) 0 0 noDat).getD ax).1 0 ((o65_0 a b g (a.sn 0 1) (a.sub 0 1) (↑(a.sn 0 1):Int) 0 0 noDat).getD ax).2.1 ((o65_0 a b g (a.sn 0 1) (a.sub 0 1) (↑(a.sn 0 1):Int) 0 0 noDat).getD ax).2.2).getD ax).2.2.app ((o65_2 a b ((m75c78 a (b.sub 0 (0+1+1+1+1))).length) ({ ii:=fun q c=>bif decide (c=0) then (↑((m75c78 a (b.sub 0 (0+1+1+1+1)))[q]?.getD (0,0)).1:Int) else (↑((m75c78 a (b.sub 0 (0+1+1+1+1)))[q]?.getD (0,0)).2:Int),ss:=noDat.ss,bb:=noDat.bb,sn:=noDat.sn,sd:=noDat.sd }) (↑((m75c78 a (b.sub 0 (0+1+1+1+1))).length):Int) ((o65_0 a b g (a.sn 0 1) (a.sub 0 1) (↑(a.sn 0 1):Int) 0 0 noDat).getD ax).1 0 ((o65_0 a b g (a.sn 0 1) (a.sub 0 1) (↑(a.sn 0 1):Int) 0 0 noDat).getD ax).2.1 ((o65_0 a b g (a.sn 0 1) (a.sub 0 1) (↑(a.sn 0 1):Int) 0 0 noDat).getD ax).2.2).getD ax).1 (datS [V Z 3,SV.str ({ data:=#[] }:ByteArray),SV.str (b.ss 0 0),V Z (b.ii 0 6)] 4))) (((o65_2 a b ((m75c78 a (b.sub 0 (0+1+1+1+1))).length) ({ ii:=fun q c=>bif decide (c=0) then (↑((m75c78 a (b.sub 0 (0+1+1+1+1)))[q]?.getD (0,0)).1:Int) else (↑((m75c78 a (b.sub 0 (0+1+1+1+1)))[q]?.getD (0,0)).2:Int),ss:=noDat.ss,bb:=noDat.bb,sn:=noDat.sn,sd:=noDat.sd }) (↑((m75c78 a (b.sub 0 (0+1+1+1+1))).length):Int) ((o65_0 a b g (a.sn 0 1) (a.sub 0 1) (↑(a.sn 0 1):Int) 0 0 noDat).getD ax).1 0 ((o65_0 a b g (a.sn 0 1) (a.sub 0 1) (↑(a.sn 0 1):Int) 0 0 noDat).getD ax).2.1 ((o65_0 a b g (a.sn 0 1) (a.sub 0 1) (↑(a.sn 0 1):Int) 0 0 noDat).getD ax).2.2).getD ax).1,((o65_2 a b ((m75c78 a (b.sub 0 (0+1+1+1+1))).length) ({ ii:=fun q c=>bif decide (c=0) then (↑((m75c78 a (b.sub 0 (0+1+1+1+1)))[q]?.getD (0,0)).1:Int) else (↑((m75c78 a (b.sub 0 (0+1+1+1+1)))[q]?.getD (0,0)).2:Int),ss:=noDat.ss,bb:=noDat.bb,sn:=noDat.sn,sd:=noDat.sd }) (↑((m75c78 a (b.sub 0 (0+1+1+1+1))).length):Int) ((o65_0 a b g (a.sn 0 1) (a.sub 0 1) (↑(a.sn 0 1):Int) 0 0 noDat).getD ax).1 0 ((o65_0 a b g (a.sn 0 1) (a.sub 0 1) (↑(a.sn 0 1):Int) 0 0 noDat).getD ax).2.1 ((o65_0 a b g (a.sn 0 1) (a.sub 0 1) (↑(a.sn 0 1):Int) 0 0 noDat).getD ax).2.2).getD ax).2.2))
def n65(a b:Dat)(g:Int):Bool :=
 (((o65_0 a b g (a.sn 0 1) (a.sub 0 1) (↑(a.sn 0 1):Int) 0 0 noDat).isSome)&&((n75c78 a (b.sub 0 4))&&(((o65_2 a b ((m75c78 a (b.sub 0 (0+1+1+1+1))).length) ({ ii:=fun q c=>bif decide (c=0) then (↑((m75c78 a (b.sub 0 (0+1+1+1+1)))[q]?.getD (0,0)).1:Int) else (↑((m75c78 a (b.sub 0 (0+1+1+1+1)))[q]?.getD (0,0)).2:Int),ss:=noDat.ss,bb:=noDat.bb,sn:=noDat.sn,sd:=noDat.sd }) (↑((m75c78 a (b.sub 0 (0+1+1+1+1))).length):Int) ((o65_0 a b g (a.sn 0 1) (a.sub 0 1) (↑(a.sn 0 1):Int) 0 0 noDat).getD ax).1 0 ((o65_0 a b g (a.sn 0 1) (a.sub 0 1) (↑(a.sn 0 1):Int) 0 0 noDat).getD ax).2.1 ((o65_0 a b g (a.sn 0 1) (a.sub 0 1) (↑(a.sn 0 1):Int) 0 0 noDat).getD ax).2.2).isSome)&&(cond (b.3 0 (0+1+1+1+1+1+1+1)) ((aq (((o65_2 a b ((m75c78 a (b.sub 0 (0+1+1+1+1))).length) ({ ii:=fun q c=>bif decide (c=0) then (↑((m75c78 a (b.sub 0 (0+1+1+1+1)))[q]?.getD (0,0)).1:Int) else (↑((m75c78 a (b.sub 0 (0+1+1+1+1)))[q]?.getD (0,0)).2:Int),ss:=noDat.ss,bb:=noDat.bb,sn:=noDat.sn,sd:=noDat.sd }) (↑((m75c78 a (b.sub 0 (0+1+1+1+1))).length):Int) ((o65_0 a b g (a.sn 0 1) (a.sub 0 1) (↑(a.sn 0 1):Int) 0 0 noDat).getD ax).1 0 ((o65_0 a b g (a.sn 0 1) (a.sub 0 1) (↑(a.sn 0 1):Int) 0 0 noDat).getD ax).2.1 ((o65_0 a b g (a.sn 0 1) (a.sub 0 1) (↑(a.sn 0 1):Int) 0 0 noDat).getD ax).2.2).getD ax).1<=((o65_2 a b ((m75c78 a (b.sub 0 (0+1+1+1+1))).length) ({ ii:=fun q c=>bif decide (c=0) then (↑((m75c78 a (b.sub 0 (0+1+1+1+1)))[q]?.getD (0,0)).1:Int) else (↑((m75c78 a (b.sub 0 (0+1+1+1+1)))[q]?.getD (0,0)).2:Int),ss:=noDat.ss,bb:=noDat.bb,sn:=noDat.sn,sd:=noDat.sd }) (↑((m75c78 a (b.sub 0 (0+1+1+1+1))).length):Int) ((o65_0 a b g (a.sn 0 1) (a.sub 0 1) (↑(a.sn 0 1):Int) 0 0 noDat).getD ax).1 0 ((o65_0 a b g (a.sn 0 1) (a.sub 0 1) (↑(a.sn 0 1):Int) 0 0 noDat).getD ax).2.1 ((o65_0 a b g (a.sn 0 1) (a.sub 0 1) (↑(a.sn 0 1):Int) 0 0 noDat).getD ax).2.2).getD ax).2.1))&&((aq ((((o65_2 a b ((m75c78 a (b.sub 0 (0+1+1+1+1))).length) ({ ii:=fun q c=>bif decide (c=0) then (↑((m75c78 a (b.sub 0 (0+1+1+1+1)))[q]?.getD (0,0)).1:Int) else (↑((m75c78 a (b.sub 0 (0+1+1+1+1)))[q]?.getD (0,0)).2:Int),ss:=noDat.ss,bb:=noDat.bb,sn:=noDat.sn,sd:=noDat.sd }) (↑((m75c78 a (b.sub 0 (0+1+1+1+1))).length):Int) ((o65_0 a b g (a.sn 0 1) (a.sub 0 1) (↑(a.sn 0 1):Int) 0 0 noDat).getD ax).1 0 ((o65_0 a b g (a.sn 0 1) (a.sub 0 1) (↑(a.sn 0 1):Int) 0 0 noDat).getD ax).2.1 ((o65_0 a b g (a.sn 0 1) (a.sub 0 1) (↑(a.sn 0 1):Int) 0 0 noDat).getD ax).2.2).getD ax).1+1)<=1073741824))&&((aq ((0+(((o65_2 a b ((m75c78 a (b.sub 0 (0+1+1+1+1))).length) ({ ii:=fun q c=>bif decide (c=0) then (↑((m75c78 a (b.sub 0 (0+1+1+1+1)))[q]?.getD (0,0)).1:Int) else (↑((m75c78 a (b.sub 0 (0+1+1+1+1)))[q]?.getD (0,0)).2:Int),ss:=noDat.ss,bb:=noDat.bb,sn:=noDat.sn,sd:=noDat.sd }) (↑((m75c78 a (b.sub 0 (0+1+1+1+1))).length):Int) ((o65_0 a b g (a.sn 0 1) (a.sub 0 1) (↑(a.sn 0 1):Int) 0 0 noDat).getD ax).1 0 ((o65_0 a b g (a.sn 0 1) (a.sub 0 1) (↑(a.sn 0 1):Int) 0 0 noDat).getD ax).2.1 ((o65_0 a b g (a.sn 0 1) (a.sub 0 1) (↑(a.sn 0 1):Int) 0 0 noDat).getD ax).2.2).getD ax).1+1))<=(((o65_2 a b ((m75c78 a (b.sub 0 (0+1+1+1+1))).length) ({ ii:=fun q c=>bif decide (c=0) then (↑((m75c78 a (b.sub 0 (0+1+1+1+1)))[q]?.getD (0,0)).1:Int) else (↑((m75c78 a (b.sub 0 (0+1+1+1+1)))[q]?.getD (0,0)).2:Int),ss:=noDat.ss,bb:=noDat.bb,sn:=noDat.sn,sd:=noDat.sd }) (↑((m75c78 a (b.sub 0 (0+1+1+1+1))).length):Int) ((o65_0 a b g (a.sn 0 1) (a.sub 0 1) (↑(a.sn 0 1):Int) 0 0 noDat).getD ax).1 0 ((o65_0 a b g (a.sn 0 1) (a.sub 0 1) (↑(a.sn 0 1):Int) 0 0 noDat).getD ax).2.1 ((o65_0 a b g (a.sn 0 1) (a.sub 0 1) (↑(a.sn 0 1):Int) 0 0 noDat).getD ax).2.2).getD ax).1+1)))&&true))) ((aq ((0+((o65_2 a b ((m75c78 a (b.sub 0 (0+1+1+1+1))).length) ({ ii:=fun q c=>bif decide (c=0) then (↑((m75c78 a (b.sub 0 (0+1+1+1+1)))[q]?.getD (0,0)).1:Int) else (↑((m75c78 a (b.sub 0 (0+1+1+1+1)))[q]?.getD (0,0)).2:Int),ss:=noDat.ss,bb:=noDat.bb,sn:=noDat.sn,sd:=noDat.sd }) (↑((m75c78 a (b.sub 0 (0+1+1+1+1))).length):Int) ((o65_0 a b g (a.sn 0 1) (a.sub 0 1) (↑(a.sn 0 1):Int) 0 0 noDat).getD ax).1 0 ((o65_0 a b g (a.sn 0 1) (a.sub 0 1) (↑(a.sn 0 1):Int) 0 0 noDat).getD ax).2.1 ((o65_0 a b g (a.sn 0 1) (a.sub 0 1) (↑(a.sn 0 1):Int) 0 0 noDat).getD ax).2.2).getD ax).1)<=((o65_2 a b ((m75c78 a (b.sub 0 (0+1+1+1+1))).length) ({ ii:=fun q c=>bif decide (c=0) then (↑((m75c78 a (b.sub 0 (0+1+1+1+1)))[q]?.getD (0,0)).1:Int) else (↑((m75c78 a (b.sub 0 (0+1+1+1+1)))[q]?.getD (0,0)).2:Int),ss:=noDat.ss,bb:=noDat.bb,sn:=noDat.sn,sd:=noDat.sd }) (↑((m75c78 a (b.sub 0 (0+1+1+1+1))).length):Int) ((o65_0 a b g (a.sn 0 1) (a.sub 0 1) (↑(a.sn 0 1):Int) 0 0 noDat).getD ax).1 0 ((o65_0 a b g (a.sn 0 1) (a.sub 0 1) (↑(a.sn 0 1):Int) 0 0 noDat).getD ax).2.1 ((o65_0 a b g (a.sn 0 1) (a.sub 0 1) (↑(a.sn 0 1):Int) 0 0 noDat).getD ax).2.2).getD ax).2.1))&&true)))))
def q65(r:Nat × Dat):SV × List Blk × List Blk:=(.ro [W Z,.str,.str,W Z] r.1 r.2,[],[])
def g65:GF:=fun vs bs=>match vs,bs with
 | [.rp [.sl [.str,W Z,W Z],.sl [.str,W Z,W Z,W Z],.sl [.pt [.str,W Z,W Z,.mi [W Z,W Z,.bool],.mb,.mb,W Z,.bool,.m1]],W Z] a 0 0,.rp [.str,W Z,W Z,.mi [W Z,W Z,.bool],.mb,.mb,W Z,.bool,.m1] b 0 0,V Z g],[]=>some (rs 0 (q65 (m65 a b g)) [n65 a b g])
 | _,_=>az
def c65:Ctr:=genC [.rp [.sl [.str,W Z,W Z],.sl [.str,W Z,W Z,W Z],.sl [.pt [.str,W Z,W Z,.mi [W Z,W Z,.bool],.mb,.mb,W Z,.bool,.m1]],W Z],.rp [.str,W Z,W Z,.mi [W Z,W Z,.bool],.mb,.mb,W Z,.bool,.m1],.k] g65
theorem k65:CtrOk Try.prog c65 65:=cx (tc k75c78 (tc k77 (tc k78 (tc k93 tn)))) mix_ok 8 (fn:=Try.f65) (c:=(Try.f65.body.getD .skip)) (grs:=[]) (rh:=.ro [W Z,.str,.str,W Z]) Try.func65 rfl (by kernel_rfl) (lam_of rfl (lc z65_0 (lc z65_2 ln))) fun vs bs q h hn=>by
 unfold g65 at h
 split at h <;> cases h
 rename_i a b g
 have hn:=n1 hn
 exact ⟨_,rfl,ca (fun R => 
 let a0:=((o65_0 a b g (a.sn 0 1) (a.sub 0 1) (↑(a.sn 0 1):Int) 0 0 noDat).getD ax)
 let b0:=(m75c78 a (b.sub 0 (0+1+1+1+1)))
 let c0:=(↑(b0.length):Int)
 (cnd ((o65_0 a b g (a.sn 0 1) (a.sub 0 1) (↑(a.sn 0 1):Int) 0 0 noDat).isSome)
 (cnd (n75c78 a (b.sub 0 4))
 (cnd ((o65_2 a b (b0.length) ({ ii:=fun q c=>bif decide (c=0) then (↑(b0[q]?.getD (0,0)).1:Int) else (↑(b0[q]?.getD (0,0)).2:Int),ss:=noDat.ss,bb:=noDat.bb,sn:=noDat.sn,sd:=noDat.sd }) c0 a0.1 0 a0.2.1 a0.2.2).isSome)
 (cnd (b.3 0 (0+1+1+1+1+1+1+1))
 (cnd (aq (((o65_2 a b (b0.length) ({ ii:=fun q c=>bif decide (c=0) then (↑(b0[q]?.getD (0,0)).1:Int) else (↑(b0[q]?.getD (0,0)).2:Int),ss:=noDat.ss,bb:=noDat.bb,sn:=noDat.sn,sd:=noDat.sd }) c0 a0.1 0 a0.2.1 a0.2.2).getD ax).1<=((o65_2 a b (b0.length) ({ ii:=fun q c=>bif decide (c=0) then (↑(b0[q]?.getD (0,0)).1:Int) else (↑(b0[q]?.getD (0,0)).2:Int),ss:=noDat.ss,bb:=noDat.bb,sn:=noDat.sn,sd:=noDat.sd }) c0 a0.1 0 a0.2.1 a0.2.2).getD ax).2.1))
 (cnd (aq ((((o65_2 a b (b0.length) ({ ii:=fun q c=>bif decide (c=0) then (↑(b0[q]?.getD (0,0)).1:Int) else (↑(b0[q]?.getD (0,0)).2:Int),ss:=noDat.ss,bb:=noDat.bb,sn:=noDat.sn,sd:=noDat.sd }) c0 a0.1 0 a0.2.1 a0.2.2).getD ax).1+1)<=1073741824))
 (cnd (aq ((0+(((o65_2 a b (b0.length) ({ ii:=fun q c=>bif decide (c=0) then (↑(b0[q]?.getD (0,0)).1:Int) else (↑(b0[q]?.getD (0,0)).2:Int),ss:=noDat.ss,bb:=noDat.bb,sn:=noDat.sn,sd:=noDat.sd }) c0 a0.1 0 a0.2.1 a0.2.2).getD ax).1+1))<=(((o65_2 a b (b0.length) ({ ii:=fun q c=>bif decide (c=0) then (↑(b0[q]?.getD (0,0)).1:Int) else (↑(b0[q]?.getD (0,0)).2:Int),ss:=noDat.ss,bb:=noDat.bb,sn:=noDat.sn,sd:=noDat.sd }) c0 a0.1 0 a0.2.1 a0.2.2).getD ax).1+1)))
 (R (.ro [W Z,.str,.str,W Z] (((o65_2 a b (b0.length) ({ ii:=fun q c=>bif decide (c=0) then (↑(b0[q]?.getD (0,0)).1:Int) else (↑(b0[q]?.getD (0,0)).2:Int),ss:=noDat.ss,bb:=noDat.bb,sn:=noDat.sn,sd:=noDat.sd }) c0 a0.1 0 a0.2.1 a0.2.2).getD ax).1+1) (((o65_2 a b (b0.length) ({ ii:=fun q c=>bif decide (c=0) then (↑(b0[q]?.getD (0,0)).1:Int) else (↑(b0[q]?.getD (0,0)).2:Int),ss:=noDat.ss,bb:=noDat.bb,sn:=noDat.sn,sd:=noDat.sd }) c0 a0.1 0 a0.2.1 a0.2.2).getD ax).2.2.app ((o65_2 a b (b0.length) ({ ii:=fun q c=>bif decide (c=0) then (↑(b0[q]?.getD (0,0)).1:Int) else (↑(b0[q]?.getD (0,0)).2:Int),ss:=noDat.ss,bb:=noDat.bb,sn:=noDat.sn,sd:=noDat.sd }) c0 a0.1 0 a0.2.1 a0.2.2).getD ax).1 (datS [V Z 3,SV.str ({ data:=#[] }:ByteArray),SV.str (b.ss 0 0),V Z (b.ii 0 6)] 4))) [] [])
    False)
    False)
   False)
 (cnd (aq ((0+((o65_2 a b (b0.length) ({ ii:=fun q c=>bif decide (c=0) then (↑(b0[q]?.getD (0,0)).1:Int) else (↑(b0[q]?.getD (0,0)).2:Int),ss:=noDat.ss,bb:=noDat.bb,sn:=noDat.sn,sd:=noDat.sd }) c0 a0.1 0 a0.2.1 a0.2.2).getD ax).1)<=((o65_2 a b (b0.length) ({ ii:=fun q c=>bif decide (c=0) then (↑(b0[q]?.getD (0,0)).1:Int) else (↑(b0[q]?.getD (0,0)).2:Int),ss:=noDat.ss,bb:=noDat.bb,sn:=noDat.sn,sd:=noDat.sd }) c0 a0.1 0 a0.2.1 a0.2.2).getD ax).2.1))
 (R (.ro [W Z,.str,.str,W Z] ((o65_2 a b (b0.length) ({ ii:=fun q c=>bif decide (c=0) then (↑(b0[q]?.getD (0,0)).1:Int) else (↑(b0[q]?.getD (0,0)).2:Int),ss:=noDat.ss,bb:=noDat.bb,sn:=noDat.sn,sd:=noDat.sd }) c0 a0.1 0 a0.2.1 a0.2.2).getD ax).1 ((o65_2 a b (b0.length) ({ ii:=fun q c=>bif decide (c=0) then (↑(b0[q]?.getD (0,0)).1:Int) else (↑(b0[q]?.getD (0,0)).2:Int),ss:=noDat.ss,bb:=noDat.bb,sn:=noDat.sn,sd:=noDat.sd }) c0 a0.1 0 a0.2.1 a0.2.2).getD ax).2.2) [] [])
   False))
  False)
  False)
 False)) (fun R=>by kernel_rfl) (cn (al hn) (cn (al (ar hn)) (cn (al (ar (ar hn))) (co (fun h0=>cn (al (ct h0 (ar (ar (ar hn))))) (cn (al (ar (ct h0 (ar (ar (ar hn)))))) (cn (al (ar (ar (ct h0 (ar (ar (ar hn))))))) (lf (cT h0 rfl) rfl)))) (fun h0=>cn (al (cf h0 (ar (ar (ar hn))))) (lf (cF h0 rfl) rfl))))))⟩
/-! ### (*shotline/kit.shop).usable -/
def m74(a b:Dat)(d:Int):Bool :=
 (aq ((↑((m65 a b d).1):Int)=0))
def n74(a b:Dat)(d:Int):Bool :=
 ((n65 a b d)&&true)
def q74(r:Bool):SV × List Blk × List Blk:=(.bool r,[],[])
def g74:GF:=fun vs bs=>match vs,bs with
 | [.rp [.sl [.str,W Z,W Z],.sl [.str,W Z,W Z,W Z],.sl [.pt [.str,W Z,W Z,.mi [W Z,W Z,.bool],.mb,.mb,W Z,.bool,.m1]],W Z] a 0 0,.rp [.str,W Z,W Z,.mi [W Z,W Z,.bool],.mb,.mb,W Z,.bool,.m1] b 0 0,V Z d],[]=>some (rs 0 (q74 (m74 a b d)) [n74 a b d])
 | _,_=>az
def c74:Ctr:=genC [.rp [.sl [.str,W Z,W Z],.sl [.str,W Z,W Z,W Z],.sl [.pt [.str,W Z,W Z,.mi [W Z,W Z,.bool],.mb,.mb,W Z,.bool,.m1]],W Z],.rp [.str,W Z,W Z,.mi [W Z,W Z,.bool],.mb,.mb,W Z,.bool,.m1],.k] g74
theorem k74:CtrOk Try.prog c74 74:=cx (tc k65 tn) mix_ok 8 (fn:=Try.f74) (c:=(Try.f74.body.getD .skip)) (grs:=[]) (rh:=.k) Try.func74 rfl (by kernel_rfl) noLam fun vs bs q h hn=>by
 unfold g74 at h
 split at h <;> cases h
 rename_i a b d
 have hn:=n1 hn
 exact ⟨_,rfl,ca (fun R=>(cnd (n65 a b d)
 (R (.bool (aq ((↑((m65 a b d).1):Int)=0))) [] [])
 False)) (fun R=>by kernel_rfl) (cn (al hn) (lf rfl rfl))⟩
/-! ### shotline/kit.Quarantined$1 -/
def m79(a b:Dat):Bool :=
 (aq ((0:Int)<(↑((m75c78 (b.sub 0 0) (a.sub 0 (0+1+1+1+1))).length):Int)))
def n79(a b:Dat):Bool :=
 ((n75c78 (b.sub 0 0) (a.sub 0 4))&&true)
def q79(r:Bool):SV × List Blk × List Blk:=(.bool r,[],[])
def g79:GF:=fun vs bs=>match vs,bs with
 | [.rp [.str,W Z,W Z,.mi [W Z,W Z,.bool],.mb,.mb,W Z,.bool,.m1] a 0 0,.rp [.pt [.sl [.str,W Z,W Z],.sl [.str,W Z,W Z,W Z],.sl [.pt [.str,W Z,W Z,.mi [W Z,W Z,.bool],.mb,.mb,W Z,.bool,.m1]],W Z]] b 0 0],[]=>some (rs 0 (q79 (m79 a b)) [n79 a b])
 | _,_=>az
def c79:Ctr:=genC [.rp [.str,W Z,W Z,.mi [W Z,W Z,.bool],.mb,.mb,W Z,.bool,.m1],.rp [.pt [.sl [.str,W Z,W Z],.sl [.str,W Z,W Z,W Z],.sl [.pt [.str,W Z,W Z,.mi [W Z,W Z,.bool],.mb,.mb,W Z,.bool,.m1]],W Z]]] g79
theorem k79:CtrOk Try.prog c79 79:=cx (tc k75c78 (tc k78 tn)) mix_ok 8 (fn:=Try.f79) (c:=(Try.f79.body.getD .skip)) (grs:=[]) (rh:=.k) Try.func79 rfl (by kernel_rfl) noLam fun vs bs q h hn=>by
 unfold g79 at h
 split at h <;> cases h
 rename_i a b
 have hn:=n1 hn
 exact ⟨_,rfl,ca (fun R=>(cnd (n75c78 (b.sub 0 0) (a.sub 0 4))
 (R (.bool (aq ((0:Int)<(↑((m75c78 (b.sub 0 0) (a.sub 0 (0+1+1+1+1))).length):Int)))) [] [])
 False)) (fun R=>by kernel_rfl) (cn (al hn) (lf rfl rfl))⟩
/-! ### (*shotline/kit.shop).those -/
def l72c79_0(m:Dat)(b:Nat)(a:Dat)(j:Int):Nat->Nat->Int->Dat->Option (Nat × Nat × Dat)
 | 0,_,_,_=>az
 | f+1,l,g,i=>(cond (aq (g<j)) (cond (aq (0<=g/\g<↑b)) (cond (n79 (a.sub g.toNat 0) m) (cond (m79 (a.sub g.toNat 0) m) (cond (aq ((l+1)<=1073741824)) (l72c79_0 m b a j f (l+1) (Z.wrap (g+1)) (i.app l (datS [SV.str ((a.sub g.toNat 0).ss 0 0)] 1))) az) (l72c79_0 m b a j f l (Z.wrap (g+1)) i)) az) az) (some (l,l,i)))
abbrev o72c79_0(m:Dat)(b:Nat)(a:Dat)(j:Int)(l:Nat)(g:Int)(i:Dat):Option (Nat × Nat × Dat):=l72c79_0 m b a j (l+b+j.toNat+g.toNat+8) l g i
def e72c79_0(m:Dat)(b:Nat)(a:Dat)(j:Int)(r:Nat × Nat × Dat)(K:XR):Prop:=K (XE.exit 0) [.gr 0 1 r.1] [.row 9 [.str] r.2.1 r.2.2]
def g72c79_0:LSum:=fun s k=>match czv 0 30 [1,5,11,12,13] 1 [⟨true,5,0,0,9,[.str]⟩] s with
 | some ([.fn 79 [.rp [.pt [.sl [.str,W Z,W Z],.sl [.str,W Z,W Z,W Z],.sl [.pt [.str,W Z,W Z,.mi [W Z,W Z,.bool],.mb,.mb,W Z,.bool,.m1]],W Z]] m 0 0],.gr 0 1 l,.ro [.pt [.str,W Z,W Z,.mi [W Z,W Z,.bool],.mb,.mb,W Z,.bool,.m1]] b a,V Z j,V Z g],[.row 9 [.str] b0_0 i])=>needs [decide (l=b0_0),(o72c79_0 m b a j l g i).isSome] (e72c79_0 m b a j ((o72c79_0 m b a j l g i).getD ax) fun e vs bs=>inBlk 0 k e (mkSt 0 30 [5] vs 1 bs))
 | _=>False
theorem z72c79_0:LOk Try.prog g72c79_0 (.block 0 (bodyAt (Try.f72.body.getD .skip) 0)):=by
 refine lb (ι:=Dat × Nat × Nat × Dat × Int × Int × Dat) (fuel:=8) (na:=0) (nt:=30) (nx:=1) (Lh:=[1,5,11,12,13]) (Le:=[5]) (gl:=[⟨true,5,0,0,9,[.str]⟩]) (tc k79 tn) mix_ok noLam rfl (fun f (m,l,b,a,j,g,i) K=>GG ax (e72c79_0 m b a j) K (l72c79_0 m b a j f l g i)) (fun (m,l,b,a,j,g,i)=>[.fn 79 [.rp [.pt [.sl [.str,W Z,W Z],.sl [.str,W Z,W Z,W Z],.sl [.pt [.str,W Z,W Z,.mi [W Z,W Z,.bool],.mb,.mb,W Z,.bool,.m1]],W Z]] m 0 0],.gr 0 1 l,.ro [.pt [.str,W Z,W Z,.mi [W Z,W Z,.bool],.mb,.mb,W Z,.bool,.m1]] b a,V Z j,V Z g]) (fun (m,l,b,a,j,g,i)=>[.row 9 [.str] l i]) (fun (_,_,_,_,_,_,_) K=>gg_none) ?_ ?_
 ·rintro f ⟨m,l,b,a,j,g,i⟩ K hG
  refine ro (fun R=>(cnd (aq (g<j))
 (cnd (aq (0<=g/\g<↑b))
 (cnd (n79 (a.sub g.toNat 0) m)
 (cnd (m79 (a.sub g.toNat 0) m)
 (cnd (aq (l<=l))
 (cnd (aq ((l+1)<=1073741824))
 (R (XE.normal) [.fn 79 [.rp [.pt [.sl [.str,W Z,W Z],.sl [.str,W Z,W Z,W Z],.sl [.pt [.str,W Z,W Z,.mi [W Z,W Z,.bool],.mb,.mb,W Z,.bool,.m1]],W Z]] m 0 0],.gr 0 1 (l+1),.ro [.pt [.str,W Z,W Z,.mi [W Z,W Z,.bool],.mb,.mb,W Z,.bool,.m1]] b a,V Z j,V Z (Z.wrap (g+1))] [.row 9 [.str] (l+1) (i.app l (datS [SV.str ((a.sub g.toNat 0).ss 0 0)] 1))])
    False)
   False)
 (R (XE.normal) [.fn 79 [.rp [.pt [.sl [.str,W Z,W Z],.sl [.str,W Z,W Z,W Z],.sl [.pt [.str,W Z,W Z,.mi [W Z,W Z,.bool],.mb,.mb,W Z,.bool,.m1]],W Z]] m 0 0],.gr 0 1 l,.ro [.pt [.str,W Z,W Z,.mi [W Z,W Z,.bool],.mb,.mb,W Z,.bool,.m1]] b a,V Z j,V Z (Z.wrap (g+1))] [.row 9 [.str] l i]))
  False)
  False)
 (R (XE.exit 0) [.gr 0 1 l] [.row 9 [.str] l i]))) (fun R=>by kernel_rfl) ?_
  exact ch hG (fun h0=>cg h0 fun h1=>cg h1 fun h2=>ch h2 (fun h3=>cn (decide_eq_true (Nat.le_refl _)) (cg h3 fun h4=>⟨(_,_,_,_,_,_,_),rfl,rfl,h4⟩)) (fun h3=>⟨(_,_,_,_,_,_,_),rfl,rfl,h3⟩)) (fun h0=>h0.2)
 ·intro s k h
  unfold g72c79_0 at h
  split at h <;> try exact h.elim
  rename_i e1
  rw [needs_iff] at h
  have hq:=h.1
  simp only [List.mem_cons,forall_eq_or_imp,decide_eq_true_eq,List.not_mem_nil,false_imp_iff,implies_true,and_true] at hq
  obtain ⟨rfl,hq⟩:=hq
  exact ⟨_,e1,_,(_,_,_,_,_,_,_),rfl,rfl,hq,h.2⟩
def m72c79(d da1c0:Dat):Nat × Nat × Dat :=
 (((o72c79_0 da1c0 (d.sn 0 2) (d.sub 0 2) (↑(d.sn 0 2):Int) 0 0 noDat).getD ax).1,((o72c79_0 da1c0 (d.sn 0 2) (d.sub 0 2) (↑(d.sn 0 2):Int) 0 0 noDat).getD ax).2.1,((o72c79_0 da1c0 (d.sn 0 2) (d.sub 0 2) (↑(d.sn 0 2):Int) 0 0 noDat).getD ax).2.2)
def n72c79(d da1c0:Dat):Bool :=
 (((o72c79_0 da1c0 (d.sn 0 2) (d.sub 0 2) (↑(d.sn 0 2):Int) 0 0 noDat).isSome)&&true)
def q72c79(r:Nat × Nat × Dat):SV × List Blk × List Blk:=(.gr 0 1 r.1,[],[.row 9 [.str] r.2.1 r.2.2])
def g72c79:GF:=fun vs bs=>match vs,bs with
 | [.rp [.sl [.str,W Z,W Z],.sl [.str,W Z,W Z,W Z],.sl [.pt [.str,W Z,W Z,.mi [W Z,W Z,.bool],.mb,.mb,W Z,.bool,.m1]],W Z] d 0 0,.fn 79 [.rp [.pt [.sl [.str,W Z,W Z],.sl [.str,W Z,W Z,W Z],.sl [.pt [.str,W Z,W Z,.mi [W Z,W Z,.bool],.mb,.mb,W Z,.bool,.m1]],W Z]] da1c0 0 0]],[]=>some (rs 0 (q72c79 (m72c79 d da1c0)) [n72c79 d da1c0])
 | _,_=>az
def c72c79:Ctr:=genC [.rp [.sl [.str,W Z,W Z],.sl [.str,W Z,W Z,W Z],.sl [.pt [.str,W Z,W Z,.mi [W Z,W Z,.bool],.mb,.mb,W Z,.bool,.m1]],W Z],.f [.rp [.pt [.sl [.str,W Z,W Z],.sl [.str,W Z,W Z,W Z],.sl [.pt [.str,W Z,W Z,.mi [W Z,W Z,.bool],.mb,.mb,W Z,.bool,.m1]],W Z]]]] g72c79
theorem k72c79:CtrOk Try.prog c72c79 72:=cx (tc k79 tn) mix_ok 8 (fn:=Try.f72) (c:=(Try.f72.body.getD .skip)) (grs:=[]) (rh:=.k) Try.func72 rfl (by kernel_rfl) (lam_of rfl (lc z72c79_0 ln)) fun vs bs q h hn=>by
 unfold g72c79 at h
 split at h <;> cases h
 rename_i d da1c0
 have hn:=n1 hn
 exact ⟨_,rfl,ca (fun R=>(cnd ((o72c79_0 da1c0 (d.sn 0 2) (d.sub 0 2) (↑(d.sn 0 2):Int) 0 0 noDat).isSome)
 (R (.gr 0 1 ((o72c79_0 da1c0 (d.sn 0 2) (d.sub 0 2) (↑(d.sn 0 2):Int) 0 0 noDat).getD ax).1) [] [.row 9 [.str] ((o72c79_0 da1c0 (d.sn 0 2) (d.sub 0 2) (↑(d.sn 0 2):Int) 0 0 noDat).getD ax).2.1 ((o72c79_0 da1c0 (d.sn 0 2) (d.sub 0 2) (↑(d.sn 0 2):Int) 0 0 noDat).getD ax).2.2])
 False)) (fun R=>by kernel_rfl) (cn (al hn) (lf rfl rfl))⟩
end
end Go.Proofs.Ytldjapmfmhifkaa
