/-
 Contracts of functions: models, equations by the kernel, contracts. Conditions: none.
-/
import Derived.Test.YtdcdjjogieojhaaGreatDoorK1
import Derived.KernelRfl
set_option linter.unusedVariables false
set_option linter.unusedSimpArgs false
set_option linter.unusedSectionVars false
namespace Go.Proofs.YtdcdjjogieojhaaGreatDoor
open Go Go.Sy Go.RowKit Go.ChangeMaps
noncomputable section
set_option maxRecDepth 100000
set_option maxHeartbeats 2000000
/-! ### helpers: by hand -/
variable [AO]
abbrev Bt:=Int × Int
def ltP(p q:Bt):Prop:=p.1<q.1\/(p.1=q.1/\p.2<q.2)
instance (p q:Bt):Decidable (ltP p q):=by unfold ltP;exact inferInstance
theorem m91_f(a:Int):m91 a=false:=by simp [m91]
theorem m65_cmp(a b:Int):m65 a b=if a<b then -1 else if b<a then 1 else 0:=by
 unfold m65
 rw [m91_f,m91_f]
 by_cases h1:a<b <;> by_cases h2:b<a <;> simp [h1,h2]
theorem QO(d:Dat):o87_0 0 2 d ((2:Nat):Int) 0=if d.ii 0 0≠0 then some (true,d.ii 0 0,default) else if d.ii 1 0≠0 then some (true,d.ii 1 0,default) else some (false,default,()):=by
 have w1:IntKind.i64.wrap 1=1:=by decide
 have w2:IntKind.i64.wrap 2=2:=by decide
 show l87_0 0 2 d 2 14 0=_
 by_cases h0:d.ii 0 0=0
 .by_cases h1:d.ii 1 0=0
  .simp [l87_0,h0,h1,w1,w2]
  .simp [l87_0,h0,h1,w1,w2]
 .simp [l87_0,h0]
theorem n86_ok(a b c d:Int):n86 a b c d=true:=by
 simp only [n86,n87,QO,Bool.and_true]
 split <;> try split
 all_goals rfl
theorem m86_neg(a b c d:Int):decide (m86 a b c d<0)=decide (ltP (a,b) (c,d)):=by
 have e0:(Aw [SV.int IntKind.i64 (m65 a c),SV.int IntKind.i64 (m65 b d)] 1).ii 0 0=m65 a c:=rfl
 have e1:(Aw [SV.int IntKind.i64 (m65 a c),SV.int IntKind.i64 (m65 b d)] 1).ii 1 0=m65 b d:=rfl
 rw [decide_eq_decide]
 simp only [m86,m87,QO,e0,e1,ltP]
 have h1:=m65_cmp a c
 have h2:=m65_cmp b d
 generalize m65 a c=x at *
 generalize m65 b d=y at *
 by_cases hx:x=0
 .by_cases hy:y=0
  .simp only [hx,hy,ne_eq,not_true_eq_false,if_false,Option.getD_some,cond_false]
   split at h1 <;> try split at h1
   all_goals (split at h2 <;> try split at h2)
   all_goals omega
  .simp only [hx,hy,ne_eq,not_true_eq_false,not_false_eq_true,if_true,if_false,Option.getD_some,cond_true]
   split at h1 <;> try split at h1
   all_goals (split at h2 <;> try split at h2)
   all_goals omega
 .simp only [hx,ne_eq,not_false_eq_true,if_true,Option.getD_some,cond_true]
  split at h1 <;> try split at h1
  all_goals (split at h2 <;> try split at h2)
  all_goals omega
def rowB(d:Dat)(q:Nat):Bt:=(d.ii q 0,d.ii q 1)
def swp(f:Nat->Bt)(i j:Nat):Nat->Bt:=fun q=>if q=i then f j else if q=j then f i else f q
def BZ(f:Nat->Bt):Nat->Nat->Bt
 | 0=>f
 | j+1=>if ltP (f (j+1)) (f j) then BZ (swp f (j+1) j) j else f
theorem Pu(d:Dat)(i j:Nat)(h:i≠j)(a b c e:Int)(h1:d.ii j 0=a)(h2:d.ii j 1=b)(h3:d.ii i 0=c)(h4:d.ii i 1=e) :
  rowB ((d.upd i 0 [SV.int IntKind.i64 a,SV.int IntKind.i64 b]).upd j 0 [SV.int IntKind.i64 c,SV.int IntKind.i64 e])=swp (rowB d) i j:=by
 funext q
 unfold rowB swp Dat.upd
 by_cases hj:q=j
 .subst hj
  simp [Ne.symm h,h3,h4]
 .by_cases hi:q=i
  .subst hi
   simp [h,h1,h2]
  .simp [hi,hj]
theorem LO{t0 b0:Nat}(h0:t0<=b0)(hb:b0<=1000000)(t2 t8:Int):∀ (j f:Nat) (d:Dat),j<t0->j<f->∃ d',l129c86_2 t0 0 t2 t8 b0 f (j:Int) d=some d'/\rowB d'=BZ (rowB d) j
 | 0,f,d,hj,hf=>by
  obtain ⟨f,rfl⟩:∃ f',f=f'+1:=⟨f - 1,by omega⟩
  exact ⟨d,by simp [l129c86_2],rfl⟩
 | j+1,f,d,hj,hf=>by
  obtain ⟨f,rfl⟩:∃ f',f=f'+1:=⟨f - 1,by omega⟩
  have w1:IntKind.i64.wrap (((j+1:Nat):Int) - 1)=(j:Int):=by rw [wrp (by omega) (by omega)];omega
  have hpos:decide ((0:Int)<((j+1:Nat):Int))=true:=decide_eq_true (by omega)
  have b1:decide (0<=((j+1:Nat):Int)/\((j+1:Nat):Int)<(t0:Int))=true:=decide_eq_true (by omega)
  have b2:decide (((j+1:Nat):Int).toNat<b0)=true:=decide_eq_true (by omega)
  have b3:decide (0<=(j:Int)/\(j:Int)<(t0:Int))=true:=decide_eq_true (by omega)
  have b4:decide ((j:Int).toNat<b0)=true:=decide_eq_true (by omega)
  have e1:((j+1:Nat):Int).toNat=j+1:=by omega
  have b5:decide (j+1<b0)=true:=decide_eq_true (by omega)
  have b6:decide (j<b0)=true:=decide_eq_true (by omega)
  have e2:(j:Int).toNat=j:=by omega
  by_cases hl:ltP (rowB d (j+1)) (rowB d j)
  .have hm:decide (m86 (d.ii (j+1) 0) (d.ii (j+1) 1) (d.ii j 0) (d.ii j 1)<0)=true:=by rw [m86_neg];exact decide_eq_true hl
   obtain ⟨d',h1,h2⟩:=LO h0 hb t2 t8 j f ((d.upd (j+1) 0 [SV.int IntKind.i64 (d.ii j 0),SV.int IntKind.i64 (d.ii j 1)]).upd j 0 [SV.int IntKind.i64 (d.ii (j+1) 0),SV.int IntKind.i64 (d.ii (j+1) 1)]) (by omega) (by omega)
   refine ⟨d',?_,?_⟩
   .rw [l129c86_2]
    simp only [w1,hpos,b1,b2,b3,b4,b5,b6,e1,e2,hm,n86_ok,cond_true,cond_false]
    exact h1
   .rw [h2,Pu d (j+1) j (by omega) _ _ _ _ rfl rfl rfl rfl,BZ,if_pos hl]
  .have hm:decide (m86 (d.ii (j+1) 0) (d.ii (j+1) 1) (d.ii j 0) (d.ii j 1)<0)=false:=by rw [m86_neg];exact decide_eq_false hl
   refine ⟨d,?_,?_⟩
   .rw [l129c86_2]
    simp only [w1,hpos,b1,b2,b3,b4,b5,b6,e1,e2,hm,n86_ok,cond_true,cond_false]
   .rw [BZ,if_neg hl]
def Cn(f:Nat->Bt):Nat->Nat->Nat->Bt
 | 0,_=>f
 | k+1,i=>Cn (BZ f i) k (i+1)
theorem M8{n m:Nat}(h0:n<=m)(hb:m<=1000000):∀ (k i f:Nat) (d:Dat),i+k=n->k<f->∃ d',l129c86_0 n 0 (n:Int) m f (i:Int) d=some d'/\rowB d'=Cn (rowB d) k i
 | 0,i,f,d,hi,hf=>by
  obtain ⟨f,rfl⟩:∃ f',f=f'+1:=⟨f - 1,by omega⟩
  obtain rfl:i=n:=by omega
  exact ⟨d,by simp [l129c86_0],rfl⟩
 | k+1,i,f,d,hi,hf=>by
  obtain ⟨f,rfl⟩:∃ f',f=f'+1:=⟨f - 1,by omega⟩
  obtain ⟨d1,h1,h2⟩:=LO h0 hb (n:Int) (i:Int) i (n+(0:Int).toNat+(n:Int).toNat+(i:Int).toNat+(i:Int).toNat+m+8) d (by omega) (by omega)
  obtain ⟨d',h3,h4⟩:=M8 h0 hb k (i+1) f d1 (by omega) (by omega)
  have ho:o129c86_2 n 0 (n:Int) (i:Int) m (i:Int) d=some d1:=h1
  have hlt:decide ((i:Int)<(n:Int))=true:=decide_eq_true (by omega)
  refine ⟨d',?_,?_⟩
  .rw [l129c86_0]
   simp only [ho,hlt,Option.isSome_some,Option.getD_some,cond_true]
   rw [wrS (show i<n by omega) (by omega)]
   exact h3
  .rw [h4,h2,Cn]
theorem n110_small:((List.range 13).all fun n=>n110 (IntKind.u64.wrap (n:Int)))=true:=by kernel_rfl
theorem Tp{n m:Nat}(h0:n<=m)(hm:m<=1000000)(h12:n<=12)(d:Dat):n85c86 n m d=true/\∃ d',m85c86 n m d=(m,d')/\rowB d'=Cn (rowB d) (n - 1) 1:=by
 have hn111:n110 (IntKind.u64.wrap (n:Int))=true:=(List.all_eq_true.1 n110_small) n (List.mem_range.2 (by omega))
 have w0:IntKind.i64.wrap ((n:Int) - 0)=n:=by rw [wrp (by omega) (by omega)];omega
 have w1:IntKind.i64.wrap (0+1)=((1:Nat):Int):=by decide
 have key:∃ d',o129c86_0 n 0 (n:Int) m (IntKind.i64.wrap (0+1)) d=some d'/\rowB d'=Cn (rowB d) (n - 1) 1:=by
  rw [w1]
  rcases Nat.eq_zero_or_pos n with rfl | hpos
  .exact ⟨d,by simp [l129c86_0],rfl⟩
  .exact M8 h0 hm (n - 1) 1 _ d (by omega) (by omega)
 obtain ⟨d',h1,h2⟩:=key
 refine ⟨?_,d',?_,h2⟩
 .simp only [n85c86,n109c86,n129c86,hn111,w0,h1,Option.isSome_some,Bool.and_true,Bool.true_and,decide_eq_true_eq]
  omega
 .simp only [m85c86,m109c86,m129c86,h1,Option.getD_some]
/-! ### helpers: by hand -/
variable [AO]
def leP(p q:Bt):Prop:=¬ ltP q p
theorem Pd{p q r:Bt}(h:leP p q)(k:leP q r):leP p r:=by unfold leP ltP at *;omega
theorem Pc{p q:Bt}(h:ltP p q):leP p q:=by unfold leP ltP at *;omega
theorem Pf{p q:Bt}(h:leP p q)(hne:p≠q):ltP p q:=by
 unfold leP ltP at *
 have:¬ (p.1=q.1/\p.2=q.2):=fun e=>hne (Prod.ext e.1 e.2)
 omega
def Srt(f:Nat->Bt)(n:Nat):Prop:=∀ a b,a<b->b<n->leP (f a) (f b)
def Img(f g:Nat->Bt)(n:Nat):Prop:=∀ p,(∃ q,q<n/\f q=p)↔∃ q,q<n/\g q=p
theorem Img.refl(f:Nat->Bt)(n:Nat):Img f f n:=fun _=>Iff.rfl
theorem Img.trans{f g h:Nat->Bt}{n:Nat}(a:Img f g n)(b:Img g h n):Img f h n:=fun p=>(a p).trans (b p)
def Inj(f:Nat->Bt)(n:Nat):Prop:=∀ a b,a<n->b<n->f a=f b->a=b
theorem Ri(f:Nat->Bt)(i j q:Nat):swp f i j q=f (if q=i then j else if q=j then i else q):=by
 unfold swp
 split
 .rfl
 .split <;> rfl
theorem L7(f:Nat->Bt){i j q:Nat}(h:q≠i)(k:q≠j):swp f i j q=f q:=by unfold swp;rw [if_neg h,if_neg k]
theorem U4(f:Nat->Bt)(i j:Nat):swp f i j i=f j:=by unfold swp;rw [if_pos rfl]
theorem U5(f:Nat->Bt){i j:Nat}(h:j≠i):swp f i j j=f i:=by unfold swp;rw [if_neg h,if_pos rfl]
theorem Ss(f:Nat->Bt){i j n:Nat}(hi:i<n)(hj:j<n):Img (swp f i j) f n:=by
 intro p
 constructor
 .rintro ⟨q,hq,h⟩
  unfold swp at h
  split at h
  .exact ⟨j,hj,h⟩
  .split at h
   .exact ⟨i,hi,h⟩
   .exact ⟨q,hq,h⟩
 .rintro ⟨q,hq,h⟩
  by_cases h1:q=i
  .subst h1
   by_cases h2:j=q
   .subst h2;exact ⟨j,hj,by simp [swp,h]⟩
   .exact ⟨j,hj,by simp [swp,h2,h]⟩
  .by_cases h2:q=j
   .subst h2;exact ⟨i,hi,by simp [swp,h]⟩
   .exact ⟨q,hq,by simp [swp,h1,h2,h]⟩
theorem St{f:Nat->Bt}{i j n:Nat}(hi:i<n)(hj:j<n)(h:Inj f n):Inj (swp f i j) n:=by
 intro a b ha hb e
 rw [Ri,Ri] at e
 have:=h _ _ (by split <;> (try split) <;> omega) (by split <;> (try split) <;> omega) e
 split at this <;> (try split at this) <;> (try split at this) <;> (try split at this) <;> omega
theorem G4:∀ (j:Nat) (f:Nat->Bt) (q:Nat),j<q->BZ f j q=f q
 | 0,f,q,_=>rfl
 | j+1,f,q,hq=>by
  rw [BZ]
  split
  .rw [G4 j _ q (by omega)]
   exact L7 f (by omega) (by omega)
  .rfl
theorem Fg:∀ (j:Nat) (f:Nat->Bt) (n:Nat),j<n->Img (BZ f j) f n
 | 0,f,n,_=>Img.refl f n
 | j+1,f,n,h=>by
  rw [BZ]
  split
  .exact (Fg j _ n (by omega)).trans (Ss f h (by omega))
  .exact Img.refl f n
theorem HM:∀ (j:Nat) (f:Nat->Bt) (n:Nat),j<n->Inj f n->Inj (BZ f j) n
 | 0,f,n,_,h=>h
 | j+1,f,n,hj,h=>by
  rw [BZ]
  split
  .exact HM j _ n (by omega) (St hj (by omega) h)
  .exact h
theorem HN:∀ (j:Nat) (f:Nat->Bt),Srt f j->Srt (BZ f j) (j+1)
 | 0,f,_=>fun a b h1 h2=>by omega
 | j+1,f,h=>by
  rw [BZ]
  split
  .rename_i hlt
   have hs:Srt (swp f (j+1) j) j:=fun a b h1 h2=>by
    rw [L7 f (by omega) (by omega),L7 f (by omega) (by omega)]
    exact h a b h1 (by omega)
   have ih:=HN j _ hs
   intro a b h1 h2
   by_cases hb:b=j+1
   .subst hb
    rw [G4 j _ (j+1) (by omega)]
    have e:swp f (j+1) j (j+1)=f j:=U4 f _ _
    rw [e]
    obtain ⟨q,hq,hqe⟩:=(Fg j (swp f (j+1) j) (j+1) (by omega) _).1 ⟨a,by omega,rfl⟩
    rw [<- hqe]
    by_cases hqj:q=j
    .subst hqj
     have e2:swp f (q+1) q q=f (q+1):=U5 f (by omega)
     rw [e2]
     exact Pc hlt
    .have e2:swp f (j+1) j q=f q:=L7 f (by omega) hqj
     rw [e2]
     exact h q j (by omega) (by omega)
   .exact ih a b h1 (by omega)
  .rename_i hlt
   intro a b h1 h2
   by_cases hb:b=j+1
   .subst hb
    by_cases ha:a=j
    .subst ha;exact hlt
    .exact Pd (h a j (by omega) (by omega)) hlt
   .exact h a b h1 (by omega)
theorem K4:∀ (k i:Nat) (f:Nat->Bt),Srt f i->Srt (Cn f k i) (i+k)/\Img (Cn f k i) f (i+k)/\(Inj f (i+k)->Inj (Cn f k i) (i+k))
 | 0,i,f,h=>⟨h,Img.refl f _,fun h=>h⟩
 | k+1,i,f,h=>by
  obtain ⟨h1,h2,h3⟩:=K4 k (i+1) (BZ f i) (HN i f h)
  rw [show i+(k+1)=i+1+k by omega]
  exact ⟨h1,h2.trans (Fg i f _ (by omega)),fun hi=>h3 (HM i f _ (by omega) hi)⟩
/-! ### batches in their order -/
def ltN(p q:Nat × Nat):Prop:=p.1<q.1\/(p.1=q.1/\p.2<q.2)
def C2(C N:Nat)(g:Nat->Nat->Bool):List (Nat × Nat):=(List.range C).flatMap fun c=>((List.range N).filter (g c)).map fun n=>(c,n)
theorem Dc{C N:Nat}{g:Nat->Nat->Bool}{p:Nat × Nat}:p∈C2 C N g↔p.1<C/\p.2<N/\g p.1 p.2=true:=by
 obtain ⟨c,n⟩:=p
 simp only [C2,List.mem_flatMap,List.mem_range,List.mem_map,List.mem_filter,Prod.mk.injEq]
 constructor
 .rintro ⟨c',hc,n',⟨hn,hg⟩,rfl,rfl⟩;exact ⟨hc,hn,hg⟩
 .rintro ⟨hc,hn,hg⟩;exact ⟨c,hc,n,⟨hn,hg⟩,rfl,rfl⟩
theorem MF(C N:Nat)(g:Nat->Nat->Bool):(C2 C N g).Pairwise ltN:=by
 unfold C2
 rw [List.pairwise_flatMap]
 refine ⟨fun c _=>?_,?_⟩
 .rw [List.pairwise_map]
  exact List.Pairwise.imp (fun h=>.inr ⟨rfl,h⟩) (List.Pairwise.filter _ List.pairwise_lt_range)
 .refine List.Pairwise.imp (fun {a b} h x hx y hy=>?_) List.pairwise_lt_range
  simp only [List.mem_map] at hx hy
  obtain ⟨_,_,rfl⟩:=hx
  obtain ⟨_,_,rfl⟩:=hy
  exact .inl h
theorem Js:∀ {l m:List (Nat × Nat)},l.Pairwise ltN->m.Pairwise ltN->(∀ p,p∈l↔p∈m)->l=m
 | [],[],_,_,_=>rfl
 | [],b :: m,_,_,h=>by have:=(h b).2 (by simp);simp at this
 | a :: l,[],_,_,h=>by have:=(h a).1 (by simp);simp at this
 | a :: l,b :: m,hl,hm,h=>by
  rw [List.pairwise_cons] at hl hm
  have irr:∀ p:Nat × Nat,¬ ltN p p:=fun p=>by unfold ltN;omega
  have asym:∀ p q:Nat × Nat,ltN p q->¬ ltN q p:=fun p q=>by unfold ltN;omega
  have e:a=b:=by
   rcases List.mem_cons.1 ((h a).1 (by simp)) with e | e
   .exact e
   .rcases List.mem_cons.1 ((h b).2 (by simp)) with e' | e'
    .exact e'.symm
    .exact absurd (hl.1 b e') (asym _ _ (hm.1 a e))
  subst e
  congr 1
  refine Js hl.2 hm.2 fun p=>?_
  constructor
  .intro hp
   rcases List.mem_cons.1 ((h p).1 (List.mem_cons_of_mem _ hp)) with e | e
   .subst e;exact absurd (hl.1 p hp) (irr p)
   .exact e
  .intro hp
   rcases List.mem_cons.1 ((h p).2 (List.mem_cons_of_mem _ hp)) with e | e
   .subst e;exact absurd (hm.1 p hp) (irr p)
   .exact e
theorem QY{C N:Nat}{g:Nat->Nat->Bool}{n:Nat}{f:Nat->Bt}{V:List (Nat × Nat)}(hV:V.Nodup)(hm:∀ p,p∈V↔p.1<C/\p.2<N/\g p.1 p.2=true)(hn:V.length=n)(hf:∀ q (h:q<V.length),f q=((V[q].1:Int),(V[q].2:Int))):(C2 C N g).length=n/\∀ q (h:q<(C2 C N g).length),Cn f (n - 1) 1 q=(((C2 C N g)[q].1:Int),((C2 C N g)[q].2:Int)):=by
 have hs1:Srt f 1:=fun a b h1 h2=>by omega
 obtain ⟨h1,h2,h3⟩:=K4 (n - 1) 1 f hs1
 have hinj:Inj f n:=fun a b ha hb e=>by
  rw [hf a (by omega),hf b (by omega)] at e
  simp only [Prod.mk.injEq,Int.ofNat_inj] at e
  have:V[a]=V[b]:=Prod.ext (by omega) (by omega)
  exact (List.getElem_inj hV).1 this
 rcases Nat.eq_zero_or_pos n with h0 | hpos
 .have e:C2 C N g=[]:=List.eq_nil_iff_forall_not_mem.2 fun p hp=>by
   have:=(hm p).2 (Dc.1 hp)
   rw [List.length_eq_zero_iff.1 (by omega:V.length=0)] at this
   simp at this
  rw [e,h0]
  exact ⟨rfl,fun q h=>by simp at h⟩
 .rw [show 1+(n - 1)=n by omega] at h1 h2 h3
  have nn:∀ q,q<n->∃ p:Nat × Nat,p∈V/\Cn f (n - 1) 1 q=((p.1:Int),(p.2:Int)):=fun q hq=>by
   obtain ⟨q',hq',e⟩:=(h2 _).1 ⟨q,hq,rfl⟩
   exact ⟨V[q'],List.getElem_mem _,by rw [<- e,hf q' (by omega)]⟩
  let h:Nat->Nat × Nat:=fun q=>((Cn f (n - 1) 1 q).1.toNat,(Cn f (n - 1) 1 q).2.toNat)
  have hh:∀ q,q<n->Cn f (n - 1) 1 q=(((h q).1:Int),((h q).2:Int))/\h q∈V:=fun q hq=>by
   obtain ⟨p,hp,e⟩:=nn q hq
   have e':h q=p:=by simp [h,e]
   rw [e']
   exact ⟨e,hp⟩
  have key:(List.range n).map h=C2 C N g:=by
   refine Js ?_ (MF C N g) fun p=>?_
   .rw [List.pairwise_map]
    refine List.pairwise_iff_getElem.2 fun a b ha hb hab=>?_
    simp only [List.length_range] at ha hb
    simp only [List.getElem_range]
    have hle:=h1 a b hab hb
    have hne:Cn f (n - 1) 1 a≠Cn f (n - 1) 1 b:=fun e=>by have:=h3 hinj a b ha hb e;omega
    have:=Pf hle hne
    rw [(hh a ha).1,(hh b hb).1] at this
    unfold ltP at this
    unfold ltN
    simp only at this
    omega
   .rw [Dc,<- hm]
    constructor
    .intro hp
     obtain ⟨q,hq,e⟩:=List.mem_map.1 hp
     rw [<- e]
     exact (hh q (List.mem_range.1 hq)).2
    .intro hp
     obtain ⟨q,hq,e⟩:=List.getElem_of_mem hp
     obtain ⟨q',hq',e'⟩:=(h2 _).2 ⟨q,by omega,rfl⟩
     refine List.mem_map.2 ⟨q',List.mem_range.2 hq',?_⟩
     have:=(hh q' hq').1
     rw [e',hf q hq,e] at this
     simp only [Prod.mk.injEq,Int.ofNat_inj] at this
     exact Prod.ext this.1.symm this.2.symm
  have hlen:(C2 C N g).length=n:=by rw [<- key];simp
  refine ⟨hlen,fun q hq=>?_⟩
  have:(C2 C N g)[q]=h q:=by simp [<- key]
  rw [this]
  exact (hh q (by omega)).1
/-! ### helpers: by hand -/
attribute [local instance 2000] Go.Sy.G0
theorem l101_spec{d dd:Dat}{n:Nat}(hn:n<=1000000):∀ (f q:Nat),q<=n->n - q<f ->
  (∃ i,q<=i/\i<n/\d.ss i 0=dd.ss 0 0/\(∀ k,q<=k->k<i->d.ss k 0≠dd.ss 0 0)/\l101c75_0 n d dd (n:Int) f (q:Int)=some (true,(i:Int),default)) \/
  ((∀ k,q<=k->k<n->d.ss k 0≠dd.ss 0 0)/\l101c75_0 n d dd (n:Int) f (q:Int)=some (false,default,()))
 | 0,q,h1,h2=>by omega
 | f+1,q,h1,h2=>by
  unfold l101c75_0
  by_cases hq:q<n
  .have e1:decide ((q:Int)<(n:Int))=true:=decide_eq_true (by omega)
   have e2:decide (0<=(q:Int)/\(q:Int)<(n:Int))=true:=decide_eq_true (by omega)
   rw [e1,e2]
   simp only [cond_true,Int.toNat_natCast,m75]
   by_cases hs:d.ss q 0=dd.ss 0 0
   .rw [decide_eq_true hs]
    exact .inl ⟨q,Nat.le_refl _,hq,hs,fun k h3 h4=>by omega,rfl⟩
   .rw [decide_eq_false hs,cond_false,wrS (n:=n) hq (by omega)]
    rcases l101_spec hn f (q+1) (by omega) (by omega) with ⟨i,g1,g2,g3,g4,g5⟩ | ⟨g1,g2⟩
    .refine .inl ⟨i,by omega,g2,g3,fun k h3 h4=>?_,g5⟩
     by_cases e:k=q
     .rw [e];exact hs
     .exact g4 k (by omega) h4
    .refine .inr ⟨fun k h3 h4=>?_,g2⟩
     by_cases e:k=q
     .rw [e];exact hs
     .exact g1 k (by omega) h4
  .have e1:decide ((q:Int)<(n:Int))=false:=decide_eq_false (by omega)
   rw [e1]
   exact .inr ⟨fun k h3 h4=>by omega,rfl⟩
structure SR (K:Kst) (nm:BA) (i:Nat):Prop where
 lt:i<K.n
 name:K.di.ss i 0=nm
 first:∀ k,k<i->K.di.ss k 0≠nm
theorem m46_spec(K:Kst)(hn:K.n<=1000000)(nm:BA):n46 K.n K.di K.r K.dr nm=true /\
  ((∃ i,SR K nm i/\m46 K.n K.di K.r K.dr nm=(i:Int))\/((∀ k,k<K.n->K.di.ss k 0≠nm)/\m46 K.n K.di K.r K.dr nm=-1)):=by
 have hs:(C3 [SV.str nm]).ss 0 0=nm:=rfl
 rcases l101_spec (d:=K.di) (dd:=C3 [SV.str nm]) hn (K.n+(K.n:Int).toNat+(0:Int).toNat+8) 0 (Nat.zero_le _) (by omega) with ⟨i,_,g2,g3,g4,g5⟩ | ⟨g1,g2⟩
 .have ho:o101c75_0 K.n K.di (C3 [SV.str nm]) (K.n:Int) 0=some (true,(i:Int),default):=g5
  refine ⟨?_,.inl ⟨i,⟨g2,g3.trans hs,fun k hk=>by have:=g4 k (Nat.zero_le _) hk;rwa [hs] at this⟩,?_⟩⟩
  .show ((((o101c75_0 K.n K.di (C3 [SV.str nm]) (K.n:Int) 0).isSome&&true)&&true)&&true)=true
   rw [ho];rfl
  .show (cond (((o101c75_0 K.n K.di (C3 [SV.str nm]) (K.n:Int) 0).getD default).fst) (((o101c75_0 K.n K.di (C3 [SV.str nm]) (K.n:Int) 0).getD default).snd.fst) (-1))=_
   rw [ho];rfl
 .have ho:o101c75_0 K.n K.di (C3 [SV.str nm]) (K.n:Int) 0=some (false,default,()):=g2
  refine ⟨?_,.inr ⟨fun k hk=>by have:=g1 k (Nat.zero_le _) hk;rwa [hs] at this,?_⟩⟩
  .show ((((o101c75_0 K.n K.di (C3 [SV.str nm]) (K.n:Int) 0).isSome&&true)&&true)&&true)=true
   rw [ho];rfl
  .show (cond (((o101c75_0 K.n K.di (C3 [SV.str nm]) (K.n:Int) 0).getD default).fst) (((o101c75_0 K.n K.di (C3 [SV.str nm]) (K.n:Int) 0).getD default).snd.fst) (-1))=_
   rw [ho];rfl
end
end Go.Proofs.YtdcdjjogieojhaaGreatDoor
