/-
 Contracts of functions: models, equations by the kernel, contracts. Conditions: none.
-/
import Derived.Test.YtldjapmfmhifkaaU2
import Derived.KernelRfl
namespace Go.Proofs.Ytldjapmfmhifkaa
open Go Go.Sy Go.RowKit Go.ChangeMaps
noncomputable section
set_option linter.unusedVariables false
set_option linter.unusedSimpArgs false
set_option maxRecDepth 100000
set_option maxHeartbeats 2000000
/-! ### helpers: by hand -/
abbrev Bt:=Int × Int
def ltP(p q:Bt):Prop:=p.1<q.1\/(p.1=q.1/\p.2<q.2)
instance (p q:Bt):Decidable (ltP p q):=by unfold ltP;exact inferInstance
theorem m104_f(a:Int):m104 a=false:=by simp [m104]
theorem m88_cmp(a b:Int):m88 a b=if a<b then -1 else if b<a then 1 else 0:=by
 unfold m88
 rw [m104_f,m104_f]
 by_cases h1:a<b <;> by_cases h2:b<a <;> simp [h1,h2]
theorem or_two(d:Dat):o99_0 0 2 d ((2:Nat):Int) 0=if d.ii 0 0≠0 then some (true,d.ii 0 0,default) else if d.ii 1 0≠0 then some (true,d.ii 1 0,default) else some (false,default,()):=by
 have w1:IntKind.i64.wrap 1=1:=by decide
 have w2:IntKind.i64.wrap 2=2:=by decide
 show l99_0 0 2 d 2 14 0=_
 by_cases h0:d.ii 0 0=0
 ·by_cases h1:d.ii 1 0=0
  ·simp [l99_0,h0,h1,w1,w2]
  ·simp [l99_0,h0,h1,w1,w2]
 ·simp [l99_0,h0]
theorem n98_ok(a b c d:Int):n98 a b c d=true:=by
 simp only [n98,n99,or_two,Bool.and_true]
 split <;> try split
 all_goals rfl
theorem m98_neg(a b c d:Int):decide (m98 a b c d<0)=decide (ltP (a,b) (c,d)):=by
 have e0:(datS [SV.int IntKind.i64 (m88 a c),SV.int IntKind.i64 (m88 b d)] 1).ii 0 0=m88 a c:=rfl
 have e1:(datS [SV.int IntKind.i64 (m88 a c),SV.int IntKind.i64 (m88 b d)] 1).ii 1 0=m88 b d:=rfl
 rw [decide_eq_decide]
 simp only [m98,m99,or_two,e0,e1,ltP]
 have h1:=m88_cmp a c
 have h2:=m88_cmp b d
 generalize m88 a c=x at *
 generalize m88 b d=y at *
 by_cases hx:x=0
 ·by_cases hy:y=0
  ·simp only [hx,hy,ne_eq,not_true_eq_false,if_false,Option.getD_some,cond_false]
   split at h1 <;> try split at h1
   all_goals (split at h2 <;> try split at h2)
   all_goals omega
  ·simp only [hx,hy,ne_eq,not_true_eq_false,not_false_eq_true,if_true,if_false,Option.getD_some,cond_true]
   split at h1 <;> try split at h1
   all_goals (split at h2 <;> try split at h2)
   all_goals omega
 ·simp only [hx,ne_eq,not_false_eq_true,if_true,Option.getD_some,cond_true]
  split at h1 <;> try split at h1
  all_goals (split at h2 <;> try split at h2)
  all_goals omega
def rowB(d:Dat)(q:Nat):Bt:=(d.ii q 0,d.ii q 1)
def swp(f:Nat->Bt)(i j:Nat):Nat->Bt:=fun q=>if q=i then f j else if q=j then f i else f q
def insDown(f:Nat->Bt):Nat->Nat->Bt
 | 0=>f
 | j+1=>if ltP (f (j+1)) (f j) then insDown (swp f (j+1) j) j else f
theorem rowB_swap(d:Dat)(i j:Nat)(h:i≠j)(a b c e:Int)(h1:d.ii j 0=a)(h2:d.ii j 1=b)(h3:d.ii i 0=c)(h4:d.ii i 1=e) :
  rowB ((d.upd i 0 [SV.int IntKind.i64 a,SV.int IntKind.i64 b]).upd j 0 [SV.int IntKind.i64 c,SV.int IntKind.i64 e])=swp (rowB d) i j:=by
 funext q
 unfold rowB swp Dat.upd
 by_cases hj:q=j
 ·subst hj
  simp [Ne.symm h,h3,h4]
 ·by_cases hi:q=i
  ·subst hi
   simp [h,h1,h2]
  ·simp [hi,hj]
theorem inner_ok{t0 b0:Nat}(h0:t0<=b0)(hb:b0<=1000000)(t2 t8:Int):∀ (j f:Nat) (d:Dat),j<t0->j<f->∃ d',l118c98_2 t0 0 t2 t8 b0 f (j:Int) d=some d'/\rowB d'=insDown (rowB d) j
 | 0,f,d,hj,hf=>by
  obtain ⟨f,rfl⟩:∃ f',f=f'+1:=⟨f - 1,by omega⟩
  exact ⟨d,by simp [l118c98_2],rfl⟩
 | j+1,f,d,hj,hf=>by
  obtain ⟨f,rfl⟩:∃ f',f=f'+1:=⟨f - 1,by omega⟩
  have w1:IntKind.i64.wrap (((j+1:Nat):Int) - 1)=(j:Int):=by rw [wrp (by omega) (by omega)];omega
  have hpos:decide ((0:Int)<((j+1:Nat):Int))=true:=decide_eq_true (by omega)
  have b1:decide (0<=((j+1:Nat):Int)/\((j+1:Nat):Int)<(t0:Int))=true:=decide_eq_true (by omega)
  have b2:decide (((j+1:Nat):Int).toNat<b0)=true:=decide_eq_true (by omega)
  have b3:decide (0<=(j:Int)/\(j:Int)<(t0:Int))=true:=decide_eq_true (by omega)
  have b4:decide ((j:Int).toNat<b0)=true:=decide_eq_true (by omega)
  have e1:((j+1:Nat):Int).toNat=j+1:=by omega
  have b5:decide (j+1<b0)=true:=decide_eq_true (by omega)
  have b6:decide (j<b0)=true:=decide_eq_true (by omega)
  have e2:(j:Int).toNat=j:=by omega
  by_cases hl:ltP (rowB d (j+1)) (rowB d j)
  ·have hm:decide (m98 (d.ii (j+1) 0) (d.ii (j+1) 1) (d.ii j 0) (d.ii j 1)<0)=true:=by rw [m98_neg];exact decide_eq_true hl
   obtain ⟨d',h1,h2⟩:=inner_ok h0 hb t2 t8 j f ((d.upd (j+1) 0 [SV.int IntKind.i64 (d.ii j 0),SV.int IntKind.i64 (d.ii j 1)]).upd j 0 [SV.int IntKind.i64 (d.ii (j+1) 0),SV.int IntKind.i64 (d.ii (j+1) 1)]) (by omega) (by omega)
   refine ⟨d',?_,?_⟩
   ·rw [l118c98_2]
    simp only [w1,hpos,b1,b2,b3,b4,b5,b6,e1,e2,hm,n98_ok,cond_true,cond_false]
    exact h1
   ·rw [h2,rowB_swap d (j+1) j (by omega) _ _ _ _ rfl rfl rfl rfl,insDown,if_pos hl]
  ·have hm:decide (m98 (d.ii (j+1) 0) (d.ii (j+1) 1) (d.ii j 0) (d.ii j 1)<0)=false:=by rw [m98_neg];exact decide_eq_false hl
   refine ⟨d,?_,?_⟩
   ·rw [l118c98_2]
    simp only [w1,hpos,b1,b2,b3,b4,b5,b6,e1,e2,hm,n98_ok,cond_true,cond_false]
   ·rw [insDown,if_neg hl]
def insAll(f:Nat->Bt):Nat->Nat->Nat->Bt
 | 0,_=>f
 | k+1,i=>insAll (insDown f i) k (i+1)
theorem outer_ok{n m:Nat}(h0:n<=m)(hb:m<=1000000):∀ (k i f:Nat) (d:Dat),i+k=n->k<f->∃ d',l118c98_0 n 0 (n:Int) m f (i:Int) d=some d'/\rowB d'=insAll (rowB d) k i
 | 0,i,f,d,hi,hf=>by
  obtain ⟨f,rfl⟩:∃ f',f=f'+1:=⟨f - 1,by omega⟩
  obtain rfl:i=n:=by omega
  exact ⟨d,by simp [l118c98_0],rfl⟩
 | k+1,i,f,d,hi,hf=>by
  obtain ⟨f,rfl⟩:∃ f',f=f'+1:=⟨f - 1,by omega⟩
  obtain ⟨d1,h1,h2⟩:=inner_ok h0 hb (n:Int) (i:Int) i (n+(0:Int).toNat+(n:Int).toNat+(i:Int).toNat+(i:Int).toNat+m+8) d (by omega) (by omega)
  obtain ⟨d',h3,h4⟩:=outer_ok h0 hb k (i+1) f d1 (by omega) (by omega)
  have ho:o118c98_2 n 0 (n:Int) (i:Int) m (i:Int) d=some d1:=h1
  have hlt:decide ((i:Int)<(n:Int))=true:=decide_eq_true (by omega)
  refine ⟨d',?_,?_⟩
  ·rw [l118c98_0]
   simp only [ho,hlt,Option.isSome_some,Option.getD_some,cond_true]
   rw [wrS (show i<n by omega) (by omega)]
   exact h3
  ·rw [h4,h2,insAll]
theorem n111_small:((List.range 13).all fun n=>n111 (IntKind.u64.wrap (n:Int)))=true:=by kernel_rfl
theorem sort97{n m:Nat}(h0:n<=m)(hm:m<=1000000)(h12:n<=12)(d:Dat):n97c98 n m d=true/\∃ d',m97c98 n m d=(m,d')/\rowB d'=insAll (rowB d) (n - 1) 1:=by
 have hn111:n111 (IntKind.u64.wrap (n:Int))=true:=(List.all_eq_true.1 n111_small) n (List.mem_range.2 (by omega))
 have w0:IntKind.i64.wrap ((n:Int) - 0)=n:=by rw [wrp (by omega) (by omega)];omega
 have w1:IntKind.i64.wrap (0+1)=((1:Nat):Int):=by decide
 have key:∃ d',o118c98_0 n 0 (n:Int) m (IntKind.i64.wrap (0+1)) d=some d'/\rowB d'=insAll (rowB d) (n - 1) 1:=by
  rw [w1]
  rcases Nat.eq_zero_or_pos n with rfl | hpos
  ·exact ⟨d,by simp [l118c98_0],rfl⟩
  ·exact outer_ok h0 hm (n - 1) 1 _ d (by omega) (by omega)
 obtain ⟨d',h1,h2⟩:=key
 refine ⟨?_,d',?_,h2⟩
 ·simp only [n97c98,n110c98,n118c98,hn111,w0,h1,Option.isSome_some,Bool.and_true,Bool.true_and,decide_eq_true_eq]
  omega
 ·simp only [m97c98,m110c98,m118c98,h1,Option.getD_some]
/-! ### helpers: by hand -/
def leP(p q:Bt):Prop:=¬ ltP q p
theorem leP_trans{p q r:Bt}(h:leP p q)(k:leP q r):leP p r:=by unfold leP ltP at *;omega
theorem leP_of_lt{p q:Bt}(h:ltP p q):leP p q:=by unfold leP ltP at *;omega
theorem ltP_of_le{p q:Bt}(h:leP p q)(hne:p≠q):ltP p q:=by
 unfold leP ltP at *
 have:¬ (p.1=q.1/\p.2=q.2):=fun e=>hne (Prod.ext e.1 e.2)
 omega
def Srt(f:Nat->Bt)(n:Nat):Prop:=∀ a b,a<b->b<n->leP (f a) (f b)
def Img(f g:Nat->Bt)(n:Nat):Prop:=∀ p,(∃ q,q<n/\f q=p)↔∃ q,q<n/\g q=p
theorem Img.refl(f:Nat->Bt)(n:Nat):Img f f n:=fun _=>Iff.rfl
theorem Img.trans{f g h:Nat->Bt}{n:Nat}(a:Img f g n)(b:Img g h n):Img f h n:=fun p=>(a p).trans (b p)
def Inj(f:Nat->Bt)(n:Nat):Prop:=∀ a b,a<n->b<n->f a=f b->a=b
theorem swp_eq(f:Nat->Bt)(i j q:Nat):swp f i j q=f (if q=i then j else if q=j then i else q):=by
 unfold swp
 split
 ·rfl
 ·split <;> rfl
theorem swp_ne(f:Nat->Bt){i j q:Nat}(h:q≠i)(k:q≠j):swp f i j q=f q:=by unfold swp;rw [if_neg h,if_neg k]
theorem swp_l(f:Nat->Bt)(i j:Nat):swp f i j i=f j:=by unfold swp;rw [if_pos rfl]
theorem swp_r(f:Nat->Bt){i j:Nat}(h:j≠i):swp f i j j=f i:=by unfold swp;rw [if_neg h,if_pos rfl]
theorem swp_img(f:Nat->Bt){i j n:Nat}(hi:i<n)(hj:j<n):Img (swp f i j) f n:=by
 intro p
 constructor
 ·rintro ⟨q,hq,h⟩
  unfold swp at h
  split at h
  ·exact ⟨j,hj,h⟩
  ·split at h
   ·exact ⟨i,hi,h⟩
   ·exact ⟨q,hq,h⟩
 ·rintro ⟨q,hq,h⟩
  by_cases h1:q=i
  ·subst h1
   by_cases h2:j=q
   ·subst h2;exact ⟨j,hj,by simp [swp,h]⟩
   ·exact ⟨j,hj,by simp [swp,h2,h]⟩
  ·by_cases h2:q=j
   ·subst h2;exact ⟨i,hi,by simp [swp,h]⟩
   ·exact ⟨q,hq,by simp [swp,h1,h2,h]⟩
theorem swp_inj{f:Nat->Bt}{i j n:Nat}(hi:i<n)(hj:j<n)(h:Inj f n):Inj (swp f i j) n:=by
 intro a b ha hb e
 rw [swp_eq,swp_eq] at e
 have:=h _ _ (by split <;> (try split) <;> omega) (by split <;> (try split) <;> omega) e
 split at this <;> (try split at this) <;> (try split at this) <;> (try split at this) <;> omega
theorem insDown_above:∀ (j:Nat) (f:Nat->Bt) (q:Nat),j<q->insDown f j q=f q
 | 0,f,q,_=>rfl
 | j+1,f,q,hq=>by
  rw [insDown]
  split
  ·rw [insDown_above j _ q (by omega)]
   exact swp_ne f (by omega) (by omega)
  ·rfl
theorem insDown_img:∀ (j:Nat) (f:Nat->Bt) (n:Nat),j<n->Img (insDown f j) f n
 | 0,f,n,_=>Img.refl f n
 | j+1,f,n,h=>by
  rw [insDown]
  split
  ·exact (insDown_img j _ n (by omega)).trans (swp_img f h (by omega))
  ·exact Img.refl f n
theorem insDown_inj:∀ (j:Nat) (f:Nat->Bt) (n:Nat),j<n->Inj f n->Inj (insDown f j) n
 | 0,f,n,_,h=>h
 | j+1,f,n,hj,h=>by
  rw [insDown]
  split
  ·exact insDown_inj j _ n (by omega) (swp_inj hj (by omega) h)
  ·exact h
theorem insDown_srt:∀ (j:Nat) (f:Nat->Bt),Srt f j->Srt (insDown f j) (j+1)
 | 0,f,_=>fun a b h1 h2=>by omega
 | j+1,f,h=>by
  rw [insDown]
  split
  ·rename_i hlt
   have hs:Srt (swp f (j+1) j) j:=fun a b h1 h2=>by
    rw [swp_ne f (by omega) (by omega),swp_ne f (by omega) (by omega)]
    exact h a b h1 (by omega)
   have ih:=insDown_srt j _ hs
   intro a b h1 h2
   by_cases hb:b=j+1
   ·subst hb
    rw [insDown_above j _ (j+1) (by omega)]
    have e:swp f (j+1) j (j+1)=f j:=swp_l f _ _
    rw [e]
    obtain ⟨q,hq,hqe⟩:=(insDown_img j (swp f (j+1) j) (j+1) (by omega) _).1 ⟨a,by omega,rfl⟩
    rw [<- hqe]
    by_cases hqj:q=j
    ·subst hqj
     have e2:swp f (q+1) q q=f (q+1):=swp_r f (by omega)
     rw [e2]
     exact leP_of_lt hlt
    ·have e2:swp f (j+1) j q=f q:=swp_ne f (by omega) hqj
     rw [e2]
     exact h q j (by omega) (by omega)
   ·exact ih a b h1 (by omega)
  ·rename_i hlt
   intro a b h1 h2
   by_cases hb:b=j+1
   ·subst hb
    by_cases ha:a=j
    ·subst ha;exact hlt
    ·exact leP_trans (h a j (by omega) (by omega)) hlt
   ·exact h a b h1 (by omega)
theorem insAll_ok:∀ (k i:Nat) (f:Nat->Bt),Srt f i->Srt (insAll f k i) (i+k)/\Img (insAll f k i) f (i+k)/\(Inj f (i+k)->Inj (insAll f k i) (i+k))
 | 0,i,f,h=>⟨h,Img.refl f _,fun h=>h⟩
 | k+1,i,f,h=>by
  obtain ⟨h1,h2,h3⟩:=insAll_ok k (i+1) (insDown f i) (insDown_srt i f h)
  rw [show i+(k+1)=i+1+k by omega]
  exact ⟨h1,h2.trans (insDown_img i f _ (by omega)),fun hi=>h3 (insDown_inj i f _ (by omega) hi)⟩
/-! ### batches in their order -/
def ltN(p q:Nat × Nat):Prop:=p.1<q.1\/(p.1=q.1/\p.2<q.2)
def sortedM(C N:Nat)(g:Nat->Nat->Bool):List (Nat × Nat):=(List.range C).flatMap fun c=>((List.range N).filter (g c)).map fun n=>(c,n)
theorem sortedM_mem{C N:Nat}{g:Nat->Nat->Bool}{p:Nat × Nat}:p∈sortedM C N g↔p.1<C/\p.2<N/\g p.1 p.2=true:=by
 obtain ⟨c,n⟩:=p
 simp only [sortedM,List.mem_flatMap,List.mem_range,List.mem_map,List.mem_filter,Prod.mk.injEq]
 constructor
 ·rintro ⟨c',hc,n',⟨hn,hg⟩,rfl,rfl⟩;exact ⟨hc,hn,hg⟩
 ·rintro ⟨hc,hn,hg⟩;exact ⟨c,hc,n,⟨hn,hg⟩,rfl,rfl⟩
theorem sortedM_srt(C N:Nat)(g:Nat->Nat->Bool):(sortedM C N g).Pairwise ltN:=by
 unfold sortedM
 rw [List.pairwise_flatMap]
 refine ⟨fun c _=>?_,?_⟩
 ·rw [List.pairwise_map]
  exact List.Pairwise.imp (fun h=>.inr ⟨rfl,h⟩) (List.Pairwise.filter _ List.pairwise_lt_range)
 ·refine List.Pairwise.imp (fun {a b} h x hx y hy=>?_) List.pairwise_lt_range
  simp only [List.mem_map] at hx hy
  obtain ⟨_,_,rfl⟩:=hx
  obtain ⟨_,_,rfl⟩:=hy
  exact .inl h
theorem srt_unique:∀ {l m:List (Nat × Nat)},l.Pairwise ltN->m.Pairwise ltN->(∀ p,p∈l↔p∈m)->l=m
 | [],[],_,_,_=>rfl
 | [],b :: m,_,_,h=>by have:=(h b).2 (by simp);simp at this
 | a :: l,[],_,_,h=>by have:=(h a).1 (by simp);simp at this
 | a :: l,b :: m,hl,hm,h=>by
  rw [List.pairwise_cons] at hl hm
  have irr:∀ p:Nat × Nat,¬ ltN p p:=fun p=>by unfold ltN;omega
  have asym:∀ p q:Nat × Nat,ltN p q->¬ ltN q p:=fun p q=>by unfold ltN;omega
  have e:a=b:=by
   rcases List.mem_cons.1 ((h a).1 (by simp)) with e | e
   ·exact e
   ·rcases List.mem_cons.1 ((h b).2 (by simp)) with e' | e'
    ·exact e'.symm
    ·exact absurd (hl.1 b e') (asym _ _ (hm.1 a e))
  subst e
  congr 1
  refine srt_unique hl.2 hm.2 fun p=>?_
  constructor
  ·intro hp
   rcases List.mem_cons.1 ((h p).1 (List.mem_cons_of_mem _ hp)) with e | e
   ·subst e;exact absurd (hl.1 p hp) (irr p)
   ·exact e
  ·intro hp
   rcases List.mem_cons.1 ((h p).2 (List.mem_cons_of_mem _ hp)) with e | e
   ·subst e;exact absurd (hm.1 p hp) (irr p)
   ·exact e
theorem row_list{C N:Nat}{g:Nat->Nat->Bool}{n:Nat}{f:Nat->Bt}{V:List (Nat × Nat)}(hV:V.Nodup)(hm:∀ p,p∈V↔p.1<C/\p.2<N/\g p.1 p.2=true)(hn:V.length=n)(hf:∀ q (h:q<V.length),f q=((V[q].1:Int),(V[q].2:Int))):(sortedM C N g).length=n/\∀ q (h:q<(sortedM C N g).length),insAll f (n - 1) 1 q=(((sortedM C N g)[q].1:Int),((sortedM C N g)[q].2:Int)):=by
 have hs1:Srt f 1:=fun a b h1 h2=>by omega
 obtain ⟨h1,h2,h3⟩:=insAll_ok (n - 1) 1 f hs1
 have hinj:Inj f n:=fun a b ha hb e=>by
  rw [hf a (by omega),hf b (by omega)] at e
  simp only [Prod.mk.injEq,Int.ofNat_inj] at e
  have:V[a]=V[b]:=Prod.ext (by omega) (by omega)
  exact (List.getElem_inj hV).1 this
 rcases Nat.eq_zero_or_pos n with h0 | hpos
 ·have e:sortedM C N g=[]:=List.eq_nil_iff_forall_not_mem.2 fun p hp=>by
   have:=(hm p).2 (sortedM_mem.1 hp)
   rw [List.length_eq_zero_iff.1 (by omega:V.length=0)] at this
   simp at this
  rw [e,h0]
  exact ⟨rfl,fun q h=>by simp at h⟩
 ·rw [show 1+(n - 1)=n by omega] at h1 h2 h3
  have nn:∀ q,q<n->∃ p:Nat × Nat,p∈V/\insAll f (n - 1) 1 q=((p.1:Int),(p.2:Int)):=fun q hq=>by
   obtain ⟨q',hq',e⟩:=(h2 _).1 ⟨q,hq,rfl⟩
   exact ⟨V[q'],List.getElem_mem _,by rw [<- e,hf q' (by omega)]⟩
  let h:Nat->Nat × Nat:=fun q=>((insAll f (n - 1) 1 q).1.toNat,(insAll f (n - 1) 1 q).2.toNat)
  have hh:∀ q,q<n->insAll f (n - 1) 1 q=(((h q).1:Int),((h q).2:Int))/\h q∈V:=fun q hq=>by
   obtain ⟨p,hp,e⟩:=nn q hq
   have e':h q=p:=by simp [h,e]
   rw [e']
   exact ⟨e,hp⟩
  have key:(List.range n).map h=sortedM C N g:=by
   refine srt_unique ?_ (sortedM_srt C N g) fun p=>?_
   ·rw [List.pairwise_map]
    refine List.pairwise_iff_getElem.2 fun a b ha hb hab=>?_
    simp only [List.length_range] at ha hb
    simp only [List.getElem_range]
    have hle:=h1 a b hab hb
    have hne:insAll f (n - 1) 1 a≠insAll f (n - 1) 1 b:=fun e=>by have:=h3 hinj a b ha hb e;omega
    have:=ltP_of_le hle hne
    rw [(hh a ha).1,(hh b hb).1] at this
    unfold ltP at this
    unfold ltN
    simp only at this
    omega
   ·rw [sortedM_mem,<- hm]
    constructor
    ·intro hp
     obtain ⟨q,hq,e⟩:=List.mem_map.1 hp
     rw [<- e]
     exact (hh q (List.mem_range.1 hq)).2
    ·intro hp
     obtain ⟨q,hq,e⟩:=List.getElem_of_mem hp
     obtain ⟨q',hq',e'⟩:=(h2 _).2 ⟨q,by omega,rfl⟩
     refine List.mem_map.2 ⟨q',List.mem_range.2 hq',?_⟩
     have:=(hh q' hq').1
     rw [e',hf q hq,e] at this
     simp only [Prod.mk.injEq,Int.ofNat_inj] at this
     exact Prod.ext this.1.symm this.2.symm
  have hlen:(sortedM C N g).length=n:=by rw [<- key];simp
  refine ⟨hlen,fun q hq=>?_⟩
  have:(sortedM C N g)[q]=h q:=by simp [<- key]
  rw [this]
  exact (hh q (by omega)).1
/-! ### helpers: sorted -/
def c75:Code:=Try.f75.body.getD .skip
def c75a:Code:=match c75 with | .seq a _=>a | c=>c
def c75b:Code:=match c75 with | .seq _ (.seq b _)=>b | c=>c
def c75r:Code:=match c75 with | .seq _ (.seq _ (.seq (.seq r _) _))=>r | c=>c
def c75n:Code:=match c75 with | .seq _ (.seq _ (.seq (.seq _ (.block _ (.loop (.seq n _)))) _))=>n | c=>c
def c75x:Code:=match c75 with | .seq _ (.seq _ (.seq (.seq _ (.block _ (.loop (.seq _ (.seq _ (.block _ x)))))) _))=>x | c=>c
def c75t:Code:=match c75 with | .seq _ (.seq _ (.seq _ t))=>t | c=>c
theorem c75_eq:c75=.seq c75a (.seq c75b (.seq (.seq c75r (.block 0 (.loop (.seq c75n (.seq (.cond (.tmp 10) .skip (.exit 0)) (.block 1 c75x)))))) c75t)):=by kernel_rfl
theorem c75r_eq:∃ t1 p1 a1 t2 p2 a2,c75r=.region 2 #[⟨some 7,.move (.tmp 0),t1,p1,a1,none⟩,⟨some 8,.range 124 (.tmp 7),t2,p2,a2,none⟩] false:=⟨_,_,_,_,_,_,rfl⟩
theorem c75n_eq:∃ t1 p1 a1 t2 p2 a2,c75n=.region 3 #[⟨some 9,.next (.tmp 8) false,t1,p1,a1,none⟩,⟨some 10,.extract (.tmp 9) 0,t2,p2,a2,none⟩] false:=⟨_,_,_,_,_,_,rfl⟩
def c75o:List Oper:=match c75x with | .seq (.region _ o _) _=>o.toList.drop 2 | _=>[]
def c75y:Code:=match c75x with | .seq _ y=>y | c=>c
theorem c75x_eq:∃ t1 p1 a1 t2 p2 a2,c75x=.seq (.region 4 (⟨some 11,.entry (.tmp 8),t1,p1,a1,none⟩ :: ⟨some 12,.extract (.tmp 11) 0,t2,p2,a2,none⟩ :: c75o).toArray false) c75y:=⟨_,_,_,_,_,_,rfl⟩
theorem eval_put_same{a:Act}{t:Nat}{x:Value}(h:t<a.tmps.size):(a.put (some t) x).eval (.tmp t)=x:=by
 simp [Act.eval,Act.put,Array.getD_eq_getD_getElem?,h]
theorem eval_put_ne{a:Act}{t u:Nat}{x:Value}(h:u≠t):(a.put (some u) x).eval (.tmp t)=a.eval (.tmp t):=by
 simp [Act.eval,Act.put,Array.getD_eq_getD_getElem?,Array.getElem?_setIfInBounds_ne h]
theorem nodup_le{α:Type}[DecidableEq α]:∀ {V S:List α},V.Nodup->(∀ p∈V,p∈S)->V.length<=S.length
 | [],_,_,_=>by simp
 | a :: V,S,hV,hs=>by
  rw [List.nodup_cons] at hV
  have ha:=hs a (by simp)
  have:=nodup_le (V:=V) (S:=S.erase a) hV.2 fun p hp=>(List.mem_erase_of_ne (fun e=>hV.1 (by rw [<- e];exact hp))).2 (hs p (by simp [hp]))
  rw [List.length_erase_of_mem ha] at this
  have:=List.length_pos_of_mem ha
  simp only [List.length_cons]
  omega
theorem under124:Try.prog.underlying 124=some (.map 133 4):=by kernel_rfl
theorem keys133:KeyLaws Try.prog 133 pairV:=pair_keys (by kernel_rfl)
def mapB(d:Dat)(f:Int × Int->Option Value):Prop:=∀ p:Int × Int,f p=if (decide (0<=p.1)&&decide (0<=p.2)&&d.bb p.1.toNat p.2.toNat)=true then some (.bool true) else none
theorem ro_datB{ρ:Env}{L:List (Nat × Nat)}{n:Nat}{d:Dat}{x:Value}(hn:L.length=n)(h:∀ q (hq:q<L.length),rowB d q=((L[q].1:Int),(L[q].2:Int)))(hd:(SV.ro shB n d).den ρ x):(SV.ro shB L.length (datB L)).den ρ x:=by
 obtain ⟨A,cap,rfl,hc,hA⟩:=hd
 subst hn
 refine ⟨A,cap,rfl,hc,fun h0=>?_⟩
 obtain ⟨b,o,ha,hq⟩:=hA h0
 refine ⟨b,o,ha,fun q hl=>?_⟩
 obtain ⟨⟨y0,hy0,h0⟩,⟨y1,hy1,h1⟩,_⟩:=hq q hl
 have hr:=h q hl
 have e0:y0=.int .i64 ((datB L).ii q 0):=by
  have:y0=.int .i64 (d.ii q 0):=h0
  rw [this]
  have e:d.ii q 0=(L[q].1:Int):=congrArg Prod.fst hr
  simp [datB,e,List.getElem?_eq_getElem hl]
 have e1:y1=.int .i64 ((datB L).ii q 1):=by
  have:y1=.int .i64 (d.ii q 1):=h1
  rw [this]
  have e:d.ii q 1=(L[q].2:Int):=congrArg Prod.snd hr
  simp [datB,e,List.getElem?_eq_getElem hl]
 exact ⟨⟨y0,hy0,e0⟩,⟨y1,hy1,e1⟩,trivial⟩
/-! ### shotline/kit.sorted with 78 -/
def p75c78(e:Dat)(d:Dat)(c n:Nat):Bool:=d.bb c n&&m78 e (c:Int) (n:Int)
def m75c78(e:Dat)(d:Dat):List (Nat × Nat):=sortedM (d.sn 0 0) (d.sn 0 1) (p75c78 e d)
def n75c78(e:Dat)(d:Dat):Bool:=decide ((m75c78 e d).length<=12)&&(List.range (d.sn 0 0)).all fun c=>(List.range (d.sn 0 1)).all fun n=>!(d.bb c n)||n78 e (c:Int) (n:Int)
def g75c78:List SV->List Blk->Option OpRes:=fun vs bs=>match vs,bs with
 | [.mp .mb d,.fb 78 [.rp [.sl [.str,.int .i64,.int .i64],.sl [.str,.int .i64,.int .i64,.int .i64],.sl [.pt [.str,.int .i64,.int .i64,.mi [.int .i64,.int .i64,.bool],.mb,.mb,.int .i64,.bool,.m1]],.int .i64] e 0 0]],[]=>some { v:=.ro [.int .i64,.int .i64] (m75c78 e d).length (datB (m75c78 e d)),need:=[n75c78 e d] }
 | _,_=>none
def c75c78:Ctr:=genC [.k,.f [.rp [.sl [.str,.int .i64,.int .i64],.sl [.str,.int .i64,.int .i64,.int .i64],.sl [.pt [.str,.int .i64,.int .i64,.mi [.int .i64,.int .i64,.bool],.mb,.mb,.int .i64,.bool,.m1]],.int .i64]]] g75c78
theorem y75a78(e:Dat)(d:Dat)(R:XR):exec Try.prog [] (fun _=>none) 8 c75a (initS Try.f75.ntmps [.mp .mb d,.fb 78 [.rp shShop e 0 0]] 0 (memOf [])) (canonK 0 Try.f75.ntmps [0,1] [] 0 [] R)=R .normal [.mp .mb d,.fb 78 [.rp shShop e 0 0]] []:=by kernel_rfl
theorem y75b78(e:Dat)(d:Dat)(R:XR):exec Try.prog [] (fun _=>none) 8 c75b (mkSt 0 Try.f75.ntmps [0,1] [.mp .mb d,.fb 78 [.rp shShop e 0 0]] 0 []) (canonK 0 Try.f75.ntmps [0,1,5] [] 0 [] R)=R .normal [.mp .mb d,.fb 78 [.rp shShop e 0 0],.nsl] []:=by kernel_rfl
theorem y75z78(e:Dat)(p:Value)(d:Dat):czv 0 Try.f75.ntmps [1,5,8] 1 [⟨true,5,0,0,133,shB⟩] (((mkSt 0 Try.f75.ntmps [0,1,5] [.mp .mb d,.fb 78 [.rp shShop e 0 0],.nsl] 0 []).put (some 7) .any).put (some 8) (.val p))=some ([.fb 78 [.rp shShop e 0 0],.gr 0 2 0,.val p],[.row 133 shB 0 noDat]):=by kernel_rfl
theorem y75x78(e:Dat)(p:Value)(c k:Int)(n m:Nat)(d:Dat)(R:XR):xSeq Try.prog (gamOf false [(78,c78)]) (match c75x with | .seq (.region _ o _) _=>o | _=>#[]) c75o ((((mkSt 0 Try.f75.ntmps [1,5,8] [.fb 78 [.rp shShop e 0 0],.gr 0 2 n,.val p] 1 [.row 133 shB m d]).put (some 9) .any).put (some 10) .any |>.put (some 11) .any).put (some 12) (.agg [.int .i64 c,.int .i64 k])) (fun s'=>exec Try.prog [(78,c78)] (fun _=>none) 8 c75y s' (canonK 0 Try.f75.ntmps [1,5,8] [] 1 [⟨true,5,0,0,133,shB⟩] R)) =
 cnd (n78 e c k) (cnd (m78 e c k) (cnd (decide (n<=m)) (cnd (decide (n+1<=1073741824)) (R .normal [.fb 78 [.rp shShop e 0 0],.gr 0 2 (n+1),.val p] [.row 133 shB (n+1) (d.app n (datS [SV.int IntKind.i64 c,SV.int IntKind.i64 k] 2))]) False) False)
  (R .normal [.fb 78 [.rp shShop e 0 0],.gr 0 2 n,.val p] [.row 133 shB m d])) False:=by kernel_rfl
theorem y75t78(e:Dat)(p:Value)(n m:Nat)(d:Dat)(R:SV->List Blk->List Blk->Prop):exec Try.prog [(97,c97c98)] (fun _=>none) 8 c75t (((mkSt 0 Try.f75.ntmps [1,5,8] [.fb 78 [.rp shShop e 0 0],.gr 0 2 n,.val p] 1 [.row 133 shB m d]).put (some 9) .any).put (some 10) .any) (retK Try.prog Try.f75.results.toList (outK 0 [] [] (.ro shB) R)) =
 cnd (n97c98 n m d) (cnd (decide (0+n<=(m97c98 n m d).1)) (R (.ro shB n (m97c98 n m d).2) [] []) False) False:=by kernel_rfl
theorem k75c78:CtrOk Try.prog c75c78 75:=by
 refine ctr_gen ⟨Try.f75,Try.func75,rfl,by kernel_rfl⟩ fun vs bs q hq hn ρ1 M xs w hd hm hfr hMb=>?_
 unfold g75c78 at hq
 split at hq <;> cases hq

 rename_i d e
 have hn':n75c78 e d=true:=hn _ (List.mem_singleton.2 rfl)
 simp only [n75c78,Bool.and_eq_true,decide_eq_true_eq,List.all_eq_true,List.mem_range,Bool.or_eq_true,Bool.not_eq_true'] at hn'
 obtain ⟨h12,hnd⟩:=hn'
 have hM0:M=[]:=by
  cases M with
  | nil=>rfl
  | cons b l=>obtain ⟨i,hi,_⟩:=hMb b (by simp);simp at hi
 subst hM0
 refine (calls_wout (fn:=Try.f75) (c:=c75) Try.func75 rfl (muts:=[]) (grs:=[]) (rh:=.ro shB) hd hm hfr (fun b hb=>by simp at hb) (fun q hq=>by simp at hq)
  (R:=fun v U N=>∃ d',v=.ro shB (m75c78 e d).length d'/\(∀ q (hq:q<(m75c78 e d).length),rowB d' q=(((m75c78 e d)[q].1:Int),((m75c78 e d)[q].2:Int)))/\U=[]/\N=[]) fun a hS=>?_).mono ?_
 rotate_left
 ·rintro e' w' ⟨v,U,N,x,ρ',rfl,⟨d',rfl,hd',rfl,rfl⟩,hp⟩
  exact ⟨x,ρ',rfl,ro_datB rfl hd' hp.val,hp.ext,hp.old,hp.os,hp.tape,hp.output,hp.size,hp.keep,hp.odn,hp.upd,hp.new,hp.newapart⟩
 rw [c75_eq]
 refine wpIn_seq (exec_can tabOk_nil mix_ok (propOf (y75a78 e d _) ⟨rfl,rfl,rfl⟩) (.inl ⟨rfl,rfl⟩) hS fun ρ2 a2 w2 h2=>?_)
 refine wpIn_seq (exec_can tabOk_nil mix_ok (propOf (y75b78 e d _) ⟨rfl,rfl,rfl⟩) (.inl ⟨rfl,rfl⟩) h2 fun ρ3 a3 w3 h3=>?_)
 clear h2 hS
 refine Go.wpIn_mono (Q:=(EndQ Try.prog Try.f75.results.toList w.heap.size [] ⟨w,ρ3,0,fun _=>none,none⟩ (outK 0 [] [] (.ro shB) fun v U N=>∃ d',v=.ro shB (m75c78 e d).length d'/\(∀ q (hq:q<(m75c78 e d).length),rowB d' q=(((m75c78 e d)[q].1:Int),((m75c78 e d)[q].2:Int)))/\U=[]/\N=[]))) ?_ fun e a w h=>EndQ.unbase h3.ext h3.odb (fun i=>h3.argn i (Nat.zero_le i)) h
 replace h3:=h3.rebase rfl
 obtain ⟨b,es,cl,f,he0,hb,hob,hf,hbd⟩:=ev_den h3.tmDen (AsmOk.nil a3) (.tmp 0)
 have hfm:mapB d f:=hf
 have hbd':∀ i j:Nat,d.bb i j=true->i<d.sn 0 0/\j<d.sn 0 1:=hbd
 have hat:MapAt w3 b pairV f:=⟨es,cl,h3.mem.seal_.m b _ hb,hob⟩
 obtain ⟨o,cnt,hrun,hit⟩:=hat.range under124
 have hsz3:a3.tmps.size=23:=h3.size
 -- what follows the loop
 have rest:∀ (V:List (Nat × Nat)) (m:Nat) (dd:Dat) (p:Value) (ρ:Env) (a:Act) (w4:World),StDen w.heap.size [] ⟨w,ρ3,0,fun _=>none,none⟩ ρ (((mkSt 0 Try.f75.ntmps [1,5,8] [.fb 78 [.rp shShop e 0 0],.gr 0 2 V.length,.val p] 1 [.row 133 shB m dd]).put (some 9) .any).put (some 10) .any) a w4->V.Nodup->V.length<=m->m<=1000000->(∀ p:Nat × Nat,p∈V↔p75c78 e d p.1 p.2=true)->(∀ q (hq:q<V.length),rowB dd q=((V[q].1:Int),(V[q].2:Int))) ->
   c75t.wpIn (FW none) 0 Try.prog (EndQ Try.prog Try.f75.results.toList w.heap.size [] ⟨w,ρ3,0,fun _=>none,none⟩ (outK 0 [] [] (.ro shB) fun v U N=>∃ d',v=.ro shB (m75c78 e d).length d'/\(∀ q (hq:q<(m75c78 e d).length),rowB d' q=(((m75c78 e d)[q].1:Int),((m75c78 e d)[q].2:Int)))/\U=[]/\N=[])) a w4:=by
  intro V m dd p ρ a w4 hst hnod hVm hmm hV hrow
  have hVS:∀ p,p∈V->p∈m75c78 e d:=fun p hp=>by
   have h1:=(hV p).1 hp
   have h2:d.bb p.1 p.2=true:=by simp only [p75c78,Bool.and_eq_true] at h1;exact h1.1
   exact sortedM_mem.2 ⟨(hbd' _ _ h2).1,(hbd' _ _ h2).2,h1⟩
  have hlen:=nodup_le hnod hVS
  obtain ⟨hn97,d',hm97,hr97⟩:=sort97 (n:=V.length) (m:=m) hVm hmm (by omega) dd
  obtain ⟨hl,hrows⟩:=row_list (C:=d.sn 0 0) (N:=d.sn 0 1) (g:=p75c78 e d) hnod (fun p=>⟨fun hp=>sortedM_mem.1 (hVS p hp),fun h=>(hV p).2 h.2.2⟩) rfl hrow
  refine exec_wp (tabOk_cons k97c98 tabOk_nil) mix_ok c75t noLam none 0 w.heap.size [] ⟨w,ρ3,0,fun _=>none,none⟩ _ _ ρ a w4 _ (.inl ⟨rfl,rfl⟩) hst (propOf (y75t78 e p V.length m dd _) ?_) fun e' s' ρ' a' w' hs hk=>⟨e',ρ',s',rfl,hs,hk⟩
  refine cnd_need hn97 (cnd_need ?_ ⟨d',?_,?_,rfl,rfl⟩)
  ·rw [hm97];simpa using hVm
  ·rw [hm97]
   show SV.ro shB V.length d'=SV.ro shB (sortedM (d.sn 0 0) (d.sn 0 1) (p75c78 e d)).length d'
   rw [hl]
  ·intro q hq
   rw [hr97]
   exact hrows q hq
 refine wpIn_seq (wpIn_seq ?_)
 obtain ⟨t1,p1,a1',t2,p2,a2',hR⟩:=c75r_eq
 rw [hR]
 refine wpIn_region_list ?_
 refine wpL_value rfl (x:=a3.eval (.tmp 0)) (w':=w3) (by simp [execOp]) ?_
 refine wpL_value rfl (x:=.pointer (some ⟨w3.heap.size,0,none⟩)) (w':=w3.alloc o) ?_ ?_
 ·have e1:(a3.put (some 7) (a3.eval (.tmp 0))).eval (.tmp 7)=.map (some b):=by rw [eval_put_same (by omega)];exact he0
  simp only [execOp,e1]
  simp [hrun]
 show Code.wpIn (FW none) 0 Try.prog (.block 0 _) _ _ _
 have h4:StDen w.heap.size [] ⟨w,ρ3,0,fun _=>none,none⟩ ρ3 (((mkSt 0 Try.f75.ntmps [0,1,5] [.mp .mb d,.fb 78 [.rp shShop e 0 0],.nsl] 0 []).put (some 7) .any).put (some 8) (.val (.pointer (some ⟨w3.heap.size,0,none⟩)))) ((a3.put (some 7) (a3.eval (.tmp 0))).put (some 8) (.pointer (some ⟨w3.heap.size,0,none⟩))) (w3.alloc o) :=
  ((h3.turn (r:=w3.heap.size) h3.base (.inl (by simp)) rfl (fun k hk _=>Below.heap_alloc w3 o k hk) (by simp) rfl rfl rfl).putv (dst:=some 7) (v:=.any) trivial (by intro _ _ _ e;cases e)).putv (dst:=some 8) (v:=.val _) rfl (by intro _ _ _ e;cases e)
 obtain ⟨ρ5,h5⟩:=cz_ok h4 (y75z78 e _ d)
 have hBr:w.heap.size<=w3.heap.size:=h3.base
 generalize (a3.put (some 7) (a3.eval (.tmp 0))).put (some 8) (.pointer (some ⟨w3.heap.size,0,none⟩))=a5 at h5 ⊢
 generalize w3.alloc o=w5 at h5 hit ⊢
 generalize w3.heap.size=r at h5 hit hBr ⊢
 clear h4 h3 hrun hat hR hob he0 hbd
 refine wpIn_block (wpIn_loop_rounds (cnt+1) ?_)
 -- the rounds
 have rounds:∀ (fu cnt:Nat),cnt+1<=fu->∀ (V:List (Nat × Nat)) (left:Int × Int->Bool) (m:Nat) (dd:Dat) (ρ:Env) (a:Act) (w6:World),StDen w.heap.size [] ⟨w,ρ3,0,fun _=>none,none⟩ ρ (mkSt 0 Try.f75.ntmps [1,5,8] [.fb 78 [.rp shShop e 0 0],.gr 0 2 V.length,.val (.pointer (some ⟨r,0,none⟩))] 1 [.row 133 shB m dd]) a w6->IterAt w6 r b pairV f left cnt ->
   V.Nodup->V.length<=m->m=V.length->(∀ p:Nat × Nat,p∈V↔p75c78 e d p.1 p.2=true/\left ((p.1:Int),(p.2:Int))=false)->(∀ p:Int × Int,left p=true->(f p).isSome=true)->(∀ q (hq:q<V.length),rowB dd q=((V[q].1:Int),(V[q].2:Int))) ->
   Code.roundsIn (FW none) 0 Try.prog (.seq c75n (.seq (.cond (.tmp 10) .skip (.exit 0)) (.block 1 c75x))) (Exit.inBlock 0 (Exit.then (c75t.wpIn (FW none) 0 Try.prog (EndQ Try.prog Try.f75.results.toList w.heap.size [] ⟨w,ρ3,0,fun _=>none,none⟩ (outK 0 [] [] (.ro shB) fun v U N=>∃ d',v=.ro shB (m75c78 e d).length d'/\(∀ q (hq:q<(m75c78 e d).length),rowB d' q=(((m75c78 e d)[q].1:Int),((m75c78 e d)[q].2:Int)))/\U=[]/\N=[])))
    (EndQ Try.prog Try.f75.results.toList w.heap.size [] ⟨w,ρ3,0,fun _=>none,none⟩ (outK 0 [] [] (.ro shB) fun v U N=>∃ d',v=.ro shB (m75c78 e d).length d'/\(∀ q (hq:q<(m75c78 e d).length),rowB d' q=(((m75c78 e d)[q].1:Int),((m75c78 e d)[q].2:Int)))/\U=[]/\N=[])))) fu a w6:=by
  intro fu
  induction fu with
  | zero=>intro cnt h0;omega
  | succ fu ih =>
  intro cnt hfu V left m dd ρ a w6 h6 hit hnod hVm hmV hV hleft hrow
  have hsz:a.tmps.size=23:=h6.size
  have e8:a.eval (.tmp 8)=.pointer (some ⟨r,0,none⟩):=ev_den h6.tmDen (AsmOk.nil a) (.tmp 8)
  have hVS:∀ p,p∈V->p∈m75c78 e d:=fun p hp=>by
   have h1:=((hV p).1 hp).1
   have h2:d.bb p.1 p.2=true:=by simp only [p75c78,Bool.and_eq_true] at h1;exact h1.1
   exact sortedM_mem.2 ⟨(hbd' _ _ h2).1,(hbd' _ _ h2).2,h1⟩
  have hlen:=nodup_le hnod hVS
  rw [roundsIn_succ]
  refine wpIn_seq ?_
  obtain ⟨t1,p1,a1',t2,p2,a2',hN⟩:=c75n_eq
  rw [hN]
  refine wpIn_region_list ?_
  rcases hit.next keys133 t1 with ⟨hno,hrun⟩ | ⟨pk,v,w7,o,cnt',hl,hfv,hw7,hrun,hent,hit',hcnt⟩
  ·-- none is left
   refine wpL_value rfl (x:=.tuple #[.bool false]) (w':=w6) (by simp only [execOp,e8];simp [hrun]) ?_
   refine wpL_value rfl (x:=.bool false) (w':=w6) (by simp only [execOp,eval_put_same (show 9<a.tmps.size by omega)];simp [Instr.extract]) ?_
   refine wpIn_seq (wpIn_cond (t:=false) (eval_put_same (by rw [put_size];omega)) (wpIn_exit ?_))
   show Code.wpIn (FW none) 0 Try.prog c75t _ _ _
   refine rest V m dd (.pointer (some ⟨r,0,none⟩)) ρ _ w6 ((h6.putv (dst:=some 9) (v:=.any) trivial (by intro _ _ _ e;cases e)).putv (dst:=some 10) (v:=.any) trivial (by intro _ _ _ e;cases e)) hnod hVm (by omega) (fun p=>?_) hrow
   rw [hV]
   exact ⟨fun h=>h.1,fun h=>⟨h,hno _⟩⟩
  ·-- one more
   obtain ⟨b0,s0,n0,c0,hr0⟩:∃ b s n c,w6.heap[r]? = some (.mapIter b s n c):=by obtain ⟨_,_,_,_,_,_,h,_⟩:=hit;exact ⟨_,_,_,_,h⟩
   refine wpL_value rfl (x:=.tuple #[.bool true,pairV pk,v]) (w':=setBlock w7 r o) (by simp only [execOp,e8];simp [hrun]) ?_
   refine wpL_value rfl (x:=.bool true) (w':=setBlock w7 r o) (by simp only [execOp,eval_put_same (show 9<a.tmps.size by omega)];simp [Instr.extract]) ?_
   refine wpIn_seq (wpIn_cond (t:=true) (eval_put_same (by rw [put_size];omega)) (wpIn_skip ?_))
   refine wpIn_block ?_
   have h7:StDen w.heap.size [] ⟨w,ρ3,0,fun _=>none,none⟩ ρ (mkSt 0 Try.f75.ntmps [1,5,8] [.fb 78 [.rp shShop e 0 0],.gr 0 2 V.length,.val (.pointer (some ⟨r,0,none⟩))] 1 [.row 133 shB m dd]) a (setBlock w7 r o):=by
    refine h6.turn hBr (.inr ⟨b0,s0,n0,c0,hr0⟩) rfl (fun k _ hk=>?_) ?_ ?_ ?_ ?_
    ·rw [setBlock_other _ _ hk];rcases hw7 with rfl | rfl <;> rfl
    ·rcases hw7 with rfl | rfl <;> simp [setBlock]
    all_goals (rcases hw7 with rfl | rfl <;> rfl)
   obtain ⟨pc,pn⟩:=pk
   have hpos:=hleft _ hl
   rw [hfm] at hpos
   have hcond:(decide (0<=pc)&&decide (0<=pn)&&d.bb pc.toNat pn.toNat)=true:=by
    cases hc:(decide (0<=pc)&&decide (0<=pn)&&d.bb pc.toNat pn.toNat)
    ·rw [if_neg (by show ¬ (decide (0<=pc)&&decide (0<=pn)&&d.bb pc.toNat pn.toNat)=true;rw [hc];simp)] at hpos;cases hpos
    ·rfl
   simp only [Bool.and_eq_true,decide_eq_true_eq] at hcond
   obtain ⟨c,rfl⟩:=Int.eq_ofNat_of_zero_le hcond.1.1
   obtain ⟨k,rfl⟩:=Int.eq_ofNat_of_zero_le hcond.1.2
   have hbb:d.bb c k=true:=by simpa using hcond.2
   obtain ⟨t3,p3,a3',t4,p4,a4',hX⟩:=c75x_eq
   rw [hX]
   refine wpIn_seq (wpIn_region_list ?_)
   simp only [List.toList_toArray]
   refine wpL_value rfl (x:=.tuple #[pairV ((c:Int),(k:Int)),v]) (w':=setBlock w7 r o) (by
    have e8':((a.put (some 9) (.tuple #[.bool true,pairV ((c:Int),(k:Int)),v])).put (some 10) (.bool true)).eval (.tmp 8)=.pointer (some ⟨r,0,none⟩):=by rw [eval_put_ne (by omega),eval_put_ne (by omega)];exact e8
    simp only [execOp,e8'];simp [hent]) ?_
   refine wpL_value rfl (x:=pairV ((c:Int),(k:Int))) (w':=setBlock w7 r o) (by simp only [execOp,eval_put_same (show 11<((a.put (some 9) (.tuple #[.bool true,pairV ((c:Int),(k:Int)),v])).put (some 10) (.bool true)).tmps.size by rw [put_size,put_size];omega)];simp [Instr.extract]) ?_
   have h8:=(((h7.putv (dst:=some 9) (v:=.any) (x:=.tuple #[.bool true,pairV ((c:Int),(k:Int)),v]) trivial (by intro _ _ _ e;cases e)).putv (dst:=some 10) (v:=.any) (x:=.bool true) trivial (by intro _ _ _ e;cases e)).putv (dst:=some 11) (v:=.any) (x:=.tuple #[pairV ((c:Int),(k:Int)),v]) trivial (by intro _ _ _ e;cases e)).putv (dst:=some 12) (v:=.agg [.int .i64 (c:Int),.int .i64 (k:Int)]) (x:=pairV ((c:Int),(k:Int))) ⟨_,rfl,rfl,rfl,trivial⟩ (by intro _ _ _ e;cases e)
   have hop:(⟨some 11,.entry (.tmp 8),t3,p3,a3',none⟩ :: ⟨some 12,.extract (.tmp 11) 0,t4,p4,a4',none⟩ :: c75o:List Oper).toArray=(match c75x with | .seq (.region _ o _) _=>o | _=>#[]):=by rw [hX]
   rw [hop]
   -- the iterator stays as it is while the rest is carried out
   obtain ⟨es1,cl1,since1,seen1,c01,hbm,hrm,hmo,hold1,hs1,hs2,hl1,hc1⟩:=hit'
   have h9:StDen w.heap.size [] ⟨w,ρ3,0,fun x=>if x=r then some (.mapIter (some b) since1 seen1 c01) else none,none⟩ ρ (((((mkSt 0 Try.f75.ntmps [1,5,8] [.fb 78 [.rp shShop e 0 0],.gr 0 2 V.length,.val (.pointer (some ⟨r,0,none⟩))] 1 [.row 133 shB m dd]).put (some 9) .any).put (some 10) .any).put (some 11) .any).put (some 12) (.agg [.int .i64 (c:Int),.int .i64 (k:Int)])) _ (setBlock w7 r o) :=
    ⟨⟨fun x o' hx=>by
      have hx':(if x=r then some (Obj.mapIter (some b) since1 seen1 c01) else none)=some o':=hx
      split at hx' <;> cases hx'
      rename_i exr
      subst exr
      refine ⟨hrm,fun i mm hi hm e=>?_,fun q=>?_⟩
      ·obtain ⟨cc,ee,hcc⟩:=Blk.den_cells (h8.mem.get hi hm).2.1 hi
       rw [e,hrm] at hcc;cases hcc
      ·cases hoq:ρ.od x q with
       | none=>rfl
       | some vv =>
        have:=h8.mem.seal_ x q vv hoq
        simp [World.cell?,hrm] at this,h8.defs.at_,h8.defs.nd,h8.defs.same_⟩,h8.size,h8.tmp,h8.fresh,h8.mem,h8.kept,h8.base,h8.ext,h8.argn,h8.argl,h8.nab,h8.nale,h8.odb,h8.mz⟩
   have after:∀ (V':List (Nat × Nat)) (m':Nat) (d':Dat) (ρ':Env) (a':Act) (w':World),StDen w.heap.size [] ⟨w,ρ3,0,fun x=>if x=r then some (.mapIter (some b) since1 seen1 c01) else none,none⟩ ρ' (mkSt 0 Try.f75.ntmps [1,5,8] [.fb 78 [.rp shShop e 0 0],.gr 0 2 V'.length,.val (.pointer (some ⟨r,0,none⟩))] 1 [.row 133 shB m' d']) a' w' ->
     ρ'.od.m b=some (es1,cl1)->V'.Nodup->V'.length<=m'->m'=V'.length->(∀ p:Nat × Nat,p∈V'↔p75c78 e d p.1 p.2=true/\(left ((p.1:Int),(p.2:Int))&&!decide (((p.1:Int),(p.2:Int))=((c:Int),(k:Int))))=false)->(∀ q (hq:q<V'.length),rowB d' q=((V'[q].1:Int),(V'[q].2:Int))) ->
     Code.roundsIn (FW none) 0 Try.prog (.seq c75n (.seq (.cond (.tmp 10) .skip (.exit 0)) (.block 1 c75x))) (Exit.inBlock 0 (Exit.then (c75t.wpIn (FW none) 0 Try.prog (EndQ Try.prog Try.f75.results.toList w.heap.size [] ⟨w,ρ3,0,fun _=>none,none⟩ (outK 0 [] [] (.ro shB) fun v U N=>∃ d',v=.ro shB (m75c78 e d).length d'/\(∀ q (hq:q<(m75c78 e d).length),rowB d' q=(((m75c78 e d)[q].1:Int),((m75c78 e d)[q].2:Int)))/\U=[]/\N=[])))
      (EndQ Try.prog Try.f75.results.toList w.heap.size [] ⟨w,ρ3,0,fun _=>none,none⟩ (outK 0 [] [] (.ro shB) fun v U N=>∃ d',v=.ro shB (m75c78 e d).length d'/\(∀ q (hq:q<(m75c78 e d).length),rowB d' q=(((m75c78 e d)[q].1:Int),((m75c78 e d)[q].2:Int)))/\U=[]/\N=[])))) fu a' w':=by
    intro V' m' d' ρ' a' w' hst hmb hnod' hVm' hmV' hV' hrow'
    have hhb:=hst.mem.seal_.m b _ hmb
    have hhr:=(hst.defs.ob r _ (show (if r=r then some (Obj.mapIter (some b) since1 seen1 c01) else none)=some _ from if_pos rfl)).at_
    have hit2:IterAt w' r b pairV f (fun x=>left x&&!decide (x=((c:Int),(k:Int)))) cnt':=⟨es1,cl1,since1,seen1,c01,hhb,hhr,hmo,hold1,hs1,hs2,hl1,hc1⟩
    have hst':StDen w.heap.size [] ⟨w,ρ3,0,fun _=>none,none⟩ ρ' (mkSt 0 Try.f75.ntmps [1,5,8] [.fb 78 [.rp shShop e 0 0],.gr 0 2 V'.length,.val (.pointer (some ⟨r,0,none⟩))] 1 [.row 133 shB m' d']) a' w' :=
     ⟨⟨fun x o' hx=>(by cases hx),hst.defs.at_,hst.defs.nd,hst.defs.same_⟩,hst.size,hst.tmp,hst.fresh,hst.mem,hst.kept,hst.base,hst.ext,hst.argn,hst.argl,hst.nab,hst.nale,hst.odb,hst.mz⟩
    exact ih cnt' (by omega) V' (fun x=>left x&&!decide (x=((c:Int),(k:Int)))) m' d' ρ' a' w' hst' hit2 hnod' hVm' hmV' hV' (fun p hp=>hleft p (by simp only [Bool.and_eq_true] at hp;exact hp.1)) hrow'
   -- the rest of the round
   rw [hN,hX,hop] at after
   have hee:es1=es/\cl1=cl:=by
    have h1:=h9.mem.seal_.m b _ (h9.ext.od.m b _ hb)
    rw [hbm] at h1
    have:=Option.some.inj h1
    injection this with e1 e2
    exact ⟨e1,e2⟩
   obtain ⟨rfl,rfl⟩:=hee
   have hl1:left ((c:Int),(k:Int))=true:=hl
   have hcV:(c,k) ∉ V:=fun h=>by
    have:=((hV (c,k)).1 h).2
    rw [hl1] at this;cases this
   refine xSeq_wp (gamOf_ok (tabOk_cons k78 tabOk_nil)) (k:=fun s'=>exec Try.prog [(78,c78)] (fun _=>none) 8 c75y s' (canonK 0 Try.f75.ntmps [1,5,8] [] 1 [⟨true,5,0,0,133,shB⟩] fun xe v bs=>xe=.normal/\((m78 e (c:Int) (k:Int)=true/\v=[.fb 78 [.rp shShop e 0 0],.gr 0 2 (V.length+1),.val (.pointer (some ⟨r,0,none⟩))]/\bs=[.row 133 shB (V.length+1) (dd.app V.length (datS [SV.int IntKind.i64 c,SV.int IntKind.i64 k] 2))])\/(m78 e (c:Int) (k:Int)=false/\v=[.fb 78 [.rp shShop e 0 0],.gr 0 2 V.length,.val (.pointer (some ⟨r,0,none⟩))]/\bs=[.row 133 shB m dd]))))
    (fun s' ρ' a' w' hs hx=>?_) _ _ ρ _ _ h9 (propOf (y75x78 e (.pointer (some ⟨r,0,none⟩)) c k V.length m dd _) ?_)
   ·refine exec_canR (tabOk_cons k78 tabOk_nil) mix_ok hx (.inl ⟨rfl,rfl⟩) hs fun vs bs ρ2 a2 w2 hR h2=>?_
    rcases hR with ⟨hm78,rfl,rfl⟩ | ⟨hm78,rfl,rfl⟩
    ·have eV:(V ++ [(c,k)]).length=V.length+1:=by simp
     rw [<- eV] at h2
     refine after (V ++ [(c,k)]) _ _ ρ2 a2 w2 h2 (h2.ext.od.m b _ hb) ?_ (Nat.le_refl _) rfl (fun p=>?_) fun q hq=>?_
     ·rw [List.nodup_append]
      refine ⟨hnod,by simp,fun x hx y hy e=>?_⟩
      rw [List.mem_singleton] at hy
      rw [e,hy] at hx
      exact hcV hx
     ·rw [List.mem_append,List.mem_singleton]
      by_cases hp:p=(c,k)
      ·subst hp
       simp [p75c78,hbb,hm78]
      ·have hp':¬ ((p.1:Int),(p.2:Int))=((c:Int),(k:Int)):=fun e=>hp (by
        have e1:=congrArg Prod.fst e
        have e2:=congrArg Prod.snd e
        simp only at e1 e2
        exact Prod.ext (by omega) (by omega))
       rw [hV p]
       simp [hp,hp']
     ·by_cases hqV:q<V.length
      ·have:=hrow q hqV
       rw [List.getElem_append_left hqV,<- this]
       simp [rowB,Dat.app,blt_t hqV]
      ·have hqe:q=V.length:=by omega
       subst hqe
       rw [List.getElem_append_right (Nat.le_refl _)]
       simp [rowB,Dat.app,datS,intAt,blt_f (Nat.lt_irrefl V.length)]
    ·refine after V _ _ ρ2 a2 w2 h2 (h2.ext.od.m b _ hb) hnod hVm hmV (fun p=>?_) hrow
     by_cases hp:p=(c,k)
     ·subst hp
      simp [hcV,p75c78,hm78]
     ·have hp':¬ ((p.1:Int),(p.2:Int))=((c:Int),(k:Int)):=fun e=>hp (by
       have e1:=congrArg Prod.fst e
       have e2:=congrArg Prod.snd e
       simp only at e1 e2
       exact Prod.ext (by omega) (by omega))
      rw [hV p]
      simp [hp']
   ·refine cnd_need ((hnd c (hbd' _ _ hbb).1 k (hbd' _ _ hbb).2).resolve_left (by simp [hbb])) (cnd_of (fun hm=>cnd_need (decide_eq_true hVm) (cnd_need (decide_eq_true (by omega)) ⟨rfl,.inl ⟨hm,rfl,rfl⟩⟩)) fun hm=>⟨rfl,.inr ⟨hm,rfl,rfl⟩⟩)
 refine rounds (cnt+1) cnt (Nat.le_refl _) [] (fun p=>(f p).isSome) 0 noDat ρ5 a5 w5 h5 hit List.nodup_nil (Nat.le_refl _) rfl (fun p=>?_) (fun p hp=>hp) (fun q hq=>absurd hq (Nat.not_lt_zero q))
 refine ⟨fun h=>(by cases h),fun ⟨h1,h2⟩=>?_⟩
 exfalso
 have hb1:d.bb p.1 p.2=true:=by simp only [p75c78,Bool.and_eq_true] at h1;exact h1.1
 have:=hfm ((p.1:Int),(p.2:Int))
 simp [hb1] at this
 simp [this] at h2
/-! ### helpers: analyse -/
def T7:Tys:=⟨112,108,127,141⟩
abbrev thS(s:ByteArray)(k b:Int)(m1 m2 m3:Value)(p:Int)(t:Bool)(m4:Value):List SV:=[.str s,.int .i64 k,.int .i64 b,.val m1,.val m2,.val m3,.int .i64 p,.bool t,.val m4]
theorem th_cells{ρ:Env}{c:Array Value}{s:ByteArray}{k b:Int}{m1 m2 m3:Value}{p:Int}{t:Bool}{m4:Value}(h:SV.denL ρ (thS s k b m1 m2 m3 p t m4) c.toList):c=#[.string s,.int .i64 k,.int .i64 b,m1,m2,m3,.int .i64 p,.bool t,m4]:=by
 apply Array.toList_inj.1
 obtain ⟨x0,l0,e0,d0,h⟩:=denL_cons h
 obtain ⟨x1,l1,e1,d1,h⟩:=denL_cons h
 obtain ⟨x2,l2,e2,d2,h⟩:=denL_cons h
 obtain ⟨x3,l3,e3,d3,h⟩:=denL_cons h
 obtain ⟨x4,l4,e4,d4,h⟩:=denL_cons h
 obtain ⟨x5,l5,e5,d5,h⟩:=denL_cons h
 obtain ⟨x6,l6,e6,d6,h⟩:=denL_cons h
 obtain ⟨x7,l7,e7,d7,h⟩:=denL_cons h
 obtain ⟨x8,l8,e8,d8,h⟩:=denL_cons h
 have e9:=denL_nil h
 rw [e0,e1,e2,e3,e4,e5,e6,e7,e8,e9]
 cases d0;cases d1;cases d2;cases d3;cases d4;cases d5;cases d6;cases d7;cases d8
 rfl
def c109:Code:=Try.f109.body.getD .skip
def c109a:Code:=match c109 with | .seq a _=>a | c=>c
def c109b:Code:=match c109 with | .seq _ (.seq b _)=>b | c=>c
def c109c:Code:=match c109 with | .seq _ (.seq _ (.cond _ c _))=>c | c=>c
def c109o:Array Oper:=match c109 with | .seq _ (.seq _ (.cond _ _ (.region _ o _)))=>o | _=>#[]
def c109i:Array Oper:=c109o.toList.dropLast.toArray
def c109l:Oper:=match c109o.toList.getLast? with | some o=>o | none=>⟨none,.move (.tmp 0),0,"",#[],none⟩
theorem c109_eq:c109=.seq c109a (.seq c109b (.cond (.tmp 9) c109c (.region 3 (c109i.push c109l) true))):=by kernel_rfl
theorem c109l_op:c109l.op=.mapUpdate 125 (.tmp 20) (.tmp 24) (.const (.bool true)):=by kernel_rfl
theorem c109l_dst:c109l.dst=none:=by kernel_rfl
theorem c109l_guard:c109l.guard=none:=by kernel_rfl
theorem y109a(nm:ByteArray)(k b pr:Int)(st t1:Bool)(m1 m2 m3 m4:Value)(R:XE->List SV->List Blk->Prop):exec Try.prog [] (fun _=>none) 8 (preC [c109a,c109b]) (mkSt 1 25 [0,1] [.ptr 0 0,.bool t1] 1 [.cells 127 (thS nm k b m1 m2 m3 pr st m4)]) (canonK 1 25 [0,9] [] 1 [] R) =
 (R (XE.normal) [.ptr 0 0,.bool t1] [.cells 127 (thS nm k b m1 m2 m3 pr (bif t1 then false else true) m4)]):=by kernel_rfl
theorem y109c(nm:ByteArray)(k b pr:Int)(st t1:Bool)(m1 m2 m3 m4:Value)(R:XE->List SV->List Blk->Prop):exec Try.prog [] (fun _=>none) 8 c109c (mkSt 1 25 [0,9] [.ptr 0 0,.bool t1] 1 [.cells 127 (thS nm k b m1 m2 m3 pr st m4)]) (canonK 1 25 [] [] 1 [] R) =
 (R (XE.normal) [] [.cells 127 (thS nm k b m1 m2 m3 (IntKind.i64.wrap (pr+1)) st m4)]):=by kernel_rfl
theorem y109d(nm:ByteArray)(k b pr:Int)(st t1:Bool)(m1 m2 m3 m4:Value)(R:SV->SV->Blk->Prop):xDraw Try.prog (gamOf false []) c109i (mkSt 1 25 [0,9] [.ptr 0 0,.bool t1] 1 [.cells 127 (thS nm k b m1 m2 m3 pr st m4)]) (fun s=>R (ev s [] (.tmp 20)) (ev s [] (.tmp 24)) (s.mem 0)) =
 (R (.val m4) (.int .i64 pr) (.cells 127 (thS nm k b m1 m2 m3 pr st m4))):=by kernel_rfl
def anT(t:Th)(ok:Bool):Th:=cond ok { t with st:=false,pr:=t.pr+1 } { t with st:=true,bad:=fun q=>t.bad q||decide (q=t.pr) }
theorem int3:Try.prog.underlying 3=some (.int .i64):=by kernel_rfl
theorem map125:Try.prog.underlying 125=some (.map 3 4):=by kernel_rfl
theorem calls109{L:Lay}{K:Kst}{st:Stt}{w:World}(hL:L.T=T7)(h:ShopAt L K st w){i:Nat}(hi:i<K.n)(ok:Bool)(hpr:(st.th i).pr<1000000) :
  Calls Try.prog 109 ⟨[.pointer (some ⟨L.at_ (.th i),0,none⟩),.bool ok]⟩ w fun e w'=>∃ ys,e=.returned (retV ys)/\ShopAt L K (upT st i (anT (st.th i) ok)) w'/\Only L K w w':=by
 refine calls_raw (fn:=Try.f109) (c:=c109) Try.func109 rfl [] rfl (xs:=[.pointer (some ⟨L.at_ (.th i),0,none⟩),.bool ok]) (show 2<=Try.f109.ntmps by decide) (Q:=fun _ w'=>ShopAt L K (upT st i (anT (st.th i) ok)) w'/\Only L K w w') fun a hsz hdf hargs=>?_
 rw [c109_eq]
 obtain ⟨o0,hb,ho⟩:=h.at_ (.th i) hi
 have ho:o0=.cells (thV L K st i) L.T.th (0,0):=ho
 subst ho
 rw [hL] at hb
 have hs0:StDen w.heap.size [L.at_ (.th i)] ⟨w,nm1 (L.at_ (.th i)) noOd,1,fun _=>none,some []⟩ (nm1 (L.at_ (.th i)) noOd) (mkSt 1 25 [0,1] [.ptr 0 0,.bool ok] 1 [.cells 127 (thS (K.di.ss i 0) (K.di.ii i 1) (K.di.ii i 2) (.map (some (L.at_ (.ck i)))) (.map (some (L.at_ (.hs i)))) (.map (some (L.at_ (.hd i)))) ((st.th i).pr:Int) (st.th i).st (.map (some (L.at_ (.bd i)))))]) a w:=by
  refine StDen.start hsz hdf (fun d e=>by cases e;rfl) (mem1 hb ⟨rfl,rfl,rfl,rfl,rfl,rfl,rfl,rfl,rfl,trivial⟩ (by simp) (noOd_ok w) fun _=>rfl) (fun j hj=>if_neg (by omega)) (fun e=>by cases e) (fun p t v h1 h2=>?_) (fun v hv t pol u e=>?_)
  ·match p,h1,h2 with
   | 0,h1,h2=>cases h1;cases h2;exact ⟨_,rfl,hargs 0 _ rfl⟩
   | 1,h1,h2=>cases h1;cases h2;exact hargs 1 _ rfl
  ·simp at hv;rcases hv with rfl | rfl <;> cases e
 refine pre_cans (l:=[c109a,c109b]) (R:=fun e v b=>e=.normal/\v=[.ptr 0 0,.bool ok]/\b=_) tabOk_nil mix_ok (by simp) (propOf (y109a _ _ _ _ _ _ _ _ _ _ _) ⟨rfl,rfl,rfl⟩) (fun x hx=>.inr (by simp at hx;rcases hx with rfl | rfl <;> kernel_rfl)) hs0 ?_ (fun e _ _ _ _ _ hne hR=>absurd hR.1 hne)
 rintro vs bs ρ1 a1 w1 ⟨_,rfl,rfl⟩ h1
 obtain ⟨c1,hb1,hd1⟩:=h1.cells1
 have hc1:=th_cells hd1
 subst hc1
 have hk1:Kept w.heap.size [L.at_ (.th i)] w w1:=h1.kept
 have e9:a1.eval (.tmp 9)=.bool ok:=ev_den h1.tmDen (AsmOk.nil a1) (.tmp 9)
 have hsh1:ShopAt L K (upT st i { st.th i with st:=bif ok then false else true }) w1:=by
  refine h.up (.th i) hi (h.ok.up (fun _=>rfl) (fun a b hab hi=>h.ok.has i hi a b hab) (fun a b hab hi=>h.ok.had i hi a b hab)) hk1.keep1 ⟨_,hb1,?_⟩ (fun e=>absurd rfl e) (fun _=>rfl) (fun _=>rfl) (fun _=>rfl) (fun _ _=>rfl)
  show Obj.cells _ _ _=Obj.cells (thV L K _ i) L.T.th (0,0)
  rw [hL]
  simp only [thV,upT_same]
  rfl
 have ho1:Only L K w w1:=Only.of_kept hk1 fun b hb=>⟨.th i,hi,(List.mem_singleton.1 hb).symm⟩
 refine wpIn_cond e9 ?_
 cases ok with
 | true =>
  refine exec_canR tabOk_nil mix_ok (R:=fun v b=>v=[]/\b=_) (propOf (y109c _ _ _ _ _ _ _ _ _ _ _) ⟨rfl,rfl,rfl⟩) (.inr (by kernel_rfl)) h1 ?_
  rintro vs bs ρ2 a2 w2 ⟨rfl,rfl⟩ h2
  obtain ⟨c2,hb2,hd2⟩:=h2.cells1
  have hc2:=th_cells hd2
  subst hc2
  have hk2:Kept w.heap.size [L.at_ (.th i)] w w2:=h2.kept
  refine ⟨.inr rfl,h2.defs.same_ [] rfl,?_,Only.of_kept hk2 fun b hb=>⟨.th i,hi,(List.mem_singleton.1 hb).symm⟩⟩
  refine h.up (.th i) hi (h.ok.up (fun _=>rfl) (fun a b hab hi=>h.ok.has i hi a b hab) (fun a b hab hi=>h.ok.had i hi a b hab)) hk2.keep1 ⟨_,hb2,?_⟩ (fun e=>absurd rfl e) (fun _=>rfl) (fun _=>rfl) (fun _=>rfl) (fun _ _=>rfl)
  show Obj.cells _ _ _=Obj.cells (thV L K _ i) L.T.th (0,0)
  rw [hL]
  have hw:IntKind.i64.wrap (((st.th i).pr:Int)+1)=(((st.th i).pr+1:Nat):Int):=by rw [wrp (by omega) (by omega)];rfl
  simp only [thV,upT_same,anT,cond_true,hw]
  rfl
 | false =>
  refine xDrawL_raw (gamOf_ok (pix:=false) tabOk_nil) mix_ok (by kernel_rfl) (by kernel_rfl) c109l_dst (k:=fun s=>ev s [] (.tmp 20)=.val (.map (some (L.at_ (.bd i))))/\ev s [] (.tmp 24)=.int .i64 ((st.th i).pr:Int)/\s.mem 0=.cells 127 (thS (K.di.ss i 0) (K.di.ii i 1) (K.di.ii i 2) (.map (some (L.at_ (.ck i)))) (.map (some (L.at_ (.hs i)))) (.map (some (L.at_ (.hd i)))) ((st.th i).pr:Int) (bif false then false else true) (.map (some (L.at_ (.bd i)))))) (fun s ρ2 a2 w2 h2 hk=>?_) h1 (propOf (y109d _ _ _ _ _ _ _ _ _ _ (fun x y z=>x=.val (.map (some (L.at_ (.bd i))))/\y=.int .i64 ((st.th i).pr:Int)/\z=.cells 127 (thS (K.di.ss i 0) (K.di.ii i 1) (K.di.ii i 2) (.map (some (L.at_ (.ck i)))) (.map (some (L.at_ (.hs i)))) (.map (some (L.at_ (.hd i)))) ((st.th i).pr:Int) (bif false then false else true) (.map (some (L.at_ (.bd i))))))) ⟨rfl,rfl,rfl⟩)
  obtain ⟨k1,k2,k3⟩:=hk
  have x1:=ev_den h2.tmDen (AsmOk.nil a2) (.tmp 20)
  have x2:=ev_den h2.tmDen (AsmOk.nil a2) (.tmp 24)
  rw [k1] at x1
  rw [k2] at x2
  have x1:a2.eval (.tmp 20)=.map (some (L.at_ (.bd i))):=x1
  have x2:a2.eval (.tmp 24)=.int .i64 ((st.th i).pr:Int):=x2
  have e0:ρ2 0=some ⟨L.at_ (.th i),0,0⟩:=h2.argl 0 (Nat.lt_succ_self 0)
  obtain ⟨_,hden,_⟩:=h2.mem.get (i:=0) (by rw [k3];rfl) e0
  rw [k3] at hden
  obtain ⟨_,c2,hb2,hd2⟩:=hden
  have hc2:=th_cells hd2
  subst hc2
  have hk2:Kept w.heap.size [L.at_ (.th i)] w w2:=h2.kept
  have hsh2:ShopAt L K (upT st i { st.th i with st:=true }) w2:=by
   refine h.up (.th i) hi (h.ok.up (fun _=>rfl) (fun a b hab hi=>h.ok.has i hi a b hab) (fun a b hab hi=>h.ok.had i hi a b hab)) hk2.keep1 ⟨_,hb2,?_⟩ (fun e=>absurd rfl e) (fun _=>rfl) (fun _=>rfl) (fun _=>rfl) (fun _ _=>rfl)
   show Obj.cells _ _ _=Obj.cells (thV L K _ i) L.T.th (0,0)
   rw [hL]
   simp only [thV,upT_same]
   rfl
  obtain ⟨_,g1,es,cl,f,rfl,g2,g3⟩:=hsh2.at_ (.bd i) hi
  obtain ⟨o',hrun,hat⟩:=MapAt.update (intKeys int3) map125 (w:=w2) (b:=L.at_ (.bd i)) ⟨es,cl,g1,g2⟩ ((st.th i).pr:Int) (.bool true)
  refine wpOp_skip c109l_guard (w':=setBlock w2 (L.at_ (.bd i)) o') ?_ ?_ (by rw [c109l_op];intro c e;cases e)
  ·unfold execOp
   rw [c109l_op]
   have x3:a2.eval (.const (.bool true))=.bool true:=rfl
   simp only [x1,x2,x3]
   simp [hrun]
  ·refine ⟨.inr rfl,?_,?_,(Only.of_kept hk2 fun b hb=>⟨.th i,hi,(List.mem_singleton.1 hb).symm⟩).trans (Only.set (t:=.bd i) hi o')⟩
   ·rw [put_defs];exact h2.defs.same_ [] rfl
   ·obtain ⟨es',cl',q1,q2⟩:=hat
    have:=hsh2.up (i:=i) (t:=anT (st.th i) false) (w':=setBlock w2 (L.at_ (.bd i)) o') (.bd i) hi ?_ setBlock_keep ⟨_,q1,es',cl',_,rfl,q2,?_⟩ (fun _=>?_) (fun _=>?_) (fun _=>?_) (fun e=>absurd rfl e) (fun q _=>?_)
    ·rw [upT_upT] at this;exact this
    ·exact hsh2.ok.up (fun q=>by rw [upT_same];rfl) (fun a b hab hi=>h.ok.has i hi a b hab) (fun a b hab hi=>h.ok.had i hi a b hab)
    ·rw [upT_same] at g3
     rw [upT_same]
     intro r
     by_cases er:r=((st.th i).pr:Int)
     ·subst er
      simp [anT]
     ·simp only [if_neg er]
      rw [g3 r]
      have:(decide (0<=r)&&((st.th i).bad r.toNat||decide (r.toNat=(st.th i).pr)))=(decide (0<=r)&&(st.th i).bad r.toNat):=by
       by_cases h0:0<=r
       ·have:¬ r.toNat=(st.th i).pr:=by omega
        simp [this]
       ·simp [h0]
      show _=if (decide (0<=r)&&((st.th i).bad r.toNat||decide (r.toNat=(st.th i).pr)))=true then _ else _
      rw [this]
    ·rw [upT_same];exact ⟨rfl,rfl⟩
    ·rw [upT_same];rfl
    ·rw [upT_same];rfl
    ·rw [upT_same];rfl
/-! ### helpers: fill -/
def c108:Code:=Try.f108.body.getD .skip
def c108a:Code:=match c108 with | .seq (.seq a _) _=>a | c=>c
def c108b:Code:=match c108 with | .seq (.seq _ (.cond _ (.seq b _) _)) _=>b | c=>c
def c108p:Array Oper:=match c108 with | .seq (.seq _ (.cond _ (.seq _ (.seq (.region _ o _) _)) _)) _=>o | _=>#[]
def c108r:Code:=match c108 with | .seq _ (.seq r _)=>r | c=>c
def c108n:Code:=match c108 with | .seq _ (.seq _ (.block _ (.loop (.seq n _))))=>n | c=>c
def c108e:Code:=match c108 with | .seq _ (.seq _ (.block _ (.loop (.seq _ (.seq _ (.block _ (.seq e _)))))))=>e | c=>c
def c108q:Array Oper:=match c108 with | .seq _ (.seq _ (.block _ (.loop (.seq _ (.seq _ (.block _ (.seq _ (.region _ o _))))))))=>o | _=>#[]
theorem c108_eq:c108=.seq (.seq c108a (.cond (.tmp 13) (.seq c108b (.seq (.region 2 c108p true) .ret)) .skip)) (.seq c108r (.block 0 (.loop (.seq c108n (.seq (.cond (.tmp 45) .skip (.exit 0)) (.block 1 (.seq c108e (.region 6 c108q true)))))))):=by kernel_rfl
def fillOps(s x:Nat):List (Option Nat × Op × Option (Nat × Bool)) :=
 [(some s,.move (.tmp 0),none),(some (s+1),.nilCheck (.tmp s),none),(some (s+2),.fieldAddr 127 (.tmp (s+1)) 2,none),(some (s+3),.load 124 (.tmp (s+2)),none),(some (s+4),.load 133 (.tmp x),none),
  (some (s+5),.move (.tmp 0),none),(some (s+6),.nilCheck (.tmp (s+5)),none),(some (s+7),.fieldAddr 127 (.tmp (s+6)) 3,none),(some (s+8),.load 124 (.tmp (s+7)),none),(some (s+9),.load 133 (.tmp x),none),
  (some (s+10),.mapEntry 124 (.tmp (s+3)) (.tmp (s+4)),none),(some (s+11),.extract (.tmp (s+10)) 1,none),(none,.entryStore 124 (.tmp (s+3)) (.tmp (s+11)) (.const (.bool true)),none),
  (some (s+12),.mapEntry 124 (.tmp (s+8)) (.tmp (s+9)),none),(some (s+13),.extract (.tmp (s+12)) 1,none),(none,.entryStore 124 (.tmp (s+8)) (.tmp (s+13)) (.const (.bool true)),none)]
def fillEdges:List (List Nat):=[[],[0],[1],[2],[],[],[5],[6],[7],[],[3,4,8],[10],[3,11,10,0,1,2,3,4,8,10],[8,9,12,0,1,2,3,4,8,10,11,12],[13],[8,14,13,0,1,2,3,4,5,6,7,8,9,10,11,12,13]]
def opK(o:Oper):Option Nat × Op × Option (Nat × Bool):=(o.dst,o.op,o.guard)
def edK(o:Oper):List Nat:=(o.after.toList.filter (Region.binds .any)).map (·.on)
theorem c108p_ops:c108p.toList.map opK=fillOps 25 6:=by kernel_rfl
theorem c108q_ops:c108q.toList.map opK=fillOps 48 7:=by kernel_rfl
theorem c108p_ed:c108p.toList.map edK=fillEdges:=by kernel_rfl
theorem c108q_ed:c108q.toList.map edK=fillEdges:=by kernel_rfl
theorem zero4(w:World):(zeroValue 4).run Try.prog w=.ok (.bool false) w:=by kernel_rfl
def addT(t:Th)(c k:Nat):Th:={ t with has:=fun a b=>t.has a b||decide (a=c/\b=k),had:=fun a b=>t.had a b||decide (a=c/\b=k) }
theorem load_at{w:World}{b:Nat}{c:Array Value}{e:TypeId}{j:Nat}{t:TypeId}{v:SV}{y:Value}(hb:w.heap[b]? = some (.cells c e (0,0)))(hx:xLoad Try.prog (memOf [.cells e (c.toList.map .val)]) t (.ptr 0 j)=some { v:=v })(hv:∀ z,v.den (nm1 b noOd) z->z=y) :
  (Instr.loadAt t (.pointer (some ⟨b,j,none⟩))).run Try.prog w=.ok y w:=by
 have hd:SV.denL (nm1 b noOd) (c.toList.map .val) c.toList:=by
  generalize c.toList=l
  induction l with
  | nil=>trivial
  | cons x l ih=>exact ⟨rfl,ih⟩
 have hm:MemDen w.heap.size [b] (nm1 b noOd) (memOf [.cells e (c.toList.map .val)]) w:=mem1 hb hd (by simp) (noOd_ok w) fun _=>rfl
 obtain ⟨z,hr,hp⟩:=run_xLoad (P:=Try.prog) hm hx (fun b hb=>by simp at hb) (x:=.pointer (some ⟨b,j,none⟩)) ⟨⟨b,0,0⟩,rfl,by simp⟩ 1
 rw [hr,hv z hp.val]
theorem field_at{w:World}{b f j:Nat}{t:TypeId}(hx:xFieldAddr Try.prog t (.ptr 0 0) f=some { v:=.ptr 0 j }):(Instr.fieldAt t (.pointer (some ⟨b,0,none⟩)) f).run Try.prog w=.ok (.pointer (some ⟨b,j,none⟩)) w:=by
 obtain ⟨z,hr,hp⟩:=run_xFieldAddr (P:=Try.prog) (w:=w) (ρ:=nm1 b noOd) hx (x:=.pointer (some ⟨b,0,none⟩)) ⟨⟨b,0,0⟩,rfl,by simp⟩ 1
 have hv:(SV.ptr 0 j).den (nm1 b noOd) z:=hp.val
 obtain ⟨m,hm,rfl⟩:=hv
 have hm:some (⟨b,0,0⟩:Nm)=some m:=hm
 cases hm
 simpa using hr
theorem mapB_add{b:Nat->Nat->Bool}{f:Int × Int->Option Value}(h:Go.Sy.mapB b f)(c k:Nat):Go.Sy.mapB (fun x y=>b x y||decide (x=c/\y=k)) (fun x=>if x=((c:Int),(k:Int)) then some (.bool true) else f x):=by
 intro p
 by_cases e:p=((c:Int),(k:Int))
 ·subst e;simp
 ·simp only [if_neg e]
  rw [h p]
  have:(decide (0<=p.1)&&decide (0<=p.2)&&(b p.1.toNat p.2.toNat||decide (p.1.toNat=c/\p.2.toNat=k)))=(decide (0<=p.1)&&decide (0<=p.2)&&b p.1.toNat p.2.toNat):=by
   by_cases h1:0<=p.1
   ·by_cases h2:0<=p.2
    ·have:¬ (p.1.toNat=c/\p.2.toNat=k):=fun ⟨q1,q2⟩=>e (Prod.ext (by simp only;omega) (by simp only;omega))
     simp [this]
    ·simp [h2]
   ·simp [h1]
  rw [this]
theorem fill_dst{s x:Nat}:∀ (j:Nat) (t:Option Nat × Op × Option (Nat × Bool)) (d:Nat),(fillOps s x)[j]? = some t->t.1=some d->j<16/\j≠12/\j≠15/\d=s+(if j<=11 then j else j - 1)
 | 0,t,d,h,e=>by
  cases h
  cases e
  simp
 | 1,t,d,h,e=>by
  cases h
  cases e
  simp
 | 2,t,d,h,e=>by
  cases h
  cases e
  simp
 | 3,t,d,h,e=>by
  cases h
  cases e
  simp
 | 4,t,d,h,e=>by
  cases h
  cases e
  simp
 | 5,t,d,h,e=>by
  cases h
  cases e
  simp
 | 6,t,d,h,e=>by
  cases h
  cases e
  simp
 | 7,t,d,h,e=>by
  cases h
  cases e
  simp
 | 8,t,d,h,e=>by
  cases h
  cases e
  simp
 | 9,t,d,h,e=>by
  cases h
  cases e
  simp
 | 10,t,d,h,e=>by
  cases h
  cases e
  simp
 | 11,t,d,h,e=>by
  cases h
  cases e
  simp
 | 12,t,d,h,e=>by
  cases h
  cases e
 | 13,t,d,h,e=>by
  cases h
  cases e
  simp
 | 14,t,d,h,e=>by
  cases h
  cases e
  simp
 | 15,t,d,h,e=>by
  cases h
  cases e
 | n+16,t,d,h,e=>by simp [fillOps] at h
theorem fillEdges_lt:∀ (j:Nat) (l:List Nat),fillEdges[j]? = some l->∀ q∈l,q<j:=by
 intro j l h q hq
 have:j<16:=(List.getElem?_eq_some_iff.1 h).1
 have hc:((List.range 16).all fun j=>((fillEdges[j]?).getD []).all fun q=>decide (q<j))=true:=rfl
 have h1:=List.all_eq_true.1 hc j (List.mem_range.2 this)
 rw [h] at h1
 simpa using List.all_eq_true.1 h1 q hq
theorem fill_region{s x:Nat}{ops:Array Oper}{id:Nat}(hops:ops.toList.map opK=fillOps s x)(hed:ops.toList.map edK=fillEdges){a0:Act}{w:World}(hsz:s+14<=a0.tmps.size)(h0:0<s)(hxs:x<s){L:Lay}{K:Kst}{st:Stt}{i:Nat}(hL:L.T=T7)(h:ShopAt L K st w)(hi:i<K.n){bx c k:Nat}(e0:a0.eval (.tmp 0)=.pointer (some ⟨L.at_ (.th i),0,none⟩))(ex:a0.eval (.tmp x)=.pointer (some ⟨bx,0,none⟩))(hbx:w.heap[bx]? = some (.cells #[.int .i64 (c:Int),.int .i64 (k:Int)] 133 (0,0)))(hck:c<K.n/\k<nB){Q:Exit->Act->World->Prop}(hQ:∀ a w',a.defers=a0.defers->a.tmps.size=a0.tmps.size->(∀ t,(t<s\/s+14<=t)->a.eval (.tmp t)=a0.eval (.tmp t))->ShopAt L K (upT st i (addT (st.th i) c k)) w'->Only L K w w' ->
   (∀ q o,q≠L.at_ (.hs i)->q≠L.at_ (.hd i)->w.heap[q]? = some o->w'.heap[q]? = some o)->Q .normal a w'):(Code.region id ops true).wpIn (FW none) 0 Try.prog Q a0 w:=by
 have hsize:ops.size=16:=by have:=congrArg List.length hops;simpa [fillOps] using this
 have opAt:∀ (j:Nat) (o:Oper),ops[j]? = some o->(fillOps s x)[j]? = some (opK o):=fun j o ho=>by rw [<- hops,List.getElem?_map,Array.getElem?_toList,ho];rfl
 have edAt:∀ (j:Nat) (o:Oper),ops[j]? = some o->fillEdges[j]? = some (edK o):=fun j o ho=>by rw [<- hed,List.getElem?_map,Array.getElem?_toList,ho];rfl
 have edM:∀ (o:Oper) (q:Nat),q∈edK o↔∃ e∈o.after.toList,Region.binds .any e=true/\e.on=q:=fun o q=>by simp [edK,and_assoc]
 -- the worlds
 obtain ⟨_,g1,es1,cl1,f1,rfl,g2,g3⟩:=h.at_ (.hs i) hi
 obtain ⟨_,d1,es2,cl2,f2,rfl,d2,d3⟩:=h.at_ (.hd i) hi
 obtain ⟨o0,t1,t2⟩:=h.at_ (.th i) hi
 have t2:o0=.cells (thV L K st i) L.T.th (0,0):=t2
 subst t2
 rw [hL] at t1
 have hne:L.at_ (.hs i)≠L.at_ (.hd i):=fun e=>by cases h.inj (.hs i) (.hd i) hi hi e
 have hnt1:L.at_ (.th i)≠L.at_ (.hs i):=fun e=>by cases h.inj (.th i) (.hs i) hi hi e
 have hnt2:L.at_ (.th i)≠L.at_ (.hd i):=fun e=>by cases h.inj (.th i) (.hd i) hi hi e
 have hnb1:bx≠L.at_ (.hs i):=fun e=>by rw [e,g1] at hbx;cases hbx
 have hnb2:bx≠L.at_ (.hd i):=fun e=>by rw [e,d1] at hbx;cases hbx
 let w0:World:={ w with drawn:=w.drawn+1 }
 obtain ⟨o1,o2,x1,s1,r1,r2,es3,cl3,rfl,m1⟩:=MapAt.entry_store (keys133) under124 zero4 (w:=w0) (b:=L.at_ (.hs i)) (f:=f1) ⟨es1,cl1,g1,g2⟩ ((c:Int),(k:Int)) (.bool true)
 let w1:=setBlock w0 (L.at_ (.hs i)) o1
 let w2:=setBlock w1 (L.at_ (.hs i)) (.map es3 cl3)
 have hw1:w1.heap[L.at_ (.hs i)]? = some o1:=setBlock_same (w:=w0) g1 _
 have hd2:w2.heap[L.at_ (.hd i)]? = some (.map es2 cl2):=by
  show (setBlock w1 _ _).heap[_]? = _
  rw [setBlock_other _ _ (Ne.symm hne)]
  show (setBlock w0 _ _).heap[_]? = _
  rw [setBlock_other _ _ (Ne.symm hne)]
  exact d1
 obtain ⟨o3,o4,x2,s2,r3,r4,es4,cl4,rfl,m2⟩:=MapAt.entry_store (keys133) under124 zero4 (w:=w2) (b:=L.at_ (.hd i)) (f:=f2) ⟨es2,cl2,hd2,d2⟩ ((c:Int),(k:Int)) (.bool true)
 let w3:=setBlock w2 (L.at_ (.hd i)) o3
 let w4:=setBlock w3 (L.at_ (.hd i)) (.map es4 cl4)
 have hw3:w3.heap[L.at_ (.hd i)]? = some o3:=setBlock_same (w:=w2) hd2 _
 let W:Nat->World:=fun p=>match p with
  | 0=>w0
  | 1=>w1
  | 2=>w2
  | 3=>w3
  | _=>w4
 let eff:Nat->Option Nat:=fun j=>match j with
  | 10=>some 0
  | 12=>some 1
  | 13=>some 2
  | 15=>some 3
  | _=>none
 let val:Nat->Value:=fun j=>match j with
  | 0 | 1 | 5 | 6=>.pointer (some ⟨L.at_ (.th i),0,none⟩)
  | 2=>.pointer (some ⟨L.at_ (.th i),4,none⟩)
  | 3=>.map (some (L.at_ (.hs i)))
  | 4 | 9=>pairV ((c:Int),(k:Int))
  | 7=>.pointer (some ⟨L.at_ (.th i),5,none⟩)
  | 8=>.map (some (L.at_ (.hd i)))
  | 10=>.tuple #[x1,goInt s1]
  | 11=>goInt s1
  | 13=>.tuple #[x2,goInt s2]
  | 14=>goInt s2
  | _=>undef
 have hW:∀ ph q,q≠L.at_ (.hs i)->q≠L.at_ (.hd i)->(W ph).heap[q]? = w.heap[q]?:=fun ph q q1 q2=>by
  have a1:w1.heap[q]? = w.heap[q]?:=setBlock_other w0 _ q1
  have a2:w2.heap[q]? = w.heap[q]?:=(setBlock_other w1 _ q1).trans a1
  have a3:w3.heap[q]? = w.heap[q]?:=(setBlock_other w2 _ q2).trans a2
  have a4:w4.heap[q]? = w.heap[q]?:=(setBlock_other w3 _ q2).trans a3
  match ph with
  | 0=>rfl
  | 1=>exact a1
  | 2=>exact a2
  | 3=>exact a3
  | _+4=>exact a4
 have hWt:∀ ph,(W ph).heap[L.at_ (.th i)]? = some (.cells (thV L K st i) 127 (0,0)):=fun ph=>(hW ph _ hnt1 hnt2).trans t1
 have hWb:∀ ph,(W ph).heap[bx]? = some (.cells #[.int .i64 (c:Int),.int .i64 (k:Int)] 133 (0,0)):=fun ph=>(hW ph _ hnb1 hnb2).trans hbx
 have pv:∀ z,(SV.agg [.val (.int .i64 (c:Int)),.val (.int .i64 (k:Int))]).den (nm1 bx noOd) z->z=pairV ((c:Int),(k:Int)):=fun z hz=>by
  obtain ⟨xs,rfl,hx⟩:=hz
  obtain ⟨y0,l0,rfl,h0,hx⟩:=denL_cons hx
  obtain ⟨y1,l1,rfl,h1,hx⟩:=denL_cons hx
  have:=denL_nil hx
  subst this
  cases h0;cases h1;rfl
 refine any_phase mix_ok (val:=val) (W:=W) (eff:=eff) (N:=4) (fun j o ho=>?_) (fun j1 j2 o1 o2 d h1 h2 e1 e2=>?_) (fun j p hp=>?_) (fun j1 j2 p h1 h2=>?_) (fun p hp=>?_) (fun j o p ho hp=>?_) (fun j o ho a ph hph hpe hdep hrest hlt=>?_) rfl (fun a hdf hsz' hrest=>?_)
 ·have hm:=List.mem_of_getElem? (opAt j o ho)
  refine ⟨?_,?_,fun d hd=>?_,fun e he hb=>fillEdges_lt j _ (edAt j o ho) _ ((edM o e.on).2 ⟨e,he,hb,rfl⟩)⟩
  ·simp only [fillOps,List.mem_cons,List.not_mem_nil,or_false] at hm
   rcases hm with h | h | h | h | h | h | h | h | h | h | h | h | h | h | h | h <;> exact congrArg (fun z:Option Nat × Op × Option (Nat × Bool)=>z.2.2) h
  ·intro cc hc
   simp only [fillOps,List.mem_cons,List.not_mem_nil,or_false] at hm
   rcases hm with h | h | h | h | h | h | h | h | h | h | h | h | h | h | h | h <;> (have:=congrArg (fun z:Option Nat × Op × Option (Nat × Bool)=>z.2.1) h;simp only [opK,hc] at this;cases this)
  ·have:=fill_dst j _ d (opAt j o ho) hd
   obtain ⟨q1,q2,q3,q4⟩:=this
   have key:∀ d':Nat,d'=s+(if j<=11 then j else j - 1)->j<16->j≠12->j≠15->d'<a0.tmps.size:=by
    intro d' h1 h2 h3 h4
    split at h1 <;> omega
   exact key d q4 q1 q2 q3
 ·obtain ⟨q1,q2,q3,q4⟩:=fill_dst j1 _ d (opAt j1 o1 h1) e1
  obtain ⟨p1,p2,p3,p4⟩:=fill_dst j2 _ d (opAt j2 o2 h2) e2
  split at q4 <;> split at p4 <;> omega
 ·simp only [eff] at hp
  split at hp <;> cases hp <;> simp [hsize]
 ·simp only [eff] at h1 h2
  split at h1 <;> cases h1 <;> (split at h2 <;> cases h2;rfl)
 ·match p,hp with
  | 0,_=>exact ⟨10,rfl⟩
  | 1,_=>exact ⟨12,rfl⟩
  | 2,_=>exact ⟨13,rfl⟩
  | 3,_=>exact ⟨15,rfl⟩
 ·have hdd:=edAt j o ho
  simp only [eff] at hp
  split at hp <;> cases hp
  ·have hee:edK o=[3,11,10,0,1,2,3,4,8,10]:=(Option.some.inj hdd).symm
   obtain ⟨e,he,hb,hq⟩:=(edM o 10).1 (by rw [hee];simp)
   exact ⟨e,he,hb,by rw [hq];rfl⟩
  ·have hee:edK o=[8,9,12,0,1,2,3,4,8,10,11,12]:=(Option.some.inj hdd).symm
   obtain ⟨e,he,hb,hq⟩:=(edM o 12).1 (by rw [hee];simp)
   exact ⟨e,he,hb,by rw [hq];rfl⟩
  ·have hee:edK o=[8,14,13,0,1,2,3,4,5,6,7,8,9,10,11,12,13]:=(Option.some.inj hdd).symm
   obtain ⟨e,he,hb,hq⟩:=(edM o 13).1 (by rw [hee];simp)
   exact ⟨e,he,hb,by rw [hq];rfl⟩
 rotate_left
 ·have hst1:ShopAt L K (upT st i { st.th i with has:=fun a b=>(st.th i).has a b||decide (a=c/\b=k) }) w2:=by
   refine h.up (.hs i) hi (h.ok.up (fun _=>rfl) (fun a b hab hi=>?_) (fun a b hab hi=>h.ok.had i hi a b hab)) (fun q hq o ho=>?_) ⟨_,setBlock_same (w:=w1) hw1 _,es3,cl3,_,rfl,m1,?_⟩ (fun _=>⟨rfl,rfl⟩) (fun e=>absurd rfl e) (fun _=>rfl) (fun _=>rfl) (fun _ _=>rfl)
   ·simp only [Bool.or_eq_true,decide_eq_true_eq] at hab
    rcases hab with hab | ⟨rfl,rfl⟩
    ·exact h.ok.has i hi a b hab
    ·exact hck
   ·exact (setBlock_other w1 _ hq).trans ((setBlock_other w0 _ hq).trans ho)
   ·rw [upT_same];exact mapB_add g3 c k
  have hst2:=hst1.up (i:=i) (t:=addT (st.th i) c k) (w':=w4) (.hd i) hi ?_ (fun q hq o ho=>?_) ⟨_,setBlock_same (w:=w3) hw3 _,es4,cl4,_,rfl,m2,?_⟩ (fun _=>?_) (fun _=>?_) (fun e=>absurd rfl e) (fun _=>?_) (fun q _=>?_)
  ·rw [upT_upT] at hst2
   refine hQ a w4 hdf hsz' (fun t ht=>hrest t fun i' o' ho' hd=>?_) hst2 ?_ fun q o q1 q2 ho=>(hW 4 q q1 q2).trans ho
   ·obtain ⟨q1,q2,q3,q4⟩:=fill_dst i' _ t (opAt i' o' ho') hd
    have key:∀ d':Nat,d'=s+(if i'<=11 then i' else i' - 1)->(d'<s\/s+14<=d')->i'<16->i'≠12->i'≠15->False:=by
     intro d' h1 h2 h3 h4 h5
     split at h1 <;> omega
    exact key t q4 ht q1 q2 q3
   ·refine ⟨rfl,rfl,rfl,?_,fun b _ hn=>hW 4 b (fun e=>hn (.hs i) hi e.symm) (fun e=>hn (.hd i) hi e.symm)⟩
    show w.heap.size<=w4.heap.size
    simp [w4,w3,w2,w1,w0,setBlock]
  ·refine hst1.ok.up (fun q=>by rw [upT_same];rfl) (fun a b hab hi=>?_) (fun a b hab hi=>?_)
   ·simp only [addT,Bool.or_eq_true,decide_eq_true_eq] at hab
    rcases hab with hab | ⟨rfl,rfl⟩
    ·exact h.ok.has i hi a b hab
    ·exact hck
   ·simp only [addT,Bool.or_eq_true,decide_eq_true_eq] at hab
    rcases hab with hab | ⟨rfl,rfl⟩
    ·exact h.ok.had i hi a b hab
    ·exact hck
  ·exact (setBlock_other w3 _ hq).trans ((setBlock_other w2 _ hq).trans ho)
  ·rw [upT_same];exact mapB_add d3 c k
  ·rw [upT_same];exact ⟨rfl,rfl⟩
  ·rw [upT_same];rfl
  ·rw [upT_same];rfl
  ·rw [upT_same];rfl
 have hk:=opAt j o ho
 have hdd:=edAt j o ho
 have dep:∀ (q d:Nat) (t:Option Nat × Op × Option (Nat × Bool)),q∈edK o->(fillOps s x)[q]? = some t->t.1=some d->a.eval (.tmp d)=val q:=fun q d t hq ht hd=>by
  obtain ⟨e,he,hb,rfl⟩:=(edM o q).1 hq
  have hl:e.on<ops.size:=by rw [hsize];exact (fill_dst _ _ _ ht hd).1
  have hoj:=Array.getElem?_eq_getElem hl
  have:=opAt _ _ hoj
  rw [ht] at this
  cases this
  exact hdep e he hb _ d hoj hd
 have out:∀ t,(t<s\/s+14<=t)->a.eval (.tmp t)=a0.eval (.tmp t):=fun t ht=>hrest t fun i' o' ho' hd=>by
  obtain ⟨q1,q2,q3,q4⟩:=fill_dst i' _ t (opAt i' o' ho') hd
  split at q4 <;> omega
 have e0':=(out 0 (.inl h0)).trans e0
 have ex':=(out x (.inl hxs)).trans ex
 have hj16:j<16:=by
  have:=(Array.getElem?_eq_some_iff.1 ho).1
  omega
 have hjs:j=0\/j=1\/j=2\/j=3\/j=4\/j=5\/j=6\/j=7\/j=8\/j=9\/j=10\/j=11\/j=12\/j=13\/j=14\/j=15:=by omega
 rcases hjs with rfl | rfl | rfl | rfl | rfl | rfl | rfl | rfl | rfl | rfl | rfl | rfl | rfl | rfl | rfl | rfl
 ·have hop:o.op=.move (.tmp 0):=(congrArg (fun z:Option Nat × Op × Option (Nat × Bool)=>z.2.1) (Option.some.inj hk)).symm
  have hee:edK o=[]:=(Option.some.inj hdd).symm
  exact .inl (by unfold execOp;rw [hop];simp [e0',val,eff])
 ·have hop:o.op=.nilCheck (.tmp s):=(congrArg (fun z:Option Nat × Op × Option (Nat × Bool)=>z.2.1) (Option.some.inj hk)).symm
  have hee:edK o=[0]:=(Option.some.inj hdd).symm
  have v0:a.eval (.tmp (s))=val 0:=dep 0 (s) _ (by rw [hee];simp) rfl rfl
  exact .inl (by unfold execOp;rw [hop];simp [v0,val,eff])
 ·have hop:o.op=.fieldAddr 127 (.tmp (s+1)) 2:=(congrArg (fun z:Option Nat × Op × Option (Nat × Bool)=>z.2.1) (Option.some.inj hk)).symm
  have hee:edK o=[1]:=(Option.some.inj hdd).symm
  have v1:a.eval (.tmp (s+1))=val 1:=dep 1 (s+1) _ (by rw [hee];simp) rfl rfl
  exact .inl (by unfold execOp;rw [hop];simp [v1,val,eff,field_at (w:=W ph) (b:=L.at_ (.th i)) (f:=2) (j:=4) (t:=127) (by kernel_rfl)])
 ·have hop:o.op=.load 124 (.tmp (s+2)):=(congrArg (fun z:Option Nat × Op × Option (Nat × Bool)=>z.2.1) (Option.some.inj hk)).symm
  have hee:edK o=[2]:=(Option.some.inj hdd).symm
  have v2:a.eval (.tmp (s+2))=val 2:=dep 2 (s+2) _ (by rw [hee];simp) rfl rfl
  exact .inl (by unfold execOp;rw [hop];simp [v2,val,eff,load_at (t:=124) (hWt ph) (j:=4) (v:=.val (.map (some (L.at_ (.hs i))))) (by kernel_rfl) (fun z hz=>hz)])
 ·have hop:o.op=.load 133 (.tmp x):=(congrArg (fun z:Option Nat × Op × Option (Nat × Bool)=>z.2.1) (Option.some.inj hk)).symm
  have hee:edK o=[]:=(Option.some.inj hdd).symm
  exact .inl (by unfold execOp;rw [hop];simp [ex',val,eff,load_at (t:=133) (hWb ph) (j:=0) (v:=.agg [.val (.int .i64 (c:Int)),.val (.int .i64 (k:Int))]) (by kernel_rfl) pv])
 ·have hop:o.op=.move (.tmp 0):=(congrArg (fun z:Option Nat × Op × Option (Nat × Bool)=>z.2.1) (Option.some.inj hk)).symm
  have hee:edK o=[]:=(Option.some.inj hdd).symm
  exact .inl (by unfold execOp;rw [hop];simp [e0',val,eff])
 ·have hop:o.op=.nilCheck (.tmp (s+5)):=(congrArg (fun z:Option Nat × Op × Option (Nat × Bool)=>z.2.1) (Option.some.inj hk)).symm
  have hee:edK o=[5]:=(Option.some.inj hdd).symm
  have v5:a.eval (.tmp (s+5))=val 5:=dep 5 (s+5) _ (by rw [hee];simp) rfl rfl
  exact .inl (by unfold execOp;rw [hop];simp [v5,val,eff])
 ·have hop:o.op=.fieldAddr 127 (.tmp (s+6)) 3:=(congrArg (fun z:Option Nat × Op × Option (Nat × Bool)=>z.2.1) (Option.some.inj hk)).symm
  have hee:edK o=[6]:=(Option.some.inj hdd).symm
  have v6:a.eval (.tmp (s+6))=val 6:=dep 6 (s+6) _ (by rw [hee];simp) rfl rfl
  exact .inl (by unfold execOp;rw [hop];simp [v6,val,eff,field_at (w:=W ph) (b:=L.at_ (.th i)) (f:=3) (j:=5) (t:=127) (by kernel_rfl)])
 ·have hop:o.op=.load 124 (.tmp (s+7)):=(congrArg (fun z:Option Nat × Op × Option (Nat × Bool)=>z.2.1) (Option.some.inj hk)).symm
  have hee:edK o=[7]:=(Option.some.inj hdd).symm
  have v7:a.eval (.tmp (s+7))=val 7:=dep 7 (s+7) _ (by rw [hee];simp) rfl rfl
  exact .inl (by unfold execOp;rw [hop];simp [v7,val,eff,load_at (t:=124) (hWt ph) (j:=5) (v:=.val (.map (some (L.at_ (.hd i))))) (by kernel_rfl) (fun z hz=>hz)])
 ·have hop:o.op=.load 133 (.tmp x):=(congrArg (fun z:Option Nat × Op × Option (Nat × Bool)=>z.2.1) (Option.some.inj hk)).symm
  have hee:edK o=[]:=(Option.some.inj hdd).symm
  exact .inl (by unfold execOp;rw [hop];simp [ex',val,eff,load_at (t:=133) (hWb ph) (j:=0) (v:=.agg [.val (.int .i64 (c:Int)),.val (.int .i64 (k:Int))]) (by kernel_rfl) pv])
 ·have hop:o.op=.mapEntry 124 (.tmp (s+3)) (.tmp (s+4)):=(congrArg (fun z:Option Nat × Op × Option (Nat × Bool)=>z.2.1) (Option.some.inj hk)).symm
  have hee:edK o=[3,4,8]:=(Option.some.inj hdd).symm
  have v3:a.eval (.tmp (s+3))=val 3:=dep 3 (s+3) _ (by rw [hee];simp) rfl rfl
  have v4:a.eval (.tmp (s+4))=val 4:=dep 4 (s+4) _ (by rw [hee];simp) rfl rfl
  have:=hpe 0 rfl
  subst this
  exact .inl (by unfold execOp;rw [hop];simp [v3,v4,val,eff,W,r1];rfl)
 ·have hop:o.op=.extract (.tmp (s+10)) 1:=(congrArg (fun z:Option Nat × Op × Option (Nat × Bool)=>z.2.1) (Option.some.inj hk)).symm
  have hee:edK o=[10]:=(Option.some.inj hdd).symm
  have v10:a.eval (.tmp (s+10))=val 10:=dep 10 (s+10) _ (by rw [hee];simp) rfl rfl
  exact .inl (by unfold execOp;rw [hop];simp [v10,val,eff,Instr.extract])
 ·have hop:o.op=.entryStore 124 (.tmp (s+3)) (.tmp (s+11)) (.const (.bool true)):=(congrArg (fun z:Option Nat × Op × Option (Nat × Bool)=>z.2.1) (Option.some.inj hk)).symm
  have hee:edK o=[3,11,10,0,1,2,3,4,8,10]:=(Option.some.inj hdd).symm
  have v3:a.eval (.tmp (s+3))=val 3:=dep 3 (s+3) _ (by rw [hee];simp) rfl rfl
  have v11:a.eval (.tmp (s+11))=val 11:=dep 11 (s+11) _ (by rw [hee];simp) rfl rfl
  have:=hpe 1 rfl
  subst this
  have v99:a.eval (.const (.bool true))=.bool true:=rfl
  exact .inr ⟨(congrArg (fun z:Option Nat × Op × Option (Nat × Bool)=>z.1) (Option.some.inj hk)).symm,by unfold execOp;rw [hop];simp [v3,v11,v99,eff,W,val,r2 w1 hw1];rfl⟩
 ·have hop:o.op=.mapEntry 124 (.tmp (s+8)) (.tmp (s+9)):=(congrArg (fun z:Option Nat × Op × Option (Nat × Bool)=>z.2.1) (Option.some.inj hk)).symm
  have hee:edK o=[8,9,12,0,1,2,3,4,8,10,11,12]:=(Option.some.inj hdd).symm
  have v8:a.eval (.tmp (s+8))=val 8:=dep 8 (s+8) _ (by rw [hee];simp) rfl rfl
  have v9:a.eval (.tmp (s+9))=val 9:=dep 9 (s+9) _ (by rw [hee];simp) rfl rfl
  have:=hpe 2 rfl
  subst this
  exact .inl (by unfold execOp;rw [hop];simp [v8,v9,val,eff,W,r3];rfl)
 ·have hop:o.op=.extract (.tmp (s+12)) 1:=(congrArg (fun z:Option Nat × Op × Option (Nat × Bool)=>z.2.1) (Option.some.inj hk)).symm
  have hee:edK o=[13]:=(Option.some.inj hdd).symm
  have v13:a.eval (.tmp (s+12))=val 13:=dep 13 (s+12) _ (by rw [hee];simp) rfl rfl
  exact .inl (by unfold execOp;rw [hop];simp [v13,val,eff,Instr.extract])
 ·have hop:o.op=.entryStore 124 (.tmp (s+8)) (.tmp (s+13)) (.const (.bool true)):=(congrArg (fun z:Option Nat × Op × Option (Nat × Bool)=>z.2.1) (Option.some.inj hk)).symm
  have hee:edK o=[8,14,13,0,1,2,3,4,5,6,7,8,9,10,11,12,13]:=(Option.some.inj hdd).symm
  have v8:a.eval (.tmp (s+8))=val 8:=dep 8 (s+8) _ (by rw [hee];simp) rfl rfl
  have v14:a.eval (.tmp (s+13))=val 14:=dep 14 (s+13) _ (by rw [hee];simp) rfl rfl
  have:=hpe 3 rfl
  subst this
  have v99:a.eval (.const (.bool true))=.bool true:=rfl
  exact .inr ⟨(congrArg (fun z:Option Nat × Op × Option (Nat × Bool)=>z.1) (Option.some.inj hk)).symm,by unfold execOp;rw [hop];simp [v8,v14,v99,eff,W,val,r4 w3 hw3];rfl⟩
/-! ### helpers: fill,the whole -/
theorem l117{D dd:Dat}(hD:∀ q,D.sn q 0=q){n j:Nat}(hj:j<n)(hn:n<=1000000):∀ (f q:Nat),q<=j->j - q<f->l117rz_0 n D true j dd (n:Int) f (q:Int)=some (true,(j:Int),default)
 | 0,q,h1,h2=>by omega
 | f+1,q,h1,h2=>by
  unfold l117rz_0
  have e1:decide ((q:Int)<(n:Int))=true:=decide_eq_true (by omega)
  have e2:decide (0<=(q:Int)/\(q:Int)<(n:Int))=true:=decide_eq_true (by omega)
  rw [e1,e2]
  simp only [cond_true,Bool.true_and,Int.toNat_natCast,hD]
  by_cases e:j=q
  ·subst e;simp
  ·have:j.beq q=false:=by
    cases hb:j.beq q
    ·rfl
    ·exact absurd (Nat.eq_of_beq_eq_true hb) e
   rw [this,cond_false,wrS (n:=n) (by omega) (by omega)]
   exact l117 hD hj hn f (q+1) (by omega) (by omega)
theorem m117_eq{D dd:Dat}(hD:∀ q,D.sn q 0=q){n j:Nat}(hj:j<n)(hn:n<=1000000):n117rz n D j dd=true/\m117rz n D j dd=(j:Int):=by
 have h:=l117 (dd:=dd) hD hj hn (n+j+(n:Int).toNat+(0:Int).toNat+8) 0 (Nat.zero_le _) (by omega)
 have h:l117rz_0 n D true j dd (n:Int) (n+j+(n:Int).toNat+(0:Int).toNat+8) 0=some (true,(j:Int),default):=h
 have ho:o117rz_0 n D true j dd (n:Int) 0=some (true,(j:Int),default):=h
 constructor
 ·show ((o117rz_0 n D true j dd (n:Int) 0).isSome&&true)=true
  rw [ho];rfl
 ·show (cond (((o117rz_0 n D true j dd (n:Int) 0).getD default).fst) (((o117rz_0 n D true j dd (n:Int) 0).getD default).snd.fst) (-1))=_
  rw [ho];rfl
theorem Setup.mono{K:Kst}{xI xR:Value}{od od':Od}(h:∀ b o v,od b o=some v->od' b o=some v)(hs:Setup K xI xR od):Setup K xI xR od':=by
 obtain ⟨⟨A,cap,e1,e2,e3⟩,A',cap',f1,f2,f3⟩:=hs
 refine ⟨⟨A,cap,e1,e2,fun h0=>?_⟩,A',cap',f1,f2,fun h0=>?_⟩
 ·obtain ⟨b,o,ha,hq⟩:=e3 h0
  refine ⟨b,o,ha,fun q hl=>?_⟩
  obtain ⟨⟨y0,h0,d0⟩,⟨y1,h1,d1⟩,⟨y2,h2,d2⟩,_⟩:=hq q hl
  exact ⟨⟨y0,h _ _ _ h0,d0⟩,⟨y1,h _ _ _ h1,d1⟩,⟨y2,h _ _ _ h2,d2⟩,trivial⟩
 ·obtain ⟨b,o,ha,hq⟩:=f3 h0
  refine ⟨b,o,ha,fun q hl=>?_⟩
  obtain ⟨⟨y0,h0,d0⟩,⟨y1,h1,d1⟩,⟨y2,h2,d2⟩,⟨y3,h3,d3⟩,_⟩:=hq q hl
  exact ⟨⟨y0,h _ _ _ h0,d0⟩,⟨y1,h _ _ _ h1,d1⟩,⟨y2,h _ _ _ h2,d2⟩,⟨y3,h _ _ _ h3,d3⟩,trivial⟩
def SetupW(K:Kst)(L:Lay)(w:World):Prop:=Setup K L.xI L.xR (sealW w noIds)
theorem SetupW.keep{K:Kst}{L:Lay}{w w':World}(h:SetupW K L w)(keep:∀ (b:Nat) (c:Array Value) (t:TypeId) (fr:Nat × Nat),w.heap[b]? = some (.cells c t fr)->(∀ s,Tg.ok K s->L.at_ s≠b)->w'.heap[b]? = some (.cells c t fr)):True:=trivial
theorem y108a(i j:Nat)(d0 d1 d2:Dat)(R:XE->List SV->List Blk->Prop):exec Try.prog [] (fun _=>none) 8 c108a (mkSt 0 62 [0,1,2] [.rz true i shT d0,.rp shZ d1 0 0,.rz true j shT d2] 0 []) (canonK 0 62 [0,1,2,13] [] 0 [] R) =
 R .normal [.rz true i shT d0,.rp shZ d1 0 0,.rz true j shT d2,.bool (decide (d2.ii 0 1=3))] []:=by kernel_rfl
theorem y108b(i j:Nat)(d0 d1 d2:Dat)(x:Bool)(R:XE->List SV->List Blk->Prop):exec Try.prog [(117,c117rz)] (fun _=>none) 8 c108b (mkSt 0 62 [0,1,2,13] [.rz true i shT d0,.rp shZ d1 0 0,.rz true j shT d2,.bool x] 0 []) (canonK 0 62 [0,6] [] 1 [] R) =
 cnd (n117rz (d1.sn 0 2) (d1.sub 0 2) j d2) (R .normal [.rz true i shT d0,.ptr 0 0] [.cells 133 [.int .i64 (m117rz (d1.sn 0 2) (d1.sub 0 2) j d2),.int .i64 (d2.ii 0 6)]]) False:=by kernel_rfl
def fillT(K:Kst)(st:Stt)(i j:Nat):Th:=if K.di.ii j 1=3 then addT (st.th i) j (st.th j).pr else
 {st.th i with has:=fun a b=>(st.th i).has a b||(st.th j).has a b,had:=fun a b=>(st.th i).had a b||(st.th j).has a b }
theorem rz_at{L:Lay}{K:Kst}{inj:∀ s t,Tg.ok K s->Tg.ok K t->L.at_ s=L.at_ t->s=t}{ρ:Env}{i:Nat}(hi:i<K.n){sh:List Kd}{d:Dat}{x:Value}(hp:ρ.od.p=idsOf L K inj)(h:(SV.rz true i sh d).den ρ x):x=.pointer (some ⟨L.at_ (.th i),0,none⟩):=by
 rcases h with ⟨_,b,rfl,hb,_⟩ | ⟨h,_⟩
 ·rw [hp] at hb
  rcases idsOf_some hb with ⟨_,e⟩ | ⟨e,_⟩
  ·rw [e]
  ·omega
 ·cases h
theorem rz_shop{L:Lay}{K:Kst}{inj:∀ s t,Tg.ok K s->Tg.ok K t->L.at_ s=L.at_ t->s=t}{ρ:Env}{sh:List Kd}{d:Dat}{x:Value}(hp:ρ.od.p=idsOf L K inj)(h:(SV.rz true K.n sh d).den ρ x):x=.pointer (some ⟨L.at_ .shop,0,none⟩):=by
 rcases h with ⟨_,b,rfl,hb,_⟩ | ⟨h,_⟩
 ·rw [hp] at hb
  rcases idsOf_some hb with ⟨e,_⟩ | ⟨_,e⟩
  ·omega
  ·rw [e]
 ·cases h
theorem kept_all{w w':World}(h:Kept w.heap.size [] w w'):∀ (b:Nat) (o:Obj),w.heap[b]? = some o->w'.heap[b]? = some o:=fun b o hb=>(h.block b (Array.getElem?_eq_some_iff.1 hb).1 (by simp)).trans hb
theorem c108r_eq:∃ t1 p1 a1 t2 p2 a2 t3 p3 a3 t4 p4 a4 t5 p5 a5,c108r=.region 3 #[⟨some 39,.move (.tmp 2),t1,p1,a1,none⟩,⟨some 40,.nilCheck (.tmp 39),t2,p2,a2,none⟩,⟨some 41,.fieldAddr 127 (.tmp 40) 2,t3,p3,a3,none⟩,⟨some 42,.load 124 (.tmp 41),t4,p4,a4,none⟩,⟨some 43,.range 124 (.tmp 42),t5,p5,a5,none⟩] false:=⟨_,_,_,_,_,_,_,_,_,_,_,_,_,_,_,rfl⟩
theorem c108n_eq:∃ t1 p1 a1 t2 p2 a2,c108n=.region 4 #[⟨some 44,.next (.tmp 43) false,t1,p1,a1,none⟩,⟨some 45,.extract (.tmp 44) 0,t2,p2,a2,none⟩] false:=⟨_,_,_,_,_,_,rfl⟩
def c108o:List Oper:=match c108e with | .region _ o _=>o.toList.drop 2 | _=>[]
theorem c108e_eq:∃ t1 p1 a1 t2 p2 a2,c108e=.region 5 (⟨some 46,.entry (.tmp 43),t1,p1,a1,none⟩ :: ⟨some 47,.extract (.tmp 46) 0,t2,p2,a2,none⟩ :: c108o).toArray false:=⟨_,_,_,_,_,_,rfl⟩
theorem y108e(x0 it:Value)(c k:Int)(R:List SV->List Blk->Prop):xSeq Try.prog (gamOf false []) (match c108e with | .region _ o _=>o | _=>#[]) c108o (mkSt 0 62 [0,43,47] [.val x0,.val it,.agg [.int .i64 c,.int .i64 k]] 0 []) (fun s=>cz 0 62 [0,7,43] 1 [] s R) =
 R [.val x0,.ptr 0 0,.val it] [.cells 133 [.int .i64 c,.int .i64 k]]:=by kernel_rfl
theorem shop_not_iter{L:Lay}{K:Kst}{st:Stt}{w:World}(h:ShopAt L K st w){r:Nat}{b s n c}(hr:w.heap[r]? = some (.mapIter b s n c)):∀ t,Tg.ok K t->L.at_ t≠r:=by
 intro t ht e
 obtain ⟨o,h1,h2⟩:=h.at_ t ht
 rw [e,hr] at h1
 cases h1
 cases t with
 | shop=>obtain ⟨_,_,e1,_⟩:=h2;cases e1
 | row=>obtain ⟨_,e1,_⟩:=h2;cases e1
 | th i=>cases h2
 | ck i=>obtain ⟨_,_,_,e1,_⟩:=h2;cases e1
 | hs i=>obtain ⟨_,_,_,e1,_⟩:=h2;cases e1
 | hd i=>obtain ⟨_,_,_,e1,_⟩:=h2;cases e1
 | bd i=>obtain ⟨_,_,_,e1,_⟩:=h2;cases e1
 | cb i q =>
  have:=h.ok.ck i ht.1 q
  rw [ht.2] at this
  obtain ⟨cc,hcc⟩:=Option.isSome_iff_exists.1 this
  cases h2 cc hcc
def visT(st:Stt)(i j:Nat)(left:Int × Int->Bool):Th:={ st.th i with has:=fun a b=>(st.th i).has a b||((st.th j).has a b&&!left ((a:Int),(b:Int))),had:=fun a b=>(st.th i).had a b||((st.th j).has a b&&!left ((a:Int),(b:Int))) }
theorem memNil(B:Nat)(w:World):MemDen B [] ⟨fun _=>none,noOd⟩ (memOf []) w :=
 ⟨fun i hi=>by simp [memOf,Blk.isUnk] at hi,fun i j m m' _ hi=>by simp [memOf,Blk.isUnk] at hi,noOd_ok w,fun i m hi=>by simp [memOf,Blk.isUnk] at hi⟩
theorem visT_add{st:Stt}{i j:Nat}{left:Int × Int->Bool}{c k:Nat}(hh:(st.th j).has c k=true):addT (visT st i j left) c k=visT st i j (fun x=>left x&&!decide (x=((c:Int),(k:Int)))):=by
 have key:∀ (g:Nat->Nat->Bool) (a b:Nat),(g a b||((st.th j).has a b&&!left ((a:Int),(b:Int)))||decide (a=c/\b=k))=(g a b||((st.th j).has a b&&!(left ((a:Int),(b:Int))&&!decide (((a:Int),(b:Int))=((c:Int),(k:Int)))))):=by
  intro g a b
  by_cases e:a=c/\b=k
  ·obtain ⟨rfl,rfl⟩:=e
   simp [hh]
  ·have e':¬ (((a:Int),(b:Int))=((c:Int),(k:Int))):=fun q=>e ⟨by have:=congrArg Prod.fst q;simp only at this;omega,by have:=congrArg Prod.snd q;simp only at this;omega⟩
   simp [e,e']
 simp only [addT,visT,Th.mk.injEq,true_and,and_true]
 exact ⟨by funext a b;exact key _ a b,by funext a b;exact key _ a b⟩
theorem calls108{L:Lay}{K:Kst}{st:Stt}{w:World}(hL:L.T=T7)(h:ShopAt L K st w)(hS:SetupW K L w){i j:Nat}(hi:i<K.n)(hj:j<K.n)(hij:i≠j)(hn:K.n<=1000000)(hpr:(st.th j).pr<nB) :
  Calls Try.prog 108 ⟨[.pointer (some ⟨L.at_ (.th i),0,none⟩),.pointer (some ⟨L.at_ .shop,0,none⟩),.pointer (some ⟨L.at_ (.th j),0,none⟩)]⟩ w fun e w'=>∃ ys,e=.returned (retV ys)/\ShopAt L K (upT st i (fillT K st i j)) w'/\Only L K w w':=by
 refine calls_raw (fn:=Try.f108) (c:=c108) Try.func108 rfl [] rfl (xs:=[.pointer (some ⟨L.at_ (.th i),0,none⟩),.pointer (some ⟨L.at_ .shop,0,none⟩),.pointer (some ⟨L.at_ (.th j),0,none⟩)]) (show 3<=Try.f108.ntmps by decide) (Q:=fun _ w'=>ShopAt L K (upT st i (fillT K st i j)) w'/\Only L K w w') fun a hsz hdf hargs=>?_
 rw [c108_eq]
 have hs0:StDen w.heap.size [] ⟨w,⟨fun _=>none,sealW w (idsOf L K h.inj)⟩,0,fun _=>none,some []⟩ ⟨fun _=>none,sealW w (idsOf L K h.inj)⟩ (mkSt 0 62 [0,1,2] [.rz true i shT (thD K st i),.rp shZ (shopD K st) 0 0,.rz true j shT (thD K st j)] 0 []) a w:=by
  refine StDen.start hsz hdf (fun d e=>by cases e;rfl) (h.mem _) (fun _ _=>rfl) (fun _=>rfl) (fun p t v h1 h2=>?_) (fun v hv t pol u e=>?_)
  ·match p,h1,h2 with
   | 0,h1,h2=>cases h1;cases h2;exact .inl ⟨rfl,_,hargs 0 _ rfl,idsOf_th (inj:=h.inj) hi,th_den h h.seen hi⟩
   | 1,h1,h2 =>
    cases h1;cases h2
    rw [hargs 1 _ rfl]
    exact shop_den h h.seen (Setup.mono (fun _ _ _ hv=>hv) hS) fun i hi=>idsOf_th (inj:=h.inj) hi
   | 2,h1,h2=>cases h1;cases h2;exact .inl ⟨rfl,_,hargs 2 _ rfl,idsOf_th (inj:=h.inj) hj,th_den h h.seen hj⟩
  ·simp at hv;rcases hv with rfl | rfl | rfl <;> cases e
 refine wpIn_seq (wpIn_seq ?_)
 refine exec_canR tabOk_nil mix_ok (R:=fun v b=>v=[.rz true i shT (thD K st i),.rp shZ (shopD K st) 0 0,.rz true j shT (thD K st j),.bool (decide (K.di.ii j 1=3))]/\b=[]) (propOf (y108a _ _ _ _ _ _) ⟨rfl,rfl,rfl⟩) (.inr (by kernel_rfl)) hs0 ?_
 rintro vs bs ρ1 a1 w1 ⟨rfl,rfl⟩ h1
 have e13:a1.eval (.tmp 13)=.bool (decide (K.di.ii j 1=3)):=ev_den h1.tmDen (AsmOk.nil a1) (.tmp 13)
 refine wpIn_cond e13 ?_
 by_cases hk:K.di.ii j 1=3
 ·-- a compressor's number
  rw [decide_eq_true hk]
  rw [decide_eq_true hk] at h1
  refine wpIn_seq (exec_canR (tabOk_cons k117rz tabOk_nil) mix_ok (R:=fun v b=>v=[.rz true i shT (thD K st i),.ptr 0 0]/\b=[.cells 133 [.int .i64 (j:Int),.int .i64 ((st.th j).pr:Int)]]) (propOf (y108b _ _ _ _ _ _ _) ?_) (.inr (by kernel_rfl)) h1 ?_)
  ·obtain ⟨q1,q2⟩:=m117_eq (D:=(shopD K st).sub 0 2) (dd:=thD K st j) (fun q=>rfl) hj hn
   refine cnd_need q1 ⟨rfl,rfl,?_⟩
   rw [show m117rz ((shopD K st).sn 0 2) ((shopD K st).sub 0 2) j (thD K st j)=(j:Int) from q2]
   rfl
  ·rintro vs bs ρ2 a2 w2 ⟨rfl,rfl⟩ h2
   have hk2:Kept w.heap.size [] w w2:=h2.kept
   have hp2:ρ2.od.p=idsOf L K h.inj:=h2.odb.p
   have e0:=rz_at hi hp2 (ev_den h2.tmDen (AsmOk.nil a2) (.tmp 0))
   obtain ⟨m,hm,e6⟩:∃ m,ρ2 0=some m/\a2.eval (.tmp 6)=.pointer (some ⟨m.blk,m.off+0,none⟩):=ev_den h2.tmDen (AsmOk.nil a2) (.tmp 6)
   obtain ⟨_,⟨hoff,c,hc,hd⟩,hB⟩:=h2.mem.get (i:=0) rfl hm
   rw [hoff] at e6
   obtain ⟨y0,l0,f0,g0,hd⟩:=denL_cons hd
   obtain ⟨y1,l1,f1,g1,hd⟩:=denL_cons hd
   have f2:=denL_nil hd
   have hcc:c=#[.int .i64 (j:Int),.int .i64 ((st.th j).pr:Int)]:=by
    apply Array.toList_inj.1
    rw [f0,f1,f2]
    cases g0;cases g1;rfl
   subst hcc
   have hsh2:=h.keep (kept_all hk2)
   refine wpIn_seq (fill_region (s:=25) (x:=6) (bx:=m.blk) c108p_ops c108p_ed (show 25+14<=a2.tmps.size by have:a2.tmps.size=62:=h2.size;omega) (by omega) (by omega) hL hsh2 hi e0 e6 hc ⟨hj,hpr⟩ fun a3 w3 hdf3 hsz3 hout3 hsh3 ho3 hk3=>?_)
   refine wpIn_ret ⟨.inl rfl,hdf3.trans (h2.defs.same_ [] rfl),?_,(Only.of_kept hk2 fun b hb=>by simp at hb).trans ho3⟩
   rw [fillT,if_pos hk]
   exact hsh3
 ·rw [decide_eq_false hk]
  rw [decide_eq_false hk] at h1
  refine wpIn_skip ?_
  show Code.wpIn (FW none) 0 Try.prog (.seq c108r (.block 0 _)) _ _ _
  have hk1:Kept w.heap.size [] w w1:=h1.kept
  have hp1:ρ1.od.p=idsOf L K h.inj:=h1.odb.p
  have e0:=rz_at hi hp1 (ev_den h1.tmDen (AsmOk.nil a1) (.tmp 0))
  have e2:=rz_at hj hp1 (ev_den h1.tmDen (AsmOk.nil a1) (.tmp 2))
  have hz1:a1.tmps.size=62:=h1.size
  have hf1:a1.defers=[]:=h1.defs.same_ [] rfl
  have hsh1:=h.keep (kept_all hk1)
  have ho1:Only L K w w1:=Only.of_kept hk1 fun b hb=>by simp at hb
  clear hs0 h1 hk1 hp1
  obtain ⟨_,g1,es,cl,f,rfl,g2,g3⟩:=hsh1.at_ (.hs j) hj
  obtain ⟨o0,t1,t2⟩:=hsh1.at_ (.th j) hj
  have t2:o0=.cells (thV L K st j) L.T.th (0,0):=t2
  subst t2
  rw [hL] at t1
  have hat:MapAt w1 (L.at_ (.hs j)) pairV f:=⟨es,cl,g1,g2⟩
  obtain ⟨o,cnt,hrun,hit⟩:=hat.range under124
  refine wpIn_seq ?_
  obtain ⟨u1,p1,b1,u2,p2,b2,u3,p3,b3,u4,p4,b4,u5,p5,b5,hR⟩:=c108r_eq
  rw [hR]
  refine wpIn_region_list ?_
  refine wpL_value rfl (x:=.pointer (some ⟨L.at_ (.th j),0,none⟩)) (w':=w1) (by simp [execOp,e2]) ?_
  refine wpL_value rfl (x:=.pointer (some ⟨L.at_ (.th j),0,none⟩)) (w':=w1) (by simp [execOp,eval_put_same (show 39<a1.tmps.size by omega)]) ?_
  refine wpL_value rfl (x:=.pointer (some ⟨L.at_ (.th j),4,none⟩)) (w':=w1) (by simp [execOp,eval_put_same (show 40<(a1.put (some 39) (.pointer (some ⟨L.at_ (.th j),0,none⟩))).tmps.size by rw [put_size];omega),field_at (w:=w1) (b:=L.at_ (.th j)) (f:=2) (j:=4) (t:=127) (by kernel_rfl)]) ?_
  refine wpL_value rfl (x:=.map (some (L.at_ (.hs j)))) (w':=w1) (by
   simp only [execOp]
   rw [eval_put_same (by simp only [put_size];omega)]
   simp [load_at (t:=124) t1 (j:=4) (v:=.val (.map (some (L.at_ (.hs j))))) (by kernel_rfl) (fun z hz=>hz)]) ?_
  refine wpL_value rfl (x:=.pointer (some ⟨w1.heap.size,0,none⟩)) (w':=w1.alloc o) (by
   simp only [execOp]
   rw [eval_put_same (by simp only [put_size];omega)]
   simp [hrun]) ?_
  show Code.wpIn (FW none) 0 Try.prog (.block 0 _) _ _ _
  have e0':((((((a1.put (some 39) (.pointer (some ⟨L.at_ (.th j),0,none⟩))).put (some 40) (.pointer (some ⟨L.at_ (.th j),0,none⟩))).put (some 41) (.pointer (some ⟨L.at_ (.th j),4,none⟩))).put (some 42) (.map (some (L.at_ (.hs j))))).put (some 43) (.pointer (some ⟨w1.heap.size,0,none⟩)))).eval (.tmp 0)=.pointer (some ⟨L.at_ (.th i),0,none⟩):=by
   rw [eval_put_ne (by omega),eval_put_ne (by omega),eval_put_ne (by omega),eval_put_ne (by omega),eval_put_ne (by omega)];exact e0
  have e43:((((((a1.put (some 39) (.pointer (some ⟨L.at_ (.th j),0,none⟩))).put (some 40) (.pointer (some ⟨L.at_ (.th j),0,none⟩))).put (some 41) (.pointer (some ⟨L.at_ (.th j),4,none⟩))).put (some 42) (.map (some (L.at_ (.hs j))))).put (some 43) (.pointer (some ⟨w1.heap.size,0,none⟩)))).eval (.tmp 43)=.pointer (some ⟨w1.heap.size,0,none⟩):=eval_put_same (by simp only [put_size];omega)
  have hz5:((((((a1.put (some 39) (.pointer (some ⟨L.at_ (.th j),0,none⟩))).put (some 40) (.pointer (some ⟨L.at_ (.th j),0,none⟩))).put (some 41) (.pointer (some ⟨L.at_ (.th j),4,none⟩))).put (some 42) (.map (some (L.at_ (.hs j))))).put (some 43) (.pointer (some ⟨w1.heap.size,0,none⟩)))).tmps.size=62:=by simp only [put_size];exact hz1
  have hf5:((((((a1.put (some 39) (.pointer (some ⟨L.at_ (.th j),0,none⟩))).put (some 40) (.pointer (some ⟨L.at_ (.th j),0,none⟩))).put (some 41) (.pointer (some ⟨L.at_ (.th j),4,none⟩))).put (some 42) (.map (some (L.at_ (.hs j))))).put (some 43) (.pointer (some ⟨w1.heap.size,0,none⟩)))).defers=[]:=by simp only [put_defs];exact hf1
  generalize ((((((a1.put (some 39) (.pointer (some ⟨L.at_ (.th j),0,none⟩))).put (some 40) (.pointer (some ⟨L.at_ (.th j),0,none⟩))).put (some 41) (.pointer (some ⟨L.at_ (.th j),4,none⟩))).put (some 42) (.map (some (L.at_ (.hs j))))).put (some 43) (.pointer (some ⟨w1.heap.size,0,none⟩))))=a5 at e0' e43 hz5 hf5 ⊢
  have hsh5:ShopAt L K st (w1.alloc o):=hsh1.keep fun b q hb=>(Below.heap_alloc w1 o b (Array.getElem?_eq_some_iff.1 hb).1).trans hb
  have ho5:Only L K w (w1.alloc o):=ho1.trans ⟨rfl,rfl,rfl,by simp,fun b hb _=>Below.heap_alloc w1 o b hb⟩
  have hr5:w.heap.size<=w1.heap.size:=ho1.size
  generalize w1.alloc o=w5 at hit hsh5 ho5 ⊢
  generalize w1.heap.size=r at hit hr5 e43 ⊢
  refine wpIn_block (wpIn_loop_rounds (cnt+1) ?_)
  have rounds:∀ (fu cnt:Nat),cnt+1<=fu->∀ (left:Int × Int->Bool) (a:Act) (w6:World),a.eval (.tmp 0)=.pointer (some ⟨L.at_ (.th i),0,none⟩)->a.eval (.tmp 43)=.pointer (some ⟨r,0,none⟩)->a.tmps.size=62->a.defers=[] ->
    ShopAt L K (upT st i (visT st i j left)) w6->Only L K w w6->IterAt w6 r (L.at_ (.hs j)) pairV f left cnt->(∀ p:Int × Int,left p=true->(f p).isSome=true) ->
    Code.roundsIn (FW none) 0 Try.prog (.seq c108n (.seq (.cond (.tmp 45) .skip (.exit 0)) (.block 1 (.seq c108e (.region 6 c108q true))))) (Exit.inBlock 0 (fun e a' w'=>(e=.ret\/e=.normal)/\a'.defers=[]/\ShopAt L K (upT st i (fillT K st i j)) w'/\Only L K w w')) fu a w6:=by
   intro fu
   induction fu with
   | zero=>intro cnt h0;omega
   | succ fu ih =>
   intro cnt hfu left a w6 x0 x43 hsz6 hdf6 hsh6 ho6 hit hleft
   rw [roundsIn_succ]
   refine wpIn_seq ?_
   obtain ⟨t1,p1,a1',t2,p2,a2',hN⟩:=c108n_eq
   rw [hN]
   refine wpIn_region_list ?_
   have hnit:∀ t,Tg.ok K t->L.at_ t≠r:=by obtain ⟨_,_,_,_,_,_,hrr,_⟩:=hit;exact shop_not_iter hsh6 hrr
   rcases hit.next keys133 t1 with ⟨hno,hrun⟩ | ⟨pk,v,w7,o7,cnt',hl,hfv,hw7,hrun,hent,hit',hcnt⟩
   ·refine wpL_value rfl (x:=.tuple #[.bool false]) (w':=w6) (by simp only [execOp,x43];simp [hrun]) ?_
    refine wpL_value rfl (x:=.bool false) (w':=w6) (by simp only [execOp,eval_put_same (show 44<a.tmps.size by omega)];simp [Instr.extract]) ?_
    refine wpIn_seq (wpIn_cond (t:=false) (eval_put_same (by rw [put_size];omega)) (wpIn_exit ?_))
    show (_\/_)/\_
    refine ⟨.inr rfl,by simp only [put_defs];exact hdf6,?_,ho6⟩
    have:visT st i j left=fillT K st i j:=by
     rw [fillT,if_neg hk]
     simp [visT,hno]
    rw [<- this]
    exact hsh6
   ·refine wpL_value rfl (x:=.tuple #[.bool true,pairV pk,v]) (w':=setBlock w7 r o7) (by simp only [execOp,x43];simp [hrun]) ?_
    refine wpL_value rfl (x:=.bool true) (w':=setBlock w7 r o7) (by simp only [execOp,eval_put_same (show 44<a.tmps.size by omega)];simp [Instr.extract]) ?_
    refine wpIn_seq (wpIn_cond (t:=true) (eval_put_same (by rw [put_size];omega)) (wpIn_skip ?_))
    refine wpIn_block ?_
    obtain ⟨pc,pn⟩:=pk
    have hpos:=hleft _ hl
    rw [g3] at hpos
    have hcond:(decide (0<=pc)&&decide (0<=pn)&&(st.th j).has pc.toNat pn.toNat)=true:=by
     cases hc:(decide (0<=pc)&&decide (0<=pn)&&(st.th j).has pc.toNat pn.toNat)
     ·rw [if_neg (by show ¬ (decide (0<=pc)&&decide (0<=pn)&&(st.th j).has pc.toNat pn.toNat)=true;rw [hc];simp)] at hpos;cases hpos
     ·rfl
    simp only [Bool.and_eq_true,decide_eq_true_eq] at hcond
    obtain ⟨c,rfl⟩:=Int.eq_ofNat_of_zero_le hcond.1.1
    obtain ⟨k,rfl⟩:=Int.eq_ofNat_of_zero_le hcond.1.2
    have hbb:(st.th j).has c k=true:=by simpa using hcond.2
    have hck:=h.ok.has j hj c k hbb
    have hw7h:w7.heap=w6.heap:=by rcases hw7 with rfl | rfl <;> rfl
    have hsh7:ShopAt L K (upT st i (visT st i j left)) (setBlock w7 r o7):=⟨hsh6.inj,hsh6.ok,fun s hs=>let ⟨q,q1,q2⟩:=hsh6.at_ s hs;⟨q,(setBlock_other w7 o7 (hnit s hs)).trans (by rw [hw7h];exact q1),q2⟩⟩
    have ho7:Only L K w (setBlock w7 r o7):=by
     refine ⟨?_,?_,?_,?_,fun b hb hn=>?_⟩
     ·rcases hw7 with rfl | rfl <;> exact ho6.os
     ·rcases hw7 with rfl | rfl <;> exact ho6.tape
     ·rcases hw7 with rfl | rfl <;> exact ho6.output
     ·have:=ho6.size
      simp only [setBlock,Array.size_setIfInBounds,hw7h];exact this
     ·rw [setBlock_other w7 o7 (by omega),hw7h];exact ho6.keep b hb hn
    obtain ⟨t3,p3,a3',t4,p4,a4',hX⟩:=c108e_eq
    rw [hX]
    refine wpIn_seq (wpIn_region_list ?_)
    simp only [List.toList_toArray]
    have x43':((a.put (some 44) (.tuple #[.bool true,pairV ((c:Int),(k:Int)),v])).put (some 45) (.bool true)).eval (.tmp 43)=.pointer (some ⟨r,0,none⟩):=by rw [eval_put_ne (by omega),eval_put_ne (by omega)];exact x43
    refine wpL_value rfl (x:=.tuple #[pairV ((c:Int),(k:Int)),v]) (w':=setBlock w7 r o7) (by simp only [execOp,x43'];simp [hent]) ?_
    refine wpL_value rfl (x:=pairV ((c:Int),(k:Int))) (w':=setBlock w7 r o7) (by simp only [execOp,eval_put_same (show 46<((a.put (some 44) (.tuple #[.bool true,pairV ((c:Int),(k:Int)),v])).put (some 45) (.bool true)).tmps.size by rw [put_size,put_size];omega)];simp [Instr.extract]) ?_
    have hop:(⟨some 46,.entry (.tmp 43),t3,p3,a3',none⟩ :: ⟨some 47,.extract (.tmp 46) 0,t4,p4,a4',none⟩ :: c108o:List Oper).toArray=(match c108e with | .region _ o _=>o | _=>#[]):=by rw [hX]
    rw [hop]
    have hst:StDen (setBlock w7 r o7).heap.size [] ⟨setBlock w7 r o7,⟨fun _=>none,noOd⟩,0,fun _=>none,some []⟩ ⟨fun _=>none,noOd⟩ (mkSt 0 62 [0,43,47] [.val (.pointer (some ⟨L.at_ (.th i),0,none⟩)),.val (.pointer (some ⟨r,0,none⟩)),.agg [.int .i64 (c:Int),.int .i64 (k:Int)]] 0 [])
      ((((a.put (some 44) (.tuple #[.bool true,pairV ((c:Int),(k:Int)),v])).put (some 45) (.bool true)).put (some 46) (.tuple #[pairV ((c:Int),(k:Int)),v])).put (some 47) (pairV ((c:Int),(k:Int)))) (setBlock w7 r o7):=by
     refine StDen.start (by simp only [put_size];exact hsz6) (by simp only [put_defs];exact hdf6) (fun d e=>by cases e;rfl) (memNil _ _) (fun _ _=>rfl) (fun _=>rfl) (fun p t v h1 h2=>?_) (fun v hv t pol u e=>?_)
     ·match p,h1,h2 with
      | 0,h1,h2=>cases h1;cases h2;show _=_;rw [eval_put_ne (by omega),eval_put_ne (by omega),eval_put_ne (by omega),eval_put_ne (by omega)];exact x0
      | 1,h1,h2=>cases h1;cases h2;show _=_;rw [eval_put_ne (by omega),eval_put_ne (by omega)];exact x43'
      | 2,h1,h2=>cases h1;cases h2;rw [eval_put_same (by simp only [put_size];omega)];exact ⟨_,rfl,rfl,rfl,trivial⟩
     ·simp at hv;rcases hv with rfl | rfl | rfl <;> cases e
    refine xSeq_wp (gamOf_ok (pix:=false) tabOk_nil) (k:=fun s'=>cz 0 62 [0,7,43] 1 [] s' fun v b=>v=[.val (.pointer (some ⟨L.at_ (.th i),0,none⟩)),.ptr 0 0,.val (.pointer (some ⟨r,0,none⟩))]/\b=[.cells 133 [.int .i64 (c:Int),.int .i64 (k:Int)]]) (fun s' ρ' a8 w8 hs hx=>?_) _ _ _ _ _ hst (propOf (y108e _ _ _ _ _) ⟨rfl,rfl⟩)
    obtain ⟨r',hr',e1,e2⟩:=cz_get hx
    obtain ⟨ρ2,h8⟩:=cz_ok hs hr'
    rw [e1,e2] at h8
    have y0:a8.eval (.tmp 0)=.pointer (some ⟨L.at_ (.th i),0,none⟩):=ev_den h8.tmDen (AsmOk.nil a8) (.tmp 0)
    have y43:a8.eval (.tmp 43)=.pointer (some ⟨r,0,none⟩):=ev_den h8.tmDen (AsmOk.nil a8) (.tmp 43)
    obtain ⟨m,hm,y7⟩:∃ m,ρ2 0=some m/\a8.eval (.tmp 7)=.pointer (some ⟨m.blk,m.off+0,none⟩):=ev_den h8.tmDen (AsmOk.nil a8) (.tmp 7)
    obtain ⟨_,⟨hoff,cc,hc,hd⟩,hB⟩:=h8.mem.get (i:=0) rfl hm
    rw [hoff] at y7
    obtain ⟨z0,l0,f0,q0,hd⟩:=denL_cons hd
    obtain ⟨z1,l1,f1,q1,hd⟩:=denL_cons hd
    have f2:=denL_nil hd
    have hcc:cc=#[.int .i64 (c:Int),.int .i64 (k:Int)]:=by
     apply Array.toList_inj.1
     rw [f0,f1,f2]
     cases q0;cases q1;rfl
    subst hcc
    have hk8:Kept (setBlock w7 r o7).heap.size [] (setBlock w7 r o7) w8:=h8.kept
    have hz8:a8.tmps.size=62:=h8.size
    have hd8:a8.defers=[]:=h8.defs.same_ [] rfl
    have hsh8:=hsh7.keep (kept_all hk8)
    have ho8:Only L K w w8:=ho7.trans (Only.of_kept hk8 fun b hb=>by simp at hb)
    show Code.wpIn (FW none) 0 Try.prog (.region 6 c108q true) _ _ _
    refine fill_region (s:=48) (x:=7) (bx:=m.blk) c108q_ops c108q_ed (by omega) (by omega) (by omega) hL hsh8 hi y0 y7 hc hck fun a9 w9 hdf9 hsz9 hout9 hsh9 ho9 hk9=>?_
    rw [upT_upT,upT_same,visT_add hbb] at hsh9
    rw [<- hop,<- hX,<- hN]
    have same9:∀ q:Nat,q≠L.at_ (.hs i)->q≠L.at_ (.hd i)->∀ oo,(setBlock w7 r o7).heap[q]? = some oo->w9.heap[q]? = (setBlock w7 r o7).heap[q]?:=fun q n1 n2 oo hoo=>by
     rw [hoo];exact hk9 q oo n1 n2 (kept_all hk8 q oo hoo)
    have hit9:IterAt w9 r (L.at_ (.hs j)) pairV f (fun x=>left x&&!decide (x=((c:Int),(k:Int)))) cnt':=by
     obtain ⟨_,_,_,_,_,hA,hBB,_⟩:=id hit'
     refine hit'.same (same9 _ (fun e=>by cases h.inj (.hs j) (.hs i) hj hi e;exact hij rfl) (fun e=>by cases h.inj (.hs j) (.hd i) hj hi e) _ hA) (same9 _ (Ne.symm (hnit (.hs i) hi)) (Ne.symm (hnit (.hd i) hi)) _ hBB)
    show Code.roundsIn (FW none) 0 Try.prog _ _ fu a9 w9
    exact ih cnt' (by omega) _ a9 w9 ((hout9 0 (.inl (by omega))).trans y0) ((hout9 43 (.inl (by omega))).trans y43) (hsz9.trans hz8) (hdf9.trans hd8) hsh9 (ho8.trans ho9) hit9 fun p hp=>hleft p (by simp only [Bool.and_eq_true] at hp;exact hp.1)
  refine rounds (cnt+1) cnt (Nat.le_refl _) _ a5 w5 e0' e43 hz5 hf5 ?_ ho5 hit fun p hp=>hp
  have hv:visT st i j (fun a=>(f a).isSome)=st.th i:=by
   have:∀ a b:Nat,((st.th j).has a b&&!(f ((a:Int),(b:Int))).isSome)=false:=fun a b=>by
    rw [g3]
    cases hh:(st.th j).has a b <;> simp [hh]
   simp only [visT,this,Bool.or_false]
  rw [hv]
  have:upT st i (st.th i)=st:=by
   cases st
   simp only [upT,Stt.mk.injEq,true_and]
   funext q
   split
   ·rename_i e;rw [e]
   ·rfl
  rw [this]
  exact hsh5
/-! ### helpers: by hand -/
theorem l112_spec{d dd:Dat}{n:Nat}(hn:n<=1000000):∀ (f q:Nat),q<=n->n - q<f ->
  (∃ i,q<=i/\i<n/\d.ss i 0=dd.ss 0 0/\(∀ k,q<=k->k<i->d.ss k 0≠dd.ss 0 0)/\l112c101_0 n d dd (n:Int) f (q:Int)=some (true,(i:Int),default)) \/
  ((∀ k,q<=k->k<n->d.ss k 0≠dd.ss 0 0)/\l112c101_0 n d dd (n:Int) f (q:Int)=some (false,default,()))
 | 0,q,h1,h2=>by omega
 | f+1,q,h1,h2=>by
  unfold l112c101_0
  by_cases hq:q<n
  ·have e1:decide ((q:Int)<(n:Int))=true:=decide_eq_true (by omega)
   have e2:decide (0<=(q:Int)/\(q:Int)<(n:Int))=true:=decide_eq_true (by omega)
   rw [e1,e2]
   simp only [cond_true,Int.toNat_natCast,m101]
   by_cases hs:d.ss q 0=dd.ss 0 0
   ·rw [decide_eq_true hs]
    exact .inl ⟨q,Nat.le_refl _,hq,hs,fun k h3 h4=>by omega,rfl⟩
   ·rw [decide_eq_false hs,cond_false,wrS (n:=n) hq (by omega)]
    rcases l112_spec hn f (q+1) (by omega) (by omega) with ⟨i,g1,g2,g3,g4,g5⟩ | ⟨g1,g2⟩
    ·refine .inl ⟨i,by omega,g2,g3,fun k h3 h4=>?_,g5⟩
     by_cases e:k=q
     ·rw [e];exact hs
     ·exact g4 k (by omega) h4
    ·refine .inr ⟨fun k h3 h4=>?_,g2⟩
     by_cases e:k=q
     ·rw [e];exact hs
     ·exact g1 k (by omega) h4
  ·have e1:decide ((q:Int)<(n:Int))=false:=decide_eq_false (by omega)
   rw [e1]
   exact .inr ⟨fun k h3 h4=>by omega,rfl⟩
structure ItemIs (K:Kst) (nm:ByteArray) (i:Nat):Prop where
 lt:i<K.n
 name:K.di.ss i 0=nm
 first:∀ k,k<i->K.di.ss k 0≠nm
theorem m82_spec(K:Kst)(hn:K.n<=1000000)(nm:ByteArray):n82 K.n K.di K.r K.dr nm=true /\
  ((∃ i,ItemIs K nm i/\m82 K.n K.di K.r K.dr nm=(i:Int))\/((∀ k,k<K.n->K.di.ss k 0≠nm)/\m82 K.n K.di K.r K.dr nm=-1)):=by
 have hs:(datC [SV.str nm]).ss 0 0=nm:=rfl
 rcases l112_spec (d:=K.di) (dd:=datC [SV.str nm]) hn (K.n+(K.n:Int).toNat+(0:Int).toNat+8) 0 (Nat.zero_le _) (by omega) with ⟨i,_,g2,g3,g4,g5⟩ | ⟨g1,g2⟩
 ·have ho:o112c101_0 K.n K.di (datC [SV.str nm]) (K.n:Int) 0=some (true,(i:Int),default):=g5
  refine ⟨?_,.inl ⟨i,⟨g2,g3.trans hs,fun k hk=>by have:=g4 k (Nat.zero_le _) hk;rwa [hs] at this⟩,?_⟩⟩
  ·show ((((o112c101_0 K.n K.di (datC [SV.str nm]) (K.n:Int) 0).isSome&&true)&&true)&&true)=true
   rw [ho];rfl
  ·show (cond (((o112c101_0 K.n K.di (datC [SV.str nm]) (K.n:Int) 0).getD default).fst) (((o112c101_0 K.n K.di (datC [SV.str nm]) (K.n:Int) 0).getD default).snd.fst) (-1))=_
   rw [ho];rfl
 ·have ho:o112c101_0 K.n K.di (datC [SV.str nm]) (K.n:Int) 0=some (false,default,()):=g2
  refine ⟨?_,.inr ⟨fun k hk=>by have:=g1 k (Nat.zero_le _) hk;rwa [hs] at this,?_⟩⟩
  ·show ((((o112c101_0 K.n K.di (datC [SV.str nm]) (K.n:Int) 0).isSome&&true)&&true)&&true)=true
   rw [ho];rfl
  ·show (cond (((o112c101_0 K.n K.di (datC [SV.str nm]) (K.n:Int) 0).getD default).fst) (((o112c101_0 K.n K.di (datC [SV.str nm]) (K.n:Int) 0).getD default).snd.fst) (-1))=_
   rw [ho];rfl
theorem m63_shop(K:Kst)(st:Stt)(hn:K.n<=1000000)(nm:ByteArray):n63rz (shopD K st) nm=true /\
  ((∃ i,ItemIs K nm i/\m63rz (shopD K st) nm=(true,i,thD K st i))\/((∀ k,k<K.n->K.di.ss k 0≠nm)/\m63rz (shopD K st) nm=(false,0,noDat))):=by
 obtain ⟨h1,h2⟩:=m82_spec K hn nm
 have e:m63rz (shopD K st) nm=cond (decide (0<=m82 K.n K.di K.r K.dr nm)) (true,(m82 K.n K.di K.r K.dr nm).toNat,thD K st (m82 K.n K.di K.r K.dr nm).toNat) (false,0,noDat):=rfl
 have en:n63rz (shopD K st) nm=(n82 K.n K.di K.r K.dr nm&&cond (decide (0<=m82 K.n K.di K.r K.dr nm)) (decide (0<=m82 K.n K.di K.r K.dr nm/\m82 K.n K.di K.r K.dr nm<(K.n:Int))&&true) true):=rfl
 rw [e,en,h1]
 rcases h2 with ⟨i,hi,hm⟩ | ⟨hno,hm⟩
 ·have:=hi.lt
  have e1:decide (0<=(i:Int))=true:=decide_eq_true (by omega)
  have e2:decide (0<=(i:Int)/\(i:Int)<(K.n:Int))=true:=decide_eq_true (by omega)
  rw [hm,e1,e2]
  exact ⟨rfl,.inl ⟨i,hi,by simp⟩⟩
 ·rw [hm]
  exact ⟨rfl,.inr ⟨hno,rfl⟩⟩
/-! ### helpers: do,the rule -/
theorem sealW_ok(w:World):SealOk (sealW w noIds) w:=by
 refine ⟨fun b o v hv=>hv,fun b v hv=>?_,fun b i hp=>by cases hp⟩
 unfold sealW at hv
 simp only at hv
 split at hv
 ·cases hv;assumption
 ·cases hv
theorem memW(B:Nat)(w:World):MemDen B [] ⟨fun _=>none,sealW w noIds⟩ (memOf []) w :=
 ⟨fun i hi=>by simp [memOf,Blk.isUnk] at hi,fun i j m m' _ hi=>by simp [memOf,Blk.isUnk] at hi,sealW_ok w,fun i m hi=>by simp [memOf,Blk.isUnk] at hi⟩
theorem calls102{K:Kst}{L:Lay}{w:World}(hS:SetupW K L w)(nm:ByteArray)(hn:n102 K.n K.di K.r K.dr nm=true) :
  Calls Try.prog 102 ⟨[.agg #[L.xI,L.xR],.string nm]⟩ w fun e w'=>e=.returned (.int .i64 (m102 K.n K.di K.r K.dr nm))/\Kept w.heap.size [] w w':=by
 obtain ⟨⟨A,cap,e1,e2,e3⟩,A',cap',f1,f2,f3⟩:=hS
 have hc:=k102.2 w.heap.size [] ⟨fun _=>none,sealW w noIds⟩ (memOf []) 0 [.agg [.ro [.str,.int .i64,.int .i64] K.n K.di,.ro [.str,.int .i64,.int .i64,.int .i64] K.r K.dr],.str nm]
  {v:=.int .i64 (m102 K.n K.di K.r K.dr nm),need:=[n102 K.n K.di K.r K.dr nm] } rfl (fun b hb=>by simp at hb;rw [hb,hn]) ?_ [.agg #[L.xI,L.xR],.string nm] w
  ⟨⟨_,rfl,⟨A,cap,e1,e2,e3⟩,⟨A',cap',f1,f2,f3⟩,trivial⟩,rfl,trivial⟩ (memW _ w) (Nat.le_refl _) (fun j hj=>rfl)
 ·refine hc.mono ?_
  rintro e w' ⟨x,ρ',rfl,hp⟩
  have hv:x=.int .i64 (m102 K.n K.di K.r K.dr nm):=hp.val
  exact ⟨by rw [hv],hp.os,hp.tape,hp.output,hp.size,fun k hk _=>hp.keep k hk (fun u hu=>by simp at hu)⟩
 ·exact ⟨fun u hu=>by simp at hu,fun u hu=>by simp at hu⟩
/-! ### helpers: begin,its regions -/
def regAt(i:Nat):Code->Option Code
 | .seq a b=>match regAt i a with | some c=>some c | none=>regAt i b
 | .cond _ a b=>match regAt i a with | some c=>some c | none=>regAt i b
 | .block _ a=>regAt i a
 | .loop a=>regAt i a
 | .region k o d=>match Nat.beq k i with | true=>some (.region k o d) | false=>none
 | _=>none
def cd91:Code:=Try.f91.body.getD .skip
def c91_0:Code:=(regAt 0 cd91).getD .skip
def c91_1:Code:=(regAt 1 cd91).getD .skip
def c91_2:Code:=(regAt 2 cd91).getD .skip
def c91_3:Code:=(regAt 3 cd91).getD .skip
def c91_4:Code:=(regAt 4 cd91).getD .skip
def c91_5:Code:=(regAt 5 cd91).getD .skip
def c91_6:Code:=(regAt 6 cd91).getD .skip
def c91_7:Code:=(regAt 7 cd91).getD .skip
def c91_8:Code:=(regAt 8 cd91).getD .skip
def c91_9:Code:=(regAt 9 cd91).getD .skip
def c91_10:Code:=(regAt 10 cd91).getD .skip
def c91_11:Code:=(regAt 11 cd91).getD .skip
def c91_12:Code:=(regAt 12 cd91).getD .skip
def c91_13:Code:=(regAt 13 cd91).getD .skip
def c91_14:Code:=(regAt 14 cd91).getD .skip
theorem c91_0_eq:∃ t0 p0 a0 t1 p1 a1,c91_0=.region 0 #[⟨some 1,.box 25 (.tmp 0),t0,p0,a0,none⟩,⟨some 2,.assign (.const (.pointer none)),t1,p1,a1,none⟩] false:=⟨_,_,_,_,_,_,rfl⟩
theorem c91_1_eq:∃ t0 p0 a0 t1 p1 a1 t2 p2 a2 t3 p3 a3,c91_1=.region 1 #[⟨some 9,.load 25 (.tmp 1),t0,p0,a0,none⟩,⟨some 10,.build 112 #[(0,.tmp 9)],t1,p1,a1,none⟩,⟨some 11,.box 112 (.tmp 10),t2,p2,a2,none⟩,⟨some 3,.assign (.tmp 11),t3,p3,a3,none⟩] false:=⟨_,_,_,_,_,_,_,_,_,_,_,_,rfl⟩
theorem c91_2_eq:∃ t0 p0 a0 t1 p1 a1 t2 p2 a2 t3 p3 a3,c91_2=.region 2 #[⟨some 12,.fieldAddr 25 (.tmp 1) 0,t0,p0,a0,none⟩,⟨some 13,.load 22 (.tmp 12),t1,p1,a1,none⟩,⟨some 14,.call { callee:=.builtin .len,args:=#[.tmp 13],argTypes:=#[22] },t2,p2,a2,none⟩,⟨some 15,.move (.const (.int .i64 0)),t3,p3,a3,none⟩] false:=⟨_,_,_,_,_,_,_,_,_,_,_,_,rfl⟩
theorem c91_3_eq:∃ t0 p0 a0,c91_3=.region 3 #[⟨some 16,.binOp .lss 3 (.tmp 15) (.tmp 14) 3,t0,p0,a0,none⟩] false:=⟨_,_,_,rfl⟩
theorem c91_4_eq:∃ t0 p0 a0 t1 p1 a1 t2 p2 a2 t3 p3 a3,c91_4=.region 4 #[⟨some 17,.indexAddr 22 (.tmp 13) (.tmp 15),t0,p0,a0,none⟩,⟨some 18,.load 65 (.tmp 17),t1,p1,a1,none⟩,⟨some 5,.alloc 65,t2,p2,a2,none⟩,⟨none,.store 65 (.tmp 5) (.tmp 18),t3,p3,a3,none⟩] false:=⟨_,_,_,_,_,_,_,_,_,_,_,_,rfl⟩
theorem c91_5_eq:∃ t0 p0 a0 t1 p1 a1 t2 p2 a2 t3 p3 a3 t4 p4 a4 t5 p5 a5 t6 p6 a6 t7 p7 a7,c91_5=.region 5 #[⟨some 19,.load 65 (.tmp 5),t0,p0,a0,none⟩,⟨some 20,.makeMap 123 none,t1,p1,a1,none⟩,⟨some 21,.makeMap 124 none,t2,p2,a2,none⟩,⟨some 22,.makeMap 124 none,t3,p3,a3,none⟩,⟨some 23,.makeMap 125 none,t4,p4,a4,none⟩,⟨some 24,.build 127 #[(0,.tmp 19),(1,.tmp 20),(2,.tmp 21),(3,.tmp 22),(6,.tmp 23)],t5,p5,a5,none⟩,⟨some 25,.box 127 (.tmp 24),t6,p6,a6,none⟩,⟨some 6,.assign (.tmp 25),t7,p7,a7,none⟩] false:=⟨_,_,_,_,_,_,_,_,_,_,_,_,_,_,_,_,_,_,_,_,_,_,_,_,rfl⟩
theorem c91_6_eq:∃ t0 p0 a0 t1 p1 a1 t2 p2 a2 t3 p3 a3,c91_6=.region 6 #[⟨some 26,.fieldAddr 25 (.tmp 1) 1,t0,p0,a0,none⟩,⟨some 27,.load 23 (.tmp 26),t1,p1,a1,none⟩,⟨some 28,.call { callee:=.builtin .len,args:=#[.tmp 27],argTypes:=#[23] },t2,p2,a2,none⟩,⟨some 29,.move (.const (.int .i64 0)),t3,p3,a3,none⟩] false:=⟨_,_,_,_,_,_,_,_,_,_,_,_,rfl⟩
theorem c91_7_eq:∃ t0 p0 a0,c91_7=.region 7 #[⟨some 30,.binOp .lss 3 (.tmp 29) (.tmp 28) 3,t0,p0,a0,none⟩] false:=⟨_,_,_,rfl⟩
theorem c91_8_eq:∃ t0 p0 a0 t1 p1 a1 t2 p2 a2 t3 p3 a3 t4 p4 a4 t5 p5 a5,c91_8=.region 8 #[⟨some 31,.move (.tmp 29),t0,p0,a0,none⟩,⟨some 32,.indexAddr 23 (.tmp 27) (.tmp 29),t1,p1,a1,none⟩,⟨some 33,.load 98 (.tmp 32),t2,p2,a2,none⟩,⟨some 8,.alloc 98,t3,p3,a3,none⟩,⟨some 7,.assign (.tmp 31),t4,p4,a4,none⟩,⟨none,.store 98 (.tmp 8) (.tmp 33),t5,p5,a5,none⟩] false:=⟨_,_,_,_,_,_,_,_,_,_,_,_,_,_,_,_,_,_,rfl⟩
theorem c91_9_eq:∃ t0 p0 a0 t1 p1 a1 t2 p2 a2 t3 p3 a3 t4 p4 a4,c91_9=.region 9 #[⟨some 34,.fieldAddr 98 (.tmp 8) 1,t0,p0,a0,none⟩,⟨some 35,.load 3 (.tmp 34),t1,p1,a1,none⟩,⟨some 36,.fieldAddr 65 (.tmp 5) 1,t2,p2,a2,none⟩,⟨some 37,.load 3 (.tmp 36),t3,p3,a3,none⟩,⟨some 38,.binOp .eql 3 (.tmp 35) (.tmp 37) 3,t4,p4,a4,none⟩] false:=⟨_,_,_,_,_,_,_,_,_,_,_,_,_,_,_,rfl⟩
theorem c91_11_eq:∃ t0 p0 a0 t1 p1 a1,c91_11=.region 11 #[⟨some 48,.binOp .add 3 (.tmp 29) (.const (.int .i64 1)) 3,t0,p0,a0,none⟩,⟨some 29,.move (.tmp 48),t1,p1,a1,none⟩] false:=⟨_,_,_,_,_,_,rfl⟩
theorem c91_12_eq:∃ t0 p0 a0 t1 p1 a1 t2 p2 a2 t3 p3 a3 t4 p4 a4 t5 p5 a5 t6 p6 a6 t7 p7 a7 t8 p8 a8 t9 p9 a9 t10 p10 a10,c91_12=.region 12 #[⟨some 49,.move (.tmp 3),t0,p0,a0,none⟩,⟨some 50,.move (.tmp 3),t1,p1,a1,none⟩,⟨some 51,.nilCheck (.tmp 50),t2,p2,a2,none⟩,⟨some 52,.fieldAddr 112 (.tmp 51) 1,t3,p3,a3,none⟩,⟨some 53,.load 110 (.tmp 52),t4,p4,a4,none⟩,⟨some 54,.move (.tmp 6),t5,p5,a5,none⟩,⟨some 55,.buildSlice 110 1 #[(0,.tmp 54)],t6,p6,a6,none⟩,⟨some 56,.call { callee:=.builtin .append,args:=#[.tmp 53,.tmp 55],argTypes:=#[110,110] },t7,p7,a7,none⟩,⟨some 57,.nilCheck (.tmp 49),t8,p8,a8,none⟩,⟨some 58,.fieldAddr 112 (.tmp 57) 1,t9,p9,a9,none⟩,⟨none,.store 110 (.tmp 58) (.tmp 56),t10,p10,a10,none⟩] false:=⟨_,_,_,_,_,_,_,_,_,_,_,_,_,_,_,_,_,_,_,_,_,_,_,_,_,_,_,_,_,_,_,_,_,rfl⟩
theorem c91_13_eq:∃ t0 p0 a0 t1 p1 a1,c91_13=.region 13 #[⟨some 59,.binOp .add 3 (.tmp 15) (.const (.int .i64 1)) 3,t0,p0,a0,none⟩,⟨some 15,.move (.tmp 59),t1,p1,a1,none⟩] false:=⟨_,_,_,_,_,_,rfl⟩
theorem c91_14_eq:∃ t0 p0 a0 t1 p1 a1,c91_14=.region 14 #[⟨some 60,.move (.tmp 3),t0,p0,a0,none⟩,⟨some 2,.assign (.tmp 60),t1,p1,a1,none⟩] false:=⟨_,_,_,_,_,_,rfl⟩
theorem c91_eq:cd91=.seq c91_0 (.seq c91_1 (.seq (.seq c91_2 (.block 0 (.loop (.seq c91_3 (.seq (.cond (.tmp 16) .skip (.exit 0)) (.seq (.block 1 (.seq c91_4 (.seq c91_5 (.seq (.seq c91_6 (.block 2 (.loop (.seq c91_7 (.seq (.cond (.tmp 30) .skip (.exit 2)) (.seq (.block 3 (.seq c91_8 (.seq c91_9 (.cond (.tmp 38) c91_10 .skip)))) c91_11)))))) c91_12)))) c91_13)))))) (.seq c91_14 .ret))):=by kernel_rfl
end
end Go.Proofs.Ytldjapmfmhifkaa
