/-
 The shop in the heap: its blocks by tags, its state, and the sealed view of it. Conditions: none.
-/
import Derived.Test.YtldjapmfmhifkaaUSyRm
namespace Go.Sy
set_option linter.unusedVariables false
set_option linter.unusedSimpArgs false
open Go.RowKit Go.ChangeMaps
inductive Tg where
 | shop | row
 | th (i:Nat) | ck (i:Nat) | hs (i:Nat) | hd (i:Nat) | bd (i:Nat)
 | cb (i r:Nat)
structure Th where
 ck:Nat->Option (Int × Int × Bool)
 has:Nat->Nat->Bool
 had:Nat->Nat->Bool
 pr:Nat
 st:Bool
 bad:Nat->Bool
structure Stt where
 day:Int
 th:Nat->Th
structure Kst where
 n:Nat
 di:Dat
 r:Nat
 dr:Dat
def Kst.dom(K:Kst)(i q:Nat):Bool:=decide (q<K.r)&&decide (K.dr.ii q 1=K.di.ii i 1)
def Tg.ok(K:Kst):Tg->Prop
 | .shop=>True
 | .row=>0<K.n
 | .th i | .ck i | .hs i | .hd i | .bd i=>i<K.n
 | .cb i q=>i<K.n/\K.dom i q=true
def nB:Nat:=300
structure StOk (K:Kst) (st:Stt):Prop where
 ck:∀ i,i<K.n->∀ q,((st.th i).ck q).isSome=K.dom i q
 has:∀ i,i<K.n->∀ a b,(st.th i).has a b=true->a<K.n/\b<nB
 had:∀ i,i<K.n->∀ a b,(st.th i).had a b=true->a<K.n/\b<nB
structure Tys where
 shop:TypeId
 row:TypeId
 th:TypeId
 cb:TypeId
structure Lay where
 T:Tys
 at_:Tg->Nat
 xI:Value
 xR:Value
def thV(L:Lay)(K:Kst)(st:Stt)(i:Nat):Array Value :=
 #[.string (K.di.ss i 0),.int .i64 (K.di.ii i 1),.int .i64 (K.di.ii i 2),.map (some (L.at_ (.ck i))),.map (some (L.at_ (.hs i))),.map (some (L.at_ (.hd i))),.int .i64 ((st.th i).pr:Int),.bool (st.th i).st,.map (some (L.at_ (.bd i)))]
def cbV(c:Int × Int × Bool):Array Value:=#[.int .i64 c.1,.int .i64 c.2.1,.bool c.2.2]
def mapB(b:Nat->Nat->Bool)(f:Int × Int->Option Value):Prop:=∀ p:Int × Int,f p=if (decide (0<=p.1)&&decide (0<=p.2)&&b p.1.toNat p.2.toNat)=true then some (.bool true) else none
def map1(b:Nat->Bool)(f:Int->Option Value):Prop:=∀ r:Int,f r=if (decide (0<=r)&&b r.toNat)=true then some (.bool true) else none
def mapC(L:Lay)(K:Kst)(i:Nat)(f:Int->Option Value):Prop:=∀ r:Int,f r=if (decide (0<=r)&&K.dom i r.toNat)=true then some (.pointer (some ⟨L.at_ (.cb i r.toNat),0,none⟩)) else none
def Has(L:Lay)(K:Kst)(st:Stt):Tg->Obj->Prop
 | .shop,o=>∃ A cap,o=.cells #[L.xI,L.xR,.slice A K.n cap,.int .i64 st.day] L.T.shop (0,0)/\NC A K.n cap/\(0<K.n->A=some ⟨L.at_ .row,0,none⟩)
 | .row,o=>∃ c,o=.cells c L.T.row (0,0)/\∀ i,i<K.n->c[i]? = some (.pointer (some ⟨L.at_ (.th i),0,none⟩))
 | .th i,o=>o=.cells (thV L K st i) L.T.th (0,0)
 | .ck i,o=>∃ es cl f,o=.map es cl/\MapObj (Value.int .i64) f es cl/\mapC L K i f
 | .hs i,o=>∃ es cl f,o=.map es cl/\MapObj pairV f es cl/\mapB (st.th i).has f
 | .hd i,o=>∃ es cl f,o=.map es cl/\MapObj pairV f es cl/\mapB (st.th i).had f
 | .bd i,o=>∃ es cl f,o=.map es cl/\MapObj (Value.int .i64) f es cl/\map1 (st.th i).bad f
 | .cb i q,o=>∀ c,(st.th i).ck q=some c->o=.cells (cbV c) L.T.cb (0,0)
structure ShopAt (L:Lay) (K:Kst) (st:Stt) (w:World):Prop where
 inj:∀ s t,Tg.ok K s->Tg.ok K t->L.at_ s=L.at_ t->s=t
 ok:StOk K st
 at_:∀ t,Tg.ok K t->∃ o,w.heap[L.at_ t]? = some o/\Has L K st t o
theorem ShopAt.set{L:Lay}{K:Kst}{st st':Stt}{w w':World}(h:ShopAt L K st w)(t:Tg)(ht:Tg.ok K t)(hok:StOk K st')(keep:∀ b,b≠L.at_ t->∀ o,w.heap[b]? = some o->w'.heap[b]? = some o)(hn:∃ o,w'.heap[L.at_ t]? = some o/\Has L K st' t o)(ho:∀ s o,s≠t->Has L K st s o->Has L K st' s o):ShopAt L K st' w':=by
 refine ⟨h.inj,hok,fun s hs=>?_⟩
 by_cases e:s=t
 ·subst e;exact hn
 ·obtain ⟨o,h1,h2⟩:=h.at_ s hs
  exact ⟨o,keep _ (fun ee=>e (h.inj s t hs ht ee)) o h1,ho s o e h2⟩
theorem ShopAt.keep{L:Lay}{K:Kst}{st:Stt}{w w':World}(h:ShopAt L K st w)(keep:∀ (b:Nat) (o:Obj),w.heap[b]? = some o->w'.heap[b]? = some o):ShopAt L K st w' :=
 ⟨h.inj,h.ok,fun s hs=>let ⟨o,h1,h2⟩:=h.at_ s hs;⟨o,keep _ o h1,h2⟩⟩
def cbD(c:Int × Int × Bool):Dat:={ noDat with ii:=fun _ k=>match k with | 0=>c.1 | _=>c.2.1,bb:=fun _ _=>c.2.2 }
def thD(K:Kst)(st:Stt)(i:Nat):Dat :=
 {ii:=fun _ k=>match k with | 1=>K.di.ii i 1 | 2=>K.di.ii i 2 | _=>((st.th i).pr:Int)
  ss:=fun _ _=>K.di.ss i 0
  bb:=fun _ _=>(st.th i).st
  sn:=fun _ _=>0
  sd:=fun _ k=>match k with
   | 3=>some { noDat with bb:=fun q _=>((st.th i).ck q).isSome,sd:=fun q _=>some (cbD (((st.th i).ck q).getD (0,0,false))) }
   | 4=>some { noDat with bb:=(st.th i).has,sn:=fun _ k=>match k with | 0=>K.n | _=>nB }
   | 5=>some { noDat with bb:=(st.th i).had,sn:=fun _ k=>match k with | 0=>K.n | _=>nB }
   | _=>some { noDat with bb:=fun q _=>(st.th i).bad q } }
def shopD(K:Kst)(st:Stt):Dat :=
 {ii:=fun _ _=>st.day
  ss:=fun _ _=>.empty
  bb:=fun _ _=>false
  sn:=fun _ k=>match k with | 0=>K.n | 1=>K.r | _=>K.n
  sd:=fun _ k=>match k with
   | 0=>some K.di
   | 1=>some K.dr
   | _=>some { noDat with sn:=fun q _=>q,sd:=fun q _=>some (thD K st q) } }
abbrev shZ:List Kd:=[.sl [.str,.int .i64,.int .i64],.sl [.str,.int .i64,.int .i64,.int .i64],.sl [.pz shT],.int .i64]
structure Seen (L:Lay) (K:Kst) (w:World) (od:Od):Prop where
 c:∀ t,Tg.ok K t->∀ o v,w.cell? ⟨L.at_ t,o,none⟩=some v->od (L.at_ t) o=some v
 m:∀ t,Tg.ok K t->∀ es cl,w.heap[L.at_ t]? = some (.map es cl)->od.m (L.at_ t)=some (es,cl)
theorem cell_of{w:World}{b o:Nat}{c:Array Value}{t:TypeId}{fr:Nat × Nat}{v:Value}(h:w.heap[b]? = some (.cells c t fr))(hv:c[o]? = some v):w.cell? ⟨b,o,none⟩=some v:=by
 simp [World.cell?,h,hv]
theorem th_den{L:Lay}{K:Kst}{st:Stt}{w:World}(h:ShopAt L K st w){od:Od}(hs:Seen L K w od){i:Nat}(hi:i<K.n):Kd.denL od shT (thD K st i) 0 0 (L.at_ (.th i)) 0:=by
 obtain ⟨o,h1,h2⟩:=h.at_ (.th i) hi
 have h2:o=.cells (thV L K st i) L.T.th (0,0):=h2
 subst h2
 have cell:∀ k v,(thV L K st i)[k]? = some v->od (L.at_ (.th i)) (0+k)=some v:=fun k v hv=>by
  rw [Nat.zero_add]
  exact hs.c (.th i) hi _ _ (cell_of h1 hv)
 refine ⟨⟨_,cell 0 _ rfl,rfl⟩,⟨_,cell 1 _ rfl,rfl⟩,⟨_,cell 2 _ rfl,rfl⟩,⟨_,cell 3 _ rfl,?_⟩,⟨_,cell 4 _ rfl,?_⟩,⟨_,cell 5 _ rfl,?_⟩,⟨_,cell 6 _ rfl,rfl⟩,⟨_,cell 7 _ rfl,rfl⟩,⟨_,cell 8 _ rfl,?_⟩,trivial⟩
 ·obtain ⟨_,g1,es,cl,f,rfl,g2,g3⟩:=h.at_ (.ck i) hi
  refine ⟨_,es,cl,f,rfl,hs.m (.ck i) hi _ _ g1,g2,fun r=>?_,fun r y hy=>?_⟩
  ·rw [g3 r]
   show _=(decide (0<=r)&&((st.th i).ck r.toNat).isSome)
   rw [h.ok.ck i hi]
   split
   ·rename_i hc;rw [hc];rfl
   ·rename_i hc;rw [Bool.not_eq_true] at hc;rw [hc];rfl
  ·rw [g3 r] at hy
   split at hy
   ·rename_i hc
    cases hy
    simp only [Bool.and_eq_true,decide_eq_true_eq] at hc
    refine ⟨_,0,rfl,?_⟩
    obtain ⟨o,c1,c2⟩:=h.at_ (.cb i r.toNat) ⟨hi,hc.2⟩
    have hsm:=h.ok.ck i hi r.toNat
    rw [hc.2] at hsm
    obtain ⟨cc,hcc⟩:=Option.isSome_iff_exists.1 hsm
    have c2:=c2 cc hcc
    subst c2
    have cell:∀ k v,(cbV cc)[k]? = some v->od (L.at_ (.cb i r.toNat)) (0+k)=some v:=fun k v hv=>by
     rw [Nat.zero_add]
     exact hs.c (.cb i r.toNat) ⟨hi,hc.2⟩ _ _ (cell_of c1 hv)
    show Kd.denL od [.int .i64,.int .i64,.bool] (cbD (((st.th i).ck r.toNat).getD (0,0,false))) 0 0 _ 0
    rw [hcc]
    exact ⟨⟨_,cell 0 _ rfl,rfl⟩,⟨_,cell 1 _ rfl,rfl⟩,⟨_,cell 2 _ rfl,rfl⟩,trivial⟩
   ·cases hy
 ·obtain ⟨_,g1,es,cl,f,rfl,g2,g3⟩:=h.at_ (.hs i) hi
  exact ⟨_,es,cl,f,rfl,hs.m (.hs i) hi _ _ g1,g2,g3,fun a b hab=>h.ok.has i hi a b hab⟩
 ·obtain ⟨_,g1,es,cl,f,rfl,g2,g3⟩:=h.at_ (.hd i) hi
  exact ⟨_,es,cl,f,rfl,hs.m (.hd i) hi _ _ g1,g2,g3,fun a b hab=>h.ok.had i hi a b hab⟩
 ·obtain ⟨_,g1,es,cl,f,rfl,g2,g3⟩:=h.at_ (.bd i) hi
  exact ⟨_,es,cl,f,rfl,hs.m (.bd i) hi _ _ g1,g2,g3⟩
def Setup(K:Kst)(xI xR:Value)(od:Od):Prop :=
 (∃ A cap,xI=.slice A K.n cap/\NC A K.n cap/\(0<K.n->∃ b o,A=some ⟨b,o,none⟩/\∀ q,q<K.n->Kd.denL od [.str,.int .i64,.int .i64] K.di q 0 b (o+q * 3))) /\
 ∃ A cap,xR=.slice A K.r cap/\NC A K.r cap/\(0<K.r->∃ b o,A=some ⟨b,o,none⟩/\∀ q,q<K.r->Kd.denL od [.str,.int .i64,.int .i64,.int .i64] K.dr q 0 b (o+q * 4))
theorem shop_denL{L:Lay}{K:Kst}{st:Stt}{w:World}(h:ShopAt L K st w){nm:Nat->Option Nm}{od:Od}(hs:Seen L K w od)(hS:Setup K L.xI L.xR od)(hp:∀ i,i<K.n->od.p.f (L.at_ (.th i))=some i) :
  Kd.denL od shZ (shopD K st) 0 0 (L.at_ .shop) 0:=by
 obtain ⟨_,h1,A,cap,rfl,hc,hA⟩:=h.at_ .shop trivial
 have cell:∀ k v,(#[L.xI,L.xR,.slice A K.n cap,.int .i64 st.day]:Array Value)[k]? = some v->od (L.at_ .shop) (0+k)=some v:=fun k v hv=>by
  rw [Nat.zero_add]
  exact hs.c .shop trivial _ _ (cell_of h1 hv)
 obtain ⟨⟨A1,c1,e1,n1,s1⟩,A2,c2,e2,n2,s2⟩:=hS
 refine ⟨⟨_,cell 0 _ rfl,?_⟩,⟨_,cell 1 _ rfl,?_⟩,⟨_,cell 2 _ rfl,?_⟩,⟨_,cell 3 _ rfl,rfl⟩,trivial⟩
 ·exact ⟨A1,c1,e1,n1,s1⟩
 ·exact ⟨A2,c2,e2,n2,s2⟩
 ·refine ⟨A,cap,rfl,hc,fun h0=>⟨_,0,hA h0,fun q hq=>?_⟩⟩
  have hq:q<K.n:=hq
  obtain ⟨_,r1,c,rfl,r2⟩:=h.at_ .row h0
  refine ⟨⟨_,hs.c .row h0 _ _ (cell_of r1 (o:=0+q * 1+0) (by simpa using r2 q hq)),?_⟩,trivial⟩
  exact .inl ⟨rfl,_,rfl,hp q hq,th_den h hs hq⟩
theorem shop_den{L:Lay}{K:Kst}{st:Stt}{w:World}(h:ShopAt L K st w){nm:Nat->Option Nm}{od:Od}(hs:Seen L K w od)(hS:Setup K L.xI L.xR od)(hp:∀ i,i<K.n->od.p.f (L.at_ (.th i))=some i) :
  SV.den ⟨nm,od⟩ (.rp shZ (shopD K st) 0 0) (.pointer (some ⟨L.at_ .shop,0,none⟩)):=⟨_,0,rfl,shop_denL (nm:=nm) h hs hS hp⟩
def idsOf(L:Lay)(K:Kst)(inj:∀ s t,Tg.ok K s->Tg.ok K t->L.at_ s=L.at_ t->s=t):Ids where
 f b:=if L.at_ .shop=b then some K.n else (List.range K.n).find? fun i=>decide (L.at_ (.th i)=b)
 inj b b' i h h':=by
  split at h
  ·rename_i e
   cases h
   split at h'
   ·rename_i e';rw [<- e,<- e']
   ·have:=List.mem_range.1 (List.mem_of_find?_eq_some h')
    omega
  ·split at h'
   ·cases h'
    have:=List.mem_range.1 (List.mem_of_find?_eq_some h)
    omega
   ·have h1:=List.find?_some h
    have h2:=List.find?_some h'
    simp only [decide_eq_true_eq] at h1 h2
    rw [<- h1,<- h2]
theorem idsOf_th{L:Lay}{K:Kst}{inj:∀ s t,Tg.ok K s->Tg.ok K t->L.at_ s=L.at_ t->s=t}{i:Nat}(hi:i<K.n):(idsOf L K inj).f (L.at_ (.th i))=some i:=by
 have hne:¬ L.at_ .shop=L.at_ (.th i):=fun e=>by cases inj .shop (.th i) trivial hi e
 show (if L.at_ .shop=L.at_ (.th i) then some K.n else _)=_
 rw [if_neg hne]
 cases h:(List.range K.n).find? (fun j=>decide (L.at_ (.th j)=L.at_ (.th i))) with
 | none =>
  have:=List.find?_eq_none.1 h i (List.mem_range.2 hi)
  simp at this
 | some j =>
  have hj:=List.mem_range.1 (List.mem_of_find?_eq_some h)
  have:=List.find?_some h
  simp only [decide_eq_true_eq] at this
  have e:=inj (.th j) (.th i) hj hi this
  cases e;rfl
theorem idsOf_shop{L:Lay}{K:Kst}{inj:∀ s t,Tg.ok K s->Tg.ok K t->L.at_ s=L.at_ t->s=t}:(idsOf L K inj).f (L.at_ .shop)=some K.n:=if_pos rfl
theorem idsOf_some{L:Lay}{K:Kst}{inj:∀ s t,Tg.ok K s->Tg.ok K t->L.at_ s=L.at_ t->s=t}{b i:Nat}(h:(idsOf L K inj).f b=some i):(i<K.n/\L.at_ (.th i)=b)\/(i=K.n/\L.at_ .shop=b):=by
 have h:(if L.at_ .shop=b then some K.n else (List.range K.n).find? fun i=>decide (L.at_ (.th i)=b))=some i:=h
 split at h
 ·cases h;exact .inr ⟨rfl,by assumption⟩
 ·exact .inl ⟨List.mem_range.1 (List.mem_of_find?_eq_some h),by simpa using List.find?_some h⟩
def sealW(w:World)(p:Ids):Od where
 c b o:=w.cell? ⟨b,o,none⟩
 m b:=match w.heap[b]? with
  | some (.map es cl)=>some (es,cl)
  | _=>none
 p:=p
theorem ShopAt.sealOk{L:Lay}{K:Kst}{st:Stt}{w:World}(h:ShopAt L K st w):SealOk (sealW w (idsOf L K h.inj)) w:=by
 refine ⟨fun b o v hv=>hv,fun b v hv=>?_,fun b i hp=>?_⟩
 ·unfold sealW at hv
  simp only at hv
  split at hv
  ·cases hv;assumption
  ·cases hv
 ·rcases idsOf_some (inj:=h.inj) hp with ⟨hi,e⟩ | ⟨hi,e⟩
  ·obtain ⟨o,h1,h2⟩:=h.at_ (.th i) hi
   have h2:o=.cells (thV L K st i) L.T.th (0,0):=h2
   subst h2
   rw [e] at h1
   exact ⟨⟨.string (K.di.ss i 0),cell_of h1 rfl⟩,_,_,h1⟩
  ·obtain ⟨_,h1,A,cap,rfl,_⟩:=h.at_ .shop trivial
   rw [e] at h1
   exact ⟨⟨L.xI,cell_of h1 rfl⟩,_,_,h1⟩
theorem ShopAt.seen{L:Lay}{K:Kst}{st:Stt}{w:World}(h:ShopAt L K st w):Seen L K w (sealW w (idsOf L K h.inj)) :=
 ⟨fun t _ o v hv=>hv,fun t _ es cl hm=>by simp [sealW,hm]⟩
theorem ShopAt.mem{L:Lay}{K:Kst}{st:Stt}{w:World}(h:ShopAt L K st w)(B:Nat):MemDen B [] ⟨fun _=>none,sealW w (idsOf L K h.inj)⟩ (memOf []) w :=
 ⟨fun i hi=>by simp [memOf,Blk.isUnk] at hi,fun i j m m' _ hi=>by simp [memOf,Blk.isUnk] at hi,h.sealOk,fun i m hi=>by simp [memOf,Blk.isUnk] at hi⟩
end Go.Sy
