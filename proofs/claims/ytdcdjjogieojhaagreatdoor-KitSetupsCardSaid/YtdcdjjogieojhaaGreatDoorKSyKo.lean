/-
 A symbolic executor for the model's code: an equation of the executor within the proof that uses it. Conditions: none.
-/
import Derived.LaidMore
import Derived.LaidHandle
import Derived.Stop.Joined
import Derived.Test.YtdcdjjogieojhaaGreatDoorKSyW
import Derived.ChangeReads
import Derived.OpenShut
import Derived.Deep.Slices
import Derived.Lib.SmallJoins
import Derived.Test.YtdcdjjogieojhaaGreatDoorKSyV
set_option linter.unusedVariables false
set_option linter.unusedSimpArgs false
set_option linter.unusedSectionVars false
namespace Go.Sy
open Go.RowKit Go.ChangeShapes Go.WideShapes Go.Joins Go.Deep
variable [AO]
def DF(go:TypeId->Option (List Kd))(P:Program):List Field->Nat->Option (List Kd)
 | [],_=>some []
 | f :: fs,o=>if f.offset=o then (go f.type).bind fun l=>if l.length=P.cellsOf f.type then (DF go P fs (o+l.length)).map (l ++ ·) else none else none
def FX(P:Program):Nat->TypeId->Option (List Kd)
 | 0,_=>none
 | f+1,t=>match P.underlying t with
  | some .bool=>some [.bool]
  | some (.int k)=>some [.int k]
  | some .string=>some [.str]
  | some (.slice e)=>(FX P f e).bind fun l=>if l.length=P.cellsOf e/\0<l.length then some [.sl l] else none
  | some (.struct fs)=>(DF (FX P f) P fs.toList 0).bind fun l=>if l.length=P.cellsOf t then some l else none
  | some (.array n e)=>(FX P f e).bind fun l=>if l.length=P.cellsOf e/\n * l.length=P.cellsOf t then some (List.replicate n l).flatten else none
  | _=>none
mutual
def Kd.san:Kd->Dat->Nat->Nat->Prop
 | .int kk,d,k,c=>(Lit.int kk (d.ii k c)).wf=true
 | .bool,_,_,_=>True
 | .str,d,k,c=>(d.ss k c).size<=maxLen
 | .sl sh,d,k,c=>d.sn k c<=maxLen/\∀ q,q<d.sn k c->Kd.sanL sh (d.sub k c) q 0
 | .pt _,_,_,_ | .pz _,_,_,_ | .mi _,_,_,_ | .mb,_,_,_ | .m1,_,_,_=>False
def Kd.sanL:List Kd->Dat->Nat->Nat->Prop
 | [],_,_,_=>True
 | kd :: l,d,q,c=>kd.san d q c/\Kd.sanL l d q (c+1)
end
def KV(od:Od)(kd:Kd)(v:Value):Prop:=∃ d:Dat,kd.den od d 0 0 v/\kd.san d 0 0
def KVL(od:Od):List Kd->List Value->Prop
 | [],[]=>True
 | k :: l,v :: vs=>KV od k v/\KVL od l vs
 | _,_=>False
section
variable {od:Od}
theorem Qb{kd:Kd}{d d':Dat}{k c k' c':Nat}{x:Value}(h1:d'.ii k' c'=d.ii k c)(h2:d'.ss k' c'=d.ss k c)(h3:d'.bb k' c'=d.bb k c)(h4:d'.sn k' c'=d.sn k c)(h5:d'.sd k' c'=d.sd k c)(h:kd.den od d k c x):kd.den od d' k' c' x:=by
 have h6:d'.sub k' c'=d.sub k c:=by unfold Dat.sub;rw [h5]
 cases kd <;> simp only [Kd.den,h1,h2,h3,h4,h6] at h ⊢ <;> exact h
theorem R3{kd:Kd}{d d':Dat}{k c k' c':Nat}(h1:d'.ii k' c'=d.ii k c)(h2:d'.ss k' c'=d.ss k c)(h4:d'.sn k' c'=d.sn k c)(h5:d'.sd k' c'=d.sd k c)(h:kd.san d k c):kd.san d' k' c':=by
 have h6:d'.sub k' c'=d.sub k c:=by unfold Dat.sub;rw [h5]
 cases kd <;> simp only [Kd.san,h1,h2,h4,h6] at h ⊢ <;> exact h
theorem Lz:∀ {l:List Kd} {d:Dat} {q c b o:Nat},(∀ i kd,l[i]? = some kd->∃ y,od b (o+(c+i))=some y/\kd.den od d q (c+i) y)->Kd.denL od l d q c b o
 | [],_,_,_,_,_,_=>by simp [Kd.denL]
 | kd :: l,d,q,c,b,o,h=>by
  simp only [Kd.denL]
  refine ⟨h 0 kd rfl,Lz fun i k hi=>?_⟩
  have:=h (i+1) k (by simpa using hi)
  rw [show c+1+i=c+(i+1) by omega]
  exact this
theorem Mq:∀ {l:List Kd} {d:Dat} {q c:Nat},(∀ (i:Nat) (kd:Kd),l[i]? = some kd->kd.san d q (c+i))->Kd.sanL l d q c
 | [],_,_,_,_=>by simp [Kd.sanL]
 | kd :: l,d,q,c,h=>by
  simp only [Kd.sanL]
  refine ⟨h 0 kd rfl,Mq fun i k hi=>?_⟩
  have:=h (i+1) k (by simpa using hi)
  rw [show c+1+i=c+(i+1) by omega]
  exact this
theorem KVL.length:∀ {l:List Kd} {vs:List Value},KVL od l vs->vs.length=l.length
 | [],[],_=>rfl
 | _ :: _,_ :: _,h=>by simp [KVL.length h.2]
 | [],_ :: _,h=>h.elim
 | _ :: _,[],h=>h.elim
theorem KVL.get:∀ {l:List Kd} {vs:List Value},KVL od l vs->∀ {i:Nat} {kd:Kd},l[i]? = some kd->∃ v,vs[i]? = some v/\KV od kd v
 | k :: l,v :: vs,h,i,kd,hi=>by
  cases i with
  | zero=>simp at hi;subst hi;exact ⟨v,rfl,h.1⟩
  | succ i=>simpa using KVL.get h.2 (by simpa using hi)
 | [],[],_,i,u,hi=>by simp at hi
 | [],_ :: _,h,_,_,_=>h.elim
 | _ :: _,[],h,_,_,_=>h.elim
theorem KVL.append:∀ {l m:List Kd} {vs us:List Value},KVL od l vs->KVL od m us->KVL od (l ++ m) (vs ++ us)
 | [],_,[],_,_,h=>h
 | _ :: _,_,_ :: _,_,h,k=>⟨h.1,KVL.append h.2 k⟩
 | [],_,_ :: _,_,h,_=>h.elim
 | _ :: _,_,[],_,h,_=>h.elim
theorem Se{sh:List Kd}{n b o:Nat}(h:∀ q,q<n->∃ ys,KVL od sh ys/\∀ c,c<sh.length->od b (o+q * sh.length+c)=ys[c]?) :
  ∃ D:Dat,(∀ q,q<n->Kd.denL od sh D q 0 b (o+q * sh.length))/\∀ q,q<n->Kd.sanL sh D q 0:=by
 have key:∀ q c:Nat,∃ d:Dat,q<n->∀ kd,sh[c]? = some kd->∃ y,od b (o+q * sh.length+c)=some y/\kd.den od d 0 0 y/\kd.san d 0 0:=by
  intro q c
  by_cases hq:q<n
  .cases hk:sh[c]? with
   | none=>exact ⟨A3,fun _ kd h=>by cases h⟩
   | some kd =>
    obtain ⟨ys,hy,hc⟩:=h q hq
    obtain ⟨v,hv,d,h1,h2⟩:=hy.get hk
    have hl:c<sh.length:=by
     rw [List.getElem?_eq_some_iff] at hk
     exact hk.1
    exact ⟨d,fun _ kd' e=>by cases e;exact ⟨v,(hc c hl).trans hv,h1,h2⟩⟩
  .exact ⟨A3,fun h=>absurd h hq⟩
 let dd:Nat->Nat->Dat:=fun q c=>Classical.choose (key q c)
 have hdd:∀ q c,q<n->∀ kd,sh[c]? = some kd->∃ y,od b (o+q * sh.length+c)=some y/\kd.den od (dd q c) 0 0 y/\kd.san (dd q c) 0 0:=fun q c=>Classical.choose_spec (key q c)
 refine ⟨{ ii:=fun q c=>(dd q c).ii 0 0,ss:=fun q c=>(dd q c).ss 0 0,bb:=fun q c=>(dd q c).bb 0 0,sn:=fun q c=>(dd q c).sn 0 0,sd:=fun q c=>(dd q c).sd 0 0 },fun q hq=>Lz fun i kd hi=>?_,fun q hq=>Mq fun i kd hi=>?_⟩
 .obtain ⟨y,h1,h2,h3⟩:=hdd q i hq kd hi
  rw [Nat.zero_add]
  exact ⟨y,h1,Qb (d:=dd q i) (k:=0) (c:=0) rfl rfl rfl rfl rfl h2⟩
 .obtain ⟨y,h1,h2,h3⟩:=hdd q i hq kd hi
  rw [Nat.zero_add]
  exact R3 (d:=dd q i) (k:=0) (c:=0) rfl rfl rfl rfl h3
end
section
variable {H:Type} {enc:TypeId × Value->H} {P:Program} {w:World} [Ea w]
theorem IZ{od:Od}{go:TypeId->Option (List Kd)}{cs:List Value}:∀ {fs:List Field} {o:Nat} {l:List Kd},DF go P fs o=some l ->
  (∀ f∈fs,∀ kf,go f.type=some kf->KVL od kf ((cs.drop f.offset).take (P.cellsOf f.type)))->KVL od l ((cs.drop o).take l.length)
 | [],o,l,h,_=>by
  simp [DF] at h
  subst h
  simp [KVL]
 | f :: fs,o,l,h,hf=>by
  unfold DF at h
  split at h
  .rename_i ho
   simp only [Option.bind_eq_some_iff] at h
   obtain ⟨kf,hk,h⟩:=h
   split at h
   .rename_i hl
    simp only [Option.map_eq_some_iff] at h
    obtain ⟨m,hm,rfl⟩:=h
    have h1:=hf f (by simp) kf hk
    have h2:=IZ hm fun g hg=>hf g (by simp [hg])
    rw [List.length_append,List.take_add,List.drop_drop]
    rw [<- hl,ho] at h1
    exact h1.append h2
   .cases h
  .cases h
theorem K6{od:Od}{cs:List Value}{l:List Kd}:∀ (n s:Nat),(∀ i,i<n->KVL od l ((cs.drop ((s+i) * l.length)).take l.length))->KVL od (List.replicate n l).flatten ((cs.drop (s * l.length)).take (n * l.length))
 | 0,s,_=>by simp [KVL]
 | n+1,s,h=>by
  have h1:=h 0 (by omega)
  have h2:=K6 n (s+1) fun i hi=>by
   have:=h (i+1) (by omega)
   rw [show s+(i+1)=s+1+i by omega] at this
   exact this
  rw [List.replicate_succ,List.flatten_cons,show (n+1) * l.length=l.length+n * l.length by rw [Nat.add_mul];omega,List.take_add,List.drop_drop]
  rw [Nat.add_zero] at h1
  rw [show (s+1) * l.length=s * l.length+l.length by rw [Nat.add_mul];omega] at h2
  exact h1.append h2
theorem PQ{a:Addr}(hs:a.spot=none)(i j:Nat):(a.add i).add j=⟨a.block,a.off+i+j,none⟩:=by
 rw [add_add]
 obtain ⟨b,o,s⟩:=a
 simp only at hs
 subst hs
 unfold Addr.add
 split
 .rename_i h
  have:o+i+j=o:=by omega
  rw [this]
 .simp [Nat.add_assoc]
theorem Ew{base:Nat}{sp:Nat->Bool}{hd:Bool}:∀ (f:Nat) {t:TypeId} {ks:List Kd} {n:Nat} {cs:List Value} {x:DataW H × List MemPlace},FX P f t=some ks->DataW.trod enc P w base sp hd n t cs=some x ->
  KVL (DY w).od ks cs
 | 0,_,_,_,_,_,h,_=>by simp [FX] at h
 | f+1,t,ks,n,cs,x,h,ht=>by
  unfold FX at h
  split at h
  .rename_i hu
   cases h
   obtain ⟨b,rfl,_⟩:=DataW.trod_bool hu ht
   exact ⟨⟨{ A3 with bb:=fun _ _=>b },by simp [Kd.den],by simp [Kd.san]⟩,trivial⟩
  .rename_i k hu
   cases h
   obtain ⟨m,rfl,_,hw⟩:=DataW.trod_int hu ht
   exact ⟨⟨{ A3 with ii:=fun _ _=>m },by simp [Kd.den],by simpa [Kd.san] using hw⟩,trivial⟩
  .rename_i hu
   cases h
   obtain ⟨s,rfl,_,hs⟩:=DataW.trod_string hu ht
   exact ⟨⟨{ A3 with ss:=fun _ _=>s },by simp [Kd.den],by simpa [Kd.san] using hs⟩,trivial⟩
  .rename_i e hu
   simp only [Option.bind_eq_some_iff] at h
   obtain ⟨l,hl,h⟩:=h
   split at h
   .rename_i hc
    cases h
    rcases open_slice hu ht with ⟨rfl,_⟩ | ⟨a,len,cap,m,n',D,Pl,rfl,_,hle,hmx,hm,_,hel⟩
    .exact ⟨⟨A3,by simp only [Kd.den];exact ⟨none,0,rfl,⟨Nat.le_refl _,fun _=>rfl⟩,fun h0=>absurd h0 (Nat.lt_irrefl 0)⟩,by simp only [Kd.san];exact ⟨Nat.zero_le _,fun q hq=>absurd hq (Nat.not_lt_zero q)⟩⟩,trivial⟩
    .have hlm:len<=m:=by rw [hm];split <;> omega
     have sp0:0<len->a.spot=none:=fun h0=>by
      obtain ⟨cs',h1,_⟩:=hel 0 (by omega)
      obtain ⟨_,hlen,hc0⟩:=World.cells?_some h1
      have h2:=hc0 0 (by omega)
      rw [Nat.zero_mul] at h2
      have e0:(a.add 0).add 0=a:=by simp [Addr.add]
      rw [e0,List.getElem?_eq_getElem (by omega)] at h2
      unfold World.cell? at h2
      split at h2
      .split at h2
       .cases h2
       .rename_i hsn
        cases hs:a.spot with
        | none=>rfl
        | some z=>rw [hs] at hsn;simp at hsn
      .cases h2
     have hrow:∀ q,q<len->∃ ys,KVL (DY w).od l ys/\∀ c,c<l.length->w.cell? ⟨a.block,a.off+q * l.length+c,none⟩=ys[c]?:=fun q hq=>by
      obtain ⟨cs',h1,h2⟩:=hel q (by omega)
      obtain ⟨_,hlen,hc0⟩:=World.cells?_some h1
      refine ⟨cs',Ew f hl h2,fun c hcl=>?_⟩
      have h3:=hc0 c (by omega)
      have e0:(a.add (q * P.cellsOf e)).add c=⟨a.block,a.off+q * l.length+c,none⟩:=by
       rw [hc.1]
       exact PQ (sp0 (by omega)) _ _
      rw [e0] at h3
      exact h3
     obtain ⟨Dt,h1,h2⟩:=Se (od:=(DY w).od) hrow
     refine ⟨⟨{ A3 with sn:=fun _ _=>len,sd:=fun _ _=>some Dt },?_,?_⟩,trivial⟩
     .simp only [Kd.den]
      refine ⟨some a,cap,rfl,⟨hle,fun hz=>by cases hz⟩,fun h0=>⟨a.block,a.off,?_,fun q hq=>h1 q hq⟩⟩
      have hs:=sp0 h0
      cases a
      simp at hs
      subst hs
      rfl
     .simp only [Kd.san]
      exact ⟨by omega,fun q hq=>h2 q hq⟩
   .cases h
  .rename_i fs hu
   simp only [Option.bind_eq_some_iff] at h
   obtain ⟨l,hl,h⟩:=h
   split at h
   .rename_i hc
    cases h
    obtain ⟨xs,m,rfl,_,hlen,hxs,hel⟩:=DataW.trod_struct hu ht
    have:=IZ (od:=(DY w).od) (cs:=cs) hl fun g hg kf hk=>by
     obtain ⟨i,hi,hgi⟩:=List.mem_iff_getElem.1 hg
     have hi':i<fs.size:=by simpa using hi
     have hgi':fs[i]? = some g:=by
      rw [Array.getElem?_eq_getElem hi']
      simpa using hgi
     have h1:=hel i g hgi'
     rw [List.getElem?_eq_getElem (by omega)] at h1
     exact Ew f hk h1
    rw [List.drop_zero,List.take_of_length_le (by omega)] at this
    exact this
   .cases h
  .rename_i c e hu
   simp only [Option.bind_eq_some_iff] at h
   obtain ⟨l,hl,h⟩:=h
   split at h
   .rename_i hc
    cases h
    obtain ⟨xs,m,rfl,_,hlen,hxs,hel⟩:=DataW.trod_array hu ht
    have:=K6 (od:=(DY w).od) (cs:=cs) (l:=l) c 0 fun i hi=>by
     have h1:=hel i hi
     rw [List.getElem?_eq_getElem (by omega)] at h1
     rw [Nat.zero_add,hc.1]
     exact Ew f hl h1
    rw [Nat.zero_mul,List.drop_zero,List.take_of_length_le (by omega)] at this
    exact this
   .cases h
  .cases h
omit [Ea w] in
theorem EU{base:Nat}{sp:Nat->Bool}{hd:Bool}:∀ (f:Nat) {t:TypeId} {ks:List Kd} {n:Nat} {cs:List Value} {x:DataW H × List MemPlace},FX P f t=some ks->DataW.trod enc P w base (fun _=>true) hd n t cs=some x ->
  (∀ p∈x.2,sp p.block=true)->DataW.trod enc P w base sp hd n t cs=some x
 | 0,_,_,_,_,_,h,_,_=>by simp [FX] at h
 | f+1,t,ks,0,cs,x,h,ht,hs=>by simp [DataW.trod] at ht
 | f+1,t,ks,n+1,cs,x,h,ht,hs=>by
  have ht0:=ht
  rw [DataW.trod_step] at ht ⊢
  unfold FX at h
  split at h
  .rename_i hu
   obtain ⟨b,rfl,rfl⟩:=DataW.trod_bool hu ht0
   unfold DataW.trodStep
   simp only [hu]
  .rename_i k hu
   obtain ⟨m,rfl,rfl,hw⟩:=DataW.trod_int hu ht0
   unfold DataW.trodStep
   simp only [hu]
   simp [hw]
  .rename_i hu
   obtain ⟨s,rfl,rfl,hw⟩:=DataW.trod_string hu ht0
   unfold DataW.trodStep
   simp only [hu]
   simp [hw]
  .rename_i e hu
   simp only [Option.bind_eq_some_iff] at h
   obtain ⟨l,hl,h⟩:=h
   split at h
   .rename_i hc
    unfold DataW.trodStep at ht ⊢
    rcases DataW.trod_slice hu ht0 with ⟨rfl,rfl⟩ | ⟨a,len,cap,_,_,_,_,rfl,_⟩
    .simp only [hu]
    .simp only [hu] at ht ⊢
     split at ht
     .rename_i hcc
      rw [if_pos hcc]
      simp only [if_true,Option.map_eq_some_iff,Option.bind_eq_some_iff] at ht
      obtain ⟨elems,hel,rest,hre,rfl⟩:=ht
      have hlen:elems.length=len:=by simpa using mapM_some_length hel
      have hrl:rest.length=cap - len:=by simpa using mapM_some_length hre
      have one:∀ (i:Nat) (y:DataW H × List MemPlace),y∈elems ++ rest->(w.cells? base (a.add (i * P.cellsOf e)) (P.cellsOf e)).bind (DataW.trod enc P w base (fun _=>true) hd n e)=some y->(w.cells? base (a.add (i * P.cellsOf e)) (P.cellsOf e)).bind (DataW.trod enc P w base sp hd n e)=some y:=by
       intro i y hy hv
       simp only [Option.bind_eq_some_iff] at hv ⊢
       obtain ⟨cs',hc',hy'⟩:=hv
       exact ⟨cs',hc',EU f hl hy' fun p hp=>hs p (by simp only [List.mem_append,List.mem_flatMap];exact Or.inr ⟨y,by simpa using hy,hp⟩)⟩
      simp only [Option.map_eq_some_iff,Option.bind_eq_some_iff]
      refine ⟨elems,mapM_carry hel fun i y hi hy=>one i y (by simp [hy]),rest,?_,rfl⟩
      by_cases hz:cap=0
      .have:rest=[]:=List.eq_nil_of_length_eq_zero (by omega)
       subst this
       split
       .rw [show cap - len=0 by omega];rfl
       .rfl
      .have hb:sp a.block=true:=hs (.cell a.block a.off) (by
        simp only [List.mem_append]
        left
        refine MemPlace.mem_row.2 ⟨0,?_,by simp⟩
        exact Nat.mul_pos (by omega) (by omega))
       rw [if_pos hb]
       exact mapM_carry hre fun j y hj hy=>one (len+j) y (by simp [hy])
     .cases ht
   .cases h
  .rename_i fs hu
   simp only [Option.bind_eq_some_iff] at h
   obtain ⟨l,hl,h⟩:=h
   unfold DataW.trodStep at ht ⊢
   simp only [hu] at ht ⊢
   have hk:∀ {gs:List Field} {o:Nat} {l:List Kd},DF (FX P f) P gs o=some l->∀ g∈gs,∃ kf,FX P f g.type=some kf:=by
    intro gs
    induction gs with
    | nil=>intro o l _ g hg;simp at hg
    | cons g0 gs ih =>
     intro o l hh g hg
     unfold DF at hh
     split at hh
     .simp only [Option.bind_eq_some_iff] at hh
      obtain ⟨kf,hkf,hh⟩:=hh
      split at hh
      .simp only [Option.map_eq_some_iff] at hh
       obtain ⟨m,hm,_⟩:=hh
       rcases List.mem_cons.1 hg with rfl | hg
       .exact ⟨kf,hkf⟩
       .exact ih hm g hg
      .cases hh
     .cases hh
   split at ht
   .rename_i hcc
    rw [if_pos hcc]
    simp only [Option.map_eq_some_iff] at ht ⊢
    obtain ⟨xs,hx,rfl⟩:=ht
    refine ⟨xs,mapM_carry hx (fun g y hg hy hv=>?_),rfl⟩
    obtain ⟨kf,hkf⟩:=hk hl g hg
    exact EU f hkf hv fun p hp=>hs p (List.mem_flatMap.2 ⟨y,hy,hp⟩)
   .cases ht
  .rename_i c e hu
   simp only [Option.bind_eq_some_iff] at h
   obtain ⟨l,hl,h⟩:=h
   unfold DataW.trodStep at ht ⊢
   simp only [hu] at ht ⊢
   split at ht
   .rename_i hcc
    rw [if_pos hcc]
    simp only [Option.map_eq_some_iff] at ht ⊢
    obtain ⟨xs,hx,rfl⟩:=ht
    exact ⟨xs,mapM_carry hx (fun g y _ hy hv=>EU f hl hv fun p hp=>hs p (List.mem_flatMap.2 ⟨y,hy,hp⟩)),rfl⟩
   .cases ht
  .cases h
end
inductive Sh where
 | c (k:Kd)
 | a (l:List Kd)
def NJ(P:Program)(t:TypeId):Option Sh:=match P.underlying t with
 | some (.struct _) | some (.array _ _)=>(FX P 9 t).map .a
 | _=>(FX P 9 t).bind fun | [k]=>some (.c k) | _=>none
def Kd.is:Kd->SV->Prop
 | .int k,v=>∃ n,v=.int k n/\(Lit.int k n).wf=true
 | .bool,v=>∃ b,v=.bool b
 | .str,v=>∃ s,v=.str s/\s.size<=maxLen
 | .sl sh,v=>∃ n d,v=.ro sh n d/\n<=maxLen/\∀ q,q<n->Kd.sanL sh d q 0
 | .pt _,_ | .pz _,_ | .mi _,_ | .mb,_ | .m1,_=>False
def isL:List Kd->List SV->Prop
 | [],l=>l=[]
 | k :: ks,l=>∃ v vs,l=v :: vs/\k.is v/\isL ks vs
def Sh.is:Sh->SV->Prop
 | .c k,v=>k.is v
 | .a l,v=>∃ vs,v=.agg vs/\isL l vs
def MX:List Sh->List SV->Prop
 | [],l=>l=[]
 | s :: ss,l=>∃ v vs,l=v :: vs/\s.is v/\MX ss vs
theorem SG{O:Env}{kd:Kd}{x:Value}(h:KV O.od kd x):∃ v:SV,v.den O x/\kd.is v:=by
 obtain ⟨d,h1,h2⟩:=h
 cases kd with
 | int k=>exact ⟨.int k (d.ii 0 0),by simpa [Kd.den,SV.den] using h1,d.ii 0 0,rfl,by simpa [Kd.san] using h2⟩
 | bool=>exact ⟨.bool (d.bb 0 0),by simpa [Kd.den,SV.den] using h1,d.bb 0 0,rfl⟩
 | str=>exact ⟨.str (d.ss 0 0),by simpa [Kd.den,SV.den] using h1,d.ss 0 0,rfl,by simpa [Kd.san] using h2⟩
 | sl sh =>
  simp only [Kd.den] at h1
  simp only [Kd.san] at h2
  exact ⟨.ro sh (d.sn 0 0) (d.sub 0 0),by simp only [SV.den];exact h1,_,_,rfl,h2.1,h2.2⟩
 | pt _=>exact h2.elim
 | pz _=>exact h2.elim
 | mi _=>exact h2.elim
 | mb=>exact h2.elim
 | m1=>exact h2.elim
theorem Nj{O:Env}:∀ {l:List Kd} {xs:List Value},KVL O.od l xs->∃ vs,SV.denL O vs xs/\isL l vs
 | [],[],_=>⟨[],by simp [SV.denL],rfl⟩
 | k :: l,x :: xs,h=>by
  obtain ⟨v,h1,h2⟩:=SG h.1
  obtain ⟨vs,h3,h4⟩:=Nj h.2
  exact ⟨v :: vs,by simp only [SV.denL];exact ⟨h1,h3⟩,v,vs,rfl,h2,h4⟩
 | [],_ :: _,h=>h.elim
 | _ :: _,[],h=>h.elim
section
variable {H:Type} {enc:TypeId × Value->H} {P:Program} {w:World} [Ea w]
theorem OY{v:Value}{k:Kd}{od:Od}(h:KVL od [k] v.cells.toList)(hna:∀ cs,v≠.agg cs):KV od k v:=by
 have e:v.cells.toList=[v]:=by
  cases v <;> first | rfl | exact absurd rfl (hna _)
 rw [e] at h
 exact h.1
theorem T0{base b0:Nat}{sp:Nat->Bool}{hd:Bool}{t:TypeId}{s:Sh}{v:Value}{d:DataW H}{p:List MemPlace}(hs:NJ P t=some s)(hok:Value.okWide P w .any b0 t v)(ht:DataW.Trod enc P w base sp hd t v d p) :
  ∃ u:SV,u.den (DY w) v/\s.is u:=by
 obtain ⟨n,ht⟩:=ht
 have two:∀ k,FX P 9 t=some [k]->s=.c k->(∀ cs,v≠.agg cs)->∃ u:SV,u.den (DY w) v/\s.is u:=fun k hk e hna=>by
  subst e
  exact SG (O:=DY w) (OY (Ew 9 hk ht) hna)
 unfold NJ at hs
 unfold Value.okWide at hok
 split at hs
 .rename_i fs hu
  simp only [hu] at hok
  obtain ⟨cs,rfl,_,_⟩:=hok
  simp only [Option.map_eq_some_iff] at hs
  obtain ⟨l,hl,rfl⟩:=hs
  have h1:=Ew 9 hl ht
  obtain ⟨vs,h2,h3⟩:=Nj (O:=DY w) h1
  exact ⟨.agg vs,by simp only [SV.den];exact ⟨_,by cases cs;rfl,h2⟩,vs,rfl,h3⟩
 .rename_i c e hu
  simp only [hu] at hok
  obtain ⟨cs,rfl,_,_⟩:=hok
  simp only [Option.map_eq_some_iff] at hs
  obtain ⟨l,hl,rfl⟩:=hs
  have h1:=Ew 9 hl ht
  obtain ⟨vs,h2,h3⟩:=Nj (O:=DY w) h1
  exact ⟨.agg vs,by simp only [SV.den];exact ⟨_,by cases cs;rfl,h2⟩,vs,rfl,h3⟩
 .rename_i hn1 hn2
  simp only [Option.bind_eq_some_iff] at hs
  obtain ⟨l,hl,hs⟩:=hs
  split at hs
  .rename_i k
   cases hs
   refine two k hl rfl fun cs e=>?_
   subst e
   have hc:Cell.okWide P w .any b0 t (.agg cs):=by
    split at hok
    .rename_i fs hu;exact absurd hu (hn1 fs)
    .rename_i m e hu;exact absurd hu (hn2 m e)
    .exact hok
   unfold FX at hl
   split at hl
   .rename_i hu;simp [Cell.okWide,Cell.ok,hu] at hc
   .rename_i k' hu;simp [Cell.okWide,Cell.ok,hu] at hc
   .rename_i hu;simp [Cell.okWide,Cell.ok,hu] at hc
   .rename_i e hu;simp [Cell.okWide,Cell.ok,hu] at hc
   .rename_i fs hu;exact absurd hu (hn1 fs)
   .rename_i m e hu;exact absurd hu (hn2 m e)
   .cases hl
  .cases hs
theorem NZ{base b0:Nat}{sp:Nat->Bool}{hd:Bool}:∀ {ts:List TypeId} {ss:List Sh} {vs:List Value} {ds:List (DataW H)} {p:List MemPlace},ts.mapM (NJ P)=some ss ->
  (∀ (j:Nat) t v,ts[j]? = some t->vs[j]? = some v->Value.okWide P w .any b0 t v)->DataW.TrodAll enc P w base sp hd ts vs ds p->∃ us,SV.denL (DY w) us vs/\MX ss us
 | [],ss,vs,ds,p,hs,_,h=>by
  simp at hs
  subst hs
  obtain ⟨rfl,_,_⟩:=trodAll_nil h
  exact ⟨[],by simp [SV.denL],rfl⟩
 | t :: ts,ss,vs,ds,p,hs,hok,h=>by
  obtain ⟨v,vs',d,ds',p',q',rfl,rfl,rfl,h1,h2⟩:=trodAll_cons h
  simp only [List.mapM_cons,Option.bind_eq_bind,Option.bind_eq_some_iff,Option.pure_def,Option.some.injEq] at hs
  obtain ⟨s,hs1,ss',hs2,rfl⟩:=hs
  obtain ⟨u,h3,h4⟩:=T0 hs1 (hok 0 t v rfl rfl) h1
  obtain ⟨us,h5,h6⟩:=NZ hs2 (fun j t' v' ht hv=>hok (j+1) t' v' (by simpa using ht) (by simpa using hv)) h2
  exact ⟨u :: us,by simp only [SV.denL];exact ⟨h3,h5⟩,u,us,rfl,h4,h6⟩
theorem U3{t:TypeId}{s:Sh}(hs:NJ P t=some s):∃ ks,FX P 9 t=some ks:=by
 unfold NJ at hs
 split at hs
 .simp only [Option.map_eq_some_iff] at hs;obtain ⟨l,hl,_⟩:=hs;exact ⟨l,hl⟩
 .simp only [Option.map_eq_some_iff] at hs;obtain ⟨l,hl,_⟩:=hs;exact ⟨l,hl⟩
 .simp only [Option.bind_eq_some_iff] at hs;obtain ⟨l,hl,_⟩:=hs;exact ⟨l,hl⟩
theorem Io{w':World}{base:Nat}{sp:Nat->Bool}{hd:Bool}:∀ {ts:List TypeId} {ss:List Sh} {vs:List Value} {ds:List (DataW H)} {p:List MemPlace},ts.mapM (NJ P)=some ss ->
  DataW.TrodAll enc P w base (fun _=>true) hd ts vs ds p->(∀ q∈p,w.sameAt w' q)->(∀ q∈p,sp q.block=true)->DataW.TrodAll enc P w' base sp hd ts vs ds p
 | [],ss,vs,ds,p,hs,h,_,_=>by
  obtain ⟨rfl,rfl,rfl⟩:=trodAll_nil h
  exact trodAll_mk0
 | t :: ts,ss,vs,ds,p,hs,h,hc,hsp=>by
  obtain ⟨v,vs',d,ds',p',q',rfl,rfl,rfl,⟨n,h1⟩,h2⟩:=trodAll_cons h
  simp only [List.mapM_cons,Option.bind_eq_bind,Option.bind_eq_some_iff,Option.pure_def,Option.some.injEq] at hs
  obtain ⟨s,hs1,ss',hs2,rfl⟩:=hs
  obtain ⟨ks,hk⟩:=U3 hs1
  have h3:=DataW.trod_carry (w':=w') n t _ _ h1 fun q hq=>hc q (by simp [show q∈p' from hq])
  exact trodAll_cons_mk ⟨n,EU 9 hk h3 fun q hq=>hsp q (by simp [show q∈p' from hq])⟩ (Io hs2 h2 (fun q hq=>hc q (by simp [hq])) fun q hq=>hsp q (by simp [hq]))
omit [Ea w] in
theorem Ce{a:Assume}{C:Checked}{os:Os}{f:FuncId}{fn:Func}{s:ChangeSpec}{conds:List PathCond}{apart fresh handsOn again:Bool}{X:World->Array Value->Prop}(hX:∀ (w w':World) (args:Array Value),w.heap=w'.heap->X w args->X w' args)(own:ownKnob C.prog.godebug=none)(started:os.Started)(noInit:C.prog.inits.idxOf? f=none)(hfn:C.prog.funcs[f]? = some fn)(witness:∃ (w:World) (tape:Tape) (i:Input),w.os=os/\(w.forCall tape i).Shaped C.prog/\i.vars=[]/\Input.okWide C.prog (w.forCall tape i) .any w.heap.size f i /\
   ((s.pre enc C.prog fn conds apart (w.forCall tape i).memory i.args/\X (w.forCall tape i).memory i.args)/\sizedMet enc C.prog fn (OpenSpec.ofChange s) apart (w.forCall tape i).memory i.args)/\a.holds C.prog (lone (Frame.enter C.prog f i.args .normal) [] (w.forCall tape i)))(contract:∀ (W:World) (base:Nat) (args:Array Value) (ds gs:List (DataW H)) (before:List MemPlace),
   (∀ (j:Nat) t v,fn.params[j]? = some t->args[j]? = some v->Value.okWide C.prog W .any base t v) ->
   DataW.Whole enc C.prog fn.params.toList s.vars apart W args.toList ds gs before ->
   conds.all (PathCond.test C.prog ⟨fn.params.toList,ds,s.plain.varTypes C.prog,gs⟩)=true ->
   (DataW.weightsEach C.prog (fn.params.toList ++ s.plain.varTypes C.prog) (ds ++ gs)).all (·<=reachBytes)=true->W.ShapedOpen C.prog->X W args ->
   a.holds C.prog (lone (Frame.enter C.prog f args .normal) [] W) ->
   Calls C.prog f args W fun e W'=>∃ v,e=.returned v/\s.post enc C.prog fn apart fresh handsOn again W args v W') :
  ReturnsInHanded a C os f .any (fun w args=>(s.pre enc C.prog fn conds apart w args/\X w args)/\sizedMet enc C.prog fn (OpenSpec.ofChange s) apart w args) (s.post enc C.prog fn apart fresh handsOn again):=by
 refine returnsInHanded_of_calls own started noInit witness ?_
 intro w tape i _ hsh _ hok hpre hholds
 obtain ⟨_,_,_,fn',hfn',_,_,_,_,hval⟩:=hok
 have e:fn'=fn:=Option.some.inj (hfn'.symm.trans hfn)
 subst e
 obtain ⟨⟨⟨ds,gs,before,hw,hc⟩,hx⟩,hz⟩:=hpre
 have hw':=DataW.Whole.of_heap (w':=w.forCall tape i) (by rfl) hw
 refine (contract (w.forCall tape i) w.heap.size i.args ds gs before hval hw' hc (hz.weights hw) hsh (hX _ _ _ (by rfl) hx) hholds).mono fun e W' ⟨v,he,hp⟩=>?_
 subst he
 exact ChangeSpec.post_blind hp
theorem Pb{L:List (String × DataW Unit)}{C:Checked}{os:Os}{f:FuncId}{fn:Func}{s:ChangeSpec}{tb:TypeId}{ss:List Sh}{c:Ctr}(own:ownKnob C.prog.godebug=none)(started:os.Started)(noInit:C.prog.inits.idxOf? f=none)(hfn:C.prog.funcs[f]? = some fn)(wit:∃ (w:World) (tape:Tape) (i:Input),w.os=os/\(w.forCall tape i).Shaped C.prog/\i.vars=[]/\Input.okWide C.prog (w.forCall tape i) .any w.heap.size f i /\
   ((s.pre enc C.prog fn [] false (w.forCall tape i).memory i.args/\laidMetH C.prog L (w.forCall tape i).memory)/\sizedMet enc C.prog fn (OpenSpec.ofChange s) false (w.forCall tape i).memory i.args)/\({}:Assume).holds C.prog (lone (Frame.enter C.prog f i.args .normal) [] (w.forCall tape i)))(hgl:∀ w,w.ShapedOpen C.prog->laidMetH C.prog L w->Ea w)(hv:s.vars=[])(hres:fn.resultTypes=#[tb])(htb:C.prog.underlying tb=some .bool)(hsp:∀ (H:Type) (ds:List (DataW H)),ds.length=fn.params.size->s.fn H ds={ results:=[.lit (.bool true)],args:=ds })(hsh:fn.params.toList.mapM (NJ C.prog)=some ss)(hk:Ag C.prog c f)(hlaw:∀ us,MX ss us->∃ ns,c 0 (Ah []) us=some { v:=.bool true,need:=ns }/\∀ n∈ns,n=true) :
  ReturnsInHanded {} C os f .any (fun w args=>(s.pre enc C.prog fn [] false w args/\laidMetH C.prog L w)/\sizedMet enc C.prog fn (OpenSpec.ofChange s) false w args) (s.post enc C.prog fn false true false false):=by
 refine Ce (C:=C) (X:=fun w _=>laidMetH C.prog L w) (fun _ _ _ hh h=>h.of_heap hh) own started noInit hfn wit ?_
 intro W base args ds gs before hval hW _ _ hSh hL _
 haveI:Ea W:=hgl W hSh hL
 have hW':=hW
 obtain ⟨p,q,hA,hV,rfl,hfz,hnd⟩:=hW
 rw [hv] at hV
 obtain ⟨rfl,rfl⟩:=trodVars_none hV
 obtain ⟨us,hden,his⟩:=NZ (b0:=base) (vs:=args.toList) hsh (fun j t v ht hv'=>hval j t v (by simpa using ht) (by simpa using hv')) hA
 obtain ⟨ns,hc,hn⟩:=hlaw us his
 have hlen:ds.length=fn.params.size:=by
  have:∀ {ts:List TypeId} {vs:List Value} {ds:List (DataW H)} {p:List MemPlace},DataW.TrodAll enc C.prog W 0 (fun _=>true) true ts vs ds p->ds.length=ts.length:=by
   intro ts
   induction ts with
   | nil=>intro vs ds p h;obtain ⟨_,rfl,_⟩:=trodAll_nil h;rfl
   | cons t ts ih=>intro vs ds p h;obtain ⟨_,_,_,_,_,_,rfl,rfl,rfl,_,h2⟩:=trodAll_cons h;simp [ih h2]
  simpa using this hA
 have hc2:=K7 (w:=W) hk hc rfl hn hden
 have e:(⟨args.toList⟩:Array Value)=args:=by cases args;rfl
 rw [e] at hc2
 refine hc2.mono fun ex W' ⟨he,hg⟩=>?_
 subst he
 have hlt:=hW'.lt
 have hs0:=hsp H (ds ++ []) (by simpa using hlen)
 refine ⟨_,rfl,Ns (pa:=p) (pv:=[]) hW' ?_ ?_ ?_ (by simp) hg ?_⟩
 .intro b sp hd
  rw [hs0,hres]
  exact trodAll_cons_mk (shut_bool htb _) trodAll_mk0
 .intro sp hb
  rw [hs0]
  simp only [List.append_nil]
  exact Io hsh hA (fun q hq=>hg.same (hlt q (by simp [hq]))) fun q hq=>hb q (by simp [hq])
 .intro sp hb
  rw [hs0,hv]
  rfl
 .exact ok_one (by rw [hres]) rfl (okWide_bool_mk htb _)
end
end Go.Sy
namespace Go.Sy
open Go.RowKit
variable [AO]
section runs
variable {P:Program}
end runs
end Go.Sy
namespace Go.Sy
variable [AO]
theorem Iw{P:Program}{L:Tab}{Λ:Lam}{fu:Nat}{c:Code}{s:A4}{rs:List ResultVar}{na:Nat}{l grs:List Nat}{rh:RH}{R:SV->List Blk->List Blk->Prop}(T:(SV->List Blk->List Blk->Prop)->Prop)(h:∀ R:SV->List Blk->List Blk->Prop,AT P L Λ fu c s (EQ P rs (DT na l grs rh R))=T R)(hq:T R):AT P L Λ fu c s (EQ P rs (DT na l grs rh R)):=by rw [h R];exact hq
theorem roundOf{P:Program}{L:Tab}{Λ:Lam}{fu:Nat}{c:Code}{s:A4}{na nt nx:Nat}{Lh Le:List Nat}{gl:List GL}{R:XR}(T:XR->Prop)(h:∀ R:XR,AT P L Λ fu c s (AJ na nt Lh Le nx gl R)=T R)(hq:T R):AT P L Λ fu c s (AJ na nt Lh Le nx gl R):=by rw [h R];exact hq
abbrev GF:=List SV->List Blk->Option Ae
theorem J7{b:Bool}(h:∀ x∈[b],x=true):b=true:=h _ (List.mem_singleton.2 rfl)
end Go.Sy
