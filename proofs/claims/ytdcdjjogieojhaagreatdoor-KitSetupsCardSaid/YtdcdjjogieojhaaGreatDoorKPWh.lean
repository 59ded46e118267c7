/-
 The law KitSetups: its model is true, and its need. Conditions: none.
-/
import Derived.Lib.Split
import Derived.Lib.SplitLaws
import Derived.Lib.IndexBytes
import Derived.Lib.IndexLaws
import Derived.Lib.ItoaMem
import Derived.Lib.Atoi
import Derived.Lib.AtoiAll
import Derived.Test.YtdcdjjogieojhaaGreatDoorKFSetups
set_option linter.unusedVariables false
set_option linter.unusedSimpArgs false
set_option linter.unusedSectionVars false
open Int renaming toNat_natCast->ak
open Option renaming getD_some->aw,isSome_some->av
open Nat renaming le_refl->ay,zero_le->aX
open Go.IntKind renaming i64->aQ
open List renaming getElem?_eq_getElem->aq
open Nat renaming zero_add->ax
namespace Go.Proofs.YtdcdjjogieojhaaGreatDoor
open Go Go.Lib
def Af(l:List UInt8):BA:=⟨l.toArray⟩
theorem Cq(l:List UInt8):(Af l).data.toList=l:=rfl
theorem DA{s t:BA}(h:s.data.toList=t.data.toList):s=t:=by
 obtain ⟨⟨a⟩⟩:=s;obtain ⟨⟨b⟩⟩:=t
 simp at h;subst h;rfl
theorem D2(s:BA):Af s.data.toList=s:=DA rfl
theorem AN(l:List UInt8):(Af l).size=l.length:=by rw [size_eq];rfl
theorem MI{l m:List UInt8}(h:Af l=Af m):l=m:=by
 have:=congrArg (·.data.toList) h
 exact this
theorem MH(l m:List UInt8):Af l ++ Af m=Af (l ++ m):=by
 apply DA
 simp [Af,ByteArray.data_append]
theorem Bv(s t:BA):(s ++ t).data.toList=s.data.toList ++ t.data.toList:=by simp [ByteArray.data_append]
def AV(c:UInt8):List UInt8->List (List UInt8)
 | []=>[[]]
 | b :: l=>if b=c then [] :: AV c l else match AV c l with
  | x :: r=>(b :: x) :: r
  | []=>[[b]]
theorem BD{c:UInt8}:∀ {x:List UInt8},c ∉ x->AV c x=[x]
 | [],_=>rfl
 | b :: x,h=>by
  have h1:b≠c:=fun e=>h (by rw [e];simp)
  have h2:c ∉ x:=fun e=>h (by simp [e])
  rw [AV,if_neg h1,BD h2]
theorem BC{c:UInt8}(y:List UInt8):∀ {x:List UInt8},c ∉ x->AV c (x ++ c :: y)=x :: AV c y
 | [],_=>by rw [List.nil_append,AV,if_pos rfl]
 | b :: x,h=>by
  have h1:b≠c:=fun e=>h (by rw [e];simp)
  have h2:c ∉ x:=fun e=>h (by simp [e])
  rw [List.cons_append,AV,if_neg h1,BC y h2]
theorem Ga(c:UInt8)(l:List UInt8):c ∉ l\/∃ x y,l=x ++ c :: y/\c ∉ x:=by
 by_cases h:c∈l
 .obtain ⟨x,y,e,hx⟩:=List.eq_append_cons_of_mem h
  exact .inr ⟨x,y,e,hx⟩
 .exact .inl h
theorem Of{c:UInt8}{p:List UInt8->Prop}(h0:∀ x,c ∉ x->p x)(h1:∀ x y,c ∉ x->p y->p (x ++ c :: y)):∀ (n:Nat) (l:List UInt8),l.length<=n->p l
 | n,l,hn=>by
  rcases Ga c l with h | ⟨x,y,rfl,hx⟩
  .exact h0 l h
  .simp only [List.length_append,List.length_cons] at hn
   cases n with
   | zero=>omega
   | succ n=>exact h1 x y hx (Of h0 h1 n y (by omega))
theorem GH{c:UInt8}{p:List UInt8->Prop}(h0:∀ x,c ∉ x->p x)(h1:∀ x y,c ∉ x->p y->p (x ++ c :: y))(l:List UInt8):p l:=Of h0 h1 l.length l (ay _)
theorem GE(c:UInt8)(l:List UInt8):0<(AV c l).length:=by
 refine GH (c:=c) (p:=fun l=>0<(AV c l).length) (fun x hx=>?_) (fun x y hx hy=>?_) l
 .rw [BD hx];simp
 .rw [BC y hx];simp
theorem Kx(c:UInt8)(l:List UInt8):(AV c l).length<=l.length+1:=by
 refine GH (c:=c) (p:=fun l=>(AV c l).length<=l.length+1) (fun x hx=>?_) (fun x y hx hy=>?_) l
 .rw [BD hx];simp
 .rw [BC y hx];simp;omega
theorem LN{c:UInt8}{x:List UInt8}(h:c ∉ x):indexByte x c=-1:=by
 have:=indexByte_ge x c
 rcases Int.lt_or_le (indexByte x c) 0 with h1 | h1
 .omega
 .obtain ⟨o,ho⟩:∃ o:Nat,indexByte x c=o:=⟨(indexByte x c).toNat,by omega⟩
  exact absurd (List.mem_of_getElem? (indexByte_some ho).1) h
theorem Oo{c:UInt8}{x y:List UInt8}(h:c ∉ x):indexByte (x ++ c :: y) c=x.length:=by
 have hge:=indexByte_ge (x ++ c :: y) c
 have hat:(x ++ c :: y)[x.length]? = some c:=by rw [List.getElem?_append_right (ay _)];simp
 rcases Int.lt_or_le (indexByte (x ++ c :: y) c) 0 with h1 | h1
 .exact absurd hat (indexByte_none (by omega) _)
 .obtain ⟨o,ho⟩:∃ o:Nat,indexByte (x ++ c :: y) c=o:=⟨_,(Int.toNat_of_nonneg h1).symm⟩
  obtain ⟨g1,g2⟩:=indexByte_some ho
  rw [ho]
  rcases Nat.lt_trichotomy o x.length with hl | hl | hl
  .rw [List.getElem?_append_left hl] at g1
   exact absurd (List.mem_of_getElem? g1) h
  .omega
  .exact absurd hat (g2 _ hl)
theorem Gh(c:UInt8):∀ (k:Nat) (s:BA),s.size<=k->(splitB ⟨#[c]⟩ 0 (countB s ⟨#[c]⟩) s).map (·.data.toList)=AV c s.data.toList
 | k,s,hk=>by
  have h1:1<=(⟨#[c]⟩:BA).size:=ay 1
  rcases Ga c s.data.toList with h | ⟨x,y,e,hx⟩
  .have hi:indexB s ⟨#[c]⟩=-1:=(index_one _ c).trans (LN h)
   rw [countB_miss s _ hi,splitB_zero,BD h]
   rfl
  .have hi:indexB s ⟨#[c]⟩=x.length:=(index_one _ c).trans (by rw [e];exact Oo hx)
   have hsz:s.size=x.length+1+y.length:=by rw [size_eq,e];simp;omega
   rw [countB_hit s _ x.length h1 hi,Nat.add_comm,splitB_hit _ _ _ _ _ hi,List.map_cons,e,BC y hx,extract_from_zero,e]
   have e1:(x ++ c :: y).take (x.length+0)=x:=by simp
   rw [e1]
   congr 1
   have e2:(s.extract (x.length+(⟨#[c]⟩:BA).size) s.size).data.toList=y:=by
    rw [extract_to_end,e,show (⟨#[c]⟩:BA).size=1 from rfl,List.drop_append]
    simp
   have hsz2:(s.extract (x.length+(⟨#[c]⟩:BA).size) s.size).size=y.length:=by rw [size_eq,e2]
   cases k with
   | zero=>omega
   | succ k =>
    have ih:=Gh c k (s.extract (x.length+(⟨#[c]⟩:BA).size) s.size) (by omega)
    rw [ih,e2]
theorem N5(c:UInt8)(s:BA):countB s ⟨#[c]⟩+1=(AV c s.data.toList).length:=by
 rw [<- Gh c s.size s (ay _),List.length_map,splitB_all ⟨#[c]⟩ (ay 1) 0 _ s rfl]
theorem NK(c:UInt8)(s:BA)(q:Nat):(splitB ⟨#[c]⟩ 0 (countB s ⟨#[c]⟩) s).getD q ByteArray.empty=Af ((AV c s.data.toList).getD q []):=by
 rw [<- Gh c s.size s (ay _)]
 simp only [List.getD_eq_getElem?_getD,List.getElem?_map]
 cases (splitB ⟨#[c]⟩ 0 (countB s ⟨#[c]⟩) s)[q]? with
 | none=>rfl
 | some t=>exact (D2 t).symm
def Cc(b:UInt8):Prop:=48<=b.toNat/\b.toNat<=57
theorem Ky{b:UInt8}(h:Cc b):digitVal b=some (b.toNat - 48):=if_pos h
theorem DD:∀ (l m:List UInt8) (a:Nat),decFrom a (l ++ m)=(decFrom a l).bind fun x=>decFrom x m
 | [],m,a=>rfl
 | b :: l,m,a=>by
  simp only [List.cons_append,decFrom]
  cases digitVal b with
  | none=>rfl
  | some d=>exact DD l m _
theorem CB{d:Nat}(h:d<10):(UInt8.ofNat (48+d)).toNat=48+d:=by rw [UInt8.toNat_ofNat'];omega
theorem AK{u:Nat}(h:u<10):decDigits u=[UInt8.ofNat (48+u)]:=by rw [decDigits,dif_pos h]
theorem Bx{u:Nat}(h:¬ u<10):decDigits u=decDigits (u / 10) ++ [UInt8.ofNat (48+u % 10)]:=by rw [decDigits,dif_neg h]
theorem GI(u:Nat):decDigits u≠[]:=by
 by_cases h:u<10
 .rw [AK h];simp
 .rw [Bx h];simp
theorem D5:∀ (u:Nat),∀ b∈decDigits u,Cc b:=by
 intro u
 induction u using Nat.strongRecOn with
 | _ u ih =>
  intro b hb
  by_cases h:u<10
  .rw [AK h] at hb
   simp only [List.mem_singleton] at hb
   subst hb
   unfold Cc;rw [CB h];omega
  .rw [Bx h] at hb
   rcases List.mem_append.1 hb with hb | hb
   .exact ih (u / 10) (by omega) b hb
   .simp only [List.mem_singleton] at hb
    subst hb
    unfold Cc;rw [CB (by omega)];omega
theorem DX(u:Nat):decFrom 0 (decDigits u)=some u:=by
 induction u using Nat.strongRecOn with
 | _ u ih =>
  by_cases h:u<10
  .rw [AK h]
   simp only [decFrom]
   rw [Ky (by unfold Cc;rw [CB h];omega),CB h]
   simp
  .rw [Bx h,DD,ih (u / 10) (by omega)]
   simp only [Option.bind_some,decFrom]
   rw [Ky (by unfold Cc;rw [CB (by omega)];omega),CB (by omega)]
   simp;omega
theorem F8{u:Nat}(h0:0<u):∃ b r,decDigits u=b :: r/\b.toNat≠48:=by
 induction u using Nat.strongRecOn with
 | _ u ih =>
  by_cases h:u<10
  .exact ⟨_,[],AK h,by rw [CB h];omega⟩
  .obtain ⟨b,r,e,hb⟩:=ih (u / 10) (by omega) (by omega)
   exact ⟨b,r ++ [UInt8.ofNat (48+u % 10)],by rw [Bx h,e];rfl,hb⟩
theorem Gc:∀ (l:List UInt8) (a u:Nat),decFrom a l=some u->a<=u
 | [],a,u,h=>by simp only [decFrom,Option.some.injEq] at h;omega
 | b :: l,a,u,h=>by
  simp only [decFrom] at h
  cases hd:digitVal b with
  | none=>rw [hd] at h;cases h
  | some d=>rw [hd] at h;have:=Gc l _ u h;omega
theorem EG:∀ (l:List UInt8) (a u:Nat),decFrom a l=some u->u<(a+1) * 10 ^ l.length
 | [],a,u,h=>by simp only [decFrom,Option.some.injEq] at h;simp;omega
 | b :: l,a,u,h=>by
  simp only [decFrom] at h
  cases hd:digitVal b with
  | none=>rw [hd] at h;cases h
  | some d =>
   rw [hd] at h
   have h1:=EG l _ u h
   have h2:d<10:=by unfold digitVal at hd;split at hd <;> cases hd;omega
   rw [List.length_cons,Nat.pow_succ]
   have h3:(a * 10+d+1) * 10 ^ l.length<=((a+1) * 10) * 10 ^ l.length:=Nat.mul_le_mul_right _ (by omega)
   have h4:((a+1) * 10) * 10 ^ l.length=(a+1) * (10 ^ l.length * 10):=by rw [Nat.mul_assoc,Nat.mul_comm 10]
   omega
theorem EF:∀ (n:Nat) (r:List UInt8),r.length=n->r≠[]->(∀ b t,r=b :: t->b.toNat≠48\/t=[])->∀ u,decFrom 0 r=some u->decDigits u=r
 | n,r,hn,hne,hh,u,h=>by
  obtain ⟨t,b,rfl⟩:∃ t b,r=t ++ [b]:=⟨r.dropLast,r.getLast hne,(List.dropLast_concat_getLast hne).symm⟩
  rw [DD] at h
  cases ht:decFrom 0 t with
  | none=>rw [ht] at h;cases h
  | some a =>
   rw [ht] at h
   simp only [Option.bind_some,decFrom] at h
   cases hd:digitVal b with
   | none=>rw [hd] at h;cases h
   | some d =>
    rw [hd] at h
    simp only [Option.some.injEq] at h
    have hb:b.toNat=48+d/\d<10:=by unfold digitVal at hd;split at hd <;> cases hd;omega
    have hbe:UInt8.ofNat (48+d)=b:=by apply UInt8.toNat_inj.1;rw [CB hb.2];omega
    cases t with
    | nil =>
     simp only [decFrom,Option.some.injEq] at ht
     subst ht
     rw [<- h,Nat.zero_mul,ax,AK hb.2,hbe];rfl
    | cons x t =>
     have hx:x.toNat≠48:=by
      rcases hh x (t ++ [b]) rfl with h1 | h1
      .exact h1
      .simp at h1
     have ha:0<a:=by
      simp only [decFrom] at ht
      cases hxd:digitVal x with
      | none=>rw [hxd] at ht;cases ht
      | some e =>
       rw [hxd] at ht
       have:=Gc t _ a ht
       have:e=x.toNat - 48/\48<=x.toNat:=by unfold digitVal at hxd;split at hxd <;> cases hxd;omega
       omega
     have ih:=EF (x :: t).length (x :: t) rfl (by simp) (fun b' t' e=>by cases e;exact .inl hx) a ht
     rw [<- h,Bx (by omega),show (a * 10+d) / 10=a by omega,show (a * 10+d) % 10=d by omega,ih,hbe]
 termination_by n=>n
 decreasing_by simp at hn ⊢;omega
def C4(l:List UInt8):Option Int:=match l with
 | []=>none
 | b :: r=>if b=45 then (if r=[]\/7<r.length\/r.head? = some 48 then none else (decFrom 0 r).map fun (u:Nat)=>-(u:Int))
  else (if 7<l.length\/(b=48/\r≠[]) then none else (decFrom 0 l).map fun (u:Nat)=>(u:Int))
theorem Hp(b:UInt8)(r:List UInt8):C4 (b :: r)=if b=45 then (if r=[]\/7<r.length\/r.head? = some 48 then none else (decFrom 0 r).map fun (u:Nat)=>-(u:Int)) else (if 7<(b :: r).length\/(b=48/\r≠[]) then none else (decFrom 0 (b :: r)).map fun (u:Nat)=>(u:Int)):=rfl
theorem SD:¬ Cc 45:=by unfold Cc;decide
theorem CU(v:Int):(∃ u:Nat,v=u/\itoa v=decDigits u)\/∃ u:Nat,0<u/\v=-(u:Int)/\itoa v=45 :: decDigits u:=by
 rcases Int.lt_or_le v 0 with h | h
 .exact .inr ⟨v.natAbs,by omega,by omega,by unfold itoa;rw [if_pos h]⟩
 .exact .inl ⟨v.toNat,by omega,by unfold itoa;rw [if_neg (by omega)]⟩
theorem BX{u k:Nat}(h:u<10 ^ (k+1)):(decDigits u).length<=k+1:=by
 induction k generalizing u with
 | zero=>rw [AK (by simpa using h)];simp
 | succ k ih =>
  by_cases hs:u<10
  .rw [AK hs];simp
  .rw [Bx hs,List.length_append]
   have:=ih (u:=u / 10) (by rw [Nat.pow_succ] at h;omega)
   simp;omega
theorem Kc{v:Int}(h:(itoa v).length<=7\/(v<0/\(itoa v).length<=8)):C4 (itoa v)=some v:=by
 rcases CU v with ⟨u,rfl,e⟩ | ⟨u,h0,rfl,e⟩
 .have hl:(decDigits u).length<=7:=by rw [e] at h;rcases h with h | h;exact h;omega
  obtain ⟨b,r,hbr⟩:∃ b r,decDigits u=b :: r:=by
   cases hd:decDigits u with
   | nil=>exact absurd hd (GI u)
   | cons b r=>exact ⟨b,r,rfl⟩
  have hdig:=D5 u b (by rw [hbr];simp)
  have hd:=DX u
  rw [e,hbr]
  rw [hbr] at hd hl
  rw [Hp,if_neg (fun e=>SD (by rw [<- e];exact hdig)),if_neg,hd]
  .rfl
  .rintro (h1 | ⟨h1,h2⟩)
   .omega
   .by_cases hu:0<u
    .obtain ⟨b',r',e',hb'⟩:=F8 hu
     rw [hbr] at e';cases e'
     exact hb' (by rw [h1];rfl)
    .rw [AK (by omega)] at hbr
     cases hbr
     exact h2 rfl
 .have hl:(decDigits u).length<=7:=by rw [e] at h;simp at h;rcases h with h | h <;> omega
  obtain ⟨b,r,hbr,hb⟩:=F8 h0
  rw [e]
  rw [Hp,if_pos rfl,if_neg,DX u]
  .rfl
  .rintro (h1 | h1 | h1)
   .exact GI u h1
   .omega
   .rw [hbr] at h1
    simp at h1
    exact hb (by rw [h1];rfl)
theorem Pk{l:List UInt8}{v:Int}(h:C4 l=some v):itoa v=l/\l.length<=8/\(l.length<=7\/∃ r,l=45 :: r):=by
 unfold C4 at h
 split at h
 .cases h
 .rename_i b r
  split at h
  .rename_i hb
   subst hb
   split at h
   .cases h
   .rename_i hc
    simp only [not_or] at hc
    rw [Option.map_eq_some_iff] at h
    obtain ⟨u,hu,rfl⟩:=h
    have e:=EF r.length r rfl hc.1 (fun b t e=>.inl fun e2=>hc.2.2 (by rw [e];simp;exact UInt8.toNat_inj.1 e2)) u hu
    have hu0:0<u:=by
     rcases Nat.eq_zero_or_pos u with e0 | h1
     .subst e0
      rw [AK (by decide)] at e
      exact absurd (by rw [<- e];rfl) hc.2.2
     .exact h1
    refine ⟨by rw [itoa_neg u hu0,e],by simp;omega,.inr ⟨r,rfl⟩⟩
  .rename_i hb
   split at h
   .cases h
   .rename_i hc
    simp only [not_or,not_and] at hc
    rw [Option.map_eq_some_iff] at h
    obtain ⟨u,hu,rfl⟩:=h
    have e:=EF (b :: r).length (b :: r) rfl (by simp) (fun b' t e=>by
     cases e
     by_cases h48:b=48
     .exact .inr (by have:=hc.2 h48;simpa using this)
     .exact .inl fun e2=>h48 (UInt8.toNat_inj.1 e2)) u hu
    exact ⟨by rw [itoa_nonneg,e],by simp at hc ⊢;omega,.inl (by omega)⟩
theorem Hq:∀ (l:List UInt8) (a u:Nat),decFrom a l=some u->u<1844674407370955162->parseUint10 a l=.ok u
 | [],a,u,h,_=>by simp only [decFrom,Option.some.injEq] at h;rw [parseUint10,h]
 | c :: r,a,u,h,hu=>by
  simp only [decFrom] at h
  cases hd:digitVal c with
  | none=>rw [hd] at h;cases h
  | some d =>
   rw [hd] at h
   have hc:(48<=c.toNat/\c.toNat<=57)/\d=c.toNat - 48:=by unfold digitVal at hd;split at hd <;> cases hd;exact ⟨by assumption,rfl⟩
   have hge:=Gc r _ u h
   rw [parseUint10,if_pos hc.1,if_neg (by omega),if_neg (by omega),<- hc.2]
   exact Hq r _ u h hu
theorem PS{r:List UInt8}{u:Nat}(h:parseMag r=.ok u)(hu:u<=9223372036854775808):atoiAll (45 :: r)=.ok (-(u:Int)):=by
 unfold atoiAll
 dsimp only
 rw [if_pos (show (45:UInt8).toNat=43\/(45:UInt8).toNat=45 from .inr rfl),h]
 dsimp only
 rw [if_neg (fun e=>e.1 rfl),if_neg (fun e=>by omega)]
 exact congrArg _ (if_pos rfl)
theorem PU{b:UInt8}{r:List UInt8}{u:Nat}(hb:Cc b)(h:parseMag (b :: r)=.ok u)(hu:u<9223372036854775808):atoiAll (b :: r)=.ok (u:Int):=by
 have h45:¬ (b.toNat=45):=by unfold Cc at hb;omega
 unfold atoiAll
 dsimp only
 rw [if_neg (show ¬ (b.toNat=43\/b.toNat=45) by unfold Cc at hb;omega),h]
 dsimp only
 rw [if_neg (fun e=>by omega),if_neg (fun e=>h45 e.1),if_neg h45]
theorem PT{l:List UInt8}{v:Int}(h:C4 l=some v):atoiAll l=.ok v:=by
 unfold C4 at h
 split at h
 .cases h
 .rename_i b r
  split at h
  .rename_i hb
   subst hb
   split at h
   .cases h
   .rename_i hc
    simp only [not_or] at hc
    rw [Option.map_eq_some_iff] at h
    obtain ⟨u,hu,rfl⟩:=h
    have hlt:u<10000000:=by
     have h1:=EG r 0 u hu
     have h2:10 ^ r.length<=10 ^ 7:=Nat.pow_le_pow_right (by decide) (by omega)
     omega
    have hp:=Hq r 0 u hu (by omega)
    have hm:parseMag r=.ok u:=by unfold parseMag;rw [if_neg hc.1,hp]
    exact PS hm (by omega)
  .rename_i hb
   split at h
   .cases h
   .rename_i hc
    simp only [not_or] at hc
    rw [Option.map_eq_some_iff] at h
    obtain ⟨u,hu,rfl⟩:=h
    have hlt:u<10000000:=by
     have h1:=EG (b :: r) 0 u hu
     have h2:10 ^ (b :: r).length<=10 ^ 7:=Nat.pow_le_pow_right (by decide) (by omega)
     omega
    have hbd:Cc b:=by
     simp only [decFrom] at hu
     cases hd:digitVal b with
     | none=>rw [hd] at hu;cases hu
     | some d=>unfold digitVal at hd;split at hd <;> cases hd;assumption
    have hp:=Hq (b :: r) 0 u hu (by omega)
    have hm:parseMag (b :: r)=.ok u:=by unfold parseMag;rw [if_neg (by simp),hp]
    exact PU hbd hm (by omega)
end Go.Proofs.YtdcdjjogieojhaaGreatDoor
namespace Go.Proofs.YtdcdjjogieojhaaGreatDoor
open Go Go.Sy
theorem az {p:Prop} [Decidable p] (h:p):decide p=true:=decide_eq_true h
theorem aj {p:Prop} [Decidable p] (h:¬p):decide p=false:=decide_eq_false h
set_option maxRecDepth 100000
theorem Ed{d e:Dat}{n q c:Nat}(h:q<n):(d.app n e).ss q c=d.ss q c:=by simp only [Dat.app,Is h,cond_true]
theorem Ec{d e:Dat}{n q c:Nat}(h:n<=q):(d.app n e).ss q c=e.ss (q - n) c:=by simp only [Dat.app,O7 (Nat.not_lt.2 h),cond_false]
theorem CS{d e:Dat}{n q c:Nat}(h:q<n):(d.app n e).ii q c=d.ii q c:=by simp only [Dat.app,Is h,cond_true]
theorem CR{d e:Dat}{n q c:Nat}(h:n<=q):(d.app n e).ii q c=e.ii (q - n) c:=by simp only [Dat.app,O7 (Nat.not_lt.2 h),cond_false]
theorem dt{p:Prop}[Decidable p](h:p):decide p=true:=az h
theorem df{p:Prop}[Decidable p](h:¬ p):decide p=false:=aj h
abbrev bts(s:BA):List UInt8:=s.data.toList
theorem B6(s:BA):s.size=(bts s).length:=Lib.size_eq s
theorem m30_len(s:BA)(c:UInt8):(m30 s ⟨#[c]⟩).1=(AV c (bts s)).length:=by unfold m30;exact N5 c s
theorem m30_at(s:BA)(c:UInt8)(q:Nat):(m30 s ⟨#[c]⟩).2.ss q 0=Af ((AV c (bts s)).getD q []):=by unfold m30;exact NK c s q
theorem Ee{s:BA}{i:Nat}{b:UInt8}(h:(bts s)[i]? = some b):An s i=(b.toNat:Int):=by
 unfold An
 rw [List.getD_eq_getElem?_getD,h];rfl
theorem l33_run{t0:BA}{c:UInt8}(hs:t0.size<=100000000):∀ (k i g n f0:Nat) (d:Dat),i+k=t0.size->k<g->f0<=i->n<=f0->c ∉ ((bts t0).drop f0).take (i - f0) ->
  ∃ n' f' d',l33_0 t0 (c.toNat:Int) g n (f0:Int) (i:Int) d=some (n',((f':Nat):Int),n',d')/\f'<=t0.size/\n'<=f'/\n'+1=n+(AV c ((bts t0).drop f0)).length /\
   (∀ q,q<n->d'.ss q 0=d.ss q 0)/\(∀ j,j+1<(AV c ((bts t0).drop f0)).length->d'.ss (n+j) 0=Af ((AV c ((bts t0).drop f0)).getD j []))/\(AV c ((bts t0).drop f0)).getD (n' - n) []=(bts t0).drop f'/\n<=n'
 | 0,i,g,n,f0,d,hi,hg,hf,hn,hc=>by
  obtain ⟨g,rfl⟩:∃ g',g=g'+1:=⟨g - 1,by omega⟩
  have e:((bts t0).drop f0).take (i - f0)=(bts t0).drop f0:=List.take_of_length_le (by rw [List.length_drop,<- B6];omega)
  rw [e] at hc
  unfold l33_0
  rw [df (show ¬ ((i:Int)<t0.size) by omega)]
  rw [BD hc]
  exact ⟨n,f0,d,rfl,by omega,hn,rfl,fun _ _=>rfl,fun j hj=>by simp at hj,by simp,ay _⟩
 | k+1,i,g,n,f0,d,hi,hg,hf,hn,hc=>by
  obtain ⟨g,rfl⟩:∃ g',g=g'+1:=⟨g - 1,by omega⟩
  have hlt:i<(bts t0).length:=by rw [<- B6];omega
  obtain ⟨b,hb⟩:∃ b,(bts t0)[i]? = some b:=⟨_,aq hlt⟩
  have hby:=Ee hb
  have hd:(bts t0).drop i=b :: (bts t0).drop (i+1):=by rw [List.drop_eq_getElem_cons hlt];congr 1;rw [aq hlt] at hb;cases hb;rfl
  have hsp:(bts t0).drop f0=((bts t0).drop f0).take (i - f0) ++ b :: (bts t0).drop (i+1):=by
   conv=>lhs;rw [<- List.take_append_drop (i - f0) ((bts t0).drop f0)]
   rw [List.drop_drop,show f0+(i - f0)=i by omega,hd]
  have hw:aQ.wrap ((i:Int)+1)=((i+1:Nat):Int):=wrS (show i<t0.size by omega) (by omega)
  unfold l33_0
  simp only [ak,hby,hw]
  rw [dt (show (i:Int)<t0.size by omega),dt (show (0:Int)<=i/\(i:Int)<t0.size by omega)]
  simp only [cond_true]
  by_cases hbc:b=c
  .subst hbc
   rw [dt rfl,dt (show (0:Int)<=f0/\(f0:Int)<=i/\(i:Int)<=t0.size by omega),dt (show n+1<=1073741824 by omega)]
   simp only [cond_true]
   obtain ⟨n',f',d',h1,h2,h3,h4,h5,h6,h7,h8⟩:=l33_run (c:=b) hs k (i+1) g (n+1) (i+1) (d.app n (Aw [SV.str (t0.extract f0 i)] 1)) (by omega) (by omega) (ay _) (by omega) (by simp)
   refine ⟨n',f',d',h1,h2,h3,?_,fun q hq=>?_,fun j hj=>?_,?_,by omega⟩
   .rw [hsp,BC _ hc,List.length_cons];omega
   .rw [h5 q (by omega),Ed hq]
   .rw [hsp,BC _ hc] at hj ⊢
    cases j with
    | zero =>
     rw [Nat.add_zero,h5 n (by omega),Ec (ay _),Nat.sub_self]
     show t0.extract f0 i=Af _
     apply DA
     rw [Lib.extract_data];rfl
    | succ j =>
     have:=h6 j (by simp only [List.length_cons] at hj;omega)
     rw [show n+(j+1)=n+1+j by omega,this];rfl
   .rw [hsp,BC _ hc,show n' - n=(n' - (n+1))+1 by omega]
    exact h7
  .rw [df (show ¬ ((b.toNat:Int)=(c.toNat:Int)) from fun e=>hbc (UInt8.toNat_inj.1 (by omega)))]
   simp only [cond_false]
   refine l33_run (c:=c) hs k (i+1) g n f0 d (by omega) (by omega) (by omega) hn ?_
   have:((bts t0).drop f0).take (i+1 - f0)=((bts t0).drop f0).take (i - f0) ++ [b]:=by
    conv=>lhs;rw [hsp]
    have hl:(((bts t0).drop f0).take (i - f0)).length=i - f0:=by rw [List.length_take,List.length_drop];omega
    rw [List.take_append,hl,show i+1 - f0 - (i - f0)=1 by omega,List.take_of_length_le (by rw [hl];omega)]
    rfl
   rw [this]
   intro hm
   rcases List.mem_append.1 hm with h | h
   .exact hc h
   .exact hbc (List.mem_singleton.1 h).symm
theorem Og{s:BA}{c:UInt8}{a:Int}(ha:a=(c.toNat:Int))(hs:s.size<=100000000):n33 s a=true/\(m33 s a).1=(AV c (bts s)).length/\∀ q,q<(AV c (bts s)).length->(m33 s a).2.ss q 0=Af ((AV c (bts s)).getD q []):=by
 subst ha
 obtain ⟨n',f',d',h1,h2,h3,h4,h5,h6,h7,h8⟩:=l33_run (t0:=s) (c:=c) hs s.size 0 (s.size+(c.toNat:Int).toNat+0+(0:Int).toNat+(0:Int).toNat+8) 0 0 A3 (by omega) (by omega) (ay _) (ay _) (by simp)
 rw [List.drop_zero] at h4 h6 h7
 rw [Nat.sub_zero] at h7
 have ho:o33_0 s (c.toNat:Int) 0 0 0 A3=some (n',((f':Nat):Int),n',d'):=h1
 refine ⟨?_,?_,fun q hq=>?_⟩
 .unfold n33
  rw [ho]
  simp only [av,aw,Bool.true_and,Bool.and_true]
  rw [dt (show (0:Int)<=f'/\(f':Int)<=s.size/\(s.size:Int)<=s.size by omega),dt (ay _),dt (show n'+1<=1073741824 by omega),dt (show 0+(n'+1)<=n'+1 by omega)]
  rfl
 .unfold m33
  rw [ho]
  simp only [aw]
  omega
 .unfold m33
  rw [ho]
  simp only [aw,ak]
  by_cases hq':q<n'
  .rw [Ed hq']
   have:=h6 q (by omega)
   rw [ax] at this
   exact this
  .have e:q=n':=by omega
   subst e
   rw [Ec (ay _),Nat.sub_self,h7]
   show s.extract f' s.size=Af _
   apply DA
   rw [Lib.extract_to_end];rfl
theorem m66_eq(n:Int):m66 n=Af (Lib.itoa n):=by unfold m66;rfl
theorem m69_ok{s:BA}{v:Int}(h:Lib.atoiAll (bts s)=.ok v):m69 s=(v,true):=by unfold m69;rw [h]
theorem m70_size(s:BA):(m70 s ⟨#[45]⟩).size=(match bts s with | 45 :: r=>r.length | l=>l.length):=by
 unfold m70
 rw [Lib.size_eq]
 show (Lib.trimPrefix (bts s) [45]).length=_
 unfold Lib.trimPrefix Lib.hasPrefix
 cases h:bts s with
 | nil=>rfl
 | cons b r =>
  by_cases hb:b=45
  .subst hb;simp [List.isPrefixOf]
  .have:([45]:List UInt8).isPrefixOf (b :: r)=false:=by simp [List.isPrefixOf];exact fun e=>hb e.symm
   rw [this]
   simp only [Bool.false_eq_true,if_false]
   split
   .rename_i e;cases e;exact absurd rfl hb
   .rfl
theorem QJ(s:BA):(bif bif bif (m69 s).2 then false else true then true else bif decide (m66 (m69 s).1=s) then false else true then true else decide (7<((m70 s ⟨#[45]⟩).size:Int)))=(C4 (bts s)).isNone/\∀ v,C4 (bts s)=some v->(m69 s).1=v:=by
 cases h:C4 (bts s) with
 | some v =>
  have h1:=m69_ok (PT h)
  obtain ⟨h2,h3,h4⟩:=Pk h
  rw [h1]
  refine ⟨?_,fun w hw=>by cases hw;rfl⟩
  have e:m66 v=s:=by rw [m66_eq,h2];exact D2 s
  have hsz:¬ ((7:Int)<((m70 s ⟨#[45]⟩).size:Int)):=by
   rw [m70_size]
   rcases h4 with h4 | ⟨r,h4⟩
   .split
    .rename_i r e;rw [e] at h4;simp at h4;omega
    .omega
   .rw [h4] at h3 ⊢;simp at h3 ⊢;omega
  simp [e,df hsz]
 | none =>
  refine ⟨?_,fun v hv=>by cases hv⟩
  simp only [Option.isNone_none]
  cases h2:(m69 s).2 with
  | false=>simp
  | true =>
   by_cases h3:m66 (m69 s).1=s
   .by_cases h4:(7:Int)<((m70 s ⟨#[45]⟩).size:Int)
    .simp [h3,dt h4]
    .exfalso
     have e:Lib.itoa (m69 s).1=bts s:=by
      have:=congrArg bts h3
      rwa [m66_eq] at this
     rw [m70_size] at h4
     have:C4 (Lib.itoa (m69 s).1)=some (m69 s).1:=by
      refine Kc ?_
      rcases CU (m69 s).1 with ⟨u,hu,e2⟩ | ⟨u,hu0,hu,e2⟩
      .left
       rw [e]
       split at h4
       .rename_i r er
        exfalso
        have:=D5 u 45 (by rw [<- e2,e,er];simp)
        exact SD this
       .omega
      .right
       rw [e2] at e
       rw [<- e] at h4
       rw [e2]
       simp at h4 ⊢
       omega
     rw [e,h] at this
     cases this
   .simp [df h3]
theorem Rs{b:UInt8}(h:Cc b):aQ.wrap (IntKind.u8.wrap ((b.toNat:Int) - 48))=((b.toNat - 48:Nat):Int):=by
 unfold Cc at h
 have e:IntKind.u8.wrap ((b.toNat:Int) - 48)=((b.toNat - 48:Nat):Int):=by
  simp [IntKind.wrap,IntKind.bits,IntKind.signed];omega
 rw [e,wrp (by omega) (by omega)]
theorem l34_run{s:BA}{t6:Int}(hs:s.size<=8):∀ (k i g a:Nat),i+k=s.size->k<g->a<10 ^ i ->
  ∃ r,l34_0 s t6 g (a:Int) (i:Int)=some r/\(match Lib.decFrom a ((bts s).drop i) with | some u=>r=(false,default,(u:Int)) | none=>∃ z,r=(true,(0,false,z),default))
 | 0,i,g,a,hi,hg,ha=>by
  obtain ⟨g,rfl⟩:∃ g',g=g'+1:=⟨g - 1,by omega⟩
  unfold l34_0
  rw [df (show ¬ ((i:Int)<s.size) by omega),List.drop_eq_nil_of_le (by rw [<- B6];omega)]
  exact ⟨_,rfl,rfl⟩
 | k+1,i,g,a,hi,hg,ha=>by
  obtain ⟨g,rfl⟩:∃ g',g=g'+1:=⟨g - 1,by omega⟩
  have hlt:i<(bts s).length:=by rw [<- B6];omega
  obtain ⟨b,hb⟩:∃ b,(bts s)[i]? = some b:=⟨_,aq hlt⟩
  have hby:=Ee hb
  have hd:(bts s).drop i=b :: (bts s).drop (i+1):=by rw [List.drop_eq_getElem_cons hlt];congr 1;rw [aq hlt] at hb;cases hb;rfl
  have hw:aQ.wrap ((i:Int)+1)=((i+1:Nat):Int):=wrS (show i<s.size by omega) (by omega)
  unfold l34_0
  simp only [ak,hby,hw]
  rw [dt (show (i:Int)<s.size by omega),dt (show (0:Int)<=i/\(i:Int)<s.size by omega),hd]
  simp only [cond_true,Bool.cond_true_right]
  by_cases hbd:Cc b
  .have h10:a<100000000:=Nat.lt_of_lt_of_le ha (Nat.le_trans (Nat.pow_le_pow_right (by decide) (show i<=8 by omega)) (by decide))
   have hv:aQ.wrap (aQ.wrap (10 * (a:Int))+aQ.wrap (IntKind.u8.wrap ((b.toNat:Int) - 48)))=((a * 10+(b.toNat - 48):Nat):Int):=by
    have h9:b.toNat - 48<10:=by unfold Cc at hbd;omega
    rw [Rs hbd,wrp (n:=10 * (a:Int)) (by omega) (by omega),wrp (by omega) (by omega)]
    omega
   rw [hv,Lib.decFrom,Ky hbd]
   have c1:¬ ((b.toNat:Int)<48):=by unfold Cc at hbd;omega
   have c2:¬ ((57:Int)<(b.toNat:Int)):=by unfold Cc at hbd;omega
   rw [df c1,df c2]
   simp only [cond_true,cond_false]
   refine l34_run hs k (i+1) g _ (by omega) (by omega) ?_
   have:b.toNat - 48<10:=by unfold Cc at hbd;omega
   rw [Nat.pow_succ];omega
  .have hdn:Lib.digitVal b=none:=if_neg hbd
   rw [Lib.decFrom,hdn]
   have:(bif decide ((b.toNat:Int)<48) then true else decide ((57:Int)<(b.toNat:Int)))=true:=by
    by_cases h1:(b.toNat:Int)<48
    .rw [dt h1];rfl
    .rw [df h1,dt (show (57:Int)<(b.toNat:Int) by unfold Cc at hbd;omega)];rfl
   rw [this]
   by_cases h1:(b.toNat:Int)<48
   .simp [h1]
   .simp [h1]
theorem EO{s:BA}(hs:s.size<=100000000):n34 s 7=true/\(m34 s 7).2=(C4 (bts s)).isSome/\∀ v,C4 (bts s)=some v->(m34 s 7).1=v:=by
 have hsz:=B6 s
 cases hl:bts s with
 | nil =>
  rw [hl] at hsz
  have h0:s.size=0:=by simpa using hsz
  refine ⟨?_,?_,fun v hv=>by cases hv⟩
  .unfold n34;simp [h0]
  .unfold m34;simp [h0,C4]
 | cons b r =>
  rw [hl] at hsz
  simp only [List.length_cons] at hsz
  have hb0:An s 0=(b.toNat:Int):=Ee (by rw [hl];rfl)
  have hpos:(0:Int)<s.size:=by omega
  rw [Hp]
  by_cases hb:b=45
  .subst hb
   have hb45:An s 0=45:=hb0
   rw [if_pos rfl]
   have hw:aQ.wrap ((s.size:Int) - 1)=(r.length:Int):=by rw [wrp (by omega) (by omega)];omega
   have hhd:(bif decide (An s 1=48) then decide (1<(s.size:Int)) else false)=decide (r.head? = some 48):=by
    cases r with
    | nil=>simp [hsz]
    | cons x r =>
     have hx:An s 1=(x.toNat:Int):=Ee (by rw [hl];rfl)
     rw [hx]
     by_cases h48:x=48
     .subst h48;simp [hsz];omega
     .have:¬ ((x.toNat:Int)=48):=fun e=>h48 (UInt8.toNat_inj.1 (by show x.toNat=48;omega))
      simp [this,h48]
   have hc:(bif bif decide ((s.size:Int)=1) then true else decide (7<aQ.wrap ((s.size:Int) - 1)) then true else bif decide (An s 1=48) then decide (1<(s.size:Int)) else false)=decide (r=[]\/7<r.length\/r.head? = some 48):=by
    rw [hhd,hw]
    by_cases h1:r=[]
    .subst h1;simp [hsz]
    .have:¬ ((s.size:Int)=1):=by
      intro e
      exact h1 (List.length_eq_zero_iff.1 (by omega))
     rw [df this]
     by_cases h2:7<r.length
     .simp [h2,show (7:Int)<r.length by omega]
     .simp [h2,h1,show ¬ (7:Int)<r.length by omega]
   by_cases hbad:r=[]\/7<r.length\/r.head? = some 48
   .rw [if_pos hbad]
    refine ⟨?_,?_,fun v hv=>by cases hv⟩
    .unfold n34
     rw [hc,hb45,dt hbad,dt hpos]
     by_cases h1:r=[]
     .subst h1;simp [hsz]
     .have hr:0<r.length:=List.length_pos_iff.2 h1
      simp;omega
    .unfold m34
     rw [hc,hb45,dt hbad,dt hpos]
     rfl
   .rw [if_neg hbad]
    simp only [not_or] at hbad
    have hr:0<r.length:=List.length_pos_iff.2 hbad.1
    obtain ⟨res,h1,h2⟩:=l34_run (s:=s) (t6:=1) (by omega) r.length 1 (s.size+(1:Int).toNat+(0:Int).toNat+(1:Int).toNat+8) 0 (by omega) (by omega) (by decide)
    have ho:o34_0 s 1 0 1=some res:=h1
    rw [hl] at h2
    simp only [List.drop_succ_cons,List.drop_zero] at h2
    have hbad':¬ (r=[]\/7<r.length\/r.head? = some 48):=by simp only [not_or];exact hbad
    have hn:n34 s 7=true:=by
     unfold n34
     rw [hc,hb45,df hbad',dt hpos,ho]
     simp;omega
    refine ⟨hn,?_⟩
    unfold m34
    rw [hc,hb45,df hbad',dt hpos,ho]
    cases hd:Lib.decFrom 0 r with
    | none =>
     rw [hd] at h2
     obtain ⟨z,rfl⟩:=h2
     exact ⟨rfl,fun v hv=>by cases hv⟩
    | some u =>
     rw [hd] at h2
     subst h2
     have hu:u<10000000:=by
      have h1:=EG r 0 u hd
      have h2:10 ^ r.length<=10 ^ 7:=Nat.pow_le_pow_right (by decide) (by omega)
      omega
     refine ⟨rfl,fun v hv=>?_⟩
     cases hv
     show aQ.wrap (0 - (u:Int))=-(u:Int)
     rw [wrp (by omega) (by omega)];omega
  .have hnb:¬ (An s 0=45):=by
    rw [hb0];exact fun e=>hb (UInt8.toNat_inj.1 (by show b.toNat=45;omega))
   rw [if_neg hb]
   have hw:aQ.wrap ((s.size:Int) - 0)=((r.length+1:Nat):Int):=by rw [wrp (by omega) (by omega)];omega
   have hc:(bif bif decide ((s.size:Int)=0) then true else decide (7<aQ.wrap ((s.size:Int) - 0)) then true else bif decide (An s 0=48) then decide (1<(s.size:Int)) else false)=decide (7<(b :: r).length\/(b=48/\r≠[])):=by
    rw [hw,df (show ¬ ((s.size:Int)=0) by omega),hb0]
    by_cases h2:7<(b :: r).length
    .rw [dt (show (7:Int)<((r.length+1:Nat):Int) by simp at h2;omega),dt (Or.inl h2:7<(b :: r).length\/(b=48/\r≠[]))];rfl
    .rw [df (show ¬ (7:Int)<((r.length+1:Nat):Int) by simp at h2;omega)]
     by_cases h48:b=48
     .subst h48
      cases r with
      | nil=>simp [hsz]
      | cons x r=>simp only [List.length_cons] at hsz h2;simp [hsz,h2];omega
     .have:¬ ((b.toNat:Int)=48):=fun e=>h48 (UInt8.toNat_inj.1 (by show b.toNat=48;omega))
      simp only [List.length_cons] at h2
      simp [this,h48];omega
   by_cases hbad:7<(b :: r).length\/(b=48/\r≠[])
   .rw [if_pos hbad]
    refine ⟨?_,?_,fun v hv=>by cases hv⟩
    .unfold n34
     rw [hc,df hnb,dt hbad,dt hpos]
     simp;omega
    .unfold m34
     rw [hc,df hnb,dt hbad,dt hpos]
     rfl
   .rw [if_neg hbad]
    have hl7:(b :: r).length<=7:=by simp only [not_or] at hbad;omega
    simp only [List.length_cons] at hl7
    obtain ⟨res,h1,h2⟩:=l34_run (s:=s) (t6:=0) (by omega) (r.length+1) 0 (s.size+(0:Int).toNat+(0:Int).toNat+(0:Int).toNat+8) 0 (by omega) (by omega) (by decide)
    have ho:o34_0 s 0 0 0=some res:=h1
    rw [hl] at h2
    simp only [List.drop_zero] at h2
    have hn:n34 s 7=true:=by
     unfold n34
     rw [hc,df hnb,df hbad,dt hpos,ho]
     simp;omega
    refine ⟨hn,?_⟩
    unfold m34
    rw [hc,df hnb,df hbad,dt hpos,ho]
    cases hd:Lib.decFrom 0 (b :: r) with
    | none =>
     rw [hd] at h2
     obtain ⟨z,rfl⟩:=h2
     exact ⟨rfl,fun v hv=>by cases hv⟩
    | some u =>
     rw [hd] at h2
     subst h2
     refine ⟨rfl,fun v hv=>?_⟩
     cases hv
     rfl
end Go.Proofs.YtdcdjjogieojhaaGreatDoor
namespace Go.Proofs.YtdcdjjogieojhaaGreatDoor
open Go Go.Sy
set_option maxRecDepth 100000
theorem Oc{α:Type}{b:Bool}{x y:α}(h:b=true):(bif b then x else y)=x:=by rw [h];rfl
theorem T3{r:Int}(h0:-9<=r)(h1:r<=9):IntKind.u8.wrap (aQ.wrap (48+m72 r))=((48+r.natAbs:Nat):Int):=by
 have e:m72 r=(r.natAbs:Int):=by
  unfold m72 P6
  rw [wrp (n:=0 - r) (by omega) (by omega)]
  try split
  all_goals omega
 rw [e,wrp (by omega) (by omega)]
 simp [IntKind.wrap,IntKind.bits,IntKind.signed]
 omega
def sgn(neg:Bool)(u:Nat):Int:=if neg then -(u:Int) else u
theorem So(neg:Bool)(u:Nat):(sgn neg u).tdiv 10=sgn neg (u / 10):=by
 unfold sgn
 cases neg with
 | true=>simp only [if_true];rw [Int.neg_tdiv];rfl
 | false=>rfl
theorem Sp(neg:Bool)(u:Nat):(sgn neg u).tmod 10=sgn neg (u % 10):=by
 unfold sgn
 cases neg with
 | true=>simp only [if_true];rw [Int.neg_tmod];rfl
 | false=>rfl
theorem Sn(neg:Bool)(u:Nat):(sgn neg u).natAbs=u:=by
 unfold sgn;cases neg <;> simp
theorem Ki(neg:Bool){u k:Nat}(h:u<=k):-(k:Int)<=sgn neg u/\sgn neg u<=k:=by
 unfold sgn;cases neg <;> simp <;> omega
theorem MD(neg:Bool)(u:Nat):sgn neg u=0↔u=0:=by
 unfold sgn;cases neg <;> simp
theorem OW{d:Nat}(h:d<10):Iu ((48+d:Nat):Int)=Af [UInt8.ofNat (48+d)]:=rfl
theorem l35_run(neg:Bool)(t4:BA):∀ (k g u:Nat) (t3:List UInt8),0<u->u<10 ^ k->k<g->k<=19->t3.length+k<=1000->l35_0 t4 g (sgn neg u) (Af t3)=some (Af (Lib.decDigits u ++ t3))
 | 0,g,u,t3,h0,h1,h2,_,_=>by rw [Nat.pow_zero] at h1;omega
 | k+1,g,u,t3,h0,h1,h2,h3,h4=>by
  obtain ⟨g,rfl⟩:∃ g',g=g'+1:=⟨g - 1,by omega⟩
  have hu:u<10 ^ 19:=Nat.lt_of_lt_of_le h1 (Nat.pow_le_pow_right (by decide) h3)
  have hr:=Ki neg (u:=u % 10) (k:=9) (by omega)
  have hr2:=Ki neg (u:=u / 10) (k:=10 ^ 18) (by omega)
  unfold l35_0
  rw [Sp,So,T3 hr.1 hr.2,Sn,wrp (by omega) (by omega),df (show ¬ (sgn neg u=0) from fun e=>by have:=(MD neg u).1 e;omega),dt (show (0:Int)<=((48+u % 10:Nat):Int)/\((48+u % 10:Nat):Int)<=255 by omega),OW (by omega),MH,AN,AN,dt (show [UInt8.ofNat (48+u % 10)].length+t3.length<=9223372036854775807 by simp;omega)]
  simp only [cond_true,cond_false]
  by_cases hs:u<10
  .obtain ⟨g,rfl⟩:∃ g',g=g'+1:=⟨g - 1,by omega⟩
   rw [show u / 10=0 by omega]
   unfold l35_0
   rw [dt ((MD neg 0).2 rfl),AK hs,show u % 10=u by omega]
   rfl
  .rw [l35_run neg t4 k g (u / 10) _ (by omega) (by rw [Nat.pow_succ] at h1;omega) (by omega) (by omega) (by simp;omega),Bx hs,List.append_assoc]
theorem Qp{v:Int}(h0:-1000000<v)(h1:v<1000000):(Lib.itoa v).length<=7:=by
 rcases CU v with ⟨u,rfl,e⟩ | ⟨u,hu,rfl,e⟩
 .rw [e]
  have:=BX (u:=u) (k:=5) (by omega)
  omega
 .rw [e]
  have:=BX (u:=u) (k:=5) (by omega)
  simp;omega
theorem N6{v:Int}(h0:-9223372036854775808<=v)(h1:v<=9223372036854775807):n35 v=true/\m35 v=Af (Lib.itoa v):=by
 unfold n35 m35
 rcases CU v with ⟨u,rfl,e⟩ | ⟨u,hu,rfl,e⟩
 .rw [e]
  by_cases hz:u=0
  .subst hz
   rw [AK (by omega)]
   exact ⟨rfl,rfl⟩
  .have ho:∀ g,20<=g->l35_0 ({ data:=#[] }:BA) g ((u:Nat):Int) ({ data:=#[] }:BA)=some (Af (Lib.decDigits u)):=fun g hg=>by
    have hl:=l35_run false ({ data:=#[] }:BA) 19 g u [] (by omega) (by omega) (by omega) (by omega) (by simp)
    rw [List.append_nil] at hl
    exact hl
   rw [df (show ¬ ((u:Int)=0) by omega),df (show ¬ ((u:Int)<0) by omega)]
   unfold o35_0
   rw [ho _ (by omega)]
   have:=BX (u:=u) (k:=19) (by omega)
   simp only [aw,av,cond_false]
   simp only [AN]
   rw [dt (show 0+(Lib.decDigits u).length<=9223372036854775807 by omega)]
   exact ⟨rfl,DA (by rw [Bv];rfl)⟩
 .rw [e]
  have ho:∀ t g,20<=g->l35_0 t g (-((u:Nat):Int)) ({ data:=#[] }:BA)=some (Af (Lib.decDigits u)):=fun t g hg=>by
   have hl:=l35_run true t 19 g u [] (by omega) (by omega) (by omega) (by omega) (by simp)
   rw [List.append_nil] at hl
   exact hl
  rw [df (show ¬ (-(u:Int)=0) by omega),dt (show (-(u:Int)<0) by omega)]
  unfold o35_0
  rw [ho _ _ (by omega)]
  have:=BX (u:=u) (k:=19) (by omega)
  simp only [aw,av,cond_false]
  simp only [AN]
  rw [dt (show 1+(Lib.decDigits u).length<=9223372036854775807 by omega)]
  exact ⟨rfl,DA (by show (({ data:=#[45] }:BA) ++ Af (Lib.decDigits u)).data.toList=_;rw [Bv];rfl)⟩
theorem CV{v:Int}(h0:-9223372036854775808<=v)(h1:v<=9223372036854775807):(Lib.itoa v).length<=21:=by
 rcases CU v with ⟨u,rfl,e⟩ | ⟨u,hu,rfl,e⟩
 .rw [e]
  have:=BX (u:=u) (k:=19) (by omega)
  omega
 .rw [e]
  have:=BX (u:=u) (k:=19) (by omega)
  simp;omega
theorem Qq{v:Int}{b:UInt8}(h:b∈Lib.itoa v):b=45\/Cc b:=by
 rcases CU v with ⟨u,rfl,e⟩ | ⟨u,hu,rfl,e⟩
 .rw [e] at h;exact .inr (D5 u b h)
 .rw [e] at h
  rcases List.mem_cons.1 h with h | h
  .exact .inl h
  .exact .inr (D5 u b h)
theorem Ow{c:UInt8}(hc:c.toNat<45)(v:Int):c ∉ Lib.itoa v:=fun h=>by
 rcases Qq h with h | h
 .subst h;revert hc;decide
 .unfold Cc at h;omega
end Go.Proofs.YtdcdjjogieojhaaGreatDoor
namespace Go.Proofs.YtdcdjjogieojhaaGreatDoor
open Go Go.Sy
set_option maxRecDepth 100000
theorem H4(x y:BA):(x ++ y).size=x.size+y.size:=ByteArray.size_append
abbrev i64ok(a:Int):Prop:=-9223372036854775808<=a/\a<=9223372036854775807
theorem m66_itoa(a:Int):m66 a=Af (Lib.itoa a):=m66_eq a
theorem n66_ok{a:Int}(h:i64ok a):n66 a=true:=by unfold n66;rw [decide_eq_true_eq];exact h
theorem spB:({ data:=#[32] }:BA)=Af [32]:=rfl
def Bw(l:List BA):BA:=Af (Lib.join (l.map bts) [32])
theorem m67_w{n:Nat}{d:Dat}{l:List BA}(h:Dk n d=l):m67 n d (Af [32])=Bw l:=by
 unfold m67 Bw;rw [h];rfl
theorem Dv(x:BA):Bw [x]=x:=by
 unfold Bw;rw [List.map_cons,List.map_nil,Lib.join_one];exact D2 x
theorem CW(x y:BA)(l:List BA):Bw (x :: y :: l)=x ++ (Af [32] ++ Bw (y :: l)):=by
 unfold Bw
 apply DA
 rw [Bv,Bv]
 show Lib.join ((x :: y :: l).map bts) [32]=bts x ++ ([32] ++ Lib.join ((y :: l).map bts) [32])
 rw [List.map_cons,List.map_cons,Lib.join_cons,Lib.join_cons]
 unfold Lib.joinTail
 rw [List.map_cons,List.flatten_cons]
 simp
theorem w4(x0 x1 x2 x3:BA):Dk 4 ((((Aw [SV.str x0] 1).app 1 (Aw [SV.str x1] 1)).app 2 (Aw [SV.str x2] 1)).app 3 (Aw [SV.str x3] 1))=[x0,x1,x2,x3]:=rfl
theorem w5(x0 x1 x2 x3 x4:BA):Dk 5 (((((Aw [SV.str x0] 1).app 1 (Aw [SV.str x1] 1)).app 2 (Aw [SV.str x2] 1)).app 3 (Aw [SV.str x3] 1)).app 4 (Aw [SV.str x4] 1))=[x0,x1,x2,x3,x4]:=rfl
theorem n67_w{n:Nat}{d:Dat}{l:List BA}(h:Dk n d=l)(h0:0<n)(h1:n<=1000000)(hs:(Bw l).size<=1073741824):n67 n d (Af [32])=true:=by
 unfold n67
 rw [m67_w h,dt h0,dt h1,dt hs];rfl
end Go.Proofs.YtdcdjjogieojhaaGreatDoor
namespace Go.Proofs.YtdcdjjogieojhaaGreatDoor
open Go Go.Sy
set_option maxRecDepth 100000
theorem DW(c:UInt8)(x:List UInt8):∀ q,((AV c x).getD q []).length<=x.length:=by
 refine GH (c:=c) (p:=fun x=>∀ q,((AV c x).getD q []).length<=x.length) (fun x hx q=>?_) (fun x y hx hy q=>?_) x
 .rw [BD hx]
  cases q with
  | zero=>simp
  | succ q=>simp
 .rw [BC y hx]
  cases q with
  | zero=>simp
  | succ q=>have:=hy q;simp at this ⊢;omega
theorem MY{l:List UInt8}{v:Int}(h:Lib.atoiAll l=.ok v):-9223372036854775808<=v/\v<=9223372036854775807:=by
 unfold Lib.atoiAll at h
 split at h
 .cases h
 .dsimp only at h
  split at h <;> try (cases h;done)
  split at h <;> try (cases h;done)
  split at h <;> try (cases h;done)
  rename_i h1 h2
  injection h with h
  subst h
  split
  .rename_i h3;simp only [h3,true_and] at h2;omega
  .rename_i h3;simp only [h3,not_false_eq_true,true_and] at h1;omega
theorem n66_58(s:BA):n66 (m69 s).1=true:=by
 unfold n66
 rw [decide_eq_true_eq]
 unfold m69
 rcases h:Lib.atoiAll s.data.toList with v | _ | _
 .exact MY h
 .simp
 .simp only [Lib.atoiSat];split <;> omega
theorem n69_ok{s:BA}(h:s.size<=100000000):n69 s=true:=by unfold n69;rw [decide_eq_true_eq];omega
theorem Eu(x y:List UInt8):decide (Af x=Af y)=decide (x=y):=by
 by_cases h:x=y
 .rw [h];simp
 .rw [df h,df fun e=>h (MI e)]
end Go.Proofs.YtdcdjjogieojhaaGreatDoor
namespace Go.Proofs.YtdcdjjogieojhaaGreatDoor
open Go Go.Sy
set_option maxRecDepth 100000
abbrev DP:List UInt8:=[105,116,101,109]
abbrev DQ:List UInt8:=[114,117,108,101]
theorem Ou:({ data:=#[105,116,101,109] }:BA)=Af DP:=rfl
theorem OG:({ data:=#[114,117,108,101] }:BA)=Af DQ:=rfl
abbrev kw1:List UInt8:=[99,121,108,105,110,100,101,114]
abbrev kw2:List UInt8:=[114,101,103,117,108,97,116,111,114]
abbrev kw3:List UInt8:=[99,111,109,112,114,101,115,115,111,114]
abbrev kw4:List UInt8:=[111,116,104,101,114]
def Bq(w:List UInt8):Int:=if w=kw1 then 1 else if w=kw2 then 2 else if w=kw3 then 3 else if w=kw4 then 4 else 0
theorem l82_eq(t:BA)(n:Nat):l82_0 t (n+8) 0=cond (decide (Af kw1=t)) (some (true,1,default)) (cond (decide (Af kw2=t)) (some (true,2,default)) (cond (decide (Af kw3=t)) (some (true,3,default)) (cond (decide (Af kw4=t)) (some (true,4,default)) (some (false,default,()))))):=by kernel_rfl
theorem l81_eq(t:BA)(n:Nat):l81_0 5 A7 t 5 (n+8) 0=cond (decide (t=Af [])) (some (true,0,default)) (cond (decide (t=Af kw1)) (some (true,1,default)) (cond (decide (t=Af kw2)) (some (true,2,default)) (cond (decide (t=Af kw3)) (some (true,3,default)) (cond (decide (t=Af kw4)) (some (true,4,default)) (some (false,default,())))))):=by kernel_rfl
theorem IY(w:List UInt8):n82 (Af w)=true/\m82 (Af w)=Bq w:=by
 have h:o82_0 (Af w) 0=_:=l82_eq (Af w) ((Af w).size+(0:Int).toNat)
 unfold n82 m82 Bq
 rw [h]
 simp only [Eu,@eq_comm _ kw1 w,@eq_comm _ kw2 w,@eq_comm _ kw3 w,@eq_comm _ kw4 w]
 by_cases h1:w=kw1
 .simp [h1]
 by_cases h2:w=kw2
 .simp [h2]
 by_cases h3:w=kw3
 .simp [h3]
 by_cases h4:w=kw4
 .simp [h4]
 simp [h1,h2,h3,h4]
theorem Hh(w:List UInt8):n81 5 A7 (Af w)=true/\m81 5 A7 (Af w)=if w=[] then 0 else if Bq w=0 then -1 else Bq w:=by
 have h:o81_0 5 A7 (Af w) (((5:Nat):Int)) 0=_:=l81_eq (Af w) (5+(Af w).size+(((5:Nat):Int)).toNat+(0:Int).toNat)
 unfold n81 m81 Bq
 rw [h]
 simp only [Eu]
 by_cases h0:w=[]
 .simp [h0]
 by_cases h1:w=kw1
 .simp [h1]
 by_cases h2:w=kw2
 .simp [h2]
 by_cases h3:w=kw3
 .simp [h3]
 by_cases h4:w=kw4
 .simp [h4]
 simp [h0,h1,h2,h3,h4]
theorem LS(w:List UInt8):decide (0<m81 5 A7 (Af w))=decide (Bq w≠0)/\(Bq w≠0->m81 5 A7 (Af w)=Bq w):=by
 rw [(Hh w).2]
 have hr:0<=Bq w:=by unfold Bq;(repeat' split) <;> omega
 have h0:w=[]->Bq w=0:=fun e=>by rw [e];rfl
 by_cases hw:w=[]
 .rw [if_pos hw];simp [h0 hw]
 .rw [if_neg hw]
  by_cases hk:Bq w=0
  .simp [hk]
  .rw [if_neg hk];simp [hk];omega
noncomputable def LP(nm:List UInt8)(k v:Int):Dat:=Aw [SV.str (Af nm),SV.int .i64 k,SV.int .i64 v] 3
noncomputable def Mg(nm:List UInt8)(k v z:Int):Dat:=Aw [SV.str (Af nm),SV.int .i64 k,SV.int .i64 v,SV.int .i64 z] 4
noncomputable def Bd(w:List (List UInt8))(nI:Nat)(dI:Dat)(nR:Nat)(dR:Dat):Option (Nat × Dat × Nat × Dat):=match w with
 | [t,nm,kd,b]=>if t=DP/\Bq kd≠0/\nR=0 then (C4 b).map fun v=>(nI+1,dI.app nI (LP nm (Bq kd) v),nR,dR) else none
 | [t,nm,kd,b,u]=>if t=DQ/\Bq kd≠0 then (C4 b).bind fun v=>(C4 u).map fun z=>(nI,dI,nR+1,dR.app nR (Mg nm (Bq kd) v z)) else none
 | _=>none
def Cd(o:Option (Nat × Dat × Nat × Dat))(r:Bool × Nat × Nat × Nat × Dat × Nat × Dat):Prop:=match o with
 | some (a,b,c,d)=>r=(true,a,c,a,b,c,d)
 | none=>r.1=false
theorem QV{s:BA}(hs:s.size<=1000000){nI nR:Nat}{dI dR:Dat}(hI:nI+1<=1073741824)(hR:nR+1<=1073741824):n55 nI nI dI nR nR dR s=true/\Cd (Bd (AV 32 (bts s)) nI dI nR dR) (m55 nI nI dI nR nR dR s):=by
 obtain ⟨a1,a2,a3⟩:=Og (s:=s) (c:=32) (a:=32) rfl (by omega)
 have hle:=DW 32 (bts s)
 rw [<- B6] at hle
 have hnum:∀ q,(Af ((AV 32 (bts s)).getD q [])).size<=100000000:=fun q=>by rw [AN];have:=hle q;omega
 obtain ⟨w,hw⟩:∃ w,AV 32 (bts s)=w:=⟨_,rfl⟩
 have hpos:=GE 32 (bts s)
 rw [hw] at a2 a3 hnum hpos
 unfold n55 m55
 rw [a1,a2,hw]
 simp only [Ou,OG]
 match w,hpos,a3,hnum with
 | [k],_,a3,_=>exact ⟨rfl,rfl⟩
 | [k,d],_,a3,_=>exact ⟨rfl,rfl⟩
 | [k,d,x],_,a3,_=>exact ⟨rfl,rfl⟩
 | [k,nm,kd,b],_,a3,hnum =>
  obtain ⟨na,nb,nc⟩:=EO (s:=Af b) (hnum 3)
  obtain ⟨q1,q2⟩:=IY kd
  have e0:=a3 0 (by simp);have e1:=a3 1 (by simp);have e2:=a3 2 (by simp);have e3:=a3 3 (by simp)
  simp only [List.getD_cons_zero,List.getD_cons_succ] at e0 e1 e2 e3
  simp only [e0,e1,e2,e3,na,nb,q1,q2,Eu,Bd,Cq,List.length_cons,List.length_nil]
  by_cases hk:Bq kd=0
  .simp [hk,Cd]
  .cases hn:C4 b with
   | none=>simp [hk,Cd,hn]
   | some v =>
    have hv:=nc v hn
    by_cases k1:k=DP
    .subst k1
     by_cases hr:nR=0
     .simp [hk,Cd,hn,hv,hr,hI,LP]
     .simp [hk,Cd,hn,hv,hr,hI]
    .simp [hk,Cd,hn,hv,k1,hI]
 | [k,nm,kd,b,u],_,a3,hnum =>
  obtain ⟨na,nb,nc⟩:=EO (s:=Af b) (hnum 3)
  obtain ⟨u1,u2,u3⟩:=EO (s:=Af u) (hnum 4)
  obtain ⟨q1,q2⟩:=IY kd
  have e0:=a3 0 (by simp);have e1:=a3 1 (by simp);have e2:=a3 2 (by simp);have e3:=a3 3 (by simp);have e4:=a3 4 (by simp)
  simp only [List.getD_cons_zero,List.getD_cons_succ] at e0 e1 e2 e3 e4
  simp only [e0,e1,e2,e3,e4,na,nb,u1,u2,q1,q2,Eu,Bd,Cq,List.length_cons,List.length_nil]
  by_cases hk:Bq kd=0
  .simp [hk,Cd]
  .cases hn:C4 b with
   | none=>simp [hk,Cd,hn]
   | some v =>
    have hv:=nc v hn
    by_cases k1:k=DQ
    .subst k1
     cases hu:C4 u with
     | none=>simp [hk,Cd,hn,hv,hu,hR]
     | some z =>
      have hz:=u3 z hu
      simp [hk,Cd,hn,hv,hu,hz,hR,Mg]
    .simp [hk,Cd,hn,hv,k1,hR]
 | k :: nm :: kd :: b :: u :: y :: r,_,a3,hnum =>
  obtain ⟨na,nb,nc⟩:=EO (s:=Af b) (hnum 3)
  obtain ⟨q1,q2⟩:=IY kd
  have e0:=a3 0 (by simp);have e1:=a3 1 (by simp);have e2:=a3 2 (by simp);have e3:=a3 3 (by simp)
  simp only [List.getD_cons_zero,List.getD_cons_succ] at e0 e1 e2 e3
  have l1:¬ ((((k :: nm :: kd :: b :: u :: y :: r).length:Nat):Int)<4):=by simp only [List.length_cons];omega
  have l2:¬ ((((k :: nm :: kd :: b :: u :: y :: r).length:Nat):Int)=4):=by simp only [List.length_cons];omega
  have l3:¬ ((((k :: nm :: kd :: b :: u :: y :: r).length:Nat):Int)=5):=by simp only [List.length_cons];omega
  have l4:(0:Int)<=2/\(2:Int)<(((k :: nm :: kd :: b :: u :: y :: r).length:Nat):Int):=by simp only [List.length_cons];omega
  have l5:(0:Int)<=3/\(3:Int)<(((k :: nm :: kd :: b :: u :: y :: r).length:Nat):Int):=by simp only [List.length_cons];omega
  have l6:(0:Int)<=0/\(0:Int)<(((k :: nm :: kd :: b :: u :: y :: r).length:Nat):Int):=by simp only [List.length_cons];omega
  rw [df l1,dt l4,dt l5,dt l6,df l2,df l3]
  simp only [e0,e1,e2,e3,na,nb,q1,q2,Eu,Bd,Cq]
  by_cases hk:Bq kd=0
  .simp [hk,Cd]
  .cases hn:C4 b with
   | none=>simp [hk,Cd,hn]
   | some v=>simp [hk,Cd,hn]
end Go.Proofs.YtdcdjjogieojhaaGreatDoor
namespace Go.Proofs.YtdcdjjogieojhaaGreatDoor
open Go Go.Sy
set_option maxRecDepth 100000
theorem Oy{w:List UInt8}(h:Bq w≠0):0<Bq w:=by
 have hr:0<=Bq w:=by unfold Bq;(repeat' split) <;> omega
 omega
theorem Pr{s:BA}(hs:s.size<=1000000){nI nR:Nat}{dI dR:Dat}(hI:nI+1<=1073741824)(hR:nR+1<=1073741824):n53 nI nI dI nR nR dR s=true/\Cd (Bd (AV 32 (bts s)) nI dI nR dR) (m53 nI nI dI nR nR dR s):=by
 have hle:=DW 32 (bts s)
 rw [<- B6] at hle
 have L:(m30 s ({ data:=#[32] }:BA)).1=(AV 32 (bts s)).length:=m30_len s 32
 have A:∀ q,(m30 s ({ data:=#[32] }:BA)).2.ss q 0=Af ((AV 32 (bts s)).getD q []):=m30_at s 32
 have hn30:n30 s ({ data:=#[32] }:BA)=true:=by
  unfold n30
  rw [dt (show s.size<=4000000000 by omega),dt (show 1<=(({ data:=#[32] }:BA)).size from ay 1)];rfl
 obtain ⟨w,hw⟩:∃ w,AV 32 (bts s)=w:=⟨_,rfl⟩
 have hpos:=GE 32 (bts s)
 rw [hw] at L A hpos hle
 have hnum:∀ q,n69 (Af (w.getD q []))=true:=fun q=>n69_ok (by rw [AN];have:=hle q;omega)
 have P:=fun q=>QJ (Af (w.getD q []))
 unfold n53 m53
 rw [hn30,hw]
 simp only [L,A,Ou,OG,ME,n31i,n31r,m31i,m31r,hnum,n66_58,Eu]
 match w,hpos with
 | [k],_ =>
  by_cases k1:k=DP <;> by_cases k2:k=DQ <;> simp [k1,k2,Bd,Cd]
 | [k,nm],_ =>
  by_cases k1:k=DP <;> by_cases k2:k=DQ <;> simp [k1,k2,Bd,Cd]
 | [k,nm,kd],_ =>
  by_cases k1:k=DP <;> by_cases k2:k=DQ <;> simp [k1,k2,Bd,Cd]
 | [k,nm,kd,b],_ =>
  have P3:=P 3
  simp only [List.getD_cons_zero,List.getD_cons_succ] at P3
  simp only [List.getD_cons_zero,List.getD_cons_succ,P3.1]
  obtain ⟨q1,q2⟩:=Hh kd
  obtain ⟨q3,q4⟩:=LS kd
  by_cases k1:k=DP
  .subst k1
   cases hn:C4 b with
   | none =>
    have hb:C4 (bts (Af b))=none:=hn
    simp [hn,hb,Bd,Cd]
   | some v =>
    have hb:C4 (bts (Af b))=some v:=hn
    have hv:=P3.2 v hn
    by_cases hr:nR=0
    .by_cases hk:Bq kd=0
     .have:decide (0<m81 5 A7 (Af kd))=false:=by rw [q3,hk];rfl
      simp [hn,hb,hv,Bd,Cd,hr,hk,this,q1,hI]
     .have h2:decide (0<m81 5 A7 (Af kd))=true:=by rw [q3];exact dt hk
      have h3:0<Bq kd:=Oy hk
      simp [hn,hb,hv,Bd,Cd,hr,hk,h2,q1,q4 hk,hI,LP,h3]
    .have hr2:0<nR:=by omega
     simp [hn,hb,hv,Bd,Cd,hr,hr2]
  .by_cases k2:k=DQ
   .subst k2;simp [Bd,Cd]
   .simp [k1,k2,Bd,Cd]
 | [k,nm,kd,b,u],_ =>
  have P3:=P 3
  have P4:=P 4
  simp only [List.getD_cons_zero,List.getD_cons_succ] at P3 P4
  simp only [List.getD_cons_zero,List.getD_cons_succ,P3.1,P4.1]
  obtain ⟨q1,q2⟩:=Hh kd
  obtain ⟨q3,q4⟩:=LS kd
  by_cases k1:k=DP
  .subst k1;simp [Bd,Cd]
  by_cases k2:k=DQ
  .subst k2
   cases hn:C4 b with
   | none =>
    have hb:C4 (bts (Af b))=none:=hn
    simp [hn,hb,Bd,Cd]
   | some v =>
    have hb:C4 (bts (Af b))=some v:=hn
    have hv:=P3.2 v hn
    cases hu:C4 u with
    | none =>
     have hb2:C4 (bts (Af u))=none:=hu
     simp [hn,hb,hu,hb2,Bd,Cd]
    | some z =>
     have hb2:C4 (bts (Af u))=some z:=hu
     have hz:=P4.2 z hu
     by_cases hk:Bq kd=0
     .have:decide (0<m81 5 A7 (Af kd))=false:=by rw [q3,hk];rfl
      simp [hn,hb,hv,hu,hb2,hz,Bd,Cd,hk,this,q1,hR]
     .have h2:decide (0<m81 5 A7 (Af kd))=true:=by rw [q3];exact dt hk
      have h3:0<Bq kd:=Oy hk
      simp [hn,hb,hv,hu,hb2,hz,Bd,Cd,hk,h2,q1,q4 hk,hR,Mg,h3]
  .simp [k1,k2,Bd,Cd]
 | k :: nm :: kd :: b :: u :: y :: r,_ =>
  have l1:¬ ((((((k :: nm :: kd :: b :: u :: y :: r).length:Nat):Int) - 1).toNat:Int)=3):=by simp only [List.length_cons];omega
  have l2:¬ ((((((k :: nm :: kd :: b :: u :: y :: r).length:Nat):Int) - 1).toNat:Int)=4):=by simp only [List.length_cons];omega
  have l6:(0:Int)<=0/\(0:Int)<(((k :: nm :: kd :: b :: u :: y :: r).length:Nat):Int):=by simp only [List.length_cons];omega
  have l7:(0:Int)<=1/\(1:Int)<=(((k :: nm :: kd :: b :: u :: y :: r).length:Nat):Int)/\(((k :: nm :: kd :: b :: u :: y :: r).length:Nat):Int)<=(((k :: nm :: kd :: b :: u :: y :: r).length:Nat):Int):=by simp only [List.length_cons];omega
  simp only [df l1,df l2,dt l6,dt l7,List.getD_cons_zero]
  by_cases k1:k=DP
  .simp [k1,Bd,Cd]
  by_cases k2:k=DQ
  .simp [k1,k2,Bd,Cd]
  .simp [k1,k2,Bd,Cd]
end Go.Proofs.YtdcdjjogieojhaaGreatDoor
namespace Go.Proofs.YtdcdjjogieojhaaGreatDoor
open Go Go.Sy Go.RowKit
def OS(f:Nat->BA)(s:BA)(n:Nat)(v:Int):Prop:=(∃ i:Nat,i<n/\f i=s/\(∀ k,k<i->f k≠s)/\v=(i:Int))\/((∀ k,k<n->f k≠s)/\v=-1)
def ix(f:Nat->BA)(s:BA)(n:Nat):Int:=first (fun i=>if f i=s then some (i:Int) else none) (-1) n 0
theorem Qr(f:Nat->BA)(s:BA)(n:Nat):OS f s n (ix f s n):=by
 rcases BI (g:=fun i=>if f i=s then some (i:Int) else none) (e:=(-1:Int)) n 0 with ⟨j,b,h1,h2,h3,h4,h5⟩ | ⟨h1,h2⟩
 .have h3:(if f j=s then some (j:Int) else none)=some b:=h3
  split at h3 <;> cases h3
  rename_i hs
  refine .inl ⟨j,by omega,hs,fun k hk e=>?_,h5⟩
  have:=h4 k (aX _) hk
  have this:(if f k=s then some (k:Int) else none)=none:=this
  rw [if_pos e] at this;cases this
 .refine .inr ⟨fun k hk e=>?_,h2⟩
  have:=h1 k (aX _) (by omega)
  have this:(if f k=s then some (k:Int) else none)=none:=this
  rw [if_pos e] at this;cases this
theorem OS.eq{f:Nat->BA}{s:BA}{n:Nat}{v v':Int}(h:OS f s n v)(h':OS f s n v'):v=v':=by
 rcases h with ⟨i,a1,a2,a3,rfl⟩ | ⟨a1,rfl⟩ <;> rcases h' with ⟨i',b1,b2,b3,rfl⟩ | ⟨b1,rfl⟩
 .have:i=i':=by
   rcases Nat.lt_trichotomy i i' with hh | hh | hh
   .exact absurd a2 (b3 i hh)
   .exact hh
   .exact absurd b2 (a3 i' hh)
  rw [this]
 .exact absurd a2 (b1 i a1)
 .exact absurd b2 (a1 i' b1)
 .rfl
def itN(K:Kst)(s:BA):Int:=ix (fun i=>K.di.ss i 0) s K.n
def ruN(K:Kst)(s:BA):Int:=ix (fun i=>K.dr.ss i 0) s K.r
theorem Q0{β:Type}(b:β)(r:Option β):brk (some b) r=some b:=rfl
theorem PZ{β:Type}(r:Option β):brk none r=r:=rfl
theorem KJ{l:Nat->Int->Option (Bool × Int × Unit)}{f:Nat->BA}{s:BA}{n F:Nat}(hn:n<=1000000)(hF:n<F)(step:∀ f' i,i<n->l (f'+1) (i:Int)=if f i=s then some (true,(i:Int),default) else l f' (aQ.wrap ((i:Int)+1)))(stop:∀ f',l (f'+1) (n:Int)=some (false,default,())) :
  (l F 0).isSome=true/\(cond ((l F 0).getD default).fst ((l F 0).getD default).snd.fst (-1))=ix f s n:=by
 have h:=DL (l:=l) (g:=fun i=>if f i=s then some (true,(i:Int),default) else none) (e:=(false,default,())) (n:=n) (by omega) (fun f' i hi=>by
  rw [step f' i hi]
  by_cases hs:f i=s
  .simp only [if_pos hs,Q0]
  .simp only [if_neg hs,PZ]) stop n 0 F (by omega) hF
 have h:l F 0=_:=h
 rw [h]
 refine ⟨rfl,?_⟩
 refine OS.eq (f:=f) (s:=s) (n:=n) ?_ (Qr f s n)
 rcases BI (g:=fun i=>if f i=s then some (true,(i:Int),default) else none) (e:=((false,default,()):Bool × Int × Unit)) n 0 with ⟨j,b,h1,h2,h3,h4,h5⟩ | ⟨h1,h2⟩
 .have h3:(if f j=s then some ((true,(j:Int),default):Bool × Int × Unit) else none)=some b:=h3
  split at h3 <;> cases h3
  rename_i hs
  rw [h5]
  refine .inl ⟨j,by omega,hs,fun k hk e=>?_,rfl⟩
  have this:(if f k=s then some ((true,(k:Int),default):Bool × Int × Unit) else none)=none:=h4 k (aX _) hk
  rw [if_pos e] at this;cases this
 .rw [h2]
  refine .inr ⟨fun k hk e=>?_,rfl⟩
  have this:(if f k=s then some ((true,(k:Int),default):Bool × Int × Unit) else none)=none:=h1 k (aX _) (by omega)
  rw [if_pos e] at this;cases this
theorem DC{α:Type}{p:Prop}[Decidable p](x y:α):cond (decide p) x y=if p then x else y:=by
 by_cases h:p
 .rw [az h,if_pos h];rfl
 .rw [aj h,if_neg h];rfl
theorem m38_eq(K:Kst)(hn:K.n<=1000000)(s:BA):n38 K.n K.di K.r K.dr s=true/\m38 K.n K.di K.r K.dr s=itN K s:=by
 obtain ⟨h1,h2⟩:=KJ (l:=l38_0 s K.n K.di K.r K.dr) (f:=fun i=>K.di.ss i 0) (s:=s) (n:=K.n) (F:=s.size+(0:Int).toNat+K.n+K.r+8) hn (by omega) (fun f' i hi=>by
  conv=>lhs;unfold l38_0
  rw [cdl hi,cdd hi]
  simp only [cond_true,ak,DC]) (fun f'=>by unfold l38_0;rw [cdn];rfl)
 exact ⟨by show ((l38_0 s K.n K.di K.r K.dr (s.size+(0:Int).toNat+K.n+K.r+8) 0).isSome&&true)=true;rw [h1];rfl,h2⟩
theorem m41_eq(K:Kst)(hn:K.r<=1000000)(s:BA):n41 K.n K.di K.r K.dr s=true/\m41 K.n K.di K.r K.dr s=ruN K s:=by
 obtain ⟨h1,h2⟩:=KJ (l:=l41_0 s K.n K.di K.r K.dr) (f:=fun i=>K.dr.ss i 0) (s:=s) (n:=K.r) (F:=s.size+(0:Int).toNat+K.n+K.r+8) hn (by omega) (fun f' i hi=>by
  conv=>lhs;unfold l41_0
  rw [cdl hi,cdd hi]
  simp only [cond_true,ak,DC]) (fun f'=>by unfold l41_0;rw [cdn];rfl)
 exact ⟨by show ((l41_0 s K.n K.di K.r K.dr (s.size+(0:Int).toNat+K.n+K.r+8) 0).isSome&&true)=true;rw [h1];rfl,h2⟩
theorem m46_eq(K:Kst)(hn:K.n<=1000000)(s:BA):n46 K.n K.di K.r K.dr s=true/\m46 K.n K.di K.r K.dr s=itN K s:=by
 obtain ⟨h1,h2⟩:=m46_spec K hn s
 refine ⟨h1,?_⟩
 refine OS.eq (f:=fun i=>K.di.ss i 0) (s:=s) (n:=K.n) ?_ (Qr _ _ _)
 rcases h2 with ⟨i,hi,hv⟩ | ⟨h,hv⟩
 .exact .inl ⟨i,hi.lt,hi.name,hi.first,hv⟩
 .exact .inr ⟨h,hv⟩
theorem m49_eq(K:Kst)(hn:K.r<=1000000)(s:BA):n49 K.n K.di K.r K.dr s=true/\m49 K.n K.di K.r K.dr s=ruN K s:=by
 have hs:(C3 [SV.str s]).ss 0 0=s:=rfl
 obtain ⟨h1,h2⟩:=KJ (l:=l102c77_0 K.r K.dr (C3 [SV.str s]) (K.r:Int)) (f:=fun i=>K.dr.ss i 0) (s:=s) (n:=K.r) (F:=K.r+(K.r:Int).toNat+(0:Int).toNat+8) hn (by omega) (fun f' i hi=>by
  conv=>lhs;unfold l102c77_0
  rw [cdl hi,cdd hi]
  simp only [cond_true,ak,m77,hs,DC]) (fun f'=>by unfold l102c77_0;rw [cdn];rfl)
 exact ⟨by show ((((l102c77_0 K.r K.dr (C3 [SV.str s]) (K.r:Int) (K.r+(K.r:Int).toNat+(0:Int).toNat+8) 0).isSome&&true)&&true)&&true)=true;rw [h1];rfl,h2⟩
def TI(c:Int)(first:Bool):Bool :=
 bif (bif (bif (bif decide (97<=c) then decide (c<=122) else false) then true else (bif decide (65<=c) then decide (c<=90) else false)) then false else true) then (bif first then true else (bif (bif decide (c=45) then false else true) then (bif decide (c<48) then true else decide (57<c)) else false)) else false
theorem Lr{l:Nat->Int->Option (Bool × Bool × Unit)}{b:Nat->Bool}{n F:Nat}(hn:n<=9223372036854775807)(hF:n<F)(step:∀ f' i,i<n->l (f'+1) (i:Int)=cond (b i) (some (true,false,default)) (l f' (aQ.wrap ((i:Int)+1))))(stop:∀ f',l (f'+1) (n:Int)=some (false,default,())) :
  (l F 0).isSome=true/\((∃ i,i<n/\b i=true)/\((l F 0).getD default).fst=true/\((l F 0).getD default).snd.fst=false\/(∀ i,i<n->b i=false)/\((l F 0).getD default).fst=false):=by
 have h:=DL (l:=l) (g:=fun i=>cond (b i) (some (true,false,default)) none) (e:=(false,default,())) (n:=n) hn (fun f' i hi=>by
  rw [step f' i hi]
  cases b i <;> rfl) stop n 0 F (by omega) hF
 have h:l F 0=_:=h
 rw [h]
 refine ⟨rfl,?_⟩
 rcases BI (g:=fun i=>cond (b i) (some (true,false,default)) none) (e:=((false,default,()):Bool × Bool × Unit)) n 0 with ⟨j,x,h1,h2,h3,h4,h5⟩ | ⟨h1,h2⟩
 .rw [h5]
  have h3:cond (b j) (some ((true,false,default):Bool × Bool × Unit)) none=some x:=h3
  cases hb:b j with
  | false=>rw [hb] at h3;cases h3
  | true=>rw [hb] at h3;cases h3;exact .inl ⟨⟨j,by omega,hb⟩,rfl,rfl⟩
 .rw [h2]
  refine .inr ⟨fun i hi=>?_,rfl⟩
  have h3:cond (b i) (some ((true,false,default):Bool × Bool × Unit)) none=none:=h1 i (aX _) (by omega)
  cases hb:b i with
  | false=>rfl
  | true=>rw [hb] at h3;cases h3
theorem Kk{s:BA}:s=({ data:=#[] }:BA)↔s.size=0:=by
 constructor
 .intro h;subst h;rfl
 .intro h
  cases s with
  | mk data =>
   have h:data.size=0:=h
   rw [Array.eq_empty_of_size_eq_zero h]
theorem FL(s:BA)(hs:s.size<=1000000):n45 s=true/\n37 s=true/\m45 s=m37 s/\(m37 s=true->0<s.size):=by
 let d:Dat:={ ii:=fun q x=>((s.data.toList.getD q 0).toNat:Int),ss:=A3.ss,bb:=A3.bb,sn:=A3.sn,sd:=A3.sd }
 obtain ⟨a1,a2⟩:=Lr (l:=l45_0 s s.size d (s.size:Int)) (b:=fun i=>TI (An s i) (decide ((i:Int)=0))) (n:=s.size) (F:=s.size+s.size+(s.size:Int).toNat+(0:Int).toNat+8) (by omega) (by omega) (fun f' i hi=>by
  conv=>lhs;unfold l45_0
  rw [cdl hi,cdd hi]
  rfl) (fun f'=>by unfold l45_0;rw [cdn];rfl)
 obtain ⟨b1,b2⟩:=Lr (l:=l37_0 s) (b:=fun i=>TI (An s i) (decide ((i:Int)=0))) (n:=s.size) (F:=s.size+(0:Int).toNat+8) (by omega) (by omega) (fun f' i hi=>by
  conv=>lhs;unfold l37_0
  rw [cdl hi,cdd hi]
  rfl) (fun f'=>by unfold l37_0;rw [cdn];rfl)
 have e105:m45 s=cond ((l45_0 s s.size d (s.size:Int) (s.size+s.size+(s.size:Int).toNat+(0:Int).toNat+8) 0).getD default).fst ((l45_0 s s.size d (s.size:Int) (s.size+s.size+(s.size:Int).toNat+(0:Int).toNat+8) 0).getD default).snd.fst (bif (bif decide (s=({ data:=#[] }:BA)) then false else true) then decide ((s.size:Int)<=12) else false):=rfl
 have e94:m37 s=cond (bif decide ((s.size:Int)<1) then true else decide (12<(s.size:Int))) false (cond ((l37_0 s (s.size+(0:Int).toNat+8) 0).getD default).fst ((l37_0 s (s.size+(0:Int).toNat+8) 0).getD default).snd.fst true):=rfl
 refine ⟨?_,?_,?_,?_⟩
 .show ((l45_0 s s.size d (s.size:Int) (s.size+s.size+(s.size:Int).toNat+(0:Int).toNat+8) 0).isSome&&true)=true
  rw [a1];rfl
 .show cond (bif decide ((s.size:Int)<1) then true else decide (12<(s.size:Int))) true ((l37_0 s (s.size+(0:Int).toNat+8) 0).isSome&&true)=true
  rw [b1];cases (bif decide ((s.size:Int)<1) then true else decide (12<(s.size:Int))) <;> rfl
 .rw [e105,e94]
  rcases a2 with ⟨⟨i,hi,hb⟩,c1,c2⟩ | ⟨hb,c1⟩ <;> rcases b2 with ⟨⟨i',hi',hb'⟩,d1,d2⟩ | ⟨hb',d1⟩
  .rw [c1,c2,d1,d2]
   cases (bif decide ((s.size:Int)<1) then true else decide (12<(s.size:Int))) <;> rfl
  .rw [hb' i hi] at hb;cases hb
  .rw [hb i' hi'] at hb';cases hb'
  .rw [c1,d1,cond_false,cond_false]
   by_cases h0:s.size=0
   .rw [az (Kk.2 h0),az (show (s.size:Int)<1 by omega)];rfl
   .rw [aj (fun e=>h0 (Kk.1 e)),aj (show ¬ (s.size:Int)<1 by omega)]
    by_cases h12:s.size<=12
    .rw [az (show (s.size:Int)<=12 by omega),aj (show ¬ 12<(s.size:Int) by omega)];rfl
    .rw [aj (show ¬ (s.size:Int)<=12 by omega),az (show 12<(s.size:Int) by omega)];rfl
 .intro h
  rw [e94] at h
  by_cases h0:s.size=0
  .rw [az (show (s.size:Int)<1 by omega)] at h;cases h
  .omega
end Go.Proofs.YtdcdjjogieojhaaGreatDoor
namespace Go.Proofs.YtdcdjjogieojhaaGreatDoor
open Go Go.Sy Go.RowKit
noncomputable def D8(K:Kst)(i:Nat):Option Int:=if m37 (K.di.ss i 0)=false then some 4 else if itN K (K.di.ss i 0)<(i:Int) then some 5 else if m42 (K.di.ii i 1) 1 4=false then some 15 else if m42 (K.di.ii i 2) 0 100000=false then some 2 else none
noncomputable def DB(K:Kst)(i:Nat):Option Int:=if m37 (K.dr.ss i 0)=false then some 4 else if ruN K (K.dr.ss i 0)<(i:Int) then some 5 else if m42 (K.dr.ii i 1) 1 4=false then some 15 else if m42 (K.dr.ii i 2) 0 10000=false\/m42 (K.dr.ii i 3) 0 1000=false then some 2 else if K.dr.ii i 2=0/\K.dr.ii i 3=0 then some 11 else none
noncomputable def BF(K:Kst):Int:=if 30<K.n then 8 else if first (D8 K) 0 K.n 0≠0 then first (D8 K) 0 K.n 0 else if 20<K.r then 8 else first (DB K) 0 K.r 0
theorem FF{l:Nat->Int->Option (Bool × Int × Unit)}{g:Nat->Option Int}{n F:Nat}(hn:n<=1000000)(hF:n<F)(hg:∀ i c,g i=some c->c≠0)(step:∀ f' i,i<n->l (f'+1) (i:Int)=match g i with | some c=>some (true,c,default) | none=>l f' (aQ.wrap ((i:Int)+1)))(stop:∀ f',l (f'+1) (n:Int)=some (false,default,())) :
  (l F 0).isSome=true/\((first g 0 n 0≠0/\((l F 0).getD default).fst=true/\((l F 0).getD default).snd.fst=first g 0 n 0)\/(first g 0 n 0=0/\(∀ i,i<n->g i=none)/\((l F 0).getD default).fst=false)):=by
 have h:=DL (l:=l) (g:=fun i=>(g i).map fun c=>(true,c,default)) (e:=(false,default,())) (n:=n) (by omega) (fun f' i hi=>by
  rw [step f' i hi]
  cases hgi:g i <;> simp [brk,hgi]) stop n 0 F (by omega) hF
 have h:l F 0=_:=h
 rw [h]
 refine ⟨rfl,?_⟩
 rcases BI (g:=g) (e:=(0:Int)) n 0 with ⟨j,c,h1,h2,h3,h4,h5⟩ | ⟨h1,h2⟩
 .have e:first (fun i=>(g i).map fun c=>((true,c,default):Bool × Int × Unit)) (false,default,()) n 0=(true,c,default):=IL (aX _) h2 (by rw [h3];rfl) fun j' a b=>by rw [h4 j' a b];rfl
  rw [h5]
  exact .inl ⟨hg j c h3,by rw [e];rfl,by rw [e];rfl⟩
 .have e:first (fun i=>(g i).map fun c=>((true,c,default):Bool × Int × Unit)) (false,default,()) n 0=(false,default,()):=IK fun j a b=>by rw [h1 j a b];rfl
  exact .inr ⟨h2,fun i hi=>h1 i (aX _) (by omega),by rw [e];rfl⟩
theorem GC{K:Kst}:∀ i c,D8 K i=some c->c≠0:=fun i c h=>by
 unfold D8 at h
 split at h
 .cases h;decide
 .split at h
  .cases h;decide
  .split at h
   .cases h;decide
   .split at h
    .cases h;decide
    .cases h
theorem GD{K:Kst}:∀ i c,DB K i=some c->c≠0:=fun i c h=>by
 unfold DB at h
 split at h
 .cases h;decide
 .split at h
  .cases h;decide
  .split at h
   .cases h;decide
   .split at h
    .cases h;decide
    .split at h
     .cases h;decide
     .cases h
structure Ii (K:Kst):Prop where
 i:∀ i,i<K.n->(K.di.ss i 0).size<=1000000
 r:∀ i,i<K.r->(K.dr.ss i 0).size<=1000000
theorem FD{α:Type}{b:Bool}(x y:α):cond (bif b then false else true) x y=if b=false then x else y:=by cases b <;> rfl
theorem m12_eq(K:Kst)(hn:K.n<=1000000)(hr:K.r<=1000000)(hS:Ii K):n12 K.n K.di K.r K.dr=true/\m12 K.n K.di K.r K.dr=BF K:=by
 obtain ⟨a1,a2⟩:=FF (l:=l12_0 K.n K.di K.r K.dr) (g:=D8 K) (n:=K.n) (F:=(0:Int).toNat+K.n+K.r+8) hn (by omega) GC (fun f' i hi=>by
  conv=>lhs;unfold l12_0
  obtain ⟨q1,q2⟩:=m38_eq K hn (K.di.ss i 0)
  obtain ⟨p1,p2,p3,p4⟩:=FL (K.di.ss i 0) (hS.i i hi)
  rw [cdl hi,cdd hi]
  simp only [cond_true,ak,q1,q2,p2,DC,FD,m39,m40]
  unfold D8
  split
  .rfl
  .split
   .rfl
   .split
    .rfl
    .split <;> rfl) (fun f'=>by unfold l12_0;rw [cdn];rfl)
 obtain ⟨b1,b2⟩:=FF (l:=l12_2 K.n K.di K.r K.dr) (g:=DB K) (n:=K.r) (F:=(0:Int).toNat+K.n+K.r+8) hr (by omega) GD (fun f' i hi=>by
  conv=>lhs;unfold l12_2
  obtain ⟨q1,q2⟩:=m41_eq K hr (K.dr.ss i 0)
  obtain ⟨p1,p2,p3,p4⟩:=FL (K.dr.ss i 0) (hS.r i hi)
  rw [cdl hi,cdd hi]
  simp only [cond_true,ak,q1,q2,p2,DC,FD,m39]
  unfold DB
  split
  .rfl
  .split
   .rfl
   .split
    .rfl
    .cases h1:m42 (K.dr.ii i 2) 0 10000 <;> cases h2:m42 (K.dr.ii i 3) 0 1000 <;> simp
     by_cases h3:K.dr.ii i 2=0 <;> by_cases h4:K.dr.ii i 3=0 <;> simp [h3,h4]) (fun f'=>by unfold l12_2;rw [cdn];rfl)
 have en:n12 K.n K.di K.r K.dr=cond (decide ((30:Int)<(K.n:Int))) true ((l12_0 K.n K.di K.r K.dr ((0:Int).toNat+K.n+K.r+8) 0).isSome&&cond ((l12_0 K.n K.di K.r K.dr ((0:Int).toNat+K.n+K.r+8) 0).getD default).fst true (cond (decide ((20:Int)<(K.r:Int))) true ((l12_2 K.n K.di K.r K.dr ((0:Int).toNat+K.n+K.r+8) 0).isSome&&true))):=rfl
 have em:m12 K.n K.di K.r K.dr=cond (decide ((30:Int)<(K.n:Int))) 8 (cond ((l12_0 K.n K.di K.r K.dr ((0:Int).toNat+K.n+K.r+8) 0).getD default).fst ((l12_0 K.n K.di K.r K.dr ((0:Int).toNat+K.n+K.r+8) 0).getD default).snd.fst (cond (decide ((20:Int)<(K.r:Int))) 8 (cond ((l12_2 K.n K.di K.r K.dr ((0:Int).toNat+K.n+K.r+8) 0).getD default).fst ((l12_2 K.n K.di K.r K.dr ((0:Int).toNat+K.n+K.r+8) 0).getD default).snd.fst 0))):=rfl
 rw [en,em,a1,b1]
 unfold BF
 by_cases h30:30<K.n
 .rw [az (show (30:Int)<(K.n:Int) by omega),if_pos h30];exact ⟨rfl,rfl⟩
 rw [aj (show ¬ (30:Int)<(K.n:Int) by omega),if_neg h30]
 rcases a2 with ⟨c0,c1,c2⟩ | ⟨c0,_,c1⟩
 .rw [c1,c2,if_pos c0];exact ⟨rfl,rfl⟩
 rw [c1,if_neg (fun h=>h c0)]
 by_cases h20:20<K.r
 .rw [az (show (20:Int)<(K.r:Int) by omega),if_pos h20];exact ⟨rfl,rfl⟩
 rw [aj (show ¬ (20:Int)<(K.r:Int) by omega),if_neg h20]
 rcases b2 with ⟨d0,d1,d2⟩ | ⟨d0,_,d1⟩
 .rw [d1,d2];exact ⟨rfl,rfl⟩
 .rw [d1,d0];exact ⟨rfl,rfl⟩
theorem m16_eq(K:Kst)(hn:K.n<=1000000)(hr:K.r<=1000000)(hS:Ii K):n16 K.n K.di K.r K.dr=true/\m16 K.n K.di K.r K.dr=BF K:=by
 obtain ⟨a1,a2⟩:=FF (l:=l16_0 K.n K.di (K.n:Int) K.di K.r K.dr) (g:=D8 K) (n:=K.n) (F:=K.n+(K.n:Int).toNat+(0:Int).toNat+K.r+8) hn (by omega) GC (fun f' i hi=>by
  conv=>lhs;unfold l16_0
  obtain ⟨q1,q2⟩:=m46_eq K hn (K.di.ss i 0)
  obtain ⟨p1,p2,p3,p4⟩:=FL (K.di.ss i 0) (hS.i i hi)
  rw [cdl hi,cdd hi]
  simp only [cond_true,ak,q1,q2,p1,p3,DC,FD,m47,m48]
  unfold D8
  split
  .rfl
  .split
   .rfl
   .rw [show m50=m42 from rfl]
    split
    .rfl
    .split <;> rfl) (fun f'=>by unfold l16_0;rw [cdn];rfl)
 obtain ⟨b1,b2⟩:=FF (l:=l16_3 K.r K.dr (K.r:Int) K.n K.di K.dr) (g:=DB K) (n:=K.r) (F:=K.r+(K.r:Int).toNat+(0:Int).toNat+K.n+8) hr (by omega) GD (fun f' i hi=>by
  conv=>lhs;unfold l16_3
  obtain ⟨q1,q2⟩:=m49_eq K hr (K.dr.ss i 0)
  obtain ⟨p1,p2,p3,p4⟩:=FL (K.dr.ss i 0) (hS.r i hi)
  rw [cdl hi,cdd hi]
  simp only [cond_true,ak,q1,q2,p1,p3,DC,FD,m47]
  unfold DB
  split
  .rfl
  .split
   .rfl
   .rw [show m50=m42 from rfl]
    split
    .rfl
    .cases h1:m42 (K.dr.ii i 2) 0 10000 <;> cases h2:m42 (K.dr.ii i 3) 0 1000 <;> simp
     by_cases h3:K.dr.ii i 2=0 <;> by_cases h4:K.dr.ii i 3=0 <;> simp [h3,h4]) (fun f'=>by unfold l16_3;rw [cdn];rfl)
 have en:n16 K.n K.di K.r K.dr=cond (decide ((30:Int)<(K.n:Int))) true ((l16_0 K.n K.di (K.n:Int) K.di K.r K.dr (K.n+(K.n:Int).toNat+(0:Int).toNat+K.r+8) 0).isSome&&cond ((l16_0 K.n K.di (K.n:Int) K.di K.r K.dr (K.n+(K.n:Int).toNat+(0:Int).toNat+K.r+8) 0).getD default).fst true (cond (decide ((20:Int)<(K.r:Int))) true ((l16_3 K.r K.dr (K.r:Int) K.n K.di K.dr (K.r+(K.r:Int).toNat+(0:Int).toNat+K.n+8) 0).isSome&&cond ((l16_3 K.r K.dr (K.r:Int) K.n K.di K.dr (K.r+(K.r:Int).toNat+(0:Int).toNat+K.n+8) 0).getD default).fst true true))):=by
  first
   | rfl
   | (show cond _ true (_&&cond _ true (cond _ true (_&&true)))=_;cases ((l16_3 K.r K.dr (K.r:Int) K.n K.di K.dr (K.r+(K.r:Int).toNat+(0:Int).toNat+K.n+8) 0).getD default).fst <;> rfl)
 have em:m16 K.n K.di K.r K.dr=cond (decide ((30:Int)<(K.n:Int))) 8 (cond ((l16_0 K.n K.di (K.n:Int) K.di K.r K.dr (K.n+(K.n:Int).toNat+(0:Int).toNat+K.r+8) 0).getD default).fst ((l16_0 K.n K.di (K.n:Int) K.di K.r K.dr (K.n+(K.n:Int).toNat+(0:Int).toNat+K.r+8) 0).getD default).snd.fst (cond (decide ((20:Int)<(K.r:Int))) 8 (cond ((l16_3 K.r K.dr (K.r:Int) K.n K.di K.dr (K.r+(K.r:Int).toNat+(0:Int).toNat+K.n+8) 0).getD default).fst ((l16_3 K.r K.dr (K.r:Int) K.n K.di K.dr (K.r+(K.r:Int).toNat+(0:Int).toNat+K.n+8) 0).getD default).snd.fst 0))):=rfl
 rw [en,em,a1,b1]
 unfold BF
 by_cases h30:30<K.n
 .rw [az (show (30:Int)<(K.n:Int) by omega),if_pos h30];exact ⟨rfl,rfl⟩
 rw [aj (show ¬ (30:Int)<(K.n:Int) by omega),if_neg h30]
 rcases a2 with ⟨c0,c1,c2⟩ | ⟨c0,_,c1⟩
 .rw [c1,c2,if_pos c0];exact ⟨rfl,rfl⟩
 rw [c1,if_neg (fun h=>h c0)]
 by_cases h20:20<K.r
 .rw [az (show (20:Int)<(K.r:Int) by omega),if_pos h20];exact ⟨rfl,rfl⟩
 rw [aj (show ¬ (20:Int)<(K.r:Int) by omega),if_neg h20]
 rcases b2 with ⟨d0,d1,d2⟩ | ⟨d0,_,d1⟩
 .rw [d1,d2];exact ⟨rfl,rfl⟩
 .rw [d1,d0];exact ⟨rfl,rfl⟩
structure SW (K:Kst):Prop where
 n:K.n<=30
 r:K.r<=20
 nm:∀ i,i<K.n->itN K (K.di.ss i 0)=(i:Int)
 ne:∀ i,i<K.n->0<(K.di.ss i 0).size
 kd:∀ i,i<K.n->1<=K.di.ii i 1/\K.di.ii i 1<=4
 bt:∀ i,i<K.n->0<=K.di.ii i 2/\K.di.ii i 2<=100000
 rn:∀ q,q<K.r->ruN K (K.dr.ss q 0)=(q:Int)
 re:∀ q,q<K.r->0<(K.dr.ss q 0).size
 rk:∀ q,q<K.r->1<=K.dr.ii q 1/\K.dr.ii q 1<=4
 rd:∀ q,q<K.r->0<=K.dr.ii q 2/\K.dr.ii q 2<=10000
 us:∀ q,q<K.r->0<=K.dr.ii q 3/\K.dr.ii q 3<=1000
theorem m42_t{x a b:Int}(h:¬ m42 x a b=false):a<=x/\x<=b:=by
 unfold m42 at h
 by_cases h1:a<=x
 .by_cases h2:x<=b
  .exact ⟨h1,h2⟩
  .simp [h1,h2] at h
 .simp [h1] at h
theorem SF{f:Nat->BA}{n i:Nat}(hi:i<n):ix f (f i) n<=(i:Int)/\0<=ix f (f i) n:=by
 rcases Qr f (f i) n with ⟨j,h1,h2,h3,h4⟩ | ⟨h1,h2⟩
 .rw [h4]
  refine ⟨?_,by omega⟩
  rcases Nat.lt_or_ge i j with hh | hh
  .exact absurd rfl (h3 i hh)
  .omega
 .exact absurd rfl (h1 i hi)
theorem QX{K:Kst}(hS:Ii K)(h:BF K=0):SW K:=by
 unfold BF at h
 split at h
 .cases h
 rename_i h30
 split at h
 .rename_i hne;exact absurd h hne
 rename_i hI
 split at h
 .cases h
 rename_i h20
 have hI:first (D8 K) 0 K.n 0=0:=Decidable.not_not.1 hI
 have gI:∀ i,i<K.n->D8 K i=none:=fun i hi=>by
  rcases BI (g:=D8 K) (e:=(0:Int)) K.n 0 with ⟨j,c,h1,h2,h3,h4,h5⟩ | ⟨h1,h2⟩
  .exact absurd (h5.symm.trans hI) (GC j c h3)
  .exact h1 i (aX _) (by omega)
 have gR:∀ i,i<K.r->DB K i=none:=fun i hi=>by
  rcases BI (g:=DB K) (e:=(0:Int)) K.r 0 with ⟨j,c,h1,h2,h3,h4,h5⟩ | ⟨h1,h2⟩
  .exact absurd (h5.symm.trans h) (GD j c h3)
  .exact h1 i (aX _) (by omega)
 have fI:∀ i,i<K.n->m37 (K.di.ss i 0)=true/\(i:Int)<=itN K (K.di.ss i 0)/\(1<=K.di.ii i 1/\K.di.ii i 1<=4)/\(0<=K.di.ii i 2/\K.di.ii i 2<=100000):=fun i hi=>by
  have:=gI i hi
  unfold D8 at this
  split at this;cases this
  rename_i a1
  split at this;cases this
  rename_i a2
  split at this;cases this
  rename_i a3
  split at this;cases this
  rename_i a4
  exact ⟨by simpa using a1,by omega,m42_t a3,m42_t a4⟩
 have fR:∀ i,i<K.r->m37 (K.dr.ss i 0)=true/\(i:Int)<=ruN K (K.dr.ss i 0)/\(1<=K.dr.ii i 1/\K.dr.ii i 1<=4)/\(0<=K.dr.ii i 2/\K.dr.ii i 2<=10000)/\(0<=K.dr.ii i 3/\K.dr.ii i 3<=1000):=fun i hi=>by
  have:=gR i hi
  unfold DB at this
  split at this;cases this
  rename_i a1
  split at this;cases this
  rename_i a2
  split at this;cases this
  rename_i a3
  split at this;cases this
  rename_i a4
  exact ⟨by simpa using a1,by omega,m42_t a3,m42_t (fun e=>a4 (.inl e)),m42_t (fun e=>a4 (.inr e))⟩
 refine ⟨by omega,by omega,fun i hi=>?_,fun i hi=>?_,fun i hi=>(fI i hi).2.2.1,fun i hi=>(fI i hi).2.2.2,fun i hi=>?_,fun i hi=>?_,fun i hi=>(fR i hi).2.2.1,fun i hi=>(fR i hi).2.2.2.1,fun i hi=>(fR i hi).2.2.2.2⟩
 .have h1:=(fI i hi).2.1
  have h2:=(SF (f:=fun i=>K.di.ss i 0) hi).1
  show ix _ _ _=_
  have h1:(i:Int)<=ix (fun i=>K.di.ss i 0) (K.di.ss i 0) K.n:=h1
  omega
 .obtain ⟨p1,p2,p3,p4⟩:=FL (K.di.ss i 0) (hS.i i hi)
  exact p4 (fI i hi).1
 .have h1:=(fR i hi).2.1
  have h2:=(SF (f:=fun i=>K.dr.ss i 0) hi).1
  show ix _ _ _=_
  have h1:(i:Int)<=ix (fun i=>K.dr.ss i 0) (K.dr.ss i 0) K.r:=h1
  omega
 .obtain ⟨p1,p2,p3,p4⟩:=FL (K.dr.ss i 0) (hS.r i hi)
  exact p4 (fR i hi).1
end Go.Proofs.YtdcdjjogieojhaaGreatDoor
namespace Go.Proofs.YtdcdjjogieojhaaGreatDoor
open Go Go.Sy Go.RowKit
theorem Hx{l:Nat->Int->Option (Bool × Bool × Unit)}{p:Nat->Bool}{n F:Nat}(hn:n<=1000000)(hF:n<F)(step:∀ f i,i<n->l (f+1) (i:Int)=cond (p i) (some (true,false,default)) (l f (aQ.wrap ((i:Int)+1))))(stop:∀ f,l (f+1) (n:Int)=some (false,default,())) :
  l F 0=some (true,false,default)\/(l F 0=some (false,default,())/\∀ i,i<n->p i=false):=by
 have h:=DL (l:=l) (g:=fun i=>if p i=true then some (true,false,default) else none) (e:=(false,default,())) (n:=n) (by omega) (fun f i hi=>by
  rw [step f i hi]
  cases p i <;> rfl) stop n 0 F (by omega) hF
 have h:l F 0=_:=h
 rw [h]
 rcases BI (g:=fun i=>if p i=true then some ((true,false,default):Bool × Bool × Unit) else none) (e:=(false,default,())) n 0 with ⟨j,b,h1,h2,h3,h4,h5⟩ | ⟨h1,h2⟩
 .left
  rw [h5]
  split at h3 <;> cases h3
  rfl
 .right
  refine ⟨by rw [h2],fun i hi=>?_⟩
  have:=h1 i (aX _) (by omega)
  cases hp:p i
  .rfl
  .rw [hp] at this;cases this
theorem T1{b c:Bool}:(bif b then true else c)=(b||c):=by cases b <;> rfl
theorem Rz{b c:Bool}:(bif b then c else false)=(b&&c):=by cases b <;> rfl
structure Kt (K:Kst) (n:Nat) (d:Dat):Prop where
 cn:K.n<=32/\(K.n<=6\/30<K.n)
 cr:K.r<=22/\(K.r<=5\/20<K.r)
 ce:n<=202/\(n<=12\/200<n)
 i:∀ i,i<K.n->(K.di.ss i 0).size<=20
 u:∀ i,i<K.r->(K.dr.ss i 0).size<=20
theorem Kt.names{K:Kst}{n:Nat}{d:Dat}(h:Kt K n d):Ii K:=⟨fun i hi=>by have:=h.i i hi;omega,fun i hi=>by have:=h.u i hi;omega⟩
theorem Rd(K:Kst)(n:Nat)(d:Dat):n6 K.n K.di K.r K.dr n d=true/\(m6 K.n K.di K.r K.dr n d=true->Kt K n d):=by
 unfold n6 m6
 generalize hA:(bif (bif (bif (bif (bif (bif (decide (6<((K.n:Int)))) then (decide (((K.n:Int))<=30)) else false) then true else (decide (32<((K.n:Int))))) then true else (bif (decide (5<((K.r:Int)))) then (decide (((K.r:Int))<=20)) else false)) then true else (decide (22<((K.r:Int))))) then true else (bif (decide (12<((n:Int)))) then (decide (((n:Int))<=200)) else false)) then true else (decide (202<((n:Int)))))=A
 cases A with
 | true=>exact ⟨rfl,fun h=>by cases h⟩
 | false =>
  simp only [T1,Rz,Bool.or_eq_false_iff,Bool.and_eq_false_imp,decide_eq_true_eq,decide_eq_false_iff_not] at hA
  obtain ⟨⟨⟨⟨⟨a1,a2⟩,a3⟩,a4⟩,a5⟩,a6⟩:=hA
  have b1:K.n<=32/\(K.n<=6\/30<K.n):=by omega
  have b2:K.r<=22/\(K.r<=5\/20<K.r):=by omega
  have b3:n<=202/\(n<=12\/200<n):=by omega
  simp only [cond_false]
  have t0:=Hx (l:=l6_0 n d K.n K.di K.r K.dr) (p:=fun i=>decide (20<(((K.di.ss i 0).size:Nat):Int))) (n:=K.n) (F:=n+(0:Int).toNat+K.n+K.r+8) (by omega) (by omega) (fun f i hi=>by
   conv=>lhs;unfold l6_0
   rw [cdl hi,cdd hi]
   simp only [cond_true,ak]) (fun f=>by unfold l6_0;rw [cdn];rfl)
  have t1:=Hx (l:=l6_2 n d K.n K.di K.r K.dr) (p:=fun i=>decide (20<(((K.dr.ss i 0).size:Nat):Int))) (n:=K.r) (F:=n+(0:Int).toNat+K.n+K.r+8) (by omega) (by omega) (fun f i hi=>by
   conv=>lhs;unfold l6_2
   rw [cdl hi,cdd hi]
   simp only [cond_true,ak]) (fun f=>by unfold l6_2;rw [cdn];rfl)
  have t2:=Hx (l:=l6_4 n d K.n K.di K.r K.dr) (p:=fun i=>(bif (m7 (d.ii i 0) (d.ii i 1) (d.ss i 2) (d.ss i 3) (d.ss i 4) (d.bb i 5)) then false else true)) (n:=n) (F:=n+(0:Int).toNat+K.n+K.r+8) (by omega) (by omega) (fun f i hi=>by
   conv=>lhs;unfold l6_4
   rw [cdl hi,cdd hi]
   simp only [cond_true,ak]) (fun f=>by unfold l6_4;rw [cdn];rfl)
  have o0:∀ x,l6_0 n d K.n K.di K.r K.dr (n+(0:Int).toNat+K.n+K.r+8) 0=x->o6_0 n d K.n K.di K.r K.dr 0=x:=fun x h=>h
  have o1:∀ x,l6_2 n d K.n K.di K.r K.dr (n+(0:Int).toNat+K.n+K.r+8) 0=x->o6_2 n d K.n K.di K.r K.dr 0=x:=fun x h=>h
  have o2:∀ x,l6_4 n d K.n K.di K.r K.dr (n+(0:Int).toNat+K.n+K.r+8) 0=x->o6_4 n d K.n K.di K.r K.dr 0=x:=fun x h=>h
  rcases t0 with t0 | ⟨t0,c0⟩
  .rw [o0 _ t0];exact ⟨rfl,fun h=>by cases h⟩
  rcases t1 with t1 | ⟨t1,c1⟩
  .rw [o0 _ t0,o1 _ t1];exact ⟨rfl,fun h=>by cases h⟩
  refine ⟨?_,fun _=>⟨b1,b2,b3,fun i hi=>by have:=of_decide_eq_false (c0 i hi);omega,fun i hi=>by have:=of_decide_eq_false (c1 i hi);omega⟩⟩
  rw [o0 _ t0,o1 _ t1]
  rcases t2 with t2 | ⟨t2,c2⟩ <;> rw [o2 _ t2] <;> rfl
theorem TK(K:Kst)(hn:K.n<=1000000)(hr:K.r<=1000000):n15 K.n K.di K.r K.dr=true/\m15 K.n K.di K.r K.dr=(K.n,K.di,K.r,K.dr):=by
 constructor
 .unfold n15
  simp only [ax,ay,decide_true,Bool.and_true]
  rw [az (show K.n<=1073741824 by omega),az (show K.r<=1073741824 by omega)];rfl
 .unfold m15
  rw [Lp,Lp,ax,ax]
end Go.Proofs.YtdcdjjogieojhaaGreatDoor
namespace Go.Proofs.YtdcdjjogieojhaaGreatDoor
open Go Go.Sy
set_option maxRecDepth 100000
theorem NL{s:BA}{x:List UInt8}(h:bts s=x ++ [10]):m52 s ⟨#[10]⟩=(Af x,true):=by
 unfold m52
 show (Af (Lib.trimSuffix (bts s) [10]),Lib.hasSuffix (bts s) [10])=_
 have hs:Lib.hasSuffix (bts s) [10]=true:=by
  unfold Lib.hasSuffix
  rw [h,List.isSuffixOf_iff_suffix]
  exact List.suffix_append _ _
 unfold Lib.trimSuffix
 rw [hs,if_pos rfl,h]
 simp
theorem PF{s:BA}(h:∀ x,bts s≠x ++ [10]):m52 s ⟨#[10]⟩=(s,false):=by
 unfold m52
 show (Af (Lib.trimSuffix (bts s) [10]),Lib.hasSuffix (bts s) [10])=_
 have hs:Lib.hasSuffix (bts s) [10]=false:=by
  cases hh:Lib.hasSuffix (bts s) [10] with
  | false=>rfl
  | true =>
   unfold Lib.hasSuffix at hh
   rw [List.isSuffixOf_iff_suffix] at hh
   obtain ⟨x,hx⟩:=hh
   exact absurd hx.symm (h x)
 unfold Lib.trimSuffix
 rw [hs]
 simp [D2]
def B3:List (List UInt8)->List (List UInt8)
 | []=>[]
 | x :: r=>if r=[] then (if x=[] then [] else [x]) else (x ++ [10]) :: B3 r
theorem HO{x:List UInt8}:B3 [x]=if x=[] then [] else [x]:=by rw [B3,if_pos rfl]
theorem LX{x y:List UInt8}{r:List (List UInt8)}:B3 (x :: y :: r)=(x ++ [10]) :: B3 (y :: r):=by rw [B3,if_neg (by simp)]
theorem Oe(c:UInt8)(l:List UInt8):AV c l≠[]:=fun e=>by have:=GE c l;rw [e] at this;simp at this
theorem RJ(c:UInt8)(l:List UInt8):∀ x∈AV c l,c ∉ x:=by
 refine GH (c:=c) (p:=fun l=>∀ x∈AV c l,c ∉ x) (fun x hx z hz=>?_) (fun x y hx hy z hz=>?_) l
 .rw [BD hx] at hz;simp at hz;rw [hz];exact hx
 .rw [BC y hx] at hz
  rcases List.mem_cons.1 hz with h | h
  .rw [h];exact hx
  .exact hy z h
theorem HG(c:UInt8)(l:List UInt8):∀ x∈AV c l,x.length<=l.length:=by
 refine GH (c:=c) (p:=fun l=>∀ x∈AV c l,x.length<=l.length) (fun x hx z hz=>?_) (fun x y hx hy z hz=>?_) l
 .rw [BD hx] at hz;simp at hz;rw [hz];exact ay _
 .rw [BC y hx] at hz
  simp only [List.length_append,List.length_cons]
  rcases List.mem_cons.1 hz with h | h
  .rw [h];omega
  .have:=hy z h;omega
theorem KL{x:List UInt8}{r:List (List UInt8)}(h:r≠[]):B3 (x :: r)=(x ++ [10]) :: B3 r:=by rw [B3,if_neg h]
theorem Hi:∀ (g:Nat) (s:BA),s.size<g->EL g s=(B3 (AV 10 (bts s))).map Af
 | 0,s,h=>by omega
 | g+1,s,h=>by
  have hsz:=B6 s
  unfold EL
  have hm:m79 s 10=Lib.indexByte (bts s) 10:=by unfold m79;rw [show (10:Int).toNat.toUInt8=10 by decide]
  rcases Ga 10 (bts s) with hn | ⟨x,y,e,hx⟩
  .rw [BD hn,HO,hm,LN hn]
   by_cases h0:0<s.size
   .have he:bts s≠[]:=fun e=>by rw [e,List.length_nil] at hsz;omega
    rw [if_pos h0,if_neg (show ¬ ((0:Int)<=-1) by omega),if_neg he]
    exact congrArg (fun z=>[z]) (D2 s).symm
   .have he:bts s=[]:=List.length_eq_zero_iff.1 (by omega)
    rw [if_neg h0,if_pos he]
    rfl
  .have hlen:s.size=x.length+(y.length+1):=by rw [hsz,e];simp
   rw [if_pos (show 0<s.size by omega),hm,e,Oo hx,if_pos (show (0:Int)<=x.length by omega),BC y hx,KL (Oe _ _),List.map_cons]
   rw [show ((x.length:Int)+1).toNat=x.length+1 by omega]
   have e1:s.extract 0 (x.length+1)=Af (x ++ [10]):=by
    apply DA
    rw [Lib.extract_from_zero,show s.data.toList=x ++ 10 :: y from e]
    rw [show x ++ 10 :: y=(x ++ [10]) ++ y by simp,List.take_left' (by simp)]
    rfl
   have e2:bts (s.extract (x.length+1) s.size)=y:=by
    show (s.extract (x.length+1) s.size).data.toList=y
    rw [Lib.extract_to_end,show s.data.toList=x ++ 10 :: y from e]
    rw [show x ++ 10 :: y=(x ++ [10]) ++ y by simp,List.drop_left' (by simp)]
   have e3:(s.extract (x.length+1) s.size).size=y.length:=by rw [B6,e2]
   rw [Hi g _ (by omega),e1,e2]
theorem S1(s:BA):N78 s=(B3 (AV 10 (bts s))).length:=by
 unfold N78
 rw [Hi _ s (by omega),List.length_map]
theorem S2(s:BA)(i:Nat):(Y78 s).ss i 0=Af ((B3 (AV 10 (bts s))).getD i []):=by
 unfold Y78
 rw [Hi _ s (by omega)]
 show ((B3 (AV 10 (bts s))).map Af).getD i ByteArray.empty=_
 simp only [List.getD_eq_getElem?_getD,List.getElem?_map]
 cases (B3 (AV 10 (bts s)))[i]? with
 | none=>rfl
 | some t=>rfl
noncomputable def Cj:List (List UInt8)->Nat->Nat->Dat->Nat->Dat->Nat ⊕ (Nat × Dat × Nat × Dat)
 | [],k,nI,dI,nR,dR=>.inr (nI,dI,nR,dR)
 | x :: r,k,nI,dI,nR,dR=>if r=[] then (if x=[] then .inr (nI,dI,nR,dR) else .inl (k+1)) else match Bd (AV 32 x) nI dI nR dR with
  | some (a,b,c,d)=>Cj r (k+1) a b c d
  | none=>.inl (k+1)
theorem Ey{x:List UInt8}{k nI nR:Nat}{dI dR:Dat}:Cj [x] k nI dI nR dR=if x=[] then .inr (nI,dI,nR,dR) else .inl (k+1):=by rw [Cj,if_pos rfl]
theorem D4{x:List UInt8}{r:List (List UInt8)}(h:r≠[]){k nI nR:Nat}{dI dR:Dat}:Cj (x :: r) k nI dI nR dR=match Bd (AV 32 x) nI dI nR dR with
  | some (a,b,c,d)=>Cj r (k+1) a b c d
  | none=>.inl (k+1):=by rw [Cj,if_neg h]
theorem Jt{w:List (List UInt8)}{nI nR a c:Nat}{dI dR b d:Dat}(h:Bd w nI dI nR dR=some (a,b,c,d)):a<=nI+1/\c<=nR+1:=by
 unfold Bd at h
 split at h
 .split at h
  .rename_i b' _
   cases hn:C4 b' with
   | none=>rw [hn] at h;cases h
   | some v=>rw [hn] at h;cases h;exact ⟨ay _,by omega⟩
  .cases h
 .split at h
  .rename_i b' u' _
   cases hn:C4 b' with
   | none=>rw [hn] at h;cases h
   | some v =>
    cases hu:C4 u' with
    | none=>rw [hn,hu] at h;cases h
    | some z=>rw [hn,hu] at h;cases h;exact ⟨by omega,ay _⟩
  .cases h
 .cases h
theorem MM:∀ (P:List (List UInt8)) (k nI nR:Nat) (dI dR:Dat) (a c:Nat) (b d:Dat),Cj P k nI dI nR dR=.inr (a,b,c,d)->a<=nI+P.length/\c<=nR+P.length
 | [],k,nI,nR,dI,dR,a,c,b,d,h=>by rw [Cj] at h;cases h;exact ⟨by omega,by omega⟩
 | [x],k,nI,nR,dI,dR,a,c,b,d,h=>by
  rw [Ey] at h
  split at h <;> cases h
  exact ⟨by omega,by omega⟩
 | x :: y :: r,k,nI,nR,dI,dR,a,c,b,d,h=>by
  rw [D4 (by simp)] at h
  cases hs:Bd (AV 32 x) nI dI nR dR with
  | none=>rw [hs] at h;cases h
  | some p =>
   obtain ⟨a',b',c',d'⟩:=p
   rw [hs] at h
   have h1:=Jt hs
   have h2:=MM (y :: r) _ _ _ _ _ _ _ _ _ h
   simp only [List.length_cons] at h2 ⊢
   omega
theorem l17_run{b1 b2:Int}{Y:Dat}:∀ (P:List (List UInt8)) (kk k nI nR:Nat) (dI dR:Dat),P≠[]->(∀ x∈P,(10:UInt8) ∉ x)->(∀ x∈P,x.length<=1000000)->nI<=k->nR<=k->k+P.length<=100000->(∀ i,i<(B3 P).length->Y.ss (kk+i) 0=Af ((B3 P).getD i [])) ->
  match Cj P k nI dI nR dR with
  | .inr (a,b,c,d)=>∃ k':Int,l17_0 b1 b2 Y (B3 P).length kk nI nR k nI dI nR dR=some (true,(a,c,k',a,b,c,d),default)
  | .inl e=>∃ r,l17_0 b1 b2 Y (B3 P).length kk nI nR k nI dI nR dR=some (false,default,r)/\r.1=e/\r.2.1=7
 | [],_,_,_,_,_,_,h,_,_,_,_,_,_=>absurd rfl h
 | [x],kk,k,nI,nR,dI,dR,_,hx,hs,hn,hn2,hk,hY=>by
  rw [Ey]
  rw [HO] at hY ⊢
  by_cases he:x=[]
  .rw [if_pos he,if_pos he]
   exact ⟨_,rfl⟩
  .rw [if_neg he,if_neg he]
   rw [if_neg he] at hY
   have hy:=hY 0 (by simp)
   rw [Nat.add_zero,List.getD_cons_zero] at hy
   have hno:∀ z,bts (Af x)≠z ++ [10]:=fun z e=>hx x (by simp) (by have e2:x=z ++ [10]:=e;rw [e2];simp)
   have hsz:n52 (Af x)=true:=by unfold n52;rw [decide_eq_true_eq,AN];have:=hs x (by simp);omega
   have hw:aQ.wrap ((k:Int)+1)=((k+1:Nat):Int):=by simp only [List.length_cons,List.length_nil] at hk;rw [wrp (by omega) (by omega)];omega
   dsimp only
   rw [show [x].length=0+1 from rfl]
   unfold l17_0
   have e:=PF hno
   have e:m52 (Af x) ({ data:=#[10] }:BA)=(Af x,false):=e
   rw [hy,hsz,e,hw]
   exact ⟨_,rfl,rfl,rfl⟩
 | x :: y :: r,kk,k,nI,nR,dI,dR,_,hx,hs,hn,hn2,hk,hY=>by
  rw [D4 (by simp)]
  rw [LX] at hY ⊢
  have hy:=hY 0 (by simp)
  rw [Nat.add_zero,List.getD_cons_zero] at hy
  simp only [List.length_cons] at hk
  have hxl:=hs x (by simp)
  have hsz:n52 (Af (x ++ [10]))=true:=by unfold n52;rw [decide_eq_true_eq,AN];simp;omega
  have e:=NL (s:=Af (x ++ [10])) (x:=x) rfl
  have e:m52 (Af (x ++ [10])) ({ data:=#[10] }:BA)=(Af x,true):=e
  have hw:aQ.wrap ((k:Int)+1)=((k+1:Nat):Int):=by rw [wrp (by omega) (by omega)];omega
  have hY':∀ i,i<(B3 (y :: r)).length->Y.ss (kk+1+i) 0=Af ((B3 (y :: r)).getD i []):=fun i hi=>by
   have:=hY (i+1) (by simp only [List.length_cons];omega)
   rw [List.getD_cons_succ] at this
   rw [show kk+1+i=kk+(i+1) by omega];exact this
  obtain ⟨p1,p2⟩:=Pr (s:=Af x) (by rw [AN];exact hxl) (nI:=nI) (nR:=nR) (dI:=dI) (dR:=dR) (by omega) (by omega)
  have ih:=fun a c b d ha hc=>l17_run (b1:=b1) (b2:=b2) (Y:=Y) (y :: r) (kk+1) (k+1) a c b d (by simp) (fun z hz=>hx z (by simp at hz ⊢;exact .inr hz)) (fun z hz=>hs z (by simp at hz ⊢;exact .inr hz)) ha hc (by simp only [List.length_cons];omega) hY'
  rw [show ((x ++ [10]) :: B3 (y :: r)).length=(B3 (y :: r)).length+1 from rfl]
  unfold l17_0
  rw [hy,hsz,e,hw]
  have hb:bts (Af x)=x:=rfl
  rw [hb] at p2
  cases hst:Bd (AV 32 x) nI dI nR dR with
  | none =>
   rw [hst] at p2
   have p2:(m53 nI nI dI nR nR dR (Af x)).1=false:=p2
   rw [p1,p2]
   exact ⟨_,rfl,rfl,rfl⟩
  | some q =>
   obtain ⟨a,b,c,d⟩:=q
   rw [hst] at p2
   have p2:m53 nI nI dI nR nR dR (Af x)=(true,a,c,a,b,c,d):=p2
   have hle:=Jt hst
   rw [p1,p2]
   exact ih a c b d (by omega) (by omega)
end Go.Proofs.YtdcdjjogieojhaaGreatDoor
namespace Go.Proofs.YtdcdjjogieojhaaGreatDoor
open Go Go.Sy
set_option maxRecDepth 100000
theorem l20_run{T:Nat}{D:Dat}{w:List (List UInt8)}(hT:T=w.length)(hD:∀ q,q<T->D.ss q 0=Af (w.getD q []))(hl:∀ q,(w.getD q []).length<=1000000)(hTs:T<=100001) :
  ∀ (k i g nI nR:Nat) (dI dR:Dat),i+k+1=T->k<g->nI<=i->nR<=i ->
   (∃ (e:Nat) (r:Int × Int × Nat × Nat × Nat × Dat × Nat × Dat),l20_0 T D g (i:Int) nI nR nI dI nR dR=some (true,r,default)/\r.1=e/\r.2.1=7/\Cj (w.drop i) i nI dI nR dR=.inl e) \/
   ∃ a b c d,l20_0 T D g (i:Int) nI nR nI dI nR dR=some (false,default,(a,c,a,b,c,d))/\Cj (w.drop i) i nI dI nR dR=if w.getD (T - 1) []=[] then .inr (a,b,c,d) else .inl T
 | 0,i,g,nI,nR,dI,dR,hi,hg,hn,hn2=>by
  obtain ⟨g,rfl⟩:∃ g',g=g'+1:=⟨g - 1,by omega⟩
  have hlt:i<w.length:=by omega
  have hgd:w.getD i []=w[i]:=by rw [List.getD_eq_getElem?_getD,aq hlt];rfl
  have hd:w.drop i=[w.getD i []]:=by rw [List.drop_eq_getElem_cons hlt,hgd,List.drop_eq_nil_of_le (by omega)]
  have hw2:aQ.wrap ((T:Int) - 1)=((T - 1:Nat):Int):=by rw [wrp (by omega) (by omega)];omega
  refine .inr ⟨nI,dI,nR,dR,?_,?_⟩
  .unfold l20_0
   rw [hw2,df (show ¬ ((i:Int)<((T - 1:Nat):Int)) by omega)]
   rfl
  .rw [hd,Ey,show T - 1=i by omega,show i+1=T by omega]
 | k+1,i,g,nI,nR,dI,dR,hi,hg,hn,hn2=>by
  obtain ⟨g,rfl⟩:∃ g',g=g'+1:=⟨g - 1,by omega⟩
  have hlt:i<w.length:=by omega
  have hgd:w.getD i []=w[i]:=by rw [List.getD_eq_getElem?_getD,aq hlt];rfl
  have hd:w.drop i=w.getD i [] :: w.drop (i+1):=by rw [List.drop_eq_getElem_cons hlt,hgd]
  have hne:w.drop (i+1)≠[]:=fun e=>by
   have:=congrArg List.length e
   rw [List.length_drop,List.length_nil] at this
   omega
  have hw:aQ.wrap ((i:Int)+1)=((i+1:Nat):Int):=by rw [wrp (by omega) (by omega)];omega
  have hw2:aQ.wrap ((T:Int) - 1)=((T - 1:Nat):Int):=by rw [wrp (by omega) (by omega)];omega
  obtain ⟨p1,p2⟩:=QV (s:=Af (w.getD i [])) (by rw [AN];exact hl i) (nI:=nI) (nR:=nR) (dI:=dI) (dR:=dR) (by omega) (by omega)
  have hb:bts (Af (w.getD i []))=w.getD i []:=rfl
  rw [hb] at p2
  rw [hd,D4 hne]
  unfold l20_0
  simp only [ak]
  rw [hw,hw2,hD i (by omega),dt (show (i:Int)<((T - 1:Nat):Int) by omega),dt (show (0:Int)<=i/\(i:Int)<T by omega),p1]
  cases hst:Bd (AV 32 (w.getD i [])) nI dI nR dR with
  | none =>
   rw [hst] at p2
   have p2:(m55 nI nI dI nR nR dR (Af (w.getD i []))).1=false:=p2
   rw [p2]
   exact .inl ⟨i+1,_,rfl,rfl,rfl,rfl⟩
  | some q =>
   obtain ⟨a,b,c,d⟩:=q
   rw [hst] at p2
   have p2:m55 nI nI dI nR nR dR (Af (w.getD i []))=(true,a,c,a,b,c,d):=p2
   have hle:=Jt hst
   rw [p2]
   exact l20_run hT hD hl hTs k (i+1) g a c b d (by omega) (by omega) (by omega) (by omega)
def NmB(n:Nat)(d:Dat):Prop:=∀ i,i<n->(d.ss i 0).size<=1000000
theorem OB{n:Nat}{d e:Dat}(h:NmB n d)(he:(e.ss 0 0).size<=1000000):NmB (n+1) (d.app n e):=fun i hi=>by
 by_cases hlt:i<n
 .rw [Ed hlt];exact h i hlt
 .rw [Ec (by omega),show i - n=0 by omega];exact he
theorem MG{x:List UInt8}(hx:x.length<=1000000){nI nR a c:Nat}{dI dR b d:Dat}(hI:NmB nI dI)(hR:NmB nR dR)(h:Bd (AV 32 x) nI dI nR dR=some (a,b,c,d)):NmB a b/\NmB c d:=by
 have hle:=DW 32 x 1
 unfold Bd at h
 split at h
 .rename_i t nm kd b' hw
  rw [hw,List.getD_cons_succ,List.getD_cons_zero] at hle
  split at h
  .cases hn:C4 b' with
   | none=>rw [hn] at h;cases h
   | some v =>
    rw [hn] at h;cases h
    exact ⟨OB hI (by show (Af nm).size<=_;rw [AN];omega),hR⟩
  .cases h
 .rename_i t nm kd b' u' hw
  rw [hw,List.getD_cons_succ,List.getD_cons_zero] at hle
  split at h
  .cases hn:C4 b' with
   | none=>rw [hn] at h;cases h
   | some v =>
    cases hu:C4 u' with
    | none=>rw [hn,hu] at h;cases h
    | some z =>
     rw [hn,hu] at h;cases h
     exact ⟨hI,OB hR (by show (Af nm).size<=_;rw [AN];omega)⟩
  .cases h
 .cases h
theorem HU:∀ (P:List (List UInt8)) (k nI nR:Nat) (dI dR:Dat) (a c:Nat) (b d:Dat),(∀ x∈P,x.length<=1000000)->NmB nI dI->NmB nR dR->Cj P k nI dI nR dR=.inr (a,b,c,d)->NmB a b/\NmB c d
 | [],k,nI,nR,dI,dR,a,c,b,d,hx,hI,hR,h=>by rw [Cj] at h;cases h;exact ⟨hI,hR⟩
 | [x],k,nI,nR,dI,dR,a,c,b,d,hx,hI,hR,h=>by
  rw [Ey] at h
  split at h <;> cases h
  exact ⟨hI,hR⟩
 | x :: y :: r,k,nI,nR,dI,dR,a,c,b,d,hx,hI,hR,h=>by
  rw [D4 (by simp)] at h
  cases hs:Bd (AV 32 x) nI dI nR dR with
  | none=>rw [hs] at h;cases h
  | some p =>
   obtain ⟨a',b',c',d'⟩:=p
   rw [hs] at h
   obtain ⟨h1,h2⟩:=MG (hx x (by simp)) hI hR hs
   exact HU (y :: r) _ _ _ _ _ _ _ _ _ (fun z hz=>hx z (by simp at hz ⊢;exact .inr hz)) h1 h2 h
noncomputable def FN(s:BA):Nat × Dat × Nat × Dat × Int × Int:=match Cj (AV 10 (bts s)) 0 0 A3 0 A3 with
 | .inl e=>(0,A3,0,A3,(e:Int),7)
 | .inr (a,b,c,d)=>if BF ⟨a,b,c,d⟩=0 then (a,b,c,d,0,0) else (0,A3,0,A3,0,BF ⟨a,b,c,d⟩)
theorem Pn{s:BA}(h:60000<s.size):n17 s=true/\n20 s=true/\m17 s=(0,A3,0,A3,0,8)/\m20 s=(0,A3,0,A3,0,8):=by
 refine ⟨?_,?_,?_,?_⟩
 .unfold n17;rw [dt (show (60000:Int)<s.size by omega)];rfl
 .unfold n20;rw [dt (show (60000:Int)<s.size by omega)];rfl
 .unfold m17;rw [dt (show (60000:Int)<s.size by omega)];rfl
 .unfold m20;rw [dt (show (60000:Int)<s.size by omega)];rfl
theorem Fu{s:BA}(h:s.size<=60000){a c:Nat}{b d:Dat}(hw:Cj (AV 10 (bts s)) 0 0 A3 0 A3=.inr (a,b,c,d)):a<=60001/\c<=60001/\Ii ⟨a,b,c,d⟩:=by
 have hle:=Kx 10 (bts s)
 rw [<- B6] at hle
 obtain ⟨h1,h2⟩:=MM _ _ _ _ _ _ _ _ _ _ hw
 obtain ⟨h3,h4⟩:=HU _ _ _ _ _ _ _ _ _ _ (fun x hx=>by have:=HG 10 (bts s) x hx;rw [<- B6] at this;omega) (fun i hi=>by omega) (fun i hi=>by omega) hw
 exact ⟨by omega,by omega,⟨h3,h4⟩⟩
theorem Jb{s:BA}(h:s.size<=60000):n17 s=true/\m17 s=FN s:=by
 have hle:=Kx 10 (bts s)
 rw [<- B6] at hle
 have hr:=l17_run (b1:=0) (b2:=0) (Y:=Y78 s) (AV 10 (bts s)) 0 0 0 0 A3 A3 (Oe _ _) (RJ _ _) (fun x hx=>by have:=HG 10 (bts s) x hx;rw [<- B6] at this;omega) (ay _) (ay _) (by omega) (fun i _=>by rw [ax];exact S2 s i)
 rw [<- S1] at hr
 have hok:ok78 s=true:=by unfold ok78;rw [decide_eq_true_eq];omega
 unfold n17 m17 FN m51 o17_0
 rw [df (show ¬ ((60000:Int)<s.size) by omega),hok]
 cases hw:Cj (AV 10 (bts s)) 0 0 A3 0 A3 with
 | inl e =>
  rw [hw] at hr
  obtain ⟨⟨r0,r1,r2⟩,hr1,hr2,hr3⟩:=hr
  dsimp only at hr2 hr3
  subst hr2 hr3
  rw [show ((0:Nat):Int)=0 from rfl] at hr1
  rw [hr1]
  exact ⟨rfl,rfl⟩
 | inr p =>
  obtain ⟨a,b,c,d⟩:=p
  rw [hw] at hr
  dsimp only at hr
  rw [show ((0:Nat):Int)=0 from rfl] at hr
  obtain ⟨k',hr⟩:=hr
  obtain ⟨h1,h2,h3⟩:=Fu h hw
  obtain ⟨t1,t2⟩:=m16_eq ⟨a,b,c,d⟩ (show a<=1000000 by omega) (show c<=1000000 by omega) h3
  dsimp only at t1 t2
  rw [hr]
  simp only [aw,av,ax,t1,t2]
  rw [dt (ay a),dt (ay c)]
  by_cases h8:BF ⟨a,b,c,d⟩=0
  .rw [dt h8,if_pos h8]
   exact ⟨rfl,rfl⟩
  .rw [df h8,if_neg h8]
   exact ⟨rfl,rfl⟩
theorem Po{s:BA}(h:s.size<=60000):n20 s=true/\m20 s=FN s:=by
 have hle:=Kx 10 (bts s)
 rw [<- B6] at hle
 have hpos:=GE 10 (bts s)
 obtain ⟨c1,c2,c3⟩:=Og (s:=s) (c:=10) (a:=10) rfl (by omega)
 have hr:=l20_run (T:=(m33 s 10).1) (D:=(m33 s 10).2) (w:=AV 10 (bts s)) c2 (fun q hq=>c3 q (by omega)) (fun q=>by have:=DW 10 (bts s) q;rw [<- B6] at this;omega) (by omega) ((m33 s 10).1 - 1) 0 ((m33 s 10).1+(0:Int).toNat+0+0+0+0+8) 0 0 A3 A3 (by omega) (by omega) (ay _) (ay _)
 rw [List.drop_zero,show ((0:Nat):Int)=0 from rfl] at hr
 have ho:o20_0 (m33 s 10).1 (m33 s 10).2 0 0 0 0 A3 0 A3=l20_0 (m33 s 10).1 (m33 s 10).2 ((m33 s 10).1+(0:Int).toNat+0+0+0+0+8) 0 0 0 0 A3 0 A3:=rfl
 rw [<- ho] at hr
 have hw2:aQ.wrap (((m33 s 10).1:Int) - 1)=(((m33 s 10).1 - 1:Nat):Int):=by rw [wrp (by omega) (by omega)];omega
 unfold n20 m20 FN
 rw [df (show ¬ ((60000:Int)<s.size) by omega),c1,hw2]
 simp only [ak]
 simp only [c3 ((m33 s 10).1 - 1) (by omega)]
 rcases hr with ⟨e,⟨r0,r1,r2⟩,hr1,hr2,hr3,hr4⟩ | ⟨a,b,c,d,hr1,hr2⟩
 .dsimp only at hr2 hr3
  subst hr2 hr3
  rw [hr1,hr4]
  exact ⟨rfl,rfl⟩
 .rw [hr1,hr2]
  by_cases hlast:(AV 10 (bts s)).getD ((m33 s 10).1 - 1) []=[]
  .rw [if_pos hlast] at hr2 ⊢
   obtain ⟨h1,h2,h3⟩:=Fu h hr2
   obtain ⟨t1,t2⟩:=m12_eq ⟨a,b,c,d⟩ (show a<=1000000 by omega) (show c<=1000000 by omega) h3
   dsimp only at t1 t2
   rw [hlast]
   simp only [aw,av,ax,t1,t2]
   rw [dt (show (0:Int)<=(((m33 s 10).1 - 1:Nat):Int)/\(((m33 s 10).1 - 1:Nat):Int)<((m33 s 10).1:Int) by omega),dt (ay a),dt (ay c),dt (show Af []=({ data:=#[] }:BA) from rfl)]
   by_cases h8:BF ⟨a,b,c,d⟩=0
   .rw [dt h8,if_pos h8]
    exact ⟨rfl,rfl⟩
   .rw [df h8,if_neg h8]
    exact ⟨rfl,rfl⟩
  .rw [if_neg hlast]
   have hne:¬ (Af ((AV 10 (bts s)).getD ((m33 s 10).1 - 1) [])=({ data:=#[] }:BA)):=fun e=>hlast (MI (m:=[]) e)
   rw [df hne,dt (show (0:Int)<=(((m33 s 10).1 - 1:Nat):Int)/\(((m33 s 10).1 - 1:Nat):Int)<((m33 s 10).1:Int) by omega)]
   exact ⟨rfl,rfl⟩
end Go.Proofs.YtdcdjjogieojhaaGreatDoor
namespace Go.Proofs.YtdcdjjogieojhaaGreatDoor
open Go Go.Sy
set_option maxRecDepth 100000
def Ig(s:BA):Prop:=(32:UInt8) ∉ bts s/\(10:UInt8) ∉ bts s
theorem I2(s t:BA):bts (s ++ t)=bts s ++ bts t:=Bv s t
theorem IE:∀ (l:List BA),l≠[]->(∀ x∈l,(32:UInt8) ∉ bts x)->AV 32 (bts (Bw l))=l.map bts
 | [],h,_=>absurd rfl h
 | [x],_,h=>by rw [Dv,BD (h x (by simp))];rfl
 | x :: y :: l,_,h=>by
  rw [CW,I2,I2]
  show AV 32 (bts x ++ 32 :: bts (Bw (y :: l)))=_
  rw [BC _ (h x (by simp)),IE (y :: l) (by simp) fun z hz=>h z (by simp at hz ⊢;exact .inr hz)]
  rfl
theorem M2:∀ (l:List BA),(∀ x∈l,(10:UInt8) ∉ bts x)->(10:UInt8) ∉ bts (Bw l)
 | [],_=>by intro h;cases h
 | [x],h=>by rw [Dv];exact h x (by simp)
 | x :: y :: l,h=>by
  rw [CW,I2,I2]
  intro hm
  rcases List.mem_append.1 hm with h1 | h1
  .exact h x (by simp) h1
  .rcases List.mem_cons.1 (show (10:UInt8)∈32 :: bts (Bw (y :: l)) from h1) with h2 | h2
   .cases h2
   .exact M2 (y :: l) (fun z hz=>h z (by simp at hz ⊢;exact .inr hz)) h2
theorem Gb(a:Int):Ig (Af (Lib.itoa a)):=⟨Ow (by decide) a,Ow (by decide) a⟩
theorem l37_run{s:BA}(hs:s.size<=1000):∀ (k i g:Nat),i+k=s.size->k<g->∃ r,l37_0 s g (i:Int)=some r/\(r.1=false->∀ b∈(bts s).drop i,b≠32/\b≠10)/\(r.1=true->r.2.1=false)
 | 0,i,g,hi,hg=>by
  obtain ⟨g,rfl⟩:∃ g',g=g'+1:=⟨g - 1,by omega⟩
  unfold l37_0
  rw [df (show ¬ ((i:Int)<s.size) by omega),List.drop_eq_nil_of_le (by rw [<- B6];omega)]
  exact ⟨_,rfl,fun _ b hb=>(by cases hb),fun h=>(by cases h)⟩
 | k+1,i,g,hi,hg=>by
  obtain ⟨g,rfl⟩:∃ g',g=g'+1:=⟨g - 1,by omega⟩
  have hlt:i<(bts s).length:=by rw [<- B6];omega
  obtain ⟨b,hb⟩:∃ b,(bts s)[i]? = some b:=⟨_,aq hlt⟩
  have hby:=Ee hb
  have hd:(bts s).drop i=b :: (bts s).drop (i+1):=by rw [List.drop_eq_getElem_cons hlt];congr 1;rw [aq hlt] at hb;cases hb;rfl
  have hw:aQ.wrap ((i:Int)+1)=((i+1:Nat):Int):=wrS (show i<s.size by omega) (by omega)
  obtain ⟨r,hr,h1,h2⟩:=l37_run hs k (i+1) g (by omega) (by omega)
  unfold l37_0
  simp only [ak,hby,hw]
  rw [dt (show (i:Int)<s.size by omega),dt (show (0:Int)<=i/\(i:Int)<s.size by omega),hd]
  simp only [cond_true]
  obtain ⟨c,hc⟩:∃ c,(bif (bif (bif (bif (decide ((97:Int)<=(b.toNat:Int))) then (decide ((b.toNat:Int)<=122)) else false) then true else (bif (decide ((65:Int)<=(b.toNat:Int))) then (decide ((b.toNat:Int)<=90)) else false)) then false else true) then (bif (decide ((i:Int)=0)) then true else (bif (bif (decide ((b.toNat:Int)=45)) then false else true) then (bif (decide ((b.toNat:Int)<48)) then true else (decide ((57:Int)<(b.toNat:Int)))) else false)) else false)=c:=⟨_,rfl⟩
  rw [hc]
  cases c with
  | true=>exact ⟨_,rfl,fun h=>(by cases h),fun _=>rfl⟩
  | false =>
   refine ⟨r,hr,fun h b' hb'=>?_,h2⟩
   rcases List.mem_cons.1 hb' with e | e
   .subst e
    constructor
    .intro e;subst e;simp at hc
    .intro e;subst e;simp at hc
   .exact h1 h b' e
theorem J6{s:BA}(h:m37 s=true):Ig s:=by
 unfold m37 at h
 by_cases h1:((s.size:Int)<1)
 .rw [dt h1] at h;cases h
 .by_cases h2:((12:Int)<s.size)
  .rw [df h1,dt h2] at h;cases h
  .rw [df h1,df h2] at h
   simp only [cond_false] at h
   obtain ⟨r,hr,k1,k2⟩:=l37_run (s:=s) (by omega) s.size 0 (s.size+(0:Int).toNat+8) (by omega) (by omega)
   have ho:o37_0 s 0=some r:=by
    exact hr
   rw [ho] at h
   simp only [aw] at h
   cases hr1:r.1 with
   | true=>rw [hr1,k2 hr1] at h;cases h
   | false =>
    have:=k1 hr1
    rw [List.drop_zero] at this
    exact ⟨fun hm=>(this _ hm).1 rfl,fun hm=>(this _ hm).2 rfl⟩
end Go.Proofs.YtdcdjjogieojhaaGreatDoor
namespace Go.Proofs.YtdcdjjogieojhaaGreatDoor
open Go Go.Sy
set_option maxRecDepth 100000
theorem QI{K:Kst}(h:BF K=0):(∀ i,i<K.n->m37 (K.di.ss i 0)=true)/\∀ i,i<K.r->m37 (K.dr.ss i 0)=true:=by
 unfold BF at h
 split at h
 .cases h
 split at h
 .rename_i hne;exact absurd h hne
 rename_i hI
 split at h
 .cases h
 have key:∀ (g:Nat->Option Int) (hg:∀ i c,g i=some c->c≠0) (n:Nat),first g 0 n 0=0->∀ i,i<n->g i=none:=fun g hg n h0 i hi=>by
  rcases BI (g:=g) (e:=(0:Int)) n 0 with ⟨j,b,h1,h2,h3,h4,h5⟩ | ⟨h1,h2⟩
  .exact absurd (h5.symm.trans h0) (hg j b h3)
  .exact h1 i (aX _) (by omega)
 constructor
 .intro i hi
  have:=key (D8 K) GC K.n (by simpa using hI) i hi
  unfold D8 at this
  cases hm:m37 (K.di.ss i 0) with
  | true=>rfl
  | false=>rw [hm,if_pos rfl] at this;cases this
 .intro i hi
  have:=key (DB K) GD K.r h i hi
  unfold DB at this
  cases hm:m37 (K.dr.ss i 0) with
  | true=>rfl
  | false=>rw [hm,if_pos rfl] at this;cases this
end Go.Proofs.YtdcdjjogieojhaaGreatDoor
namespace Go.Proofs.YtdcdjjogieojhaaGreatDoor
open Go Go.Sy
set_option maxRecDepth 100000
def CM(k:Int):List UInt8:=if k=1 then kw1 else if k=2 then kw2 else if k=3 then kw3 else kw4
theorem KK{k:Int}(h:1<=k/\k<=4):k=1\/k=2\/k=3\/k=4:=by omega
theorem EJ{k:Int}(h:1<=k/\k<=4):A7.ss k.toNat 0=Af (CM k):=by
 rcases KK h with rfl | rfl | rfl | rfl <;> rfl
theorem JE{k:Int}(h:1<=k/\k<=4):m54.ss (aQ.wrap (k - 1)).toNat 0=Af (CM k)/\0<=aQ.wrap (k - 1)/\aQ.wrap (k - 1)<4:=by
 rw [wrp (by omega) (by omega)]
 refine ⟨?_,by omega,by omega⟩
 rcases KK h with rfl | rfl | rfl | rfl <;> rfl
theorem FR(k:Int):(CM k).length<=10:=by
 unfold CM
 (repeat' split) <;> decide
theorem IX{k:Int}(h:1<=k/\k<=4):Bq (CM k)=k:=by
 rcases KK h with rfl | rfl | rfl | rfl <;> decide
theorem Iz(k:Int):Ig (Af (CM k)):=by
 unfold CM
 (repeat' split) <;> exact ⟨by decide,by decide⟩
noncomputable def B7(d:Dat)(i:Nat):List BA:=[Af DP,d.ss i 0,Af (CM (d.ii i 1)),Af (Lib.itoa (d.ii i 2))]
noncomputable def Bg(d:Dat)(i:Nat):List BA:=[Af DQ,d.ss i 0,Af (CM (d.ii i 1)),Af (Lib.itoa (d.ii i 2)),Af (Lib.itoa (d.ii i 3))]
noncomputable def BE(l:List BA):List UInt8:=bts (Bw l) ++ [10]
noncomputable def Bz(f:Nat->List BA)(k i:Nat):List UInt8:=(List.range' i k).flatMap fun q=>BE (f q)
theorem Cz(f:Nat->List BA)(i:Nat):Bz f 0 i=[]:=rfl
theorem BK(f:Nat->List BA)(k i:Nat):Bz f (k+1) i=BE (f i) ++ Bz f k (i+1):=by
 unfold Bz
 rw [List.range'_succ,List.flatMap_cons]
structure Gd (K:Kst):Prop where
 n:K.n<=30
 r:K.r<=20
 kd:∀ i,i<K.n->1<=K.di.ii i 1/\K.di.ii i 1<=4
 bt:∀ i,i<K.n->0<=K.di.ii i 2/\K.di.ii i 2<=100000
 rk:∀ q,q<K.r->1<=K.dr.ii q 1/\K.dr.ii q 1<=4
 rd:∀ q,q<K.r->0<=K.dr.ii q 2/\K.dr.ii q 2<=10000
 us:∀ q,q<K.r->0<=K.dr.ii q 3/\K.dr.ii q 3<=1000
 si:∀ i,i<K.n->(K.di.ss i 0).size<=20
 sr:∀ i,i<K.r->(K.dr.ss i 0).size<=20
 ci:∀ i,i<K.n->Ig (K.di.ss i 0)
 cr:∀ i,i<K.r->Ig (K.dr.ss i 0)
theorem TP{K:Kst}{n:Nat}{d:Dat}(hS:Kt K n d)(h:BF K=0):Gd K:=by
 have R:=QX hS.names h
 obtain ⟨h1,h2⟩:=QI h
 exact ⟨R.n,R.r,R.kd,R.bt,R.rk,R.rd,R.us,hS.i,hS.u,fun i hi=>J6 (h1 i hi),fun i hi=>J6 (h2 i hi)⟩
theorem Lu(l:List UInt8):bts (Af l)=l:=rfl
theorem nlB:({ data:=#[10] }:BA)=Af [10]:=rfl
theorem Ry(t:BA):(bts t).length=t.size:=(B6 t).symm
theorem Cy(l:List BA):(BE l).length=(Bw l).size+1:=by unfold BE;rw [List.length_append,Ry];rfl
theorem Co{K:Kst}(g:Gd K){i:Nat}(hi:i<K.n):(Bw (B7 K.di i)).size<=100:=by
 have h1:=g.si i hi
 have h2:=FR (K.di.ii i 1)
 have h3:=CV (v:=K.di.ii i 2) (by have:=g.bt i hi;omega) (by have:=g.bt i hi;omega)
 simp only [B7,CW,Dv,H4,AN,List.length_cons,List.length_nil]
 omega
theorem DO{K:Kst}(g:Gd K){i:Nat}(hi:i<K.r):(Bw (Bg K.dr i)).size<=100:=by
 have h1:=g.sr i hi
 have h2:=FR (K.dr.ii i 1)
 have h3:=CV (v:=K.dr.ii i 2) (by have:=g.rd i hi;omega) (by have:=g.rd i hi;omega)
 have h4:=CV (v:=K.dr.ii i 3) (by have:=g.us i hi;omega) (by have:=g.us i hi;omega)
 simp only [Bg,CW,Dv,H4,AN,List.length_cons,List.length_nil]
 omega
theorem Ov{K:Kst}(g:Gd K){i:Nat}(hi:i<K.n):n29i (Af DP) (K.di.ss i 0) (Af (CM (K.di.ii i 1))) (K.di.ii i 2)=true/\(m29i (Af DP) (K.di.ss i 0) (Af (CM (K.di.ii i 1))) (K.di.ii i 2)).1=Bw (B7 K.di i):=by
 have hb:=g.bt i hi
 have hsz:=Co g hi
 have h66:n66 (K.di.ii i 2)=true:=n66_ok ⟨by omega,by omega⟩
 unfold n29i m29i
 rw [h66,spB,m66_itoa]
 refine ⟨?_,m67_w (w4 _ _ _ _)⟩
 have hs2:(Bw (B7 K.di i)).size<=1073741824:=by omega
 rw [n67_w (w4 _ _ _ _) (by omega) (by omega) hs2]
 rfl
theorem OH{K:Kst}(g:Gd K){i:Nat}(hi:i<K.r):n29r (Af DQ) (K.dr.ss i 0) (Af (CM (K.dr.ii i 1))) (K.dr.ii i 2) (K.dr.ii i 3)=true/\(m29r (Af DQ) (K.dr.ss i 0) (Af (CM (K.dr.ii i 1))) (K.dr.ii i 2) (K.dr.ii i 3)).1=Bw (Bg K.dr i):=by
 have hb:=g.rd i hi
 have hu:=g.us i hi
 have hsz:=DO g hi
 have h66:n66 (K.dr.ii i 2)=true:=n66_ok ⟨by omega,by omega⟩
 have h67:n66 (K.dr.ii i 3)=true:=n66_ok ⟨by omega,by omega⟩
 unfold n29r m29r
 rw [h66,h67,spB,m66_itoa,m66_itoa]
 refine ⟨?_,m67_w (w5 _ _ _ _ _)⟩
 have hs2:(Bw (Bg K.dr i)).size<=1073741824:=by omega
 rw [n67_w (w5 _ _ _ _ _) (by omega) (by omega) hs2]
 rfl
theorem Qo(t:BA)(d:Dat)(i:Nat):t ++ Af [105,116,101,109,32] ++ d.ss i 0 ++ Af [32] ++ Af (CM (d.ii i 1)) ++ Af [32] ++ Af (Lib.itoa (d.ii i 2)) ++ Af [10]=Af (bts t ++ BE (B7 d i)):=by
 apply DA
 simp [Bv,BE,B7,CW,Dv,Cq]
theorem QZ(t:BA)(d:Dat)(i:Nat):t ++ Af [114,117,108,101,32] ++ d.ss i 0 ++ Af [32] ++ Af (CM (d.ii i 1)) ++ Af [32] ++ Af (Lib.itoa (d.ii i 2)) ++ Af [32] ++ Af (Lib.itoa (d.ii i 3)) ++ Af [10]=Af (bts t ++ BE (Bg d i)):=by
 apply DA
 simp [Bv,BE,Bg,CW,Dv,Cq]
theorem RU:({ data:=#[105,116,101,109,32] }:BA)=Af [105,116,101,109,32]:=rfl
theorem Sg:({ data:=#[114,117,108,101,32] }:BA)=Af [114,117,108,101,32]:=rfl
theorem l18_0_run{K:Kst}(h:Gd K):∀ (k i g:Nat) (acc:List UInt8),i+k=K.n->k<g->acc.length<=200 * i->l18_0 K.n K.di K.r K.dr g (Af acc) (i:Int)=some (Af (acc ++ Bz (B7 K.di) k i))
 | 0,i,g,acc,hi,hg,ha=>by
  obtain ⟨g,rfl⟩:∃ g',g=g'+1:=⟨g - 1,by omega⟩
  unfold l18_0
  rw [df (show ¬ ((i:Int)<K.n) by omega),Cz,List.append_nil]
  rfl
 | k+1,i,g,acc,hi,hg,ha=>by
  obtain ⟨g,rfl⟩:∃ g',g=g'+1:=⟨g - 1,by omega⟩
  have hn:=h.n
  have hlt:i<K.n:=by omega
  have hw:aQ.wrap ((i:Int)+1)=((i+1:Nat):Int):=wrS hlt (by omega)
  have hb:=h.bt i hlt
  obtain ⟨q1,q2,q3⟩:=JE (h.kd i hlt)
  have hs:=h.si i hlt
  have hwl:=FR (K.di.ii i 1)
  have hd:=CV (v:=K.di.ii i 2) (by omega) (by omega)
  have hsz:=Co h hlt
  obtain ⟨d1,d2⟩:=N6 (v:=K.di.ii i 2) (by omega) (by omega)
  have hll:(BE (B7 K.di i)).length<=101:=by rw [Cy];omega
  unfold l18_0
  simp only [ak,hw,q1,d1,d2,RU,spB,nlB,H4,AN,List.length_cons,List.length_nil]
  rw [dt (show (i:Int)<K.n by omega),dt (show (0:Int)<=i/\(i:Int)<K.n by omega),dt (show 0<=aQ.wrap (K.di.ii i 1 - 1)/\aQ.wrap (K.di.ii i 1 - 1)<4 from ⟨q2,q3⟩)]
  simp only [cond_true]
  iterate 7 refine (Oc (az (by omega))).trans ?_
  rw [Qo,Lu,l18_0_run h k (i+1) g _ (by omega) (by omega) (by rw [List.length_append];omega),BK,List.append_assoc]
theorem l18_2_run{K:Kst}(h:Gd K):∀ (k i g:Nat) (acc:List UInt8),i+k=K.r->k<g->acc.length<=10000+200 * i->l18_2 K.n K.di K.r K.dr g (Af acc) (i:Int)=some (Af (acc ++ Bz (Bg K.dr) k i))
 | 0,i,g,acc,hi,hg,ha=>by
  obtain ⟨g,rfl⟩:∃ g',g=g'+1:=⟨g - 1,by omega⟩
  unfold l18_2
  rw [df (show ¬ ((i:Int)<K.r) by omega),Cz,List.append_nil]
  rfl
 | k+1,i,g,acc,hi,hg,ha=>by
  obtain ⟨g,rfl⟩:∃ g',g=g'+1:=⟨g - 1,by omega⟩
  have hn:=h.r
  have hlt:i<K.r:=by omega
  have hw:aQ.wrap ((i:Int)+1)=((i+1:Nat):Int):=wrS hlt (by omega)
  have hb:=h.rd i hlt
  have hu:=h.us i hlt
  obtain ⟨q1,q2,q3⟩:=JE (h.rk i hlt)
  have hs:=h.sr i hlt
  have hwl:=FR (K.dr.ii i 1)
  have hd:=CV (v:=K.dr.ii i 2) (by omega) (by omega)
  have hd2:=CV (v:=K.dr.ii i 3) (by omega) (by omega)
  have hsz:=DO h hlt
  obtain ⟨d1,d2⟩:=N6 (v:=K.dr.ii i 2) (by omega) (by omega)
  obtain ⟨u1,u2⟩:=N6 (v:=K.dr.ii i 3) (by omega) (by omega)
  have hll:(BE (Bg K.dr i)).length<=101:=by rw [Cy];omega
  unfold l18_2
  simp only [ak,hw,q1,d1,d2,u1,u2,Sg,spB,nlB,H4,AN,List.length_cons,List.length_nil]
  rw [dt (show (i:Int)<K.r by omega),dt (show (0:Int)<=i/\(i:Int)<K.r by omega),dt (show 0<=aQ.wrap (K.dr.ii i 1 - 1)/\aQ.wrap (K.dr.ii i 1 - 1)<4 from ⟨q2,q3⟩)]
  simp only [cond_true]
  iterate 9 refine (Oc (az (by omega))).trans ?_
  rw [QZ,Lu,l18_2_run h k (i+1) g _ (by omega) (by omega) (by rw [List.length_append];omega),BK,List.append_assoc]
noncomputable def CP(K:Kst):List UInt8:=Bz (B7 K.di) K.n 0 ++ Bz (Bg K.dr) K.r 0
theorem DK{f:Nat->List BA}{n:Nat}(h:∀ i,i<n->(Bw (f i)).size<=100):∀ (k i:Nat),i+k<=n->(Bz f k i).length<=101 * k
 | 0,i,_=>by rw [Cz];exact ay _
 | k+1,i,hi=>by
  have h1:=h i (by omega)
  have h2:=DK h k (i+1) (by omega)
  rw [BK,List.length_append,Cy]
  omega
theorem Pq{K:Kst}(h:Gd K):n18 K.n K.di K.r K.dr=true/\m18 K.n K.di K.r K.dr=Af (CP K):=by
 have hl:=DK (f:=B7 K.di) (fun i hi=>Co h hi) K.n 0 (by omega)
 have hn:=h.n
 have r1:=l18_0_run h K.n 0 ((({ data:=#[] }:BA)).size+(0:Int).toNat+K.n+K.r+8) [] (by omega) (by omega) (by simp)
 have o1:o18_0 K.n K.di K.r K.dr ({ data:=#[] }:BA) 0=some (Af ([] ++ Bz (B7 K.di) K.n 0)):=r1
 rw [List.nil_append] at o1
 have r2:=l18_2_run h K.r 0 ((Af (Bz (B7 K.di) K.n 0)).size+(0:Int).toNat+K.n+K.r+8) (Bz (B7 K.di) K.n 0) (by omega) (by omega) (by omega)
 have o2:o18_2 K.n K.di K.r K.dr (Af (Bz (B7 K.di) K.n 0)) 0=some (Af (CP K)):=r2
 unfold n18 m18
 rw [o1]
 simp only [aw,av]
 rw [o2]
 exact ⟨rfl,rfl⟩
structure HB (n:Nat) (d:Dat) (l:List UInt8):Prop where
 len:n=l.length
 by_:CF n d=l
 ok:∀ q,q<n->0<=d.ii q 0/\d.ii q 0<=255
theorem GS{n:Nat}{d:Dat}{l m:List UInt8}(h:HB n d l):HB (n+m.length) (d.app n { ii:=fun q x=>((m.getD q 0).toNat:Int),ss:=A3.ss,bb:=A3.bb,sn:=A3.sn,sd:=A3.sd }) (l ++ m):=by
 have hn:=h.len
 refine ⟨by rw [List.length_append,hn],?_,fun q hq=>?_⟩
 .unfold CF
  apply List.ext_getElem?
  intro q
  rw [List.getElem?_map]
  by_cases hq:q<n+m.length
  .rw [List.getElem?_range hq]
   by_cases hq2:q<n
   .rw [List.getElem?_append_left (by omega),Option.map_some,CS hq2]
    have e:=congrArg (fun z:List UInt8=>z[q]?) h.by_
    try dsimp only at e
    rw [<- e]
    unfold CF
    rw [List.getElem?_map,List.getElem?_range hq2];rfl
   .rw [List.getElem?_append_right (by omega),Option.map_some,CR (by omega)]
    try dsimp only
    rw [<- hn,ak,UInt8.ofNat_toNat,List.getD_eq_getElem?_getD,aq (by omega)]
    rfl
  .rw [List.getElem?_eq_none (by simp;omega),List.getElem?_eq_none (by simp;omega)];rfl
 .by_cases hq2:q<n
  .rw [CS hq2];exact h.ok q hq2
  .rw [CR (by omega)]
   try dsimp only
   have:=(m.getD (q - n) 0).toNat_lt
   omega
theorem m43u_b{N:Nat}{e:Dat}(l:List UInt8):m43u N N e (Af l)=((l.length:Int),N+l.length,N+l.length,e.app N { ii:=fun q x=>((l.getD q 0).toNat:Int),ss:=A3.ss,bb:=A3.bb,sn:=A3.sn,sd:=A3.sd }):=by
 unfold m43u
 rw [AN,Cq]
theorem m43f_b{N:Nat}{e:Dat}(l:List UInt8):m43f N N e (Af l)=((l.length:Int),N+l.length,N+l.length,e.app N { ii:=fun q x=>((l.getD q 0).toNat:Int),ss:=A3.ss,bb:=A3.bb,sn:=A3.sn,sd:=A3.sd }):=by
 unfold m43f
 rw [AN,Cq]
theorem n43u_b{N:Nat}{e:Dat}{l:List UInt8}(h0:0<l.length)(h:N+l.length<=1073741824):n43u N N e (Af l)=true:=by
 unfold n43u
 rw [AN,dt h0,dt (ay N),dt h];rfl
theorem n43f_b{N:Nat}{e:Dat}{l:List UInt8}(h0:0<l.length)(h:N+l.length<=1073741824):n43f N N e (Af l)=true:=by
 unfold n43f
 rw [AN,dt h0,dt (ay N),dt h];rfl
theorem Ia(l:List BA):Bw l ++ Af [10]=Af (BE l):=by
 apply DA
 rw [Bv];rfl
theorem l14_0_run{K:Kst}(h:Gd K){b1:Dat}{b2:Nat}{b3:Dat}:∀ (k i g N:Nat) (e:Dat) (acc:List UInt8),i+k=K.n->k<g->acc.length<=200 * i->HB N e acc->∃ N' e',l14_0 K.n K.di (K.n:Int) b1 b2 b3 g (i:Int) N N e=some (N',N',e')/\HB N' e' (acc ++ Bz (B7 K.di) k i)
 | 0,i,g,N,e,acc,hi,hg,ha,hh=>by
  obtain ⟨g,rfl⟩:∃ g',g=g'+1:=⟨g - 1,by omega⟩
  unfold l14_0
  rw [df (show ¬ ((i:Int)<K.n) by omega),Cz,List.append_nil]
  exact ⟨N,e,rfl,hh⟩
 | k+1,i,g,N,e,acc,hi,hg,ha,hh=>by
  obtain ⟨g,rfl⟩:∃ g',g=g'+1:=⟨g - 1,by omega⟩
  have hn:=h.n
  have hlt:i<K.n:=by omega
  have hw:aQ.wrap ((i:Int)+1)=((i+1:Nat):Int):=wrS hlt (by omega)
  have hk:=h.kd i hlt
  have hsz:=Co h hlt
  have hll:=Cy (B7 K.di i)
  obtain ⟨a1,a2⟩:=Ov h hlt
  have hlen:=hh.len
  unfold l14_0
  simp only [ak,hw,EJ hk,Ou,nlB,a1,a2,Ia,m43u_b]
  rw [n43u_b (by omega) (by omega),dt (show (i:Int)<K.n by omega),dt (show (0:Int)<=i/\(i:Int)<K.n by omega),dt (show (0:Int)<=K.di.ii i 1/\K.di.ii i 1<5 by omega),dt (show K.di.ii i 1<5 by omega)]
  simp only [cond_true]
  obtain ⟨N',e',r1,r2⟩:=l14_0_run h (b1:=b1) (b2:=b2) (b3:=b3) k (i+1) g _ _ _ (by omega) (by omega) (by rw [List.length_append];omega) (GS (m:=BE (B7 K.di i)) hh)
  refine ⟨N',e',(Oc (az (by omega))).trans r1,?_⟩
  rw [BK,<- List.append_assoc]
  exact r2
theorem l14_2_run{K:Kst}(h:Gd K){b0:Nat}{b1 b3:Dat}:∀ (k i g N:Nat) (e:Dat) (acc:List UInt8),i+k=K.r->k<g->acc.length<=10000+200 * i->HB N e acc->∃ N' e',l14_2 K.r K.dr (K.r:Int) b0 b1 b3 g (i:Int) N N e=some (N',N',e')/\HB N' e' (acc ++ Bz (Bg K.dr) k i)
 | 0,i,g,N,e,acc,hi,hg,ha,hh=>by
  obtain ⟨g,rfl⟩:∃ g',g=g'+1:=⟨g - 1,by omega⟩
  unfold l14_2
  rw [df (show ¬ ((i:Int)<K.r) by omega),Cz,List.append_nil]
  exact ⟨N,e,rfl,hh⟩
 | k+1,i,g,N,e,acc,hi,hg,ha,hh=>by
  obtain ⟨g,rfl⟩:∃ g',g=g'+1:=⟨g - 1,by omega⟩
  have hn:=h.r
  have hlt:i<K.r:=by omega
  have hw:aQ.wrap ((i:Int)+1)=((i+1:Nat):Int):=wrS hlt (by omega)
  have hk:=h.rk i hlt
  have hsz:=DO h hlt
  have hll:=Cy (Bg K.dr i)
  obtain ⟨a1,a2⟩:=OH h hlt
  have hlen:=hh.len
  unfold l14_2
  simp only [ak,hw,EJ hk,OG,nlB,a1,a2,Ia,m43u_b]
  rw [n43u_b (by omega) (by omega),dt (show (i:Int)<K.r by omega),dt (show (0:Int)<=i/\(i:Int)<K.r by omega),dt (show (0:Int)<=K.dr.ii i 1/\K.dr.ii i 1<5 by omega),dt (show K.dr.ii i 1<5 by omega)]
  simp only [cond_true]
  obtain ⟨N',e',r1,r2⟩:=l14_2_run h (b0:=b0) (b1:=b1) (b3:=b3) k (i+1) g _ _ _ (by omega) (by omega) (by rw [List.length_append];omega) (GS (m:=BE (Bg K.dr i)) hh)
  refine ⟨N',e',(Oc (az (by omega))).trans r1,?_⟩
  rw [BK,<- List.append_assoc]
  exact r2
theorem Om{N:Nat}{e:Dat}{l:List UInt8}(h:HB N e l)(h0:0<N):n44 N N e=true/\m44 N e=Af l:=by
 constructor
 .unfold n44
  rw [dt h0,dt (ay N)]
  simp only [Bool.true_and]
  rw [List.all_eq_true]
  intro q hq
  exact az (h.ok q (List.mem_range.1 hq))
 .unfold m44
  rw [h.by_];rfl
end Go.Proofs.YtdcdjjogieojhaaGreatDoor
namespace Go.Proofs.YtdcdjjogieojhaaGreatDoor
open Go Go.Sy
set_option maxRecDepth 100000
theorem LW(l:List BA):0<(BE l).length:=by rw [Cy];omega
theorem Nu{K:Kst}(h:Gd K)(t1:n16 K.n K.di K.r K.dr=true)(t2:m16 K.n K.di K.r K.dr=0):n14 K.n K.di K.r K.dr=true/\m14 K.n K.di K.r K.dr=(Af (CP K),0):=by
 have hn:=h.n
 have hr:=h.r
 have hh:HB 0 A3 []:=⟨rfl,rfl,fun q hq=>by omega⟩
 have hb0:bts (Af ([]:List UInt8))=[]:=rfl
 by_cases h0:0<K.n
 .obtain ⟨a1,a2⟩:=Ov h h0
  have hk:=h.kd 0 h0
  have hsz:=Co h h0
  have hll:=Cy (B7 K.di 0)
  have hw:=GS (m:=BE (B7 K.di 0)) hh
  have m43:=m43f_b (N:=0) (e:=A3) (BE (B7 K.di 0))
  have n43:=n43f_b (N:=0) (e:=A3) (l:=BE (B7 K.di 0)) (by omega) (by omega)
  have hj:((Bw (B7 K.di 0)).size:Int)+1<=9223372036854775807:=by omega
  obtain ⟨W0,hW0⟩:∃ W0,A3.app 0 { ii:=fun q x=>(((BE (B7 K.di 0)).getD q 0).toNat:Int),ss:=A3.ss,bb:=A3.bb,sn:=A3.sn,sd:=A3.sd }=W0:=⟨_,rfl⟩
  rw [hW0] at hw m43
  obtain ⟨L0,hL0⟩:∃ L0,0+(BE (B7 K.di 0)).length=L0:=⟨_,rfl⟩
  rw [hL0] at hw m43
  obtain ⟨N1,e1,r1,r2⟩:=l14_0_run h (b1:=K.di) (b2:=K.r) (b3:=K.dr) (K.n - 1) 1 (K.n+(K.n:Int).toNat+(1:Int).toNat+K.r+L0+L0+8) L0 W0 _ (by omega) (by omega) (by rw [List.nil_append];omega) hw
  have o1:o14_0 K.n K.di (K.n:Int) K.di K.r K.dr 1 L0 L0 W0=some (N1,N1,e1):=r1
  have hlen1:=DK (f:=B7 K.di) (fun i hi=>Co h hi) (K.n - 1) 1 (by omega)
  obtain ⟨N2,e2,s1,s2⟩:=l14_2_run h (b0:=K.n) (b1:=K.di) (b3:=K.dr) K.r 0 (K.r+(K.r:Int).toNat+(0:Int).toNat+K.n+N1+N1+8) N1 e1 _ (by omega) (by omega) (by rw [List.nil_append,List.length_append];omega) r2
  have o2:o14_2 K.r K.dr (K.r:Int) K.n K.di K.dr 0 N1 N1 e1=some (N2,N2,e2):=s1
  have htext:[] ++ BE (B7 K.di 0) ++ Bz (B7 K.di) (K.n - 1) 1 ++ Bz (Bg K.dr) K.r 0=CP K:=by
   have e:=BK (B7 K.di) (K.n - 1) 0
   rw [show K.n - 1+1=K.n by omega] at e
   unfold CP
   rw [e];rfl
  rw [htext] at s2
  have hpos:0<N2:=by
   rw [s2.len,<- htext]
   have:=LW (B7 K.di 0)
   simp only [List.nil_append,List.length_append]
   omega
  obtain ⟨c1,c2⟩:=Om s2 hpos
  unfold n14 m14
  simp only [t1,t2,EJ hk,Ou,nlB,a1,a2,Ia,m43,n43,o1,o2,aw,av,c1,c2]
  rw [dt (show (0:Int)<(K.n:Int) by omega),dt (show (0:Int)<=0/\(0:Int)<(K.n:Int) by omega),dt (show (0:Int)<=K.di.ii 0 1/\K.di.ii 0 1<5 by omega),dt (show K.di.ii 0 1<5 by omega)]
  simp
  omega
 .have hn0:K.n=0:=by omega
  by_cases h1:0<K.r
  .obtain ⟨a1,a2⟩:=OH h h1
   have hk:=h.rk 0 h1
   have hsz:=DO h h1
   have hll:=Cy (Bg K.dr 0)
   have hw:=GS (m:=BE (Bg K.dr 0)) hh
   have m43:=m43f_b (N:=0) (e:=A3) (BE (Bg K.dr 0))
   have n43:=n43f_b (N:=0) (e:=A3) (l:=BE (Bg K.dr 0)) (by omega) (by omega)
   obtain ⟨W0,hW0⟩:∃ W0,A3.app 0 { ii:=fun q x=>(((BE (Bg K.dr 0)).getD q 0).toNat:Int),ss:=A3.ss,bb:=A3.bb,sn:=A3.sn,sd:=A3.sd }=W0:=⟨_,rfl⟩
   rw [hW0] at hw m43
   obtain ⟨L0,hL0⟩:∃ L0,0+(BE (Bg K.dr 0)).length=L0:=⟨_,rfl⟩
   rw [hL0] at hw m43
   obtain ⟨N2,e2,s1,s2⟩:=l14_2_run h (b0:=K.n) (b1:=K.di) (b3:=K.dr) (K.r - 1) 1 (K.r+(K.r:Int).toNat+(1:Int).toNat+K.n+L0+L0+8) L0 W0 _ (by omega) (by omega) (by rw [List.nil_append];omega) hw
   have o2:o14_2 K.r K.dr (K.r:Int) K.n K.di K.dr 1 L0 L0 W0=some (N2,N2,e2):=s1
   have htext:[] ++ BE (Bg K.dr 0) ++ Bz (Bg K.dr) (K.r - 1) 1=CP K:=by
    have e:=BK (Bg K.dr) (K.r - 1) 0
    rw [show K.r - 1+1=K.r by omega] at e
    unfold CP
    rw [e,hn0,Cz];rfl
   rw [htext] at s2
   have hpos:0<N2:=by
    rw [s2.len,<- htext]
    have:=LW (Bg K.dr 0)
    simp only [List.nil_append,List.length_append]
    omega
   obtain ⟨c1,c2⟩:=Om s2 hpos
   unfold n14 m14
   simp only [t1,t2,EJ hk,OG,nlB,a1,a2,Ia,m43,n43,o2,aw,av,c1,c2]
   rw [df (show ¬ ((0:Int)<(K.n:Int)) by omega),dt (show (0:Int)<(K.r:Int) by omega),dt (show (0:Int)<=0/\(0:Int)<(K.r:Int) by omega),dt (show (0:Int)<=K.dr.ii 0 1/\K.dr.ii 0 1<5 by omega),dt (show K.dr.ii 0 1<5 by omega)]
   simp
   omega
  .have hr0:K.r=0:=by omega
   have htext:CP K=[]:=by unfold CP;rw [hn0,hr0];rfl
   unfold n14 m14
   rw [t1,t2,df (show ¬ ((0:Int)<(K.n:Int)) by omega),df (show ¬ ((0:Int)<(K.r:Int)) by omega),htext]
   exact ⟨rfl,rfl⟩
end Go.Proofs.YtdcdjjogieojhaaGreatDoor
namespace Go.Proofs.YtdcdjjogieojhaaGreatDoor
open Go Go.Sy
set_option maxRecDepth 100000
def Gt(n:Nat)(e d:Dat):Prop:=∀ q,q<n->e.ss q 0=d.ss q 0/\e.ii q 1=d.ii q 1/\e.ii q 2=d.ii q 2
def Gu(n:Nat)(e d:Dat):Prop:=∀ q,q<n->e.ss q 0=d.ss q 0/\e.ii q 1=d.ii q 1/\e.ii q 2=d.ii q 2/\e.ii q 3=d.ii q 3
theorem Gt.refl(n:Nat)(d:Dat):Gt n d d:=fun _ _=>⟨rfl,rfl,rfl⟩
theorem Gu.refl(n:Nat)(d:Dat):Gu n d d:=fun _ _=>⟨rfl,rfl,rfl,rfl⟩
theorem LQ{f f':Nat->BA}{n:Nat}(h:∀ i,i<n->f i=f' i)(s:BA):ix f s n=ix f' s n :=
 E0 fun j _ hj=>by rw [h j (by omega)]
theorem L5{n r:Nat}{di di' dr dr':Dat}(hI:Gt n di' di)(hR:Gu r dr' dr):BF ⟨n,di',r,dr'⟩=BF ⟨n,di,r,dr⟩:=by
 have e1:first (D8 ⟨n,di',r,dr'⟩) 0 n 0=first (D8 ⟨n,di,r,dr⟩) 0 n 0:=E0 fun j _ hj=>by
  obtain ⟨h1,h2,h3⟩:=hI j (by omega)
  have hx:itN ⟨n,di',r,dr'⟩ (di.ss j 0)=itN ⟨n,di,r,dr⟩ (di.ss j 0):=LQ (fun i hi=>(hI i hi).1) _
  unfold D8
  dsimp only
  rw [h1,h2,h3,hx]
 have e2:first (DB ⟨n,di',r,dr'⟩) 0 r 0=first (DB ⟨n,di,r,dr⟩) 0 r 0:=E0 fun j _ hj=>by
  obtain ⟨h1,h2,h3,h4⟩:=hR j (by omega)
  have hx:ruN ⟨n,di',r,dr'⟩ (dr.ss j 0)=ruN ⟨n,di,r,dr⟩ (dr.ss j 0):=LQ (fun i hi=>(hR i hi).1) _
  unfold DB
  dsimp only
  rw [h1,h2,h3,h4,hx]
 unfold BF
 dsimp only
 rw [e1,e2]
theorem l19_0_run{n r n' r':Nat}{di di' dr dr':Dat}(h:Gt n di' di)(hn:n<=1000000)(hn':n=n'):∀ (k i g:Nat),i+k=n->k<g->l19_0 n di' r dr' n' di r' dr g (i:Int)=some (false,default,())
 | 0,i,g,hi,hg=>by
  obtain ⟨g,rfl⟩:∃ g',g=g'+1:=⟨g - 1,by omega⟩
  unfold l19_0
  rw [df (show ¬ ((i:Int)<n) by omega)]
  rfl
 | k+1,i,g,hi,hg=>by
  obtain ⟨g,rfl⟩:∃ g',g=g'+1:=⟨g - 1,by omega⟩
  have hw:aQ.wrap ((i:Int)+1)=((i+1:Nat):Int):=wrS (show i<n by omega) (by omega)
  obtain ⟨h1,h2,h3⟩:=h i (by omega)
  unfold l19_0
  simp only [ak,hw,h1,h2,h3,decide_true,cond_true,cond_false]
  rw [dt (show (i:Int)<n by omega),dt (show (0:Int)<=i/\(i:Int)<n by omega),dt (show (0:Int)<=i/\(i:Int)<n' by omega)]
  exact l19_0_run h hn hn' k (i+1) g (by omega) (by omega)
theorem l19_2_run{n r n' r':Nat}{di di' dr dr':Dat}(h:Gu r dr' dr)(hn:r<=1000000)(hn':r=r'):∀ (k i g:Nat),i+k=r->k<g->l19_2 n di' r dr' n' di r' dr g (i:Int)=some (false,default,())
 | 0,i,g,hi,hg=>by
  obtain ⟨g,rfl⟩:∃ g',g=g'+1:=⟨g - 1,by omega⟩
  unfold l19_2
  rw [df (show ¬ ((i:Int)<r) by omega)]
  rfl
 | k+1,i,g,hi,hg=>by
  obtain ⟨g,rfl⟩:∃ g',g=g'+1:=⟨g - 1,by omega⟩
  have hw:aQ.wrap ((i:Int)+1)=((i+1:Nat):Int):=wrS (show i<r by omega) (by omega)
  obtain ⟨h1,h2,h3,h4⟩:=h i (by omega)
  unfold l19_2
  simp only [ak,hw,h1,h2,h3,h4,decide_true,cond_true,cond_false]
  rw [dt (show (i:Int)<r by omega),dt (show (0:Int)<=i/\(i:Int)<r by omega),dt (show (0:Int)<=i/\(i:Int)<r' by omega)]
  exact l19_2_run h hn hn' k (i+1) g (by omega) (by omega)
theorem Mp{n r:Nat}{di di' dr dr':Dat}(hI:Gt n di' di)(hR:Gu r dr' dr)(hn:n<=1000000)(hr:r<=1000000):n19 n di' r dr' n di r dr=true/\m19 n di' r dr' n di r dr=true:=by
 have o1:o19_0 n di' r dr' n di r dr 0=some (false,default,()):=l19_0_run (r:=r) (n':=n) (r':=r) (dr:=dr) (dr':=dr') hI hn rfl n 0 ((0:Int).toNat+n+r+n+r+8) (by omega) (by omega)
 have o2:o19_2 n di' r dr' n di r dr 0=some (false,default,()):=l19_2_run (n:=n) (n':=n) (r':=r) (di:=di) (di':=di') hR hr rfl r 0 ((0:Int).toNat+n+r+n+r+8) (by omega) (by omega)
 unfold n19 m19
 rw [o1,o2,dt (show ((n:Nat):Int)=n from rfl),dt (show ((r:Nat):Int)=r from rfl)]
 exact ⟨rfl,rfl⟩
noncomputable def EM(f:Nat->List BA)(k i:Nat):List (List UInt8):=(List.range' i k).map fun q=>bts (Bw (f q))
theorem Fl(f:Nat->List BA)(k i:Nat):EM f (k+1) i=bts (Bw (f i)) :: EM f k (i+1):=by
 unfold EM
 rw [List.range'_succ,List.map_cons]
theorem Hj{f:Nat->List BA}{n:Nat}(h:∀ i,i<n->∀ x∈f i,(10:UInt8) ∉ bts x)(R:List UInt8):∀ (k i:Nat),i+k<=n->AV 10 (Bz f k i ++ R)=EM f k i ++ AV 10 R
 | 0,i,_=>rfl
 | k+1,i,hi=>by
  rw [BK,Fl]
  unfold BE
  rw [show bts (Bw (f i)) ++ [10] ++ Bz f k (i+1) ++ R=bts (Bw (f i)) ++ 10 :: (Bz f k (i+1) ++ R) by simp,BC _ (M2 _ (h i (by omega))),Hj h R k (i+1) (by omega)]
  rfl
theorem Ix{K:Kst}(g:Gd K){i:Nat}(hi:i<K.n):∀ x∈B7 K.di i,Ig x:=by
 intro x hx
 simp only [B7,List.mem_cons,List.not_mem_nil,or_false] at hx
 rcases hx with rfl | rfl | rfl | rfl
 .exact ⟨by decide,by decide⟩
 .exact g.ci i hi
 .exact Iz _
 .exact Gb _
theorem Iy{K:Kst}(g:Gd K){i:Nat}(hi:i<K.r):∀ x∈Bg K.dr i,Ig x:=by
 intro x hx
 simp only [Bg,List.mem_cons,List.not_mem_nil,or_false] at hx
 rcases hx with rfl | rfl | rfl | rfl | rfl
 .exact ⟨by decide,by decide⟩
 .exact g.cr i hi
 .exact Iz _
 .exact Gb _
 .exact Gb _
theorem KO{v:Int}(h0:-1000000<v)(h1:v<1000000):C4 (Lib.itoa v)=some v:=Kc (.inl (Qp h0 h1))
theorem PD{K:Kst}(g:Gd K){i:Nat}(hi:i<K.n)(e dR:Dat)(c:Nat):Bd (AV 32 (bts (Bw (B7 K.di i)))) c e 0 dR=some (c+1,e.app c (LP (bts (K.di.ss i 0)) (K.di.ii i 1) (K.di.ii i 2)),0,dR):=by
 rw [IE _ (by simp [B7]) fun x hx=>(Ix g hi x hx).1]
 have hb:=g.bt i hi
 have hk:=g.kd i hi
 have e1:(B7 K.di i).map bts=[DP,bts (K.di.ss i 0),CM (K.di.ii i 1),Lib.itoa (K.di.ii i 2)]:=rfl
 rw [e1]
 show (if DP=DP/\Bq (CM (K.di.ii i 1))≠0/\(0:Nat)=0 then _ else _)=_
 rw [IX hk,if_pos ⟨rfl,by omega,rfl⟩,KO (by omega) (by omega)]
 rfl
theorem PE{K:Kst}(g:Gd K){i:Nat}(hi:i<K.r)(nI:Nat)(dI e:Dat)(c:Nat):Bd (AV 32 (bts (Bw (Bg K.dr i)))) nI dI c e=some (nI,dI,c+1,e.app c (Mg (bts (K.dr.ss i 0)) (K.dr.ii i 1) (K.dr.ii i 2) (K.dr.ii i 3))):=by
 rw [IE _ (by simp [Bg]) fun x hx=>(Iy g hi x hx).1]
 have hb:=g.rd i hi
 have hu:=g.us i hi
 have hk:=g.rk i hi
 have e1:(Bg K.dr i).map bts=[DQ,bts (K.dr.ss i 0),CM (K.dr.ii i 1),Lib.itoa (K.dr.ii i 2),Lib.itoa (K.dr.ii i 3)]:=rfl
 rw [e1]
 show (if DQ=DQ/\Bq (CM (K.dr.ii i 1))≠0 then _ else _)=_
 rw [IX hk,if_pos ⟨rfl,by omega⟩,KO (by omega) (by omega),KO (by omega) (by omega)]
 rfl
theorem JB{K:Kst}(g:Gd K){R:List (List UInt8)}(hR:R≠[])(dR:Dat):∀ (k i c:Nat) (e:Dat),i+k=K.n->Gt i e K.di->∃ e',Cj (EM (B7 K.di) k i ++ R) c i e 0 dR=Cj R (c+k) K.n e' 0 dR/\Gt K.n e' K.di
 | 0,i,c,e,hi,he=>by
  obtain rfl:i=K.n:=by omega
  exact ⟨e,rfl,he⟩
 | k+1,i,c,e,hi,he=>by
  have hlt:i<K.n:=by omega
  obtain ⟨e',h1,h2⟩:=JB g hR dR k (i+1) (c+1) (e.app i (LP (bts (K.di.ss i 0)) (K.di.ii i 1) (K.di.ii i 2))) (by omega) (fun q hq=>by
   by_cases hlt:q<i
   .rw [Ed hlt,CS hlt,CS hlt];exact he q hlt
   .obtain rfl:q=i:=by omega
    rw [Ec (ay _),CR (ay _),CR (ay _),Nat.sub_self]
    exact ⟨D2 _,rfl,rfl⟩)
  refine ⟨e',?_,h2⟩
  rw [Fl,List.cons_append,D4 (by simp [hR]),PD g hlt,show c+(k+1)=c+1+k by omega]
  exact h1
theorem JC{K:Kst}(g:Gd K)(nI:Nat)(dI:Dat):∀ (k i c:Nat) (e:Dat),i+k=K.r->Gu i e K.dr->∃ e',Cj (EM (Bg K.dr) k i ++ [[]]) c nI dI i e=.inr (nI,dI,K.r,e')/\Gu K.r e' K.dr
 | 0,i,c,e,hi,he=>by
  obtain rfl:i=K.r:=by omega
  exact ⟨e,by show Cj [[]] _ _ _ _ _=_;rw [Ey,if_pos rfl],he⟩
 | k+1,i,c,e,hi,he=>by
  have hlt:i<K.r:=by omega
  obtain ⟨e',h1,h2⟩:=JC g nI dI k (i+1) (c+1) (e.app i (Mg (bts (K.dr.ss i 0)) (K.dr.ii i 1) (K.dr.ii i 2) (K.dr.ii i 3))) (by omega) (fun q hq=>by
   by_cases hlt:q<i
   .rw [Ed hlt,CS hlt,CS hlt,CS hlt];exact he q hlt
   .obtain rfl:q=i:=by omega
    rw [Ec (ay _),CR (ay _),CR (ay _),CR (ay _),Nat.sub_self]
    exact ⟨D2 _,rfl,rfl,rfl⟩)
  refine ⟨e',?_,h2⟩
  rw [Fl,List.cons_append,D4 (by simp),PE g hlt]
  exact h1
theorem Rj{K:Kst}(g:Gd K):(CP K).length<=60000:=by
 have h1:=DK (f:=B7 K.di) (fun i hi=>Co g hi) K.n 0 (by omega)
 have h2:=DK (f:=Bg K.dr) (fun i hi=>DO g hi) K.r 0 (by omega)
 have:=g.n;have:=g.r
 unfold CP
 rw [List.length_append]
 omega
theorem Pt{K:Kst}(g:Gd K)(h:BF K=0):n17 (Af (CP K))=true/\∃ di dr,m17 (Af (CP K))=(K.n,di,K.r,dr,0,0)/\Gt K.n di K.di/\Gu K.r dr K.dr:=by
 obtain ⟨p1,p2⟩:=Jb (s:=Af (CP K)) (by rw [AN];exact Rj g)
 refine ⟨p1,?_⟩
 rw [p2]
 unfold FN
 have hb:bts (Af (CP K))=CP K:=rfl
 have ec:AV 10 (CP K)=EM (B7 K.di) K.n 0 ++ (EM (Bg K.dr) K.r 0 ++ [[]]):=by
  unfold CP
  rw [Hj (n:=K.n) (fun i hi x hx=>(Ix g hi x hx).2) _ K.n 0 (by omega)]
  have:=Hj (n:=K.r) (fun i hi x hx=>(Iy g hi x hx).2) [] K.r 0 (by omega)
  rw [List.append_nil] at this
  rw [this,BD (by simp)]
 obtain ⟨di,h1,h2⟩:=JB g (R:=EM (Bg K.dr) K.r 0 ++ [[]]) (by simp) A3 K.n 0 0 A3 (by omega) (fun q hq=>by omega)
 obtain ⟨dr,h3,h4⟩:=JC g K.n di K.r 0 (0+K.n) A3 (by omega) (fun q hq=>by omega)
 rw [hb,ec,h1,h3]
 have hs:BF ⟨K.n,di,K.r,dr⟩=0:=(L5 h2 h4).trans h
 dsimp only
 rw [if_pos hs]
 exact ⟨di,dr,rfl,h2,h4⟩
theorem Nr(s:BA):n17 s=true/\n20 s=true/\m17 s=m20 s/\(m17 s).1<=1000000/\(m17 s).2.2.1<=1000000:=by
 by_cases h:60000<s.size
 .obtain ⟨a,b,c,d⟩:=Pn h
  rw [c,d]
  exact ⟨a,b,rfl,aX _,aX _⟩
 .obtain ⟨a1,a2⟩:=Jb (s:=s) (by omega)
  obtain ⟨b1,b2⟩:=Po (s:=s) (by omega)
  refine ⟨a1,b1,a2.trans b2.symm,?_⟩
  rw [a2]
  unfold FN
  cases hw:Cj (AV 10 (bts s)) 0 0 A3 0 A3 with
  | inl e=>exact ⟨by show (0:Nat)<=_;omega,by show (0:Nat)<=_;omega⟩
  | inr p =>
   obtain ⟨x,y,z,t⟩:=p
   obtain ⟨h1,h2,_⟩:=Fu (s:=s) (by omega) hw
   dsimp only
   by_cases h8:BF ⟨x,y,z,t⟩=0
   .rw [if_pos h8];exact ⟨by show x<=_;omega,by show z<=_;omega⟩
   .rw [if_neg h8];exact ⟨by show (0:Nat)<=_;omega,by show (0:Nat)<=_;omega⟩
end Go.Proofs.YtdcdjjogieojhaaGreatDoor
namespace Go.Proofs.YtdcdjjogieojhaaGreatDoor
open Go Go.Sy
set_option maxRecDepth 100000
theorem Pp{nI nR:Nat}{dI dR:Dat}(t1:n16 nI dI nR dR=true)(hne:¬ m16 nI dI nR dR=0):n14 nI dI nR dR=true/\m14 nI dI nR dR=(({ data:=#[] }:BA),m16 nI dI nR dR):=by
 unfold n14 m14
 rw [t1,df hne]
 exact ⟨rfl,rfl⟩
theorem NI(nI:Nat)(dI:Dat)(nR:Nat)(dR:Dat)(s:BA):n4 nI dI nR dR s=true/\m4 nI dI nR dR s=true:=by
 obtain ⟨s1,s2⟩:=Rd ⟨nI,dI,nR,dR⟩ 0 A3
 obtain ⟨c,hc⟩:∃ c,(bif (bif (bif (m6 nI dI nR dR 0 A3) then false else true) then true else (bif (decide ((400:Int)<((s.size:Int)))) then (decide (((s.size:Int))<=60000)) else false)) then true else (decide (60005<((s.size:Int)))))=c:=⟨_,rfl⟩
 unfold n4 m4
 rw [show m5g=true from rfl,hc,s1]
 cases c with
 | true=>exact ⟨rfl,rfl⟩
 | false =>
  have h6:m6 nI dI nR dR 0 A3=true:=by
   cases hm:m6 nI dI nR dR 0 A3 with
   | true=>rfl
   | false=>rw [hm] at hc;simp at hc
  have S:=s2 h6
  have hN:nI<=32:=S.cn.1
  have hR:nR<=22:=S.cr.1
  obtain ⟨k1,k2⟩:=TK ⟨nI,dI,nR,dR⟩ (show nI<=1000000 by omega) (show nR<=1000000 by omega)
  obtain ⟨c1,c2⟩:=m12_eq ⟨nI,dI,nR,dR⟩ (show nI<=1000000 by omega) (show nR<=1000000 by omega) S.names
  obtain ⟨e1,e2⟩:=m16_eq ⟨nI,dI,nR,dR⟩ (show nI<=1000000 by omega) (show nR<=1000000 by omega) S.names
  obtain ⟨b1,b2,b3,b4,b5⟩:=Nr s
  obtain ⟨y1,y2⟩:=Mp (Gt.refl (m17 s).1 (m17 s).2.1) (Gu.refl (m17 s).2.2.1 (m17 s).2.2.2.1) b4 b5
  dsimp only at k1 k2 c1 c2 e1 e2
  have e12:m16 nI dI nR dR=m12 nI dI nR dR:=e2.trans c2.symm
  simp only [k1,k2,c1,e1,e12,b1,b2,<- b3,y1,y2,decide_true,cond_true,cond_false,Bool.true_and,Bool.and_true,Bool.cond_self]
  by_cases h12:m12 nI dI nR dR=0
  .have hs:BF ⟨nI,dI,nR,dR⟩=0:=c2.symm.trans h12
   have g:Gd ⟨nI,dI,nR,dR⟩:=TP S hs
   obtain ⟨p1,p2⟩:=Nu g e1 (e12.trans h12)
   obtain ⟨q1,q2⟩:=Pq g
   obtain ⟨r1,di,dr,r2,r3,r4⟩:=Pt g hs
   obtain ⟨z1,z2⟩:=Mp r3 r4 (show nI<=1000000 by omega) (show nR<=1000000 by omega)
   dsimp only at p1 p2 q1 q2 r1 r2 z1 z2
   simp only [p1,p2,q1,q2,r1,r2,z1,z2,h12,decide_true,cond_true,cond_false,Bool.true_and,Bool.and_true,Bool.cond_self,and_self]
  .obtain ⟨p1,p2⟩:=Pp e1 (show ¬ m16 nI dI nR dR=0 from fun e=>h12 (e12.symm.trans e))
   simp only [p1,p2,e12,df h12,decide_true,cond_true,cond_false,Bool.true_and,Bool.and_true,Bool.cond_self,and_self]
end Go.Proofs.YtdcdjjogieojhaaGreatDoor
