/-
 A right event, and the law of events' texts. Conditions: none.
-/
import Derived.Lib.Split
import Derived.Lib.SplitLaws
import Derived.Lib.IndexBytes
import Derived.Lib.IndexLaws
import Derived.Lib.ItoaMem
import Derived.Lib.Atoi
import Derived.Lib.AtoiAll
import Derived.Test.YtdcdjjogieojhaaGreatDoorJFTexts
namespace Go.Proofs.YtdcdjjogieojhaaGreatDoor
open Go Go.Lib
set_option linter.unusedVariables false
set_option linter.unusedSectionVars false
def toBA (l:List UInt8):ByteArray:=⟨l.toArray⟩
theorem toBA_bytes (l:List UInt8):(toBA l).data.toList=l:=rfl
theorem ba_ext {s t:ByteArray} (h:s.data.toList=t.data.toList):s=t:=by
 obtain ⟨⟨a⟩⟩:=s;obtain ⟨⟨b⟩⟩:=t
 simp at h;subst h;rfl
theorem toBA_self (s:ByteArray):toBA s.data.toList=s:=ba_ext rfl
theorem toBA_size (l:List UInt8):(toBA l).size=l.length:=by rw [size_eq];rfl
theorem toBA_inj {l m:List UInt8} (h:toBA l=toBA m):l=m:=by
 have:=congrArg (·.data.toList) h
 exact this
theorem toBA_append (l m:List UInt8):toBA l ++ toBA m=toBA (l ++ m):=by
 apply ba_ext
 simp [toBA,ByteArray.data_append]
theorem append_bytes (s t:ByteArray):(s ++ t).data.toList=s.data.toList ++ t.data.toList:=by simp [ByteArray.data_append]
def cutL (c:UInt8):List UInt8→List (List UInt8)
 | []=>[[]]
 | b :: l=>if b=c then [] :: cutL c l else match cutL c l with
  | x :: r=>(b :: x) :: r
  | []=>[[b]]
theorem cutL_miss {c:UInt8}:∀ {x:List UInt8},c ∉ x→cutL c x=[x]
 | [],_=>rfl
 | b :: x,h=>by
  have h1:b≠c:=fun e=>h (by rw [e];simp)
  have h2:c ∉ x:=fun e=>h (by simp [e])
  rw [cutL,if_neg h1,cutL_miss h2]
theorem cutL_hit {c:UInt8} (y:List UInt8):∀ {x:List UInt8},c ∉ x→cutL c (x ++ c :: y)=x :: cutL c y
 | [],_=>by rw [List.nil_append,cutL,if_pos rfl]
 | b :: x,h=>by
  have h1:b≠c:=fun e=>h (by rw [e];simp)
  have h2:c ∉ x:=fun e=>h (by simp [e])
  rw [List.cons_append,cutL,if_neg h1,cutL_hit y h2]
theorem byte_cases (c:UInt8) (l:List UInt8):c ∉ l∨∃ x y,l=x ++ c :: y∧c ∉ x:=by
 by_cases h:c∈l
 ·obtain ⟨x,y,e,hx⟩:=List.eq_append_cons_of_mem h
  exact .inr ⟨x,y,e,hx⟩
 ·exact .inl h
theorem cut_ind {c:UInt8} {p:List UInt8→Prop} (h0:∀ x,c ∉ x→p x) (h1:∀ x y,c ∉ x→p y→p (x ++ c :: y)):∀ (n:Nat) (l:List UInt8),l.length≤n→p l
 | n,l,hn=>by
  rcases byte_cases c l with h | ⟨x,y,rfl,hx⟩
  ·exact h0 l h
  ·simp only [List.length_append,List.length_cons] at hn
   cases n with
   | zero=>omega
   | succ n=>exact h1 x y hx (cut_ind h0 h1 n y (by omega))
theorem cut_rec {c:UInt8} {p:List UInt8→Prop} (h0:∀ x,c ∉ x→p x) (h1:∀ x y,c ∉ x→p y→p (x ++ c :: y)) (l:List UInt8):p l:=cut_ind h0 h1 l.length l (Nat.le_refl _)
theorem cutL_pos (c:UInt8) (l:List UInt8):0<(cutL c l).length:=by
 refine cut_rec (c:=c) (p:=fun l=>0<(cutL c l).length) (fun x hx=>?_) (fun x y hx hy=>?_) l
 ·rw [cutL_miss hx];simp
 ·rw [cutL_hit y hx];simp
theorem idx_miss {c:UInt8} {x:List UInt8} (h:c ∉ x):indexByte x c=-1:=by
 have:=indexByte_ge x c
 rcases Int.lt_or_le (indexByte x c) 0 with h1 | h1
 ·omega
 ·obtain ⟨o,ho⟩:∃ o:Nat,indexByte x c=o:=⟨(indexByte x c).toNat,by omega⟩
  exact absurd (List.mem_of_getElem? (indexByte_some ho).1) h
theorem idx_hit {c:UInt8} {x y:List UInt8} (h:c ∉ x):indexByte (x ++ c :: y) c=x.length:=by
 have hge:=indexByte_ge (x ++ c :: y) c
 have hat:(x ++ c :: y)[x.length]? = some c:=by rw [List.getElem?_append_right (Nat.le_refl _)];simp
 rcases Int.lt_or_le (indexByte (x ++ c :: y) c) 0 with h1 | h1
 ·exact absurd hat (indexByte_none (by omega) _)
 ·obtain ⟨o,ho⟩:∃ o:Nat,indexByte (x ++ c :: y) c=o:=⟨_,(Int.toNat_of_nonneg h1).symm⟩
  obtain ⟨g1,g2⟩:=indexByte_some ho
  rw [ho]
  rcases Nat.lt_trichotomy o x.length with hl | hl | hl
  ·rw [List.getElem?_append_left hl] at g1
   exact absurd (List.mem_of_getElem? g1) h
  ·omega
  ·exact absurd hat (g2 _ hl)
theorem splitB_cut (c:UInt8):∀ (k:Nat) (s:ByteArray),s.size≤k→(splitB ⟨#[c]⟩ 0 (countB s ⟨#[c]⟩) s).map (·.data.toList)=cutL c s.data.toList
 | k,s,hk=>by
  have h1:1≤(⟨#[c]⟩:ByteArray).size:=Nat.le_refl 1
  rcases byte_cases c s.data.toList with h | ⟨x,y,e,hx⟩
  ·have hi:indexB s ⟨#[c]⟩=-1:=(index_one _ c).trans (idx_miss h)
   rw [countB_miss s _ hi,splitB_zero,cutL_miss h]
   rfl
  ·have hi:indexB s ⟨#[c]⟩=x.length:=(index_one _ c).trans (by rw [e];exact idx_hit hx)
   have hsz:s.size=x.length+1+y.length:=by rw [size_eq,e];simp;omega
   rw [countB_hit s _ x.length h1 hi,Nat.add_comm,splitB_hit _ _ _ _ _ hi,List.map_cons,e,cutL_hit y hx,extract_from_zero,e]
   have e1:(x ++ c :: y).take (x.length+0)=x:=by simp
   rw [e1]
   congr 1
   have e2:(s.extract (x.length+(⟨#[c]⟩:ByteArray).size) s.size).data.toList=y:=by
    rw [extract_to_end,e,show (⟨#[c]⟩:ByteArray).size=1 from rfl,List.drop_append]
    simp
   have hsz2:(s.extract (x.length+(⟨#[c]⟩:ByteArray).size) s.size).size=y.length:=by rw [size_eq,e2]
   cases k with
   | zero=>omega
   | succ k =>
    have ih:=splitB_cut c k (s.extract (x.length+(⟨#[c]⟩:ByteArray).size) s.size) (by omega)
    rw [ih,e2]
theorem countB_cut (c:UInt8) (s:ByteArray):countB s ⟨#[c]⟩+1=(cutL c s.data.toList).length:=by
 rw [← splitB_cut c s.size s (Nat.le_refl _),List.length_map,splitB_all ⟨#[c]⟩ (Nat.le_refl 1) 0 _ s rfl]
theorem splitB_get (c:UInt8) (s:ByteArray) (q:Nat):(splitB ⟨#[c]⟩ 0 (countB s ⟨#[c]⟩) s).getD q ByteArray.empty=toBA ((cutL c s.data.toList).getD q []):=by
 rw [← splitB_cut c s.size s (Nat.le_refl _)]
 simp only [List.getD_eq_getElem?_getD,List.getElem?_map]
 cases (splitB ⟨#[c]⟩ 0 (countB s ⟨#[c]⟩) s)[q]? with
 | none=>rfl
 | some t=>exact (toBA_self t).symm
def isDig (b:UInt8):Prop:=48≤b.toNat∧b.toNat≤57
theorem dig_val {b:UInt8} (h:isDig b):digitVal b=some (b.toNat - 48):=if_pos h
theorem decFrom_append:∀ (l m:List UInt8) (a:Nat),decFrom a (l ++ m)=(decFrom a l).bind fun x=>decFrom x m
 | [],m,a=>rfl
 | b :: l,m,a=>by
  simp only [List.cons_append,decFrom]
  cases digitVal b with
  | none=>rfl
  | some d=>exact decFrom_append l m _
theorem ofNat_dig {d:Nat} (h:d<10):(UInt8.ofNat (48+d)).toNat=48+d:=by rw [UInt8.toNat_ofNat'];omega
theorem decDigits_small {u:Nat} (h:u<10):decDigits u=[UInt8.ofNat (48+u)]:=by rw [decDigits,dif_pos h]
theorem decDigits_big {u:Nat} (h:¬ u<10):decDigits u=decDigits (u / 10) ++ [UInt8.ofNat (48+u % 10)]:=by rw [decDigits,dif_neg h]
theorem decDigits_ne (u:Nat):decDigits u≠[]:=by
 by_cases h:u<10
 ·rw [decDigits_small h];simp
 ·rw [decDigits_big h];simp
theorem decDigits_dig:∀ (u:Nat),∀ b∈decDigits u,isDig b:=by
 intro u
 induction u using Nat.strongRecOn with
 | _ u ih =>
  intro b hb
  by_cases h:u<10
  ·rw [decDigits_small h] at hb
   simp only [List.mem_singleton] at hb
   subst hb
   unfold isDig;rw [ofNat_dig h];omega
  ·rw [decDigits_big h] at hb
   rcases List.mem_append.1 hb with hb | hb
   ·exact ih (u / 10) (by omega) b hb
   ·simp only [List.mem_singleton] at hb
    subst hb
    unfold isDig;rw [ofNat_dig (by omega)];omega
theorem decFrom_decDigits (u:Nat):decFrom 0 (decDigits u)=some u:=by
 induction u using Nat.strongRecOn with
 | _ u ih =>
  by_cases h:u<10
  ·rw [decDigits_small h]
   simp only [decFrom]
   rw [dig_val (by unfold isDig;rw [ofNat_dig h];omega),ofNat_dig h]
   simp
  ·rw [decDigits_big h,decFrom_append,ih (u / 10) (by omega)]
   simp only [Option.bind_some,decFrom]
   rw [dig_val (by unfold isDig;rw [ofNat_dig (by omega)];omega),ofNat_dig (by omega)]
   simp;omega
theorem decDigits_head {u:Nat} (h0:0<u):∃ b r,decDigits u=b :: r∧b.toNat≠48:=by
 induction u using Nat.strongRecOn with
 | _ u ih =>
  by_cases h:u<10
  ·exact ⟨_,[],decDigits_small h,by rw [ofNat_dig h];omega⟩
  ·obtain ⟨b,r,e,hb⟩:=ih (u / 10) (by omega) (by omega)
   exact ⟨b,r ++ [UInt8.ofNat (48+u % 10)],by rw [decDigits_big h,e];rfl,hb⟩
theorem decFrom_ge:∀ (l:List UInt8) (a u:Nat),decFrom a l=some u→a≤u
 | [],a,u,h=>by simp only [decFrom,Option.some.injEq] at h;omega
 | b :: l,a,u,h=>by
  simp only [decFrom] at h
  cases hd:digitVal b with
  | none=>rw [hd] at h;cases h
  | some d=>rw [hd] at h;have:=decFrom_ge l _ u h;omega
theorem decFrom_lt:∀ (l:List UInt8) (a u:Nat),decFrom a l=some u→u<(a+1) * 10 ^ l.length
 | [],a,u,h=>by simp only [decFrom,Option.some.injEq] at h;simp;omega
 | b :: l,a,u,h=>by
  simp only [decFrom] at h
  cases hd:digitVal b with
  | none=>rw [hd] at h;cases h
  | some d =>
   rw [hd] at h
   have h1:=decFrom_lt l _ u h
   have h2:d<10:=by unfold digitVal at hd;split at hd <;> cases hd;omega
   rw [List.length_cons,Nat.pow_succ]
   have h3:(a * 10+d+1) * 10 ^ l.length≤((a+1) * 10) * 10 ^ l.length:=Nat.mul_le_mul_right _ (by omega)
   have h4:((a+1) * 10) * 10 ^ l.length=(a+1) * (10 ^ l.length * 10):=by rw [Nat.mul_assoc,Nat.mul_comm 10]
   omega
theorem decDigits_of:∀ (n:Nat) (r:List UInt8),r.length=n→r≠[]→(∀ b t,r=b :: t→b.toNat≠48∨t=[])→∀ u,decFrom 0 r=some u→decDigits u=r
 | n,r,hn,hne,hh,u,h=>by
  obtain ⟨t,b,rfl⟩:∃ t b,r=t ++ [b]:=⟨r.dropLast,r.getLast hne,(List.dropLast_concat_getLast hne).symm⟩
  rw [decFrom_append] at h
  cases ht:decFrom 0 t with
  | none=>rw [ht] at h;cases h
  | some a =>
   rw [ht] at h
   simp only [Option.bind_some,decFrom] at h
   cases hd:digitVal b with
   | none=>rw [hd] at h;cases h
   | some d =>
    rw [hd] at h
    simp only [Option.some.injEq] at h
    have hb:b.toNat=48+d∧d<10:=by unfold digitVal at hd;split at hd <;> cases hd;omega
    have hbe:UInt8.ofNat (48+d)=b:=by apply UInt8.toNat_inj.1;rw [ofNat_dig hb.2];omega
    cases t with
    | nil =>
     simp only [decFrom,Option.some.injEq] at ht
     subst ht
     rw [← h,Nat.zero_mul,Nat.zero_add,decDigits_small hb.2,hbe];rfl
    | cons x t =>
     have hx:x.toNat≠48:=by
      rcases hh x (t ++ [b]) rfl with h1 | h1
      ·exact h1
      ·simp at h1
     have ha:0<a:=by
      simp only [decFrom] at ht
      cases hxd:digitVal x with
      | none=>rw [hxd] at ht;cases ht
      | some e =>
       rw [hxd] at ht
       have:=decFrom_ge t _ a ht
       have:e=x.toNat - 48∧48≤x.toNat:=by unfold digitVal at hxd;split at hxd <;> cases hxd;omega
       omega
     have ih:=decDigits_of (x :: t).length (x :: t) rfl (by simp) (fun b' t' e=>by cases e;exact .inl hx) a ht
     rw [← h,decDigits_big (by omega),show (a * 10+d) / 10=a by omega,show (a * 10+d) % 10=d by omega,ih,hbe]
 termination_by n=>n
 decreasing_by simp at hn ⊢;omega
def numR (l:List UInt8):Option Int:=match l with
 | []=>none
 | b :: r=>if b=45 then (if r=[]∨7<r.length∨r.head? = some 48 then none else (decFrom 0 r).map fun (u:Nat)=>-(u:Int))
  else (if 7<l.length∨(b=48∧r≠[]) then none else (decFrom 0 l).map fun (u:Nat)=>(u:Int))
theorem numR_cons (b:UInt8) (r:List UInt8):numR (b :: r)=if b=45 then (if r=[]∨7<r.length∨r.head? = some 48 then none else (decFrom 0 r).map fun (u:Nat)=>-(u:Int)) else (if 7<(b :: r).length∨(b=48∧r≠[]) then none else (decFrom 0 (b :: r)).map fun (u:Nat)=>(u:Int)):=rfl
theorem dig45:¬ isDig 45:=by unfold isDig;decide
theorem itoa_cases (v:Int):(∃ u:Nat,v=u∧itoa v=decDigits u)∨∃ u:Nat,0<u∧v=-(u:Int)∧itoa v=45 :: decDigits u:=by
 rcases Int.lt_or_le v 0 with h | h
 ·exact .inr ⟨v.natAbs,by omega,by omega,by unfold itoa;rw [if_pos h]⟩
 ·exact .inl ⟨v.toNat,by omega,by unfold itoa;rw [if_neg (by omega)]⟩
theorem decDigits_len {u k:Nat} (h:u<10 ^ (k+1)):(decDigits u).length≤k+1:=by
 induction k generalizing u with
 | zero=>rw [decDigits_small (by simpa using h)];simp
 | succ k ih =>
  by_cases hs:u<10
  ·rw [decDigits_small hs];simp
  ·rw [decDigits_big hs,List.length_append]
   have:=ih (u:=u / 10) (by rw [Nat.pow_succ] at h;omega)
   simp;omega
theorem numR_itoa {v:Int} (h:(itoa v).length≤7∨(v<0∧(itoa v).length≤8)):numR (itoa v)=some v:=by
 rcases itoa_cases v with ⟨u,rfl,e⟩ | ⟨u,h0,rfl,e⟩
 ·have hl:(decDigits u).length≤7:=by rw [e] at h;rcases h with h | h;exact h;omega
  obtain ⟨b,r,hbr⟩:∃ b r,decDigits u=b :: r:=by
   cases hd:decDigits u with
   | nil=>exact absurd hd (decDigits_ne u)
   | cons b r=>exact ⟨b,r,rfl⟩
  have hdig:=decDigits_dig u b (by rw [hbr];simp)
  have hd:=decFrom_decDigits u
  rw [e,hbr]
  rw [hbr] at hd hl
  rw [numR_cons,if_neg (fun e=>dig45 (by rw [← e];exact hdig)),if_neg,hd]
  ·rfl
  ·rintro (h1 | ⟨h1,h2⟩)
   ·omega
   ·by_cases hu:0<u
    ·obtain ⟨b',r',e',hb'⟩:=decDigits_head hu
     rw [hbr] at e';cases e'
     exact hb' (by rw [h1];rfl)
    ·rw [decDigits_small (by omega)] at hbr
     cases hbr
     exact h2 rfl
 ·have hl:(decDigits u).length≤7:=by rw [e] at h;simp at h;rcases h with h | h <;> omega
  obtain ⟨b,r,hbr,hb⟩:=decDigits_head h0
  rw [e]
  rw [numR_cons,if_pos rfl,if_neg,decFrom_decDigits u]
  ·rfl
  ·rintro (h1 | h1 | h1)
   ·exact decDigits_ne u h1
   ·omega
   ·rw [hbr] at h1
    simp at h1
    exact hb (by rw [h1];rfl)
theorem numR_some {l:List UInt8} {v:Int} (h:numR l=some v):itoa v=l∧l.length≤8∧(l.length≤7∨∃ r,l=45 :: r):=by
 unfold numR at h
 split at h
 ·cases h
 ·rename_i b r
  split at h
  ·rename_i hb
   subst hb
   split at h
   ·cases h
   ·rename_i hc
    simp only [not_or] at hc
    rw [Option.map_eq_some_iff] at h
    obtain ⟨u,hu,rfl⟩:=h
    have e:=decDigits_of r.length r rfl hc.1 (fun b t e=>.inl fun e2=>hc.2.2 (by rw [e];simp;exact UInt8.toNat_inj.1 e2)) u hu
    have hu0:0<u:=by
     rcases Nat.eq_zero_or_pos u with e0 | h1
     ·subst e0
      rw [decDigits_small (by decide)] at e
      exact absurd (by rw [← e];rfl) hc.2.2
     ·exact h1
    refine ⟨by rw [itoa_neg u hu0,e],by simp;omega,.inr ⟨r,rfl⟩⟩
  ·rename_i hb
   split at h
   ·cases h
   ·rename_i hc
    simp only [not_or,not_and] at hc
    rw [Option.map_eq_some_iff] at h
    obtain ⟨u,hu,rfl⟩:=h
    have e:=decDigits_of (b :: r).length (b :: r) rfl (by simp) (fun b' t e=>by
     cases e
     by_cases h48:b=48
     ·exact .inr (by have:=hc.2 h48;simpa using this)
     ·exact .inl fun e2=>h48 (UInt8.toNat_inj.1 e2)) u hu
    exact ⟨by rw [itoa_nonneg,e],by simp at hc ⊢;omega,.inl (by omega)⟩
theorem parse_dec:∀ (l:List UInt8) (a u:Nat),decFrom a l=some u→u<1844674407370955162→parseUint10 a l=.ok u
 | [],a,u,h,_=>by simp only [decFrom,Option.some.injEq] at h;rw [parseUint10,h]
 | c :: r,a,u,h,hu=>by
  simp only [decFrom] at h
  cases hd:digitVal c with
  | none=>rw [hd] at h;cases h
  | some d =>
   rw [hd] at h
   have hc:(48≤c.toNat∧c.toNat≤57)∧d=c.toNat - 48:=by unfold digitVal at hd;split at hd <;> cases hd;exact ⟨by assumption,rfl⟩
   have hge:=decFrom_ge r _ u h
   rw [parseUint10,if_pos hc.1,if_neg (by omega),if_neg (by omega),← hc.2]
   exact parse_dec r _ u h hu
theorem atoi_neg {r:List UInt8} {u:Nat} (h:parseMag r=.ok u) (hu:u≤9223372036854775808):atoiAll (45 :: r)=.ok (-(u:Int)):=by
 unfold atoiAll
 dsimp only
 rw [if_pos (show (45:UInt8).toNat=43∨(45:UInt8).toNat=45 from .inr rfl),h]
 dsimp only
 rw [if_neg (fun e=>e.1 rfl),if_neg (fun e=>by omega)]
 exact congrArg _ (if_pos rfl)
theorem atoi_pos {b:UInt8} {r:List UInt8} {u:Nat} (hb:isDig b) (h:parseMag (b :: r)=.ok u) (hu:u<9223372036854775808):atoiAll (b :: r)=.ok (u:Int):=by
 have h45:¬ (b.toNat=45):=by unfold isDig at hb;omega
 unfold atoiAll
 dsimp only
 rw [if_neg (show ¬ (b.toNat=43∨b.toNat=45) by unfold isDig at hb;omega),h]
 dsimp only
 rw [if_neg (fun e=>by omega),if_neg (fun e=>h45 e.1),if_neg h45]
theorem atoi_num {l:List UInt8} {v:Int} (h:numR l=some v):atoiAll l=.ok v:=by
 unfold numR at h
 split at h
 ·cases h
 ·rename_i b r
  split at h
  ·rename_i hb
   subst hb
   split at h
   ·cases h
   ·rename_i hc
    simp only [not_or] at hc
    rw [Option.map_eq_some_iff] at h
    obtain ⟨u,hu,rfl⟩:=h
    have hlt:u<10000000:=by
     have h1:=decFrom_lt r 0 u hu
     have h2:10 ^ r.length≤10 ^ 7:=Nat.pow_le_pow_right (by decide) (by omega)
     omega
    have hp:=parse_dec r 0 u hu (by omega)
    have hm:parseMag r=.ok u:=by unfold parseMag;rw [if_neg hc.1,hp]
    exact atoi_neg hm (by omega)
  ·rename_i hb
   split at h
   ·cases h
   ·rename_i hc
    simp only [not_or] at hc
    rw [Option.map_eq_some_iff] at h
    obtain ⟨u,hu,rfl⟩:=h
    have hlt:u<10000000:=by
     have h1:=decFrom_lt (b :: r) 0 u hu
     have h2:10 ^ (b :: r).length≤10 ^ 7:=Nat.pow_le_pow_right (by decide) (by omega)
     omega
    have hbd:isDig b:=by
     simp only [decFrom] at hu
     cases hd:digitVal b with
     | none=>rw [hd] at hu;cases hu
     | some d=>unfold digitVal at hd;split at hd <;> cases hd;assumption
    have hp:=parse_dec (b :: r) 0 u hu (by omega)
    have hm:parseMag (b :: r)=.ok u:=by unfold parseMag;rw [if_neg (by simp),hp]
    exact atoi_pos hbd hm (by omega)
end Go.Proofs.YtdcdjjogieojhaaGreatDoor
namespace Go.Proofs.YtdcdjjogieojhaaGreatDoor
open Go Go.Sy
set_option linter.unusedVariables false
set_option linter.unusedSectionVars false
set_option linter.unusedSimpArgs false
set_option maxRecDepth 100000
theorem app_lt_ss {d e:Dat} {n q c:Nat} (h:q<n):(d.app n e).ss q c=d.ss q c:=by simp only [Dat.app,blt_t h,cond_true]
theorem app_ge_ss {d e:Dat} {n q c:Nat} (h:n≤q):(d.app n e).ss q c=e.ss (q - n) c:=by simp only [Dat.app,blt_f (Nat.not_lt.2 h),cond_false]
theorem dt {p:Prop} [Decidable p] (h:p):decide p=true:=decide_eq_true h
theorem df {p:Prop} [Decidable p] (h:¬ p):decide p=false:=decide_eq_false h
abbrev bts (s:ByteArray):List UInt8:=s.data.toList
theorem bts_size (s:ByteArray):s.size=(bts s).length:=Lib.size_eq s
theorem m30_len (s:ByteArray) (c:UInt8):(m30 s ⟨#[c]⟩).1=(cutL c (bts s)).length:=by unfold m30;exact countB_cut c s
theorem m30_at (s:ByteArray) (c:UInt8) (q:Nat):(m30 s ⟨#[c]⟩).2.ss q 0=toBA ((cutL c (bts s)).getD q []):=by unfold m30;exact splitB_get c s q
theorem byteAt_of {s:ByteArray} {i:Nat} {b:UInt8} (h:(bts s)[i]? = some b):byteAt s i=(b.toNat:Int):=by
 unfold byteAt
 rw [List.getD_eq_getElem?_getD,h];rfl
theorem l33_run {t0:ByteArray} {c:UInt8} (hs:t0.size≤100000000):∀ (k i g n f0:Nat) (d:Dat),i+k=t0.size→k<g→f0≤i→n≤f0→c ∉ ((bts t0).drop f0).take (i - f0) →
  ∃ n' f' d',l33_0 t0 (c.toNat:Int) g n (f0:Int) (i:Int) d=some (n',((f':Nat):Int),n',d')∧f'≤t0.size∧n'≤f'∧n'+1=n+(cutL c ((bts t0).drop f0)).length ∧
   (∀ q,q<n→d'.ss q 0=d.ss q 0)∧(∀ j,j+1<(cutL c ((bts t0).drop f0)).length→d'.ss (n+j) 0=toBA ((cutL c ((bts t0).drop f0)).getD j []))∧(cutL c ((bts t0).drop f0)).getD (n' - n) []=(bts t0).drop f'∧n≤n'
 | 0,i,g,n,f0,d,hi,hg,hf,hn,hc=>by
  obtain ⟨g,rfl⟩:∃ g',g=g'+1:=⟨g - 1,by omega⟩
  have e:((bts t0).drop f0).take (i - f0)=(bts t0).drop f0:=List.take_of_length_le (by rw [List.length_drop,← bts_size];omega)
  rw [e] at hc
  unfold l33_0
  rw [df (show ¬ ((i:Int)<t0.size) by omega)]
  rw [cutL_miss hc]
  exact ⟨n,f0,d,rfl,by omega,hn,rfl,fun _ _=>rfl,fun j hj=>by simp at hj,by simp,Nat.le_refl _⟩
 | k+1,i,g,n,f0,d,hi,hg,hf,hn,hc=>by
  obtain ⟨g,rfl⟩:∃ g',g=g'+1:=⟨g - 1,by omega⟩
  have hlt:i<(bts t0).length:=by rw [← bts_size];omega
  obtain ⟨b,hb⟩:∃ b,(bts t0)[i]? = some b:=⟨_,List.getElem?_eq_getElem hlt⟩
  have hby:=byteAt_of hb
  have hd:(bts t0).drop i=b :: (bts t0).drop (i+1):=by rw [List.drop_eq_getElem_cons hlt];congr 1;rw [List.getElem?_eq_getElem hlt] at hb;cases hb;rfl
  have hsp:(bts t0).drop f0=((bts t0).drop f0).take (i - f0) ++ b :: (bts t0).drop (i+1):=by
   conv=>lhs;rw [← List.take_append_drop (i - f0) ((bts t0).drop f0)]
   rw [List.drop_drop,show f0+(i - f0)=i by omega,hd]
  have hw:IntKind.i64.wrap ((i:Int)+1)=((i+1:Nat):Int):=wrS (show i<t0.size by omega) (by omega)
  unfold l33_0
  simp only [Int.toNat_natCast,hby,hw]
  rw [dt (show (i:Int)<t0.size by omega),dt (show (0:Int)≤i∧(i:Int)<t0.size by omega)]
  simp only [cond_true]
  by_cases hbc:b=c
  ·subst hbc
   rw [dt rfl,dt (show (0:Int)≤f0∧(f0:Int)≤i∧(i:Int)≤t0.size by omega),dt (show n+1≤1073741824 by omega)]
   simp only [cond_true]
   obtain ⟨n',f',d',h1,h2,h3,h4,h5,h6,h7,h8⟩:=l33_run (c:=b) hs k (i+1) g (n+1) (i+1) (d.app n (datS [SV.str (t0.extract f0 i)] 1)) (by omega) (by omega) (Nat.le_refl _) (by omega) (by simp)
   refine ⟨n',f',d',h1,h2,h3,?_,fun q hq=>?_,fun j hj=>?_,?_,by omega⟩
   ·rw [hsp,cutL_hit _ hc,List.length_cons];omega
   ·rw [h5 q (by omega),app_lt_ss hq]
   ·rw [hsp,cutL_hit _ hc] at hj ⊢
    cases j with
    | zero =>
     rw [Nat.add_zero,h5 n (by omega),app_ge_ss (Nat.le_refl _),Nat.sub_self]
     show t0.extract f0 i=toBA _
     apply ba_ext
     rw [Lib.extract_data];rfl
    | succ j =>
     have:=h6 j (by simp only [List.length_cons] at hj;omega)
     rw [show n+(j+1)=n+1+j by omega,this];rfl
   ·rw [hsp,cutL_hit _ hc,show n' - n=(n' - (n+1))+1 by omega]
    exact h7
  ·rw [df (show ¬ ((b.toNat:Int)=(c.toNat:Int)) from fun e=>hbc (UInt8.toNat_inj.1 (by omega)))]
   simp only [cond_false]
   refine l33_run (c:=c) hs k (i+1) g n f0 d (by omega) (by omega) (by omega) hn ?_
   have:((bts t0).drop f0).take (i+1 - f0)=((bts t0).drop f0).take (i - f0) ++ [b]:=by
    conv=>lhs;rw [hsp]
    have hl:(((bts t0).drop f0).take (i - f0)).length=i - f0:=by rw [List.length_take,List.length_drop];omega
    rw [List.take_append,hl,show i+1 - f0 - (i - f0)=1 by omega,List.take_of_length_le (by rw [hl];omega)]
    rfl
   rw [this]
   intro hm
   rcases List.mem_append.1 hm with h | h
   ·exact hc h
   ·exact hbc (List.mem_singleton.1 h).symm
theorem cut_ref {s:ByteArray} {c:UInt8} {a:Int} (ha:a=(c.toNat:Int)) (hs:s.size≤100000000):n33 s a=true∧(m33 s a).1=(cutL c (bts s)).length∧∀ q,q<(cutL c (bts s)).length→(m33 s a).2.ss q 0=toBA ((cutL c (bts s)).getD q []):=by
 subst ha
 obtain ⟨n',f',d',h1,h2,h3,h4,h5,h6,h7,h8⟩:=l33_run (t0:=s) (c:=c) hs s.size 0 (s.size+(c.toNat:Int).toNat+0+(0:Int).toNat+(0:Int).toNat+8) 0 0 noDat (by omega) (by omega) (Nat.le_refl _) (Nat.le_refl _) (by simp)
 rw [List.drop_zero] at h4 h6 h7
 rw [Nat.sub_zero] at h7
 have ho:o33_0 s (c.toNat:Int) 0 0 0 noDat=some (n',((f':Nat):Int),n',d'):=h1
 refine ⟨?_,?_,fun q hq=>?_⟩
 ·unfold n33
  rw [ho]
  simp only [Option.isSome_some,Option.getD_some,Bool.true_and,Bool.and_true]
  rw [dt (show (0:Int)≤f'∧(f':Int)≤s.size∧(s.size:Int)≤s.size by omega),dt (Nat.le_refl _),dt (show n'+1≤1073741824 by omega),dt (show 0+(n'+1)≤n'+1 by omega)]
  rfl
 ·unfold m33
  rw [ho]
  simp only [Option.getD_some]
  omega
 ·unfold m33
  rw [ho]
  simp only [Option.getD_some,Int.toNat_natCast]
  by_cases hq':q<n'
  ·rw [app_lt_ss hq']
   have:=h6 q (by omega)
   rw [Nat.zero_add] at this
   exact this
  ·have e:q=n':=by omega
   subst e
   rw [app_ge_ss (Nat.le_refl _),Nat.sub_self,h7]
   show s.extract f' s.size=toBA _
   apply ba_ext
   rw [Lib.extract_to_end];rfl
theorem m66_eq (n:Int):m66 n=toBA (Lib.itoa n):=by unfold m66;rfl
theorem m69_ok {s:ByteArray} {v:Int} (h:Lib.atoiAll (bts s)=.ok v):m69 s=(v,true):=by unfold m69;rw [h]
theorem m70_size (s:ByteArray):(m70 s ⟨#[45]⟩).size=(match bts s with | 45 :: r=>r.length | l=>l.length):=by
 unfold m70
 rw [Lib.size_eq]
 show (Lib.trimPrefix (bts s) [45]).length=_
 unfold Lib.trimPrefix Lib.hasPrefix
 cases h:bts s with
 | nil=>rfl
 | cons b r =>
  by_cases hb:b=45
  ·subst hb;simp [List.isPrefixOf]
  ·have:([45]:List UInt8).isPrefixOf (b :: r)=false:=by simp [List.isPrefixOf];exact fun e=>hb e.symm
   rw [this]
   simp only [Bool.false_eq_true,if_false]
   split
   ·rename_i e;cases e;exact absurd rfl hb
   ·rfl
theorem num_prog (s:ByteArray):(bif bif bif (m69 s).2 then false else true then true else bif decide (m66 (m69 s).1=s) then false else true then true else decide (7<((m70 s ⟨#[45]⟩).size:Int)))=(numR (bts s)).isNone∧∀ v,numR (bts s)=some v→(m69 s).1=v:=by
 cases h:numR (bts s) with
 | some v =>
  have h1:=m69_ok (atoi_num h)
  obtain ⟨h2,h3,h4⟩:=numR_some h
  rw [h1]
  refine ⟨?_,fun w hw=>by cases hw;rfl⟩
  have e:m66 v=s:=by rw [m66_eq,h2];exact toBA_self s
  have hsz:¬ ((7:Int)<((m70 s ⟨#[45]⟩).size:Int)):=by
   rw [m70_size]
   rcases h4 with h4 | ⟨r,h4⟩
   ·split
    ·rename_i r e;rw [e] at h4;simp at h4;omega
    ·omega
   ·rw [h4] at h3 ⊢;simp at h3 ⊢;omega
  simp [e,df hsz]
 | none =>
  refine ⟨?_,fun v hv=>by cases hv⟩
  simp only [Option.isNone_none]
  cases h2:(m69 s).2 with
  | false=>simp
  | true =>
   by_cases h3:m66 (m69 s).1=s
   ·by_cases h4:(7:Int)<((m70 s ⟨#[45]⟩).size:Int)
    ·simp [h3,dt h4]
    ·exfalso
     have e:Lib.itoa (m69 s).1=bts s:=by
      have:=congrArg bts h3
      rwa [m66_eq] at this
     rw [m70_size] at h4
     have:numR (Lib.itoa (m69 s).1)=some (m69 s).1:=by
      refine numR_itoa ?_
      rcases itoa_cases (m69 s).1 with ⟨u,hu,e2⟩ | ⟨u,hu0,hu,e2⟩
      ·left
       rw [e]
       split at h4
       ·rename_i r er
        exfalso
        have:=decDigits_dig u 45 (by rw [← e2,e,er];simp)
        exact dig45 this
       ·omega
      ·right
       rw [e2] at e
       rw [← e] at h4
       rw [e2]
       simp at h4 ⊢
       omega
     rw [e,h] at this
     cases this
   ·simp [df h3]
theorem wrap_dig {b:UInt8} (h:isDig b):IntKind.i64.wrap (IntKind.u8.wrap ((b.toNat:Int) - 48))=((b.toNat - 48:Nat):Int):=by
 unfold isDig at h
 have e:IntKind.u8.wrap ((b.toNat:Int) - 48)=((b.toNat - 48:Nat):Int):=by
  simp [IntKind.wrap,IntKind.bits,IntKind.signed];omega
 rw [e,wrp (by omega) (by omega)]
theorem l34_run {s:ByteArray} {t6:Int} (hs:s.size≤8):∀ (k i g a:Nat),i+k=s.size→k<g→a<10 ^ i →
  ∃ r,l34_0 s t6 g (a:Int) (i:Int)=some r∧(match Lib.decFrom a ((bts s).drop i) with | some u=>r=(false,default,(u:Int)) | none=>∃ z,r=(true,(0,false,z),default))
 | 0,i,g,a,hi,hg,ha=>by
  obtain ⟨g,rfl⟩:∃ g',g=g'+1:=⟨g - 1,by omega⟩
  unfold l34_0
  rw [df (show ¬ ((i:Int)<s.size) by omega),List.drop_eq_nil_of_le (by rw [← bts_size];omega)]
  exact ⟨_,rfl,rfl⟩
 | k+1,i,g,a,hi,hg,ha=>by
  obtain ⟨g,rfl⟩:∃ g',g=g'+1:=⟨g - 1,by omega⟩
  have hlt:i<(bts s).length:=by rw [← bts_size];omega
  obtain ⟨b,hb⟩:∃ b,(bts s)[i]? = some b:=⟨_,List.getElem?_eq_getElem hlt⟩
  have hby:=byteAt_of hb
  have hd:(bts s).drop i=b :: (bts s).drop (i+1):=by rw [List.drop_eq_getElem_cons hlt];congr 1;rw [List.getElem?_eq_getElem hlt] at hb;cases hb;rfl
  have hw:IntKind.i64.wrap ((i:Int)+1)=((i+1:Nat):Int):=wrS (show i<s.size by omega) (by omega)
  unfold l34_0
  simp only [Int.toNat_natCast,hby,hw]
  rw [dt (show (i:Int)<s.size by omega),dt (show (0:Int)≤i∧(i:Int)<s.size by omega),hd]
  simp only [cond_true,Bool.cond_true_right]
  by_cases hbd:isDig b
  ·have h10:a<100000000:=Nat.lt_of_lt_of_le ha (Nat.le_trans (Nat.pow_le_pow_right (by decide) (show i≤8 by omega)) (by decide))
   have hv:IntKind.i64.wrap (IntKind.i64.wrap (10 * (a:Int))+IntKind.i64.wrap (IntKind.u8.wrap ((b.toNat:Int) - 48)))=((a * 10+(b.toNat - 48):Nat):Int):=by
    have h9:b.toNat - 48<10:=by unfold isDig at hbd;omega
    rw [wrap_dig hbd,wrp (n:=10 * (a:Int)) (by omega) (by omega),wrp (by omega) (by omega)]
    omega
   rw [hv,Lib.decFrom,dig_val hbd]
   have c1:¬ ((b.toNat:Int)<48):=by unfold isDig at hbd;omega
   have c2:¬ ((57:Int)<(b.toNat:Int)):=by unfold isDig at hbd;omega
   rw [df c1,df c2]
   simp only [cond_true,cond_false]
   refine l34_run hs k (i+1) g _ (by omega) (by omega) ?_
   have:b.toNat - 48<10:=by unfold isDig at hbd;omega
   rw [Nat.pow_succ];omega
  ·have hdn:Lib.digitVal b=none:=if_neg hbd
   rw [Lib.decFrom,hdn]
   have:(bif decide ((b.toNat:Int)<48) then true else decide ((57:Int)<(b.toNat:Int)))=true:=by
    by_cases h1:(b.toNat:Int)<48
    ·rw [dt h1];rfl
    ·rw [df h1,dt (show (57:Int)<(b.toNat:Int) by unfold isDig at hbd;omega)];rfl
   rw [this]
   by_cases h1:(b.toNat:Int)<48
   ·simp [h1]
   ·simp [h1]
theorem number_ref {s:ByteArray} (hs:s.size≤100000000):n34 s 7=true∧(m34 s 7).2=(numR (bts s)).isSome∧∀ v,numR (bts s)=some v→(m34 s 7).1=v:=by
 have hsz:=bts_size s
 cases hl:bts s with
 | nil =>
  rw [hl] at hsz
  have h0:s.size=0:=by simpa using hsz
  refine ⟨?_,?_,fun v hv=>by cases hv⟩
  ·unfold n34;simp [h0]
  ·unfold m34;simp [h0,numR]
 | cons b r =>
  rw [hl] at hsz
  simp only [List.length_cons] at hsz
  have hb0:byteAt s 0=(b.toNat:Int):=byteAt_of (by rw [hl];rfl)
  have hpos:(0:Int)<s.size:=by omega
  rw [numR_cons]
  by_cases hb:b=45
  ·subst hb
   have hb45:byteAt s 0=45:=hb0
   rw [if_pos rfl]
   have hw:IntKind.i64.wrap ((s.size:Int) - 1)=(r.length:Int):=by rw [wrp (by omega) (by omega)];omega
   have hhd:(bif decide (byteAt s 1=48) then decide (1<(s.size:Int)) else false)=decide (r.head? = some 48):=by
    cases r with
    | nil=>simp [hsz]
    | cons x r =>
     have hx:byteAt s 1=(x.toNat:Int):=byteAt_of (by rw [hl];rfl)
     rw [hx]
     by_cases h48:x=48
     ·subst h48;simp [hsz];omega
     ·have:¬ ((x.toNat:Int)=48):=fun e=>h48 (UInt8.toNat_inj.1 (by show x.toNat=48;omega))
      simp [this,h48]
   have hc:(bif bif decide ((s.size:Int)=1) then true else decide (7<IntKind.i64.wrap ((s.size:Int) - 1)) then true else bif decide (byteAt s 1=48) then decide (1<(s.size:Int)) else false)=decide (r=[]∨7<r.length∨r.head? = some 48):=by
    rw [hhd,hw]
    by_cases h1:r=[]
    ·subst h1;simp [hsz]
    ·have:¬ ((s.size:Int)=1):=by
      intro e
      exact h1 (List.length_eq_zero_iff.1 (by omega))
     rw [df this]
     by_cases h2:7<r.length
     ·simp [h2,show (7:Int)<r.length by omega]
     ·simp [h2,h1,show ¬ (7:Int)<r.length by omega]
   by_cases hbad:r=[]∨7<r.length∨r.head? = some 48
   ·rw [if_pos hbad]
    refine ⟨?_,?_,fun v hv=>by cases hv⟩
    ·unfold n34
     rw [hc,hb45,dt hbad,dt hpos]
     by_cases h1:r=[]
     ·subst h1;simp [hsz]
     ·have hr:0<r.length:=List.length_pos_iff.2 h1
      simp;omega
    ·unfold m34
     rw [hc,hb45,dt hbad,dt hpos]
     rfl
   ·rw [if_neg hbad]
    simp only [not_or] at hbad
    have hr:0<r.length:=List.length_pos_iff.2 hbad.1
    obtain ⟨res,h1,h2⟩:=l34_run (s:=s) (t6:=1) (by omega) r.length 1 (s.size+(1:Int).toNat+(0:Int).toNat+(1:Int).toNat+8) 0 (by omega) (by omega) (by decide)
    have ho:o34_0 s 1 0 1=some res:=h1
    rw [hl] at h2
    simp only [List.drop_succ_cons,List.drop_zero] at h2
    have hbad':¬ (r=[]∨7<r.length∨r.head? = some 48):=by simp only [not_or];exact hbad
    have hn:n34 s 7=true:=by
     unfold n34
     rw [hc,hb45,df hbad',dt hpos,ho]
     simp;omega
    refine ⟨hn,?_⟩
    unfold m34
    rw [hc,hb45,df hbad',dt hpos,ho]
    cases hd:Lib.decFrom 0 r with
    | none =>
     rw [hd] at h2
     obtain ⟨z,rfl⟩:=h2
     exact ⟨rfl,fun v hv=>by cases hv⟩
    | some u =>
     rw [hd] at h2
     subst h2
     have hu:u<10000000:=by
      have h1:=decFrom_lt r 0 u hd
      have h2:10 ^ r.length≤10 ^ 7:=Nat.pow_le_pow_right (by decide) (by omega)
      omega
     refine ⟨rfl,fun v hv=>?_⟩
     cases hv
     show IntKind.i64.wrap (0 - (u:Int))=-(u:Int)
     rw [wrp (by omega) (by omega)];omega
  ·have hnb:¬ (byteAt s 0=45):=by
    rw [hb0];exact fun e=>hb (UInt8.toNat_inj.1 (by show b.toNat=45;omega))
   rw [if_neg hb]
   have hw:IntKind.i64.wrap ((s.size:Int) - 0)=((r.length+1:Nat):Int):=by rw [wrp (by omega) (by omega)];omega
   have hc:(bif bif decide ((s.size:Int)=0) then true else decide (7<IntKind.i64.wrap ((s.size:Int) - 0)) then true else bif decide (byteAt s 0=48) then decide (1<(s.size:Int)) else false)=decide (7<(b :: r).length∨(b=48∧r≠[])):=by
    rw [hw,df (show ¬ ((s.size:Int)=0) by omega),hb0]
    by_cases h2:7<(b :: r).length
    ·rw [dt (show (7:Int)<((r.length+1:Nat):Int) by simp at h2;omega),dt (Or.inl h2:7<(b :: r).length∨(b=48∧r≠[]))];rfl
    ·rw [df (show ¬ (7:Int)<((r.length+1:Nat):Int) by simp at h2;omega)]
     by_cases h48:b=48
     ·subst h48
      cases r with
      | nil=>simp [hsz]
      | cons x r=>simp only [List.length_cons] at hsz h2;simp [hsz,h2];omega
     ·have:¬ ((b.toNat:Int)=48):=fun e=>h48 (UInt8.toNat_inj.1 (by show b.toNat=48;omega))
      simp only [List.length_cons] at h2
      simp [this,h48];omega
   by_cases hbad:7<(b :: r).length∨(b=48∧r≠[])
   ·rw [if_pos hbad]
    refine ⟨?_,?_,fun v hv=>by cases hv⟩
    ·unfold n34
     rw [hc,df hnb,dt hbad,dt hpos]
     simp;omega
    ·unfold m34
     rw [hc,df hnb,dt hbad,dt hpos]
     rfl
   ·rw [if_neg hbad]
    have hl7:(b :: r).length≤7:=by simp only [not_or] at hbad;omega
    simp only [List.length_cons] at hl7
    obtain ⟨res,h1,h2⟩:=l34_run (s:=s) (t6:=0) (by omega) (r.length+1) 0 (s.size+(0:Int).toNat+(0:Int).toNat+(0:Int).toNat+8) 0 (by omega) (by omega) (by decide)
    have ho:o34_0 s 0 0 0=some res:=h1
    rw [hl] at h2
    simp only [List.drop_zero] at h2
    have hn:n34 s 7=true:=by
     unfold n34
     rw [hc,df hnb,df hbad,dt hpos,ho]
     simp;omega
    refine ⟨hn,?_⟩
    unfold m34
    rw [hc,df hnb,df hbad,dt hpos,ho]
    cases hd:Lib.decFrom 0 (b :: r) with
    | none =>
     rw [hd] at h2
     obtain ⟨z,rfl⟩:=h2
     exact ⟨rfl,fun v hv=>by cases hv⟩
    | some u =>
     rw [hd] at h2
     subst h2
     refine ⟨rfl,fun v hv=>?_⟩
     cases hv
     rfl
end Go.Proofs.YtdcdjjogieojhaaGreatDoor
namespace Go.Proofs.YtdcdjjogieojhaaGreatDoor
open Go Go.Sy
set_option linter.unusedVariables false
set_option linter.unusedSectionVars false
set_option linter.unusedSimpArgs false
set_option maxRecDepth 100000
theorem dig_of {r:Int} (h0:-9≤r) (h1:r≤9):IntKind.u8.wrap (IntKind.i64.wrap (48+m72 r))=((48+r.natAbs:Nat):Int):=by
 have e:m72 r=(r.natAbs:Int):=by
  unfold m72 imax
  rw [wrp (n:=0 - r) (by omega) (by omega)]
  try split
  all_goals omega
 rw [e,wrp (by omega) (by omega)]
 simp [IntKind.wrap,IntKind.bits,IntKind.signed]
 omega
def sgn (neg:Bool) (u:Nat):Int:=if neg then -(u:Int) else u
theorem sgn_div (neg:Bool) (u:Nat):(sgn neg u).tdiv 10=sgn neg (u / 10):=by
 unfold sgn
 cases neg with
 | true=>simp only [if_true];rw [Int.neg_tdiv];rfl
 | false=>rfl
theorem sgn_mod (neg:Bool) (u:Nat):(sgn neg u).tmod 10=sgn neg (u % 10):=by
 unfold sgn
 cases neg with
 | true=>simp only [if_true];rw [Int.neg_tmod];rfl
 | false=>rfl
theorem sgn_abs (neg:Bool) (u:Nat):(sgn neg u).natAbs=u:=by
 unfold sgn;cases neg <;> simp
theorem sgn_range (neg:Bool) {u k:Nat} (h:u≤k):-(k:Int)≤sgn neg u∧sgn neg u≤k:=by
 unfold sgn;cases neg <;> simp <;> omega
theorem sgn_zero (neg:Bool) (u:Nat):sgn neg u=0↔u=0:=by
 unfold sgn;cases neg <;> simp
theorem byteS_dig {d:Nat} (h:d<10):byteS ((48+d:Nat):Int)=toBA [UInt8.ofNat (48+d)]:=rfl
theorem l35_run (neg:Bool) (t4:ByteArray):∀ (k g u:Nat) (t3:List UInt8),0<u→u<10 ^ k→k<g→k≤19→t3.length+k≤1000→l35_0 t4 g (sgn neg u) (toBA t3)=some (toBA (Lib.decDigits u ++ t3))
 | 0,g,u,t3,h0,h1,h2,_,_=>by rw [Nat.pow_zero] at h1;omega
 | k+1,g,u,t3,h0,h1,h2,h3,h4=>by
  obtain ⟨g,rfl⟩:∃ g',g=g'+1:=⟨g - 1,by omega⟩
  have hu:u<10 ^ 19:=Nat.lt_of_lt_of_le h1 (Nat.pow_le_pow_right (by decide) h3)
  have hr:=sgn_range neg (u:=u % 10) (k:=9) (by omega)
  have hr2:=sgn_range neg (u:=u / 10) (k:=10 ^ 18) (by omega)
  unfold l35_0
  rw [sgn_mod,sgn_div,dig_of hr.1 hr.2,sgn_abs,wrp (by omega) (by omega),df (show ¬ (sgn neg u=0) from fun e=>by have:=(sgn_zero neg u).1 e;omega),dt (show (0:Int)≤((48+u % 10:Nat):Int)∧((48+u % 10:Nat):Int)≤255 by omega),byteS_dig (by omega),toBA_append,toBA_size,toBA_size,dt (show [UInt8.ofNat (48+u % 10)].length+t3.length≤9223372036854775807 by simp;omega)]
  simp only [cond_true,cond_false]
  by_cases hs:u<10
  ·obtain ⟨g,rfl⟩:∃ g',g=g'+1:=⟨g - 1,by omega⟩
   rw [show u / 10=0 by omega]
   unfold l35_0
   rw [dt ((sgn_zero neg 0).2 rfl),decDigits_small hs,show u % 10=u by omega]
   rfl
  ·rw [l35_run neg t4 k g (u / 10) _ (by omega) (by rw [Nat.pow_succ] at h1;omega) (by omega) (by omega) (by simp;omega),decDigits_big hs,List.append_assoc]
theorem dec_eq {v:Int} (h0:-9223372036854775808≤v) (h1:v≤9223372036854775807):n35 v=true∧m35 v=toBA (Lib.itoa v):=by
 unfold n35 m35
 rcases itoa_cases v with ⟨u,rfl,e⟩ | ⟨u,hu,rfl,e⟩
 ·rw [e]
  by_cases hz:u=0
  ·subst hz
   rw [decDigits_small (by omega)]
   exact ⟨rfl,rfl⟩
  ·have ho:∀ g,20≤g→l35_0 ({ data:=#[] }:ByteArray) g ((u:Nat):Int) ({ data:=#[] }:ByteArray)=some (toBA (Lib.decDigits u)):=fun g hg=>by
    have hl:=l35_run false ({ data:=#[] }:ByteArray) 19 g u [] (by omega) (by omega) (by omega) (by omega) (by simp)
    rw [List.append_nil] at hl
    exact hl
   rw [df (show ¬ ((u:Int)=0) by omega),df (show ¬ ((u:Int)<0) by omega)]
   unfold o35_0
   rw [ho _ (by omega)]
   have:=decDigits_len (u:=u) (k:=19) (by omega)
   simp only [Option.getD_some,Option.isSome_some,cond_false]
   simp only [toBA_size]
   rw [dt (show 0+(Lib.decDigits u).length≤9223372036854775807 by omega)]
   exact ⟨rfl,ba_ext (by rw [append_bytes];rfl)⟩
 ·rw [e]
  have ho:∀ t g,20≤g→l35_0 t g (-((u:Nat):Int)) ({ data:=#[] }:ByteArray)=some (toBA (Lib.decDigits u)):=fun t g hg=>by
   have hl:=l35_run true t 19 g u [] (by omega) (by omega) (by omega) (by omega) (by simp)
   rw [List.append_nil] at hl
   exact hl
  rw [df (show ¬ (-(u:Int)=0) by omega),dt (show (-(u:Int)<0) by omega)]
  unfold o35_0
  rw [ho _ _ (by omega)]
  have:=decDigits_len (u:=u) (k:=19) (by omega)
  simp only [Option.getD_some,Option.isSome_some,cond_false]
  simp only [toBA_size]
  rw [dt (show 1+(Lib.decDigits u).length≤9223372036854775807 by omega)]
  exact ⟨rfl,ba_ext (by show (({ data:=#[45] }:ByteArray) ++ toBA (Lib.decDigits u)).data.toList=_;rw [append_bytes];rfl)⟩
theorem itoa_len20 {v:Int} (h0:-9223372036854775808≤v) (h1:v≤9223372036854775807):(Lib.itoa v).length≤21:=by
 rcases itoa_cases v with ⟨u,rfl,e⟩ | ⟨u,hu,rfl,e⟩
 ·rw [e]
  have:=decDigits_len (u:=u) (k:=19) (by omega)
  omega
 ·rw [e]
  have:=decDigits_len (u:=u) (k:=19) (by omega)
  simp;omega
theorem itoa_mem {v:Int} {b:UInt8} (h:b∈Lib.itoa v):b=45∨isDig b:=by
 rcases itoa_cases v with ⟨u,rfl,e⟩ | ⟨u,hu,rfl,e⟩
 ·rw [e] at h;exact .inr (decDigits_dig u b h)
 ·rw [e] at h
  rcases List.mem_cons.1 h with h | h
  ·exact .inl h
  ·exact .inr (decDigits_dig u b h)
theorem itoa_no {c:UInt8} (hc:c.toNat<45) (v:Int):c ∉ Lib.itoa v:=fun h=>by
 rcases itoa_mem h with h | h
 ·subst h;revert hc;decide
 ·unfold isDig at h;omega
end Go.Proofs.YtdcdjjogieojhaaGreatDoor
namespace Go.Proofs.YtdcdjjogieojhaaGreatDoor
open Go Go.Sy
set_option linter.unusedVariables false
set_option linter.unusedSectionVars false
set_option linter.unusedSimpArgs false
set_option maxRecDepth 100000
theorem size_app (x y:ByteArray):(x ++ y).size=x.size+y.size:=ByteArray.size_append
abbrev i64ok (a:Int):Prop:=-9223372036854775808≤a∧a≤9223372036854775807
theorem m66_itoa (a:Int):m66 a=toBA (Lib.itoa a):=m66_eq a
theorem m35_itoa {a:Int} (h:i64ok a):m35 a=toBA (Lib.itoa a):=(dec_eq h.1 h.2).2
theorem m35_66 {a:Int} (h:i64ok a):m35 a=m66 a:=by rw [m35_itoa h,m66_itoa]
theorem n66_ok {a:Int} (h:i64ok a):n66 a=true:=by unfold n66;rw [decide_eq_true_eq];exact h
theorem m66_size {a:Int} (h:i64ok a):(m66 a).size≤21:=by rw [m66_itoa,toBA_size];exact itoa_len20 h.1 h.2
theorem res_36 (b:Bool):m36 b=resW b:=by cases b <;> rfl
theorem spB:({ data:=#[32] }:ByteArray)=toBA [32]:=rfl
def joinW (l:List ByteArray):ByteArray:=toBA (Lib.join (l.map bts) [32])
theorem m67_w {n:Nat} {d:Dat} {l:List ByteArray} (h:wordsL n d=l):m67 n d (toBA [32])=joinW l:=by
 unfold m67 joinW;rw [h];rfl
theorem joinW_one (x:ByteArray):joinW [x]=x:=by
 unfold joinW;rw [List.map_cons,List.map_nil,Lib.join_one];exact toBA_self x
theorem joinW_cons (x y:ByteArray) (l:List ByteArray):joinW (x :: y :: l)=x ++ (toBA [32] ++ joinW (y :: l)):=by
 unfold joinW
 apply ba_ext
 rw [append_bytes,append_bytes]
 show Lib.join ((x :: y :: l).map bts) [32]=bts x ++ ([32] ++ Lib.join ((y :: l).map bts) [32])
 rw [List.map_cons,List.map_cons,Lib.join_cons,Lib.join_cons]
 unfold Lib.joinTail
 rw [List.map_cons,List.flatten_cons]
 simp
theorem app_assoc3 (x y z:ByteArray):(x ++ y) ++ z=x ++ (y ++ z):=by
 apply ba_ext;simp only [append_bytes,List.append_assoc]
theorem w3 (x0 x1 x2:ByteArray):wordsL 3 (((datS [SV.str x0] 1).app 1 (datS [SV.str x1] 1)).app 2 (datS [SV.str x2] 1))=[x0,x1,x2]:=rfl
theorem w4 (x0 x1 x2 x3:ByteArray):wordsL 4 ((((datS [SV.str x0] 1).app 1 (datS [SV.str x1] 1)).app 2 (datS [SV.str x2] 1)).app 3 (datS [SV.str x3] 1))=[x0,x1,x2,x3]:=rfl
theorem w5 (x0 x1 x2 x3 x4:ByteArray):wordsL 5 (((((datS [SV.str x0] 1).app 1 (datS [SV.str x1] 1)).app 2 (datS [SV.str x2] 1)).app 3 (datS [SV.str x3] 1)).app 4 (datS [SV.str x4] 1))=[x0,x1,x2,x3,x4]:=rfl
theorem n67_w {n:Nat} {d:Dat} {l:List ByteArray} (h:wordsL n d=l) (h0:0<n) (h1:n≤1000000) (hs:(joinW l).size≤1073741824):n67 n d (toBA [32])=true:=by
 unfold n67
 rw [m67_w h,dt h0,dt h1,dt hs];rfl
theorem resW_size (b:Bool):(resW b).size=4:=by cases b <;> rfl
theorem format_eq {k a:Int} {x y z:ByteArray} {b:Bool} (ha:i64ok a) (hx:x.size≤20) (hy:y.size≤20) (hz:z.size≤20) :
  n8 k a x y z b=true∧n11 k a x y z b=true∧m8 k a x y z b=m11 k a x y z b∧(m8 k a x y z b).size≤120:=by
 have s66:=m66_size ha
 have sr:=resW_size b
 have s1:(toBA [32]).size=1:=rfl
 have c1:({ data:=#[99,104,101,99,107] }:ByteArray).size=5:=rfl
 have c2:({ data:=#[117,115,101] }:ByteArray).size=3:=rfl
 have c3:({ data:=#[102,105,108,108] }:ByteArray).size=4:=rfl
 have c4:({ data:=#[101,109,112,116,121] }:ByteArray).size=5:=rfl
 have c5:({ data:=#[97,105,114] }:ByteArray).size=3:=rfl
 have c0:({ data:=#[] }:ByteArray).size=0:=rfl
 have h35:=m35_66 ha
 have n35':=(dec_eq ha.1 ha.2).1
 have n66':=n66_ok ha
 refine ⟨?_,?_,?_,?_⟩
 ·unfold n8 n29k n29u n29f n29a
  simp only [spB,n66',Bool.true_and,Bool.and_true]
  rw [n67_w (w5 _ _ _ _ _) (by omega) (by omega) (by simp only [joinW_cons,joinW_one,size_app];omega),n67_w (w3 _ _ _) (by omega) (by omega) (by simp only [joinW_cons,joinW_one,size_app];omega),n67_w (w4 _ _ _ _) (by omega) (by omega) (by simp only [joinW_cons,joinW_one,size_app];omega),n67_w (w3 _ _ _) (by omega) (by omega) (by simp only [joinW_cons,joinW_one,size_app];omega),n67_w (w4 _ _ _ _) (by omega) (by omega) (by simp only [joinW_cons,joinW_one,size_app];omega)]
  simp
 ·unfold n11
  simp only [spB,n35',h35,res_36,size_app,s1,c1,c2,c3,c4,c5,sr]
  by_cases k0:k=0
  ·simp [k0];omega
  by_cases k1:k=1
  ·simp [k1];omega
  by_cases k2:k=2
  ·simp [k2];omega
  by_cases k3:k=3
  ·simp [k3];omega
  by_cases k4:k=4
  ·simp [k4];omega
  simp [k0,k1,k2,k3,k4];omega
 ·unfold m8 m11 m29k m29u m29f m29a
  simp only [spB,h35,res_36,m67_w (w5 _ _ _ _ _),m67_w (w4 _ _ _ _),m67_w (w3 _ _ _),joinW_cons,joinW_one,app_assoc3]
 ·unfold m8 m29k m29u m29f m29a
  simp only [spB,m67_w (w5 _ _ _ _ _),m67_w (w4 _ _ _ _),m67_w (w3 _ _ _),joinW_cons,joinW_one]
  have hc:∀ (p:Prop) [Decidable p] (u v:ByteArray),u.size≤120→v.size≤120→(bif decide p then u else v).size≤120:=fun p _ u v hu hv=>by cases decide p <;> assumption
  refine hc _ _ _ ?_ (hc _ _ _ ?_ (hc _ _ _ ?_ (hc _ _ _ ?_ (hc _ _ _ ?_ ?_))))
  all_goals first | (simp only [size_app];omega) | omega
end Go.Proofs.YtdcdjjogieojhaaGreatDoor
namespace Go.Proofs.YtdcdjjogieojhaaGreatDoor
open Go Go.Sy
set_option linter.unusedVariables false
set_option linter.unusedSectionVars false
set_option linter.unusedSimpArgs false
set_option maxRecDepth 100000
theorem cutL_get_le (c:UInt8) (x:List UInt8):∀ q,((cutL c x).getD q []).length≤x.length:=by
 refine cut_rec (c:=c) (p:=fun x=>∀ q,((cutL c x).getD q []).length≤x.length) (fun x hx q=>?_) (fun x y hx hy q=>?_) x
 ·rw [cutL_miss hx]
  cases q with
  | zero=>simp
  | succ q=>simp
 ·rw [cutL_hit y hx]
  cases q with
  | zero=>simp
  | succ q=>have:=hy q;simp at this ⊢;omega
theorem atoi_range {l:List UInt8} {v:Int} (h:Lib.atoiAll l=.ok v):-9223372036854775808≤v∧v≤9223372036854775807:=by
 unfold Lib.atoiAll at h
 split at h
 ·cases h
 ·dsimp only at h
  split at h <;> try (cases h;done)
  split at h <;> try (cases h;done)
  split at h <;> try (cases h;done)
  rename_i h1 h2
  injection h with h
  subst h
  split
  ·rename_i h3;simp only [h3,true_and] at h2;omega
  ·rename_i h3;simp only [h3,not_false_eq_true,true_and] at h1;omega
theorem n66_58 (s:ByteArray):n66 (m69 s).1=true:=by
 unfold n66
 rw [decide_eq_true_eq]
 unfold m69
 rcases h:Lib.atoiAll s.data.toList with v | _ | _
 ·exact atoi_range h
 ·simp
 ·simp only [Lib.atoiSat];split <;> omega
theorem n69_ok {s:ByteArray} (h:s.size≤100000000):n69 s=true:=by unfold n69;rw [decide_eq_true_eq];omega
theorem m32_nl (s:ByteArray):m32 s ⟨#[10]⟩=decide ((10:UInt8)∈bts s):=by
 unfold m32
 show Lib.contains (bts s) [10]=_
 unfold Lib.contains
 rw [Lib.index_one]
 rcases byte_cases 10 (bts s) with h | ⟨x,y,e,hx⟩
 ·rw [idx_miss h,df h];rfl
 ·rw [e,idx_hit hx,dt (show (10:UInt8)∈x ++ 10 :: y by simp),dt (show (0:Int)≤x.length by omega)]
theorem cut_one (c:UInt8) (l:List UInt8):(cutL c l).length=1↔c ∉ l:=by
 rcases byte_cases c l with h | ⟨x,y,e,hx⟩
 ·rw [cutL_miss h];simp [h]
 ·rw [e,cutL_hit y hx]
  have:=cutL_pos c y
  rw [List.length_cons]
  exact ⟨fun h=>by omega,fun h=>absurd (by simp) h⟩
abbrev wCheck:List UInt8:=[99,104,101,99,107]
abbrev wUse:List UInt8:=[117,115,101]
abbrev wFill:List UInt8:=[102,105,108,108]
abbrev wEmpty:List UInt8:=[101,109,112,116,121]
abbrev wAir:List UInt8:=[97,105,114]
abbrev wPass:List UInt8:=[112,97,115,115]
abbrev wFail:List UInt8:=[102,97,105,108]
abbrev emB:ByteArray:={ data:=#[] }
abbrev Ev:=Int × Int × ByteArray × ByteArray × ByteArray × Bool × Int
def noEv:Ev:=(0,0,emB,emB,emB,false,7)
def evOf (w:List (List UInt8)):Ev:=match w with
 | [k,d,x]=>(match numR d with
  | some v=>if k=wUse then (1,v,toBA x,emB,emB,false,0) else if k=wEmpty then (3,v,toBA x,emB,emB,false,0) else noEv
  | none=>noEv)
 | [k,d,x,y]=>(match numR d with
  | some v=>if k=wFill then (2,v,toBA y,emB,toBA x,false,0) else if k=wAir∧(y=wPass∨y=wFail) then (4,v,toBA x,emB,emB,decide (y=wPass),0) else noEv
  | none=>noEv)
 | [k,d,x,y,z]=>(match numR d with
  | some v=>if k=wCheck∧(z=wPass∨z=wFail) then (0,v,toBA x,toBA y,emB,decide (z=wPass),0) else noEv
  | none=>noEv)
 | _=>noEv
def evT (s:ByteArray):Ev:=if (10:UInt8)∈bts s then noEv else evOf (cutL 32 (bts s))
theorem toBA_dec (x y:List UInt8):decide (toBA x=toBA y)=decide (x=y):=by
 by_cases h:x=y
 ·rw [h];simp
 ·rw [df h,df fun e=>h (toBA_inj e)]
theorem checkB:({ data:=#[99,104,101,99,107] }:ByteArray)=toBA wCheck:=rfl
theorem useB:({ data:=#[117,115,101] }:ByteArray)=toBA wUse:=rfl
theorem fillB:({ data:=#[102,105,108,108] }:ByteArray)=toBA wFill:=rfl
theorem emptyB:({ data:=#[101,109,112,116,121] }:ByteArray)=toBA wEmpty:=rfl
theorem airB:({ data:=#[97,105,114] }:ByteArray)=toBA wAir:=rfl
theorem passB:({ data:=#[112,97,115,115] }:ByteArray)=toBA wPass:=rfl
theorem failB:({ data:=#[102,97,105,108] }:ByteArray)=toBA wFail:=rfl
theorem resT:resW true=toBA wPass:=rfl
theorem resF:resW false=toBA wFail:=rfl
theorem ref_event {s:ByteArray} (hs:s.size≤1000000):n10 s=true∧m10 s=evT s:=by
 obtain ⟨a1,a2,a3⟩:=cut_ref (s:=s) (c:=32) (a:=32) rfl (by omega)
 obtain ⟨b1,b2,b3⟩:=cut_ref (s:=s) (c:=10) (a:=10) rfl (by omega)
 have hle:=cutL_get_le 32 (bts s)
 rw [← bts_size] at hle
 have hnum:∀ q,(toBA ((cutL 32 (bts s)).getD q [])).size≤100000000:=fun q=>by rw [toBA_size];have:=hle q;omega
 obtain ⟨w,hw⟩:∃ w,cutL 32 (bts s)=w:=⟨_,rfl⟩
 have hpos:=cutL_pos 32 (bts s)
 rw [hw] at a2 a3 hnum hpos
 unfold n10 m10 evT
 rw [a1,b1,a2,b2,hw]
 by_cases hnl:(10:UInt8)∈bts s
 ·have:¬ (((cutL 10 (bts s)).length:Int)=1):=fun e=>(cut_one 10 (bts s)).1 (by omega) hnl
  rw [df this,if_pos hnl]
  by_cases h3:((w.length:Int)<3)
  ·rw [dt h3];exact ⟨rfl,rfl⟩
  ·rw [df h3];exact ⟨rfl,rfl⟩
 ·have:((cutL 10 (bts s)).length:Int)=1:=by have:=(cut_one 10 (bts s)).2 hnl;omega
  rw [dt this,if_neg hnl]
  simp only [checkB,useB,fillB,emptyB,airB,passB,failB]
  match w,hpos,a3,hnum with
  | [k],_,a3,_=>exact ⟨rfl,rfl⟩
  | [k,d],_,a3,_=>exact ⟨rfl,rfl⟩
  | [k,d,x],_,a3,hnum =>
   obtain ⟨n1,n2,n3⟩:=number_ref (s:=toBA d) (hnum 1)
   have e0:=a3 0 (by simp);have e1:=a3 1 (by simp);have e2:=a3 2 (by simp)
   simp only [List.getD_cons_zero,List.getD_cons_succ] at e0 e1 e2
   simp only [e0,e1,e2,n1,n2,toBA_dec,evOf,toBA_bytes,List.length_cons,List.length_nil]
   cases hn:numR d with
   | none=>simp [noEv]
   | some v =>
    have:=n3 v hn
    by_cases k1:k=wUse
    ·subst k1;simp [this]
    ·by_cases k2:k=wEmpty
     ·subst k2;simp [this]
     ·simp [k1,k2,noEv]
  | [k,d,x,y],_,a3,hnum =>
   obtain ⟨n1,n2,n3⟩:=number_ref (s:=toBA d) (hnum 1)
   have e0:=a3 0 (by simp);have e1:=a3 1 (by simp);have e2:=a3 2 (by simp);have e3:=a3 3 (by simp)
   simp only [List.getD_cons_zero,List.getD_cons_succ] at e0 e1 e2 e3
   simp only [e0,e1,e2,e3,n1,n2,toBA_dec,evOf,toBA_bytes,List.length_cons,List.length_nil]
   cases hn:numR d with
   | none=>simp [noEv]
   | some v =>
    have:=n3 v hn
    by_cases k1:k=wFill
    ·subst k1;simp [this]
    ·by_cases k2:k=wAir
     ·subst k2
      by_cases y1:y=wPass
      ·subst y1;simp [this]
      ·by_cases y2:y=wFail
       ·subst y2;simp [this]
       ·simp [y1,y2,noEv]
     ·simp [k1,k2,noEv]
  | [k,d,x,y,z],_,a3,hnum =>
   obtain ⟨n1,n2,n3⟩:=number_ref (s:=toBA d) (hnum 1)
   have e0:=a3 0 (by simp);have e1:=a3 1 (by simp);have e2:=a3 2 (by simp);have e3:=a3 3 (by simp);have e4:=a3 4 (by simp)
   simp only [List.getD_cons_zero,List.getD_cons_succ] at e0 e1 e2 e3 e4
   simp only [e0,e1,e2,e3,e4,n1,n2,toBA_dec,evOf,toBA_bytes,List.length_cons,List.length_nil]
   cases hn:numR d with
   | none=>simp [noEv]
   | some v =>
    have:=n3 v hn
    by_cases k1:k=wCheck
    ·subst k1
     by_cases y1:z=wPass
     ·subst y1;simp [this]
     ·by_cases y2:z=wFail
      ·subst y2;simp [this]
      ·simp [y1,y2,noEv]
    ·simp [k1,noEv]
  | k :: d :: x :: y :: z :: z' :: r,_,a3,hnum =>
   obtain ⟨n1,n2,n3⟩:=number_ref (s:=toBA d) (hnum 1)
   have e0:=a3 0 (by simp);have e1:=a3 1 (by simp)
   simp only [List.getD_cons_zero,List.getD_cons_succ] at e0 e1
   have c3:¬ (((k :: d :: x :: y :: z :: z' :: r).length:Int)<3):=by simp;omega
   have c4:¬ (((k :: d :: x :: y :: z :: z' :: r).length:Int)=3):=by simp;omega
   have c5:¬ (((k :: d :: x :: y :: z :: z' :: r).length:Int)=4):=by simp;omega
   have c6:¬ (((k :: d :: x :: y :: z :: z' :: r).length:Int)=5):=by simp;omega
   have d0:(0:Int)≤0∧(0:Int)<((k :: d :: x :: y :: z :: z' :: r).length:Int):=by simp;omega
   have d1:(0:Int)≤1∧(1:Int)<((k :: d :: x :: y :: z :: z' :: r).length:Int):=by simp;omega
   have d2:(0:Int)≤2∧(2:Int)<((k :: d :: x :: y :: z :: z' :: r).length:Int):=by simp;omega
   simp only [e0,e1,n1,n2,toBA_dec,evOf,toBA_bytes,df c3,df c4,df c5,df c6,dt d0,dt d1,dt d2]
   cases hn:numR d with
   | none=>simp [noEv]
   | some v=>simp [noEv]
theorem prog_event {s:ByteArray} (hs:s.size≤1000000):n9 s=true∧m9 s=evT s:=by
 have hle:=cutL_get_le 32 (bts s)
 rw [← bts_size] at hle
 have L:(m30 s ({ data:=#[32] }:ByteArray)).1=(cutL 32 (bts s)).length:=m30_len s 32
 have A:∀ q,(m30 s ({ data:=#[32] }:ByteArray)).2.ss q 0=toBA ((cutL 32 (bts s)).getD q []):=m30_at s 32
 have hn30:n30 s ({ data:=#[32] }:ByteArray)=true:=by
  unfold n30
  rw [dt (show s.size≤4000000000 by omega),dt (show 1≤(({ data:=#[32] }:ByteArray)).size from Nat.le_refl 1)];rfl
 have hn32:n32 s=true:=by unfold n32;rw [decide_eq_true_eq];omega
 have hnl:m32 s ({ data:=#[10] }:ByteArray)=decide ((10:UInt8)∈bts s):=m32_nl s
 obtain ⟨w,hw⟩:∃ w,cutL 32 (bts s)=w:=⟨_,rfl⟩
 have hpos:=cutL_pos 32 (bts s)
 rw [hw] at L A hpos hle
 have hnum:∀ q,n69 (toBA (w.getD q []))=true:=fun q=>n69_ok (by rw [toBA_size];have:=hle q;omega)
 have P:=fun q=>num_prog (toBA (w.getD q []))
 unfold n9 m9 evT
 rw [hn30,hw]
 simp only [L,A,hnl,hn32,checkB,useB,fillB,emptyB,airB,shift_ss,n31k,n31u,n31f,n31a,m31k,m31u,m31f,m31a,hnum,n66_58,toBA_dec,resT,resF]
 match w,hpos with
 | [k],_ =>
  by_cases hl:(10:UInt8)∈bts s <;> by_cases k1:k=wCheck <;> by_cases k2:k=wUse <;> by_cases k3:k=wFill <;> by_cases k4:k=wEmpty <;> by_cases k5:k=wAir <;> simp [hl,k1,k2,k3,k4,k5,evOf,noEv]
 | [k,d],_ =>
  have P1:=P 1
  simp only [List.getD_cons_zero,List.getD_cons_succ] at P1
  simp only [List.getD_cons_zero,List.getD_cons_succ,P1.1]
  by_cases hl:(10:UInt8)∈bts s
  ·skip
   by_cases k1:k=wCheck
   ·subst k1;simp [hl,noEv]
   by_cases k2:k=wUse
   ·subst k2;simp [hl,noEv]
   by_cases k3:k=wFill
   ·subst k3;simp [hl,noEv]
   by_cases k4:k=wEmpty
   ·subst k4;simp [hl,noEv]
   by_cases k5:k=wAir
   ·subst k5;simp [hl,noEv]
   simp [hl,noEv,k1,k2,k3,k4,k5]
  ·cases hn:numR d with
   | none =>
    have hb:numR (bts (toBA d))=none:=hn
    by_cases k1:k=wCheck
    ·subst k1;simp [hl,hn,hb,evOf,noEv]
    by_cases k2:k=wUse
    ·subst k2;simp [hl,hn,hb,evOf,noEv]
    by_cases k3:k=wFill
    ·subst k3;simp [hl,hn,hb,evOf,noEv]
    by_cases k4:k=wEmpty
    ·subst k4;simp [hl,hn,hb,evOf,noEv]
    by_cases k5:k=wAir
    ·subst k5;simp [hl,hn,hb,evOf,noEv]
    simp [hl,hn,hb,evOf,noEv,k1,k2,k3,k4,k5]
   | some v =>
    have hb:numR (bts (toBA d))=some v:=hn
    have hv:=P1.2 v hn
    by_cases k1:k=wCheck
    ·subst k1;simp [hl,hn,hb,hv,evOf,noEv]
    by_cases k2:k=wUse
    ·subst k2;simp [hl,hn,hb,hv,evOf,noEv]
    by_cases k3:k=wFill
    ·subst k3;simp [hl,hn,hb,hv,evOf,noEv]
    by_cases k4:k=wEmpty
    ·subst k4;simp [hl,hn,hb,hv,evOf,noEv]
    by_cases k5:k=wAir
    ·subst k5;simp [hl,hn,hb,hv,evOf,noEv]
    simp [hl,hn,hb,hv,evOf,noEv,k1,k2,k3,k4,k5]
 | [k,d,x],_ =>
  have P1:=P 1
  simp only [List.getD_cons_zero,List.getD_cons_succ] at P1
  simp only [List.getD_cons_zero,List.getD_cons_succ,P1.1]
  by_cases hl:(10:UInt8)∈bts s
  ·skip
   by_cases k1:k=wCheck
   ·subst k1;simp [hl,noEv]
   by_cases k2:k=wUse
   ·subst k2;simp [hl,noEv]
   by_cases k3:k=wFill
   ·subst k3;simp [hl,noEv]
   by_cases k4:k=wEmpty
   ·subst k4;simp [hl,noEv]
   by_cases k5:k=wAir
   ·subst k5;simp [hl,noEv]
   simp [hl,noEv,k1,k2,k3,k4,k5]
  ·cases hn:numR d with
   | none =>
    have hb:numR (bts (toBA d))=none:=hn
    by_cases k1:k=wCheck
    ·subst k1;simp [hl,hn,hb,evOf,noEv]
    by_cases k2:k=wUse
    ·subst k2;simp [hl,hn,hb,evOf,noEv]
    by_cases k3:k=wFill
    ·subst k3;simp [hl,hn,hb,evOf,noEv]
    by_cases k4:k=wEmpty
    ·subst k4;simp [hl,hn,hb,evOf,noEv]
    by_cases k5:k=wAir
    ·subst k5;simp [hl,hn,hb,evOf,noEv]
    simp [hl,hn,hb,evOf,noEv,k1,k2,k3,k4,k5]
   | some v =>
    have hb:numR (bts (toBA d))=some v:=hn
    have hv:=P1.2 v hn
    by_cases k1:k=wCheck
    ·subst k1;simp [hl,hn,hb,hv,evOf,noEv]
    by_cases k2:k=wUse
    ·subst k2;simp [hl,hn,hb,hv,evOf,noEv]
    by_cases k3:k=wFill
    ·subst k3;simp [hl,hn,hb,hv,evOf,noEv]
    by_cases k4:k=wEmpty
    ·subst k4;simp [hl,hn,hb,hv,evOf,noEv]
    by_cases k5:k=wAir
    ·subst k5;simp [hl,hn,hb,hv,evOf,noEv]
    simp [hl,hn,hb,hv,evOf,noEv,k1,k2,k3,k4,k5]
 | [k,d,x,y],_ =>
  have P1:=P 1
  simp only [List.getD_cons_zero,List.getD_cons_succ] at P1
  simp only [List.getD_cons_zero,List.getD_cons_succ,P1.1]
  by_cases hl:(10:UInt8)∈bts s
  ·skip
   by_cases k1:k=wCheck
   ·subst k1;simp [hl,noEv]
   by_cases k2:k=wUse
   ·subst k2;simp [hl,noEv]
   by_cases k3:k=wFill
   ·subst k3;simp [hl,noEv]
   by_cases k4:k=wEmpty
   ·subst k4;simp [hl,noEv]
   by_cases k5:k=wAir
   ·subst k5
    by_cases y1:y=wPass
    ·subst y1;simp [hl,noEv]
    by_cases y2:y=wFail
    ·subst y2;simp [hl,noEv]
    simp [hl,noEv,y1,y2]
   simp [hl,noEv,k1,k2,k3,k4,k5]
  ·cases hn:numR d with
   | none =>
    have hb:numR (bts (toBA d))=none:=hn
    by_cases k1:k=wCheck
    ·subst k1;simp [hl,hn,hb,evOf,noEv]
    by_cases k2:k=wUse
    ·subst k2;simp [hl,hn,hb,evOf,noEv]
    by_cases k3:k=wFill
    ·subst k3;simp [hl,hn,hb,evOf,noEv]
    by_cases k4:k=wEmpty
    ·subst k4;simp [hl,hn,hb,evOf,noEv]
    by_cases k5:k=wAir
    ·subst k5
     by_cases y1:y=wPass
     ·subst y1;simp [hl,hn,hb,evOf,noEv]
     by_cases y2:y=wFail
     ·subst y2;simp [hl,hn,hb,evOf,noEv]
     simp [hl,hn,hb,evOf,noEv,y1,y2]
    simp [hl,hn,hb,evOf,noEv,k1,k2,k3,k4,k5]
   | some v =>
    have hb:numR (bts (toBA d))=some v:=hn
    have hv:=P1.2 v hn
    by_cases k1:k=wCheck
    ·subst k1;simp [hl,hn,hb,hv,evOf,noEv]
    by_cases k2:k=wUse
    ·subst k2;simp [hl,hn,hb,hv,evOf,noEv]
    by_cases k3:k=wFill
    ·subst k3;simp [hl,hn,hb,hv,evOf,noEv]
    by_cases k4:k=wEmpty
    ·subst k4;simp [hl,hn,hb,hv,evOf,noEv]
    by_cases k5:k=wAir
    ·subst k5
     by_cases y1:y=wPass
     ·subst y1;simp [hl,hn,hb,hv,evOf,noEv]
     by_cases y2:y=wFail
     ·subst y2;simp [hl,hn,hb,hv,evOf,noEv]
     simp [hl,hn,hb,hv,evOf,noEv,y1,y2]
    simp [hl,hn,hb,hv,evOf,noEv,k1,k2,k3,k4,k5]
 | [k,d,x,y,z],_ =>
  have P1:=P 1
  simp only [List.getD_cons_zero,List.getD_cons_succ] at P1
  simp only [List.getD_cons_zero,List.getD_cons_succ,P1.1]
  by_cases hl:(10:UInt8)∈bts s
  ·skip
   by_cases k1:k=wCheck
   ·subst k1
    by_cases y1:z=wPass
    ·subst y1;simp [hl,noEv]
    by_cases y2:z=wFail
    ·subst y2;simp [hl,noEv]
    simp [hl,noEv,y1,y2]
   by_cases k2:k=wUse
   ·subst k2;simp [hl,noEv]
   by_cases k3:k=wFill
   ·subst k3;simp [hl,noEv]
   by_cases k4:k=wEmpty
   ·subst k4;simp [hl,noEv]
   by_cases k5:k=wAir
   ·subst k5;simp [hl,noEv]
   simp [hl,noEv,k1,k2,k3,k4,k5]
  ·cases hn:numR d with
   | none =>
    have hb:numR (bts (toBA d))=none:=hn
    by_cases k1:k=wCheck
    ·subst k1
     by_cases y1:z=wPass
     ·subst y1;simp [hl,hn,hb,evOf,noEv]
     by_cases y2:z=wFail
     ·subst y2;simp [hl,hn,hb,evOf,noEv]
     simp [hl,hn,hb,evOf,noEv,y1,y2]
    by_cases k2:k=wUse
    ·subst k2;simp [hl,hn,hb,evOf,noEv]
    by_cases k3:k=wFill
    ·subst k3;simp [hl,hn,hb,evOf,noEv]
    by_cases k4:k=wEmpty
    ·subst k4;simp [hl,hn,hb,evOf,noEv]
    by_cases k5:k=wAir
    ·subst k5;simp [hl,hn,hb,evOf,noEv]
    simp [hl,hn,hb,evOf,noEv,k1,k2,k3,k4,k5]
   | some v =>
    have hb:numR (bts (toBA d))=some v:=hn
    have hv:=P1.2 v hn
    by_cases k1:k=wCheck
    ·subst k1
     by_cases y1:z=wPass
     ·subst y1;simp [hl,hn,hb,hv,evOf,noEv]
     by_cases y2:z=wFail
     ·subst y2;simp [hl,hn,hb,hv,evOf,noEv]
     simp [hl,hn,hb,hv,evOf,noEv,y1,y2]
    by_cases k2:k=wUse
    ·subst k2;simp [hl,hn,hb,hv,evOf,noEv]
    by_cases k3:k=wFill
    ·subst k3;simp [hl,hn,hb,hv,evOf,noEv]
    by_cases k4:k=wEmpty
    ·subst k4;simp [hl,hn,hb,hv,evOf,noEv]
    by_cases k5:k=wAir
    ·subst k5;simp [hl,hn,hb,hv,evOf,noEv]
    simp [hl,hn,hb,hv,evOf,noEv,k1,k2,k3,k4,k5]
 | k :: d :: x :: y :: z :: z' :: r,_ =>
  obtain ⟨N,hN⟩:∃ N,(k :: d :: x :: y :: z :: z' :: r).length=N:=⟨_,rfl⟩
  have h6:6≤N:=by rw [← hN];simp
  have c2:¬ ((((N:Int) - 1).toNat:Int)=2):=by omega
  have c3:¬ ((((N:Int) - 1).toNat:Int)=3):=by omega
  have c4:¬ ((((N:Int) - 1).toNat:Int)=4):=by omega
  have d0:(0:Int)≤0∧(0:Int)<(N:Int):=by omega
  have d1:(0:Int)≤1∧(1:Int)≤(N:Int)∧(N:Int)≤(N:Int):=by omega
  simp only [hN,List.getD_cons_zero,df c2,df c3,df c4,dt d0,dt d1]
  have he:evOf (k :: d :: x :: y :: z :: z' :: r)=noEv:=rfl
  rw [he]
  by_cases hl:(10:UInt8)∈bts s
  ·skip
   by_cases k1:k=wCheck
   ·subst k1;simp [hl,noEv]
   by_cases k2:k=wUse
   ·subst k2;simp [hl,noEv]
   by_cases k3:k=wFill
   ·subst k3;simp [hl,noEv]
   by_cases k4:k=wEmpty
   ·subst k4;simp [hl,noEv]
   by_cases k5:k=wAir
   ·subst k5;simp [hl,noEv]
   simp [hl,noEv,k1,k2,k3,k4,k5]
  ·skip
   by_cases k1:k=wCheck
   ·subst k1;simp [hl,noEv]
   by_cases k2:k=wUse
   ·subst k2;simp [hl,noEv]
   by_cases k3:k=wFill
   ·subst k3;simp [hl,noEv]
   by_cases k4:k=wEmpty
   ·subst k4;simp [hl,noEv]
   by_cases k5:k=wAir
   ·subst k5;simp [hl,noEv]
   simp [hl,noEv,k1,k2,k3,k4,k5]
end Go.Proofs.YtdcdjjogieojhaaGreatDoor
namespace Go.Proofs.YtdcdjjogieojhaaGreatDoor
open Go Go.Sy Go.RowKit
set_option linter.unusedVariables false
set_option linter.unusedSectionVars false
set_option linter.unusedSimpArgs false
def IxIs (f:Nat→ByteArray) (s:ByteArray) (n:Nat) (v:Int):Prop:=(∃ i:Nat,i<n∧f i=s∧(∀ k,k<i→f k≠s)∧v=(i:Int))∨((∀ k,k<n→f k≠s)∧v=-1)
def ix (f:Nat→ByteArray) (s:ByteArray) (n:Nat):Int:=first (fun i=>if f i=s then some (i:Int) else none) (-1) n 0
theorem ix_is (f:Nat→ByteArray) (s:ByteArray) (n:Nat):IxIs f s n (ix f s n):=by
 rcases first_cases (g:=fun i=>if f i=s then some (i:Int) else none) (e:=(-1:Int)) n 0 with ⟨j,b,h1,h2,h3,h4,h5⟩ | ⟨h1,h2⟩
 ·have h3:(if f j=s then some (j:Int) else none)=some b:=h3
  split at h3 <;> cases h3
  rename_i hs
  refine .inl ⟨j,by omega,hs,fun k hk e=>?_,h5⟩
  have:=h4 k (Nat.zero_le _) hk
  have this:(if f k=s then some (k:Int) else none)=none:=this
  rw [if_pos e] at this;cases this
 ·refine .inr ⟨fun k hk e=>?_,h2⟩
  have:=h1 k (Nat.zero_le _) (by omega)
  have this:(if f k=s then some (k:Int) else none)=none:=this
  rw [if_pos e] at this;cases this
theorem IxIs.eq {f:Nat→ByteArray} {s:ByteArray} {n:Nat} {v v':Int} (h:IxIs f s n v) (h':IxIs f s n v'):v=v':=by
 rcases h with ⟨i,a1,a2,a3,rfl⟩ | ⟨a1,rfl⟩ <;> rcases h' with ⟨i',b1,b2,b3,rfl⟩ | ⟨b1,rfl⟩
 ·have:i=i':=by
   rcases Nat.lt_trichotomy i i' with hh | hh | hh
   ·exact absurd a2 (b3 i hh)
   ·exact hh
   ·exact absurd b2 (a3 i' hh)
  rw [this]
 ·exact absurd a2 (b1 i a1)
 ·exact absurd b2 (a1 i' b1)
 ·rfl
def itN (K:Kst) (s:ByteArray):Int:=ix (fun i=>K.di.ss i 0) s K.n
def ruN (K:Kst) (s:ByteArray):Int:=ix (fun i=>K.dr.ss i 0) s K.r
theorem brk_some {β:Type} (b:β) (r:Option β):brk (some b) r=some b:=rfl
theorem brk_none {β:Type} (r:Option β):brk none r=r:=rfl
theorem ix_loop {l:Nat→Int→Option (Bool × Int × Unit)} {f:Nat→ByteArray} {s:ByteArray} {n F:Nat} (hn:n≤1000000) (hF:n<F)
  (step:∀ f' i,i<n→l (f'+1) (i:Int)=if f i=s then some (true,(i:Int),default) else l f' (IntKind.i64.wrap ((i:Int)+1))) (stop:∀ f',l (f'+1) (n:Int)=some (false,default,())) :
  (l F 0).isSome=true∧(cond ((l F 0).getD default).fst ((l F 0).getD default).snd.fst (-1))=ix f s n:=by
 have h:=loop_first (l:=l) (g:=fun i=>if f i=s then some (true,(i:Int),default) else none) (e:=(false,default,())) (n:=n) (by omega) (fun f' i hi=>by
  rw [step f' i hi]
  by_cases hs:f i=s
  ·simp only [if_pos hs,brk_some]
  ·simp only [if_neg hs,brk_none]) stop n 0 F (by omega) hF
 have h:l F 0=_:=h
 rw [h]
 refine ⟨rfl,?_⟩
 refine IxIs.eq (f:=f) (s:=s) (n:=n) ?_ (ix_is f s n)
 rcases first_cases (g:=fun i=>if f i=s then some (true,(i:Int),default) else none) (e:=((false,default,()):Bool × Int × Unit)) n 0 with ⟨j,b,h1,h2,h3,h4,h5⟩ | ⟨h1,h2⟩
 ·have h3:(if f j=s then some ((true,(j:Int),default):Bool × Int × Unit) else none)=some b:=h3
  split at h3 <;> cases h3
  rename_i hs
  rw [h5]
  refine .inl ⟨j,by omega,hs,fun k hk e=>?_,rfl⟩
  have this:(if f k=s then some ((true,(k:Int),default):Bool × Int × Unit) else none)=none:=h4 k (Nat.zero_le _) hk
  rw [if_pos e] at this;cases this
 ·rw [h2]
  refine .inr ⟨fun k hk e=>?_,rfl⟩
  have this:(if f k=s then some ((true,(k:Int),default):Bool × Int × Unit) else none)=none:=h1 k (Nat.zero_le _) (by omega)
  rw [if_pos e] at this;cases this
theorem cond_ite {α:Type} {p:Prop} [Decidable p] (x y:α):cond (decide p) x y=if p then x else y:=by
 by_cases h:p
 ·rw [decide_eq_true h,if_pos h];rfl
 ·rw [decide_eq_false h,if_neg h];rfl
theorem m38_eq (K:Kst) (hn:K.n≤1000000) (s:ByteArray):n38 K.n K.di K.r K.dr s=true∧m38 K.n K.di K.r K.dr s=itN K s:=by
 obtain ⟨h1,h2⟩:=ix_loop (l:=l38_0 s K.n K.di K.r K.dr) (f:=fun i=>K.di.ss i 0) (s:=s) (n:=K.n) (F:=s.size+(0:Int).toNat+K.n+K.r+8) hn (by omega) (fun f' i hi=>by
  conv=>lhs;unfold l38_0
  rw [cdl hi,cdd hi]
  simp only [cond_true,Int.toNat_natCast,cond_ite]) (fun f'=>by unfold l38_0;rw [cdn];rfl)
 exact ⟨by show ((l38_0 s K.n K.di K.r K.dr (s.size+(0:Int).toNat+K.n+K.r+8) 0).isSome&&true)=true;rw [h1];rfl,h2⟩
theorem m41_eq (K:Kst) (hn:K.r≤1000000) (s:ByteArray):n41 K.n K.di K.r K.dr s=true∧m41 K.n K.di K.r K.dr s=ruN K s:=by
 obtain ⟨h1,h2⟩:=ix_loop (l:=l41_0 s K.n K.di K.r K.dr) (f:=fun i=>K.dr.ss i 0) (s:=s) (n:=K.r) (F:=s.size+(0:Int).toNat+K.n+K.r+8) hn (by omega) (fun f' i hi=>by
  conv=>lhs;unfold l41_0
  rw [cdl hi,cdd hi]
  simp only [cond_true,Int.toNat_natCast,cond_ite]) (fun f'=>by unfold l41_0;rw [cdn];rfl)
 exact ⟨by show ((l41_0 s K.n K.di K.r K.dr (s.size+(0:Int).toNat+K.n+K.r+8) 0).isSome&&true)=true;rw [h1];rfl,h2⟩
def badC (c:Int) (first:Bool):Bool :=
 bif (bif (bif (bif decide (97≤c) then decide (c≤122) else false) then true else (bif decide (65≤c) then decide (c≤90) else false)) then false else true) then (bif first then true else (bif (bif decide (c=45) then false else true) then (bif decide (c<48) then true else decide (57<c)) else false)) else false
theorem bad_loop {l:Nat→Int→Option (Bool × Bool × Unit)} {b:Nat→Bool} {n F:Nat} (hn:n≤9223372036854775807) (hF:n<F)
  (step:∀ f' i,i<n→l (f'+1) (i:Int)=cond (b i) (some (true,false,default)) (l f' (IntKind.i64.wrap ((i:Int)+1)))) (stop:∀ f',l (f'+1) (n:Int)=some (false,default,())) :
  (l F 0).isSome=true∧((∃ i,i<n∧b i=true)∧((l F 0).getD default).fst=true∧((l F 0).getD default).snd.fst=false∨(∀ i,i<n→b i=false)∧((l F 0).getD default).fst=false):=by
 have h:=loop_first (l:=l) (g:=fun i=>cond (b i) (some (true,false,default)) none) (e:=(false,default,())) (n:=n) hn (fun f' i hi=>by
  rw [step f' i hi]
  cases b i <;> rfl) stop n 0 F (by omega) hF
 have h:l F 0=_:=h
 rw [h]
 refine ⟨rfl,?_⟩
 rcases first_cases (g:=fun i=>cond (b i) (some (true,false,default)) none) (e:=((false,default,()):Bool × Bool × Unit)) n 0 with ⟨j,x,h1,h2,h3,h4,h5⟩ | ⟨h1,h2⟩
 ·rw [h5]
  have h3:cond (b j) (some ((true,false,default):Bool × Bool × Unit)) none=some x:=h3
  cases hb:b j with
  | false=>rw [hb] at h3;cases h3
  | true=>rw [hb] at h3;cases h3;exact .inl ⟨⟨j,by omega,hb⟩,rfl,rfl⟩
 ·rw [h2]
  refine .inr ⟨fun i hi=>?_,rfl⟩
  have h3:cond (b i) (some ((true,false,default):Bool × Bool × Unit)) none=none:=h1 i (Nat.zero_le _) (by omega)
  cases hb:b i with
  | false=>rfl
  | true=>rw [hb] at h3;cases h3
theorem size_zero {s:ByteArray}:s=({ data:=#[] }:ByteArray)↔s.size=0:=by
 constructor
 ·intro h;subst h;rfl
 ·intro h
  cases s with
  | mk data =>
   have h:data.size=0:=h
   rw [Array.eq_empty_of_size_eq_zero h]
theorem name_eq (s:ByteArray) (hs:s.size≤1000000):n45 s=true∧n37 s=true∧m45 s=m37 s∧(m37 s=true→0<s.size):=by
 let d:Dat:={ ii:=fun q x=>((s.data.toList.getD q 0).toNat:Int),ss:=noDat.ss,bb:=noDat.bb,sn:=noDat.sn,sd:=noDat.sd }
 obtain ⟨a1,a2⟩:=bad_loop (l:=l45_0 s s.size d (s.size:Int)) (b:=fun i=>badC (byteAt s i) (decide ((i:Int)=0))) (n:=s.size) (F:=s.size+s.size+(s.size:Int).toNat+(0:Int).toNat+8) (by omega) (by omega) (fun f' i hi=>by
  conv=>lhs;unfold l45_0
  rw [cdl hi,cdd hi]
  rfl) (fun f'=>by unfold l45_0;rw [cdn];rfl)
 obtain ⟨b1,b2⟩:=bad_loop (l:=l37_0 s) (b:=fun i=>badC (byteAt s i) (decide ((i:Int)=0))) (n:=s.size) (F:=s.size+(0:Int).toNat+8) (by omega) (by omega) (fun f' i hi=>by
  conv=>lhs;unfold l37_0
  rw [cdl hi,cdd hi]
  rfl) (fun f'=>by unfold l37_0;rw [cdn];rfl)
 have e105:m45 s=cond ((l45_0 s s.size d (s.size:Int) (s.size+s.size+(s.size:Int).toNat+(0:Int).toNat+8) 0).getD default).fst ((l45_0 s s.size d (s.size:Int) (s.size+s.size+(s.size:Int).toNat+(0:Int).toNat+8) 0).getD default).snd.fst (bif (bif decide (s=({ data:=#[] }:ByteArray)) then false else true) then decide ((s.size:Int)≤12) else false):=rfl
 have e94:m37 s=cond (bif decide ((s.size:Int)<1) then true else decide (12<(s.size:Int))) false (cond ((l37_0 s (s.size+(0:Int).toNat+8) 0).getD default).fst ((l37_0 s (s.size+(0:Int).toNat+8) 0).getD default).snd.fst true):=rfl
 refine ⟨?_,?_,?_,?_⟩
 ·show ((l45_0 s s.size d (s.size:Int) (s.size+s.size+(s.size:Int).toNat+(0:Int).toNat+8) 0).isSome&&true)=true
  rw [a1];rfl
 ·show cond (bif decide ((s.size:Int)<1) then true else decide (12<(s.size:Int))) true ((l37_0 s (s.size+(0:Int).toNat+8) 0).isSome&&true)=true
  rw [b1];cases (bif decide ((s.size:Int)<1) then true else decide (12<(s.size:Int))) <;> rfl
 ·rw [e105,e94]
  rcases a2 with ⟨⟨i,hi,hb⟩,c1,c2⟩ | ⟨hb,c1⟩ <;> rcases b2 with ⟨⟨i',hi',hb'⟩,d1,d2⟩ | ⟨hb',d1⟩
  ·rw [c1,c2,d1,d2]
   cases (bif decide ((s.size:Int)<1) then true else decide (12<(s.size:Int))) <;> rfl
  ·rw [hb' i hi] at hb;cases hb
  ·rw [hb i' hi'] at hb';cases hb'
  ·rw [c1,d1,cond_false,cond_false]
   by_cases h0:s.size=0
   ·rw [decide_eq_true (size_zero.2 h0),decide_eq_true (show (s.size:Int)<1 by omega)];rfl
   ·rw [decide_eq_false (fun e=>h0 (size_zero.1 e)),decide_eq_false (show ¬ (s.size:Int)<1 by omega)]
    by_cases h12:s.size≤12
    ·rw [decide_eq_true (show (s.size:Int)≤12 by omega),decide_eq_false (show ¬ 12<(s.size:Int) by omega)];rfl
    ·rw [decide_eq_false (show ¬ (s.size:Int)≤12 by omega),decide_eq_true (show 12<(s.size:Int) by omega)];rfl
 ·intro h
  rw [e94] at h
  by_cases h0:s.size=0
  ·rw [decide_eq_true (show (s.size:Int)<1 by omega)] at h;cases h
  ·omega
end Go.Proofs.YtdcdjjogieojhaaGreatDoor
namespace Go.Proofs.YtdcdjjogieojhaaGreatDoor
open Go Go.Sy Go.RowKit
set_option linter.unusedVariables false
set_option linter.unusedSectionVars false
set_option linter.unusedSimpArgs false
noncomputable def codeI (K:Kst) (i:Nat):Option Int:=if m37 (K.di.ss i 0)=false then some 4 else if itN K (K.di.ss i 0)<(i:Int) then some 5 else if m42 (K.di.ii i 1) 1 4=false then some 15 else if m42 (K.di.ii i 2) 0 100000=false then some 2 else none
noncomputable def codeR (K:Kst) (i:Nat):Option Int:=if m37 (K.dr.ss i 0)=false then some 4 else if ruN K (K.dr.ss i 0)<(i:Int) then some 5 else if m42 (K.dr.ii i 1) 1 4=false then some 15 else if m42 (K.dr.ii i 2) 0 10000=false∨m42 (K.dr.ii i 3) 0 1000=false then some 2 else if K.dr.ii i 2=0∧K.dr.ii i 3=0 then some 11 else none
noncomputable def setupC (K:Kst):Int:=if 30<K.n then 8 else if first (codeI K) 0 K.n 0≠0 then first (codeI K) 0 K.n 0 else if 20<K.r then 8 else first (codeR K) 0 K.r 0
theorem code_loop {l:Nat→Int→Option (Bool × Int × Unit)} {g:Nat→Option Int} {n F:Nat} (hn:n≤1000000) (hF:n<F) (hg:∀ i c,g i=some c→c≠0)
  (step:∀ f' i,i<n→l (f'+1) (i:Int)=match g i with | some c=>some (true,c,default) | none=>l f' (IntKind.i64.wrap ((i:Int)+1))) (stop:∀ f',l (f'+1) (n:Int)=some (false,default,())) :
  (l F 0).isSome=true∧((first g 0 n 0≠0∧((l F 0).getD default).fst=true∧((l F 0).getD default).snd.fst=first g 0 n 0)∨(first g 0 n 0=0∧(∀ i,i<n→g i=none)∧((l F 0).getD default).fst=false)):=by
 have h:=loop_first (l:=l) (g:=fun i=>(g i).map fun c=>(true,c,default)) (e:=(false,default,())) (n:=n) (by omega) (fun f' i hi=>by
  rw [step f' i hi]
  cases hgi:g i <;> simp [brk,hgi]) stop n 0 F (by omega) hF
 have h:l F 0=_:=h
 rw [h]
 refine ⟨rfl,?_⟩
 rcases first_cases (g:=g) (e:=(0:Int)) n 0 with ⟨j,c,h1,h2,h3,h4,h5⟩ | ⟨h1,h2⟩
 ·have e:first (fun i=>(g i).map fun c=>((true,c,default):Bool × Int × Unit)) (false,default,()) n 0=(true,c,default):=first_some (Nat.zero_le _) h2 (by rw [h3];rfl) fun j' a b=>by rw [h4 j' a b];rfl
  rw [h5]
  exact .inl ⟨hg j c h3,by rw [e];rfl,by rw [e];rfl⟩
 ·have e:first (fun i=>(g i).map fun c=>((true,c,default):Bool × Int × Unit)) (false,default,()) n 0=(false,default,()):=first_none fun j a b=>by rw [h1 j a b];rfl
  exact .inr ⟨h2,fun i hi=>h1 i (Nat.zero_le _) (by omega),by rw [e];rfl⟩
theorem codeI_ne {K:Kst}:∀ i c,codeI K i=some c→c≠0:=fun i c h=>by
 unfold codeI at h
 split at h
 ·cases h;decide
 ·split at h
  ·cases h;decide
  ·split at h
   ·cases h;decide
   ·split at h
    ·cases h;decide
    ·cases h
theorem codeR_ne {K:Kst}:∀ i c,codeR K i=some c→c≠0:=fun i c h=>by
 unfold codeR at h
 split at h
 ·cases h;decide
 ·split at h
  ·cases h;decide
  ·split at h
   ·cases h;decide
   ·split at h
    ·cases h;decide
    ·split at h
     ·cases h;decide
     ·cases h
structure NamesS (K:Kst):Prop where
 i:∀ i,i<K.n→(K.di.ss i 0).size≤1000000
 r:∀ i,i<K.r→(K.dr.ss i 0).size≤1000000
theorem bnot_cond {α:Type} {b:Bool} (x y:α):cond (bif b then false else true) x y=if b=false then x else y:=by cases b <;> rfl
theorem m12_eq (K:Kst) (hn:K.n≤1000000) (hr:K.r≤1000000) (hS:NamesS K):n12 K.n K.di K.r K.dr=true∧m12 K.n K.di K.r K.dr=setupC K:=by
 obtain ⟨a1,a2⟩:=code_loop (l:=l12_0 K.n K.di K.r K.dr) (g:=codeI K) (n:=K.n) (F:=(0:Int).toNat+K.n+K.r+8) hn (by omega) codeI_ne (fun f' i hi=>by
  conv=>lhs;unfold l12_0
  obtain ⟨q1,q2⟩:=m38_eq K hn (K.di.ss i 0)
  obtain ⟨p1,p2,p3,p4⟩:=name_eq (K.di.ss i 0) (hS.i i hi)
  rw [cdl hi,cdd hi]
  simp only [cond_true,Int.toNat_natCast,q1,q2,p2,cond_ite,bnot_cond,m39,m40]
  unfold codeI
  split
  ·rfl
  ·split
   ·rfl
   ·split
    ·rfl
    ·split <;> rfl) (fun f'=>by unfold l12_0;rw [cdn];rfl)
 obtain ⟨b1,b2⟩:=code_loop (l:=l12_2 K.n K.di K.r K.dr) (g:=codeR K) (n:=K.r) (F:=(0:Int).toNat+K.n+K.r+8) hr (by omega) codeR_ne (fun f' i hi=>by
  conv=>lhs;unfold l12_2
  obtain ⟨q1,q2⟩:=m41_eq K hr (K.dr.ss i 0)
  obtain ⟨p1,p2,p3,p4⟩:=name_eq (K.dr.ss i 0) (hS.r i hi)
  rw [cdl hi,cdd hi]
  simp only [cond_true,Int.toNat_natCast,q1,q2,p2,cond_ite,bnot_cond,m39]
  unfold codeR
  split
  ·rfl
  ·split
   ·rfl
   ·split
    ·rfl
    ·cases h1:m42 (K.dr.ii i 2) 0 10000 <;> cases h2:m42 (K.dr.ii i 3) 0 1000 <;> simp
     by_cases h3:K.dr.ii i 2=0 <;> by_cases h4:K.dr.ii i 3=0 <;> simp [h3,h4]) (fun f'=>by unfold l12_2;rw [cdn];rfl)
 have en:n12 K.n K.di K.r K.dr=cond (decide ((30:Int)<(K.n:Int))) true ((l12_0 K.n K.di K.r K.dr ((0:Int).toNat+K.n+K.r+8) 0).isSome&&cond ((l12_0 K.n K.di K.r K.dr ((0:Int).toNat+K.n+K.r+8) 0).getD default).fst true (cond (decide ((20:Int)<(K.r:Int))) true ((l12_2 K.n K.di K.r K.dr ((0:Int).toNat+K.n+K.r+8) 0).isSome&&true))):=rfl
 have em:m12 K.n K.di K.r K.dr=cond (decide ((30:Int)<(K.n:Int))) 8 (cond ((l12_0 K.n K.di K.r K.dr ((0:Int).toNat+K.n+K.r+8) 0).getD default).fst ((l12_0 K.n K.di K.r K.dr ((0:Int).toNat+K.n+K.r+8) 0).getD default).snd.fst (cond (decide ((20:Int)<(K.r:Int))) 8 (cond ((l12_2 K.n K.di K.r K.dr ((0:Int).toNat+K.n+K.r+8) 0).getD default).fst ((l12_2 K.n K.di K.r K.dr ((0:Int).toNat+K.n+K.r+8) 0).getD default).snd.fst 0))):=rfl
 rw [en,em,a1,b1]
 unfold setupC
 by_cases h30:30<K.n
 ·rw [decide_eq_true (show (30:Int)<(K.n:Int) by omega),if_pos h30];exact ⟨rfl,rfl⟩
 rw [decide_eq_false (show ¬ (30:Int)<(K.n:Int) by omega),if_neg h30]
 rcases a2 with ⟨c0,c1,c2⟩ | ⟨c0,_,c1⟩
 ·rw [c1,c2,if_pos c0];exact ⟨rfl,rfl⟩
 rw [c1,if_neg (fun h=>h c0)]
 by_cases h20:20<K.r
 ·rw [decide_eq_true (show (20:Int)<(K.r:Int) by omega),if_pos h20];exact ⟨rfl,rfl⟩
 rw [decide_eq_false (show ¬ (20:Int)<(K.r:Int) by omega),if_neg h20]
 rcases b2 with ⟨d0,d1,d2⟩ | ⟨d0,_,d1⟩
 ·rw [d1,d2];exact ⟨rfl,rfl⟩
 ·rw [d1,d0];exact ⟨rfl,rfl⟩
end Go.Proofs.YtdcdjjogieojhaaGreatDoor
namespace Go.Proofs.YtdcdjjogieojhaaGreatDoor
open Go Go.Sy Go.RowKit
set_option linter.unusedVariables false
set_option linter.unusedSectionVars false
set_option linter.unusedSimpArgs false
theorem test_loop {l:Nat→Int→Option (Bool × Bool × Unit)} {p:Nat→Bool} {n F:Nat} (hn:n≤1000000) (hF:n<F)
  (step:∀ f i,i<n→l (f+1) (i:Int)=cond (p i) (some (true,false,default)) (l f (IntKind.i64.wrap ((i:Int)+1)))) (stop:∀ f,l (f+1) (n:Int)=some (false,default,())) :
  l F 0=some (true,false,default)∨(l F 0=some (false,default,())∧∀ i,i<n→p i=false):=by
 have h:=loop_first (l:=l) (g:=fun i=>if p i=true then some (true,false,default) else none) (e:=(false,default,())) (n:=n) (by omega) (fun f i hi=>by
  rw [step f i hi]
  cases p i <;> rfl) stop n 0 F (by omega) hF
 have h:l F 0=_:=h
 rw [h]
 rcases first_cases (g:=fun i=>if p i=true then some ((true,false,default):Bool × Bool × Unit) else none) (e:=(false,default,())) n 0 with ⟨j,b,h1,h2,h3,h4,h5⟩ | ⟨h1,h2⟩
 ·left
  rw [h5]
  split at h3 <;> cases h3
  rfl
 ·right
  refine ⟨by rw [h2],fun i hi=>?_⟩
  have:=h1 i (Nat.zero_le _) (by omega)
  cases hp:p i
  ·rfl
  ·rw [hp] at this;cases this
theorem bif_or {b c:Bool}:(bif b then true else c)=(b||c):=by cases b <;> rfl
theorem bif_and {b c:Bool}:(bif b then c else false)=(b&&c):=by cases b <;> rfl
structure ShortS (K:Kst) (n:Nat) (d:Dat):Prop where
 cn:K.n≤32∧(K.n≤6∨30<K.n)
 cr:K.r≤22∧(K.r≤5∨20<K.r)
 ce:n≤202∧(n≤12∨200<n)
 i:∀ i,i<K.n→(K.di.ss i 0).size≤20
 u:∀ i,i<K.r→(K.dr.ss i 0).size≤20
theorem ShortS.names {K:Kst} {n:Nat} {d:Dat} (h:ShortS K n d):NamesS K:=⟨fun i hi=>by have:=h.i i hi;omega,fun i hi=>by have:=h.u i hi;omega⟩
theorem short_eq (K:Kst) (n:Nat) (d:Dat):n6 K.n K.di K.r K.dr n d=true∧(m6 K.n K.di K.r K.dr n d=true→ShortS K n d):=by
 unfold n6 m6
 generalize hA:(bif (bif (bif (bif (bif (bif (decide (6<((↑K.n:Int)))) then (decide (((↑K.n:Int))≤30)) else false) then true else (decide (32<((↑K.n:Int))))) then true else (bif (decide (5<((↑K.r:Int)))) then (decide (((↑K.r:Int))≤20)) else false)) then true else (decide (22<((↑K.r:Int))))) then true else (bif (decide (12<((↑n:Int)))) then (decide (((↑n:Int))≤200)) else false)) then true else (decide (202<((↑n:Int)))))=A
 cases A with
 | true=>exact ⟨rfl,fun h=>by cases h⟩
 | false =>
  simp only [bif_or,bif_and,Bool.or_eq_false_iff,Bool.and_eq_false_imp,decide_eq_true_eq,decide_eq_false_iff_not] at hA
  obtain ⟨⟨⟨⟨⟨a1,a2⟩,a3⟩,a4⟩,a5⟩,a6⟩:=hA
  have b1:K.n≤32∧(K.n≤6∨30<K.n):=by omega
  have b2:K.r≤22∧(K.r≤5∨20<K.r):=by omega
  have b3:n≤202∧(n≤12∨200<n):=by omega
  simp only [cond_false]
  have t0:=test_loop (l:=l6_0 n d K.n K.di K.r K.dr) (p:=fun i=>decide (20<(((K.di.ss i 0).size:Nat):Int))) (n:=K.n) (F:=n+(0:Int).toNat+K.n+K.r+8) (by omega) (by omega) (fun f i hi=>by
   conv=>lhs;unfold l6_0
   rw [cdl hi,cdd hi]
   simp only [cond_true,Int.toNat_natCast]) (fun f=>by unfold l6_0;rw [cdn];rfl)
  have t1:=test_loop (l:=l6_2 n d K.n K.di K.r K.dr) (p:=fun i=>decide (20<(((K.dr.ss i 0).size:Nat):Int))) (n:=K.r) (F:=n+(0:Int).toNat+K.n+K.r+8) (by omega) (by omega) (fun f i hi=>by
   conv=>lhs;unfold l6_2
   rw [cdl hi,cdd hi]
   simp only [cond_true,Int.toNat_natCast]) (fun f=>by unfold l6_2;rw [cdn];rfl)
  have t2:=test_loop (l:=l6_4 n d K.n K.di K.r K.dr) (p:=fun i=>(bif (m7 (d.ii i 0) (d.ii i 1) (d.ss i 2) (d.ss i 3) (d.ss i 4) (d.bb i 5)) then false else true)) (n:=n) (F:=n+(0:Int).toNat+K.n+K.r+8) (by omega) (by omega) (fun f i hi=>by
   conv=>lhs;unfold l6_4
   rw [cdl hi,cdd hi]
   simp only [cond_true,Int.toNat_natCast]) (fun f=>by unfold l6_4;rw [cdn];rfl)
  have o0:∀ x,l6_0 n d K.n K.di K.r K.dr (n+(0:Int).toNat+K.n+K.r+8) 0=x→o6_0 n d K.n K.di K.r K.dr 0=x:=fun x h=>h
  have o1:∀ x,l6_2 n d K.n K.di K.r K.dr (n+(0:Int).toNat+K.n+K.r+8) 0=x→o6_2 n d K.n K.di K.r K.dr 0=x:=fun x h=>h
  have o2:∀ x,l6_4 n d K.n K.di K.r K.dr (n+(0:Int).toNat+K.n+K.r+8) 0=x→o6_4 n d K.n K.di K.r K.dr 0=x:=fun x h=>h
  rcases t0 with t0 | ⟨t0,c0⟩
  ·rw [o0 _ t0];exact ⟨rfl,fun h=>by cases h⟩
  rcases t1 with t1 | ⟨t1,c1⟩
  ·rw [o0 _ t0,o1 _ t1];exact ⟨rfl,fun h=>by cases h⟩
  refine ⟨?_,fun _=>⟨b1,b2,b3,fun i hi=>by have:=of_decide_eq_false (c0 i hi);omega,fun i hi=>by have:=of_decide_eq_false (c1 i hi);omega⟩⟩
  rw [o0 _ t0,o1 _ t1]
  rcases t2 with t2 | ⟨t2,c2⟩ <;> rw [o2 _ t2] <;> rfl
end Go.Proofs.YtdcdjjogieojhaaGreatDoor
namespace Go.Proofs.YtdcdjjogieojhaaGreatDoor
open Go Go.Sy
set_option linter.unusedVariables false
set_option linter.unusedSectionVars false
set_option linter.unusedSimpArgs false
set_option maxRecDepth 100000
def Clean (s:ByteArray):Prop:=(32:UInt8) ∉ bts s∧(10:UInt8) ∉ bts s
theorem bts_app (s t:ByteArray):bts (s ++ t)=bts s ++ bts t:=append_bytes s t
theorem cut_join:∀ (l:List ByteArray),l≠[]→(∀ x∈l,(32:UInt8) ∉ bts x)→cutL 32 (bts (joinW l))=l.map bts
 | [],h,_=>absurd rfl h
 | [x],_,h=>by rw [joinW_one,cutL_miss (h x (by simp))];rfl
 | x :: y :: l,_,h=>by
  rw [joinW_cons,bts_app,bts_app]
  show cutL 32 (bts x ++ 32 :: bts (joinW (y :: l)))=_
  rw [cutL_hit _ (h x (by simp)),cut_join (y :: l) (by simp) fun z hz=>h z (by simp at hz ⊢;exact .inr hz)]
  rfl
theorem mem_join:∀ (l:List ByteArray),(∀ x∈l,(10:UInt8) ∉ bts x)→(10:UInt8) ∉ bts (joinW l)
 | [],_=>by intro h;cases h
 | [x],h=>by rw [joinW_one];exact h x (by simp)
 | x :: y :: l,h=>by
  rw [joinW_cons,bts_app,bts_app]
  intro hm
  rcases List.mem_append.1 hm with h1 | h1
  ·exact h x (by simp) h1
  ·rcases List.mem_cons.1 (show (10:UInt8)∈32 :: bts (joinW (y :: l)) from h1) with h2 | h2
   ·cases h2
   ·exact mem_join (y :: l) (fun z hz=>h z (by simp at hz ⊢;exact .inr hz)) h2
theorem clean_itoa (a:Int):Clean (toBA (Lib.itoa a)):=⟨itoa_no (by decide) a,itoa_no (by decide) a⟩
theorem clean_res (b:Bool):Clean (resW b):=by cases b <;> exact ⟨by decide,by decide⟩
theorem l37_run {s:ByteArray} (hs:s.size≤1000):∀ (k i g:Nat),i+k=s.size→k<g→∃ r,l37_0 s g (i:Int)=some r∧(r.1=false→∀ b∈(bts s).drop i,b≠32∧b≠10)∧(r.1=true→r.2.1=false)
 | 0,i,g,hi,hg=>by
  obtain ⟨g,rfl⟩:∃ g',g=g'+1:=⟨g - 1,by omega⟩
  unfold l37_0
  rw [df (show ¬ ((i:Int)<s.size) by omega),List.drop_eq_nil_of_le (by rw [← bts_size];omega)]
  exact ⟨_,rfl,fun _ b hb=>(by cases hb),fun h=>(by cases h)⟩
 | k+1,i,g,hi,hg=>by
  obtain ⟨g,rfl⟩:∃ g',g=g'+1:=⟨g - 1,by omega⟩
  have hlt:i<(bts s).length:=by rw [← bts_size];omega
  obtain ⟨b,hb⟩:∃ b,(bts s)[i]? = some b:=⟨_,List.getElem?_eq_getElem hlt⟩
  have hby:=byteAt_of hb
  have hd:(bts s).drop i=b :: (bts s).drop (i+1):=by rw [List.drop_eq_getElem_cons hlt];congr 1;rw [List.getElem?_eq_getElem hlt] at hb;cases hb;rfl
  have hw:IntKind.i64.wrap ((i:Int)+1)=((i+1:Nat):Int):=wrS (show i<s.size by omega) (by omega)
  obtain ⟨r,hr,h1,h2⟩:=l37_run hs k (i+1) g (by omega) (by omega)
  unfold l37_0
  simp only [Int.toNat_natCast,hby,hw]
  rw [dt (show (i:Int)<s.size by omega),dt (show (0:Int)≤i∧(i:Int)<s.size by omega),hd]
  simp only [cond_true]
  obtain ⟨c,hc⟩:∃ c,(bif (bif (bif (bif (decide ((97:Int)≤(b.toNat:Int))) then (decide ((b.toNat:Int)≤122)) else false) then true else (bif (decide ((65:Int)≤(b.toNat:Int))) then (decide ((b.toNat:Int)≤90)) else false)) then false else true) then (bif (decide ((i:Int)=0)) then true else (bif (bif (decide ((b.toNat:Int)=45)) then false else true) then (bif (decide ((b.toNat:Int)<48)) then true else (decide ((57:Int)<(b.toNat:Int)))) else false)) else false)=c:=⟨_,rfl⟩
  rw [hc]
  cases c with
  | true=>exact ⟨_,rfl,fun h=>(by cases h),fun _=>rfl⟩
  | false =>
   refine ⟨r,hr,fun h b' hb'=>?_,h2⟩
   rcases List.mem_cons.1 hb' with e | e
   ·subst e
    constructor
    ·intro e;subst e;simp at hc
    ·intro e;subst e;simp at hc
   ·exact h1 h b' e
theorem name_clean {s:ByteArray} (h:m37 s=true):Clean s:=by
 unfold m37 at h
 by_cases h1:((s.size:Int)<1)
 ·rw [dt h1] at h;cases h
 ·by_cases h2:((12:Int)<s.size)
  ·rw [df h1,dt h2] at h;cases h
  ·rw [df h1,df h2] at h
   simp only [cond_false] at h
   obtain ⟨r,hr,k1,k2⟩:=l37_run (s:=s) (by omega) s.size 0 (s.size+(0:Int).toNat+8) (by omega) (by omega)
   have ho:o37_0 s 0=some r:=by
    exact hr
   rw [ho] at h
   simp only [Option.getD_some] at h
   cases hr1:r.1 with
   | true=>rw [hr1,k2 hr1] at h;cases h
   | false =>
    have:=k1 hr1
    rw [List.drop_zero] at this
    exact ⟨fun hm=>(this _ hm).1 rfl,fun hm=>(this _ hm).2 rfl⟩
end Go.Proofs.YtdcdjjogieojhaaGreatDoor
namespace Go.Proofs.YtdcdjjogieojhaaGreatDoor
open Go Go.Sy
set_option linter.unusedVariables false
set_option linter.unusedSectionVars false
set_option linter.unusedSimpArgs false
set_option maxRecDepth 100000
theorem names_of {K:Kst} (h:setupC K=0):(∀ i,i<K.n→m37 (K.di.ss i 0)=true)∧∀ i,i<K.r→m37 (K.dr.ss i 0)=true:=by
 unfold setupC at h
 split at h
 ·cases h
 split at h
 ·rename_i hne;exact absurd h hne
 rename_i hI
 split at h
 ·cases h
 have key:∀ (g:Nat→Option Int) (hg:∀ i c,g i=some c→c≠0) (n:Nat),first g 0 n 0=0→∀ i,i<n→g i=none:=fun g hg n h0 i hi=>by
  rcases first_cases (g:=g) (e:=(0:Int)) n 0 with ⟨j,b,h1,h2,h3,h4,h5⟩ | ⟨h1,h2⟩
  ·exact absurd (h5.symm.trans h0) (hg j b h3)
  ·exact h1 i (Nat.zero_le _) (by omega)
 constructor
 ·intro i hi
  have:=key (codeI K) codeI_ne K.n (by simpa using hI) i hi
  unfold codeI at this
  cases hm:m37 (K.di.ss i 0) with
  | true=>rfl
  | false=>rw [hm,if_pos rfl] at this;cases this
 ·intro i hi
  have:=key (codeR K) codeR_ne K.r h i hi
  unfold codeR at this
  cases hm:m37 (K.dr.ss i 0) with
  | true=>rfl
  | false=>rw [hm,if_pos rfl] at this;cases this
theorem ix_clean {f:Nat→ByteArray} {s:ByteArray} {n:Nat} (hf:∀ i,i<n→m37 (f i)=true) (h:¬ ix f s n<0):Clean s:=by
 rcases ix_is f s n with ⟨i,hi,e,_,_⟩ | ⟨_,e⟩
 ·rw [← e];exact name_clean (hf i hi)
 ·rw [e] at h;omega
theorem ix_range (f:Nat→ByteArray) (s:ByteArray) (n:Nat) (h:¬ ix f s n<0):0≤ix f s n∧ix f s n<(n:Int):=by
 rcases ix_is f s n with ⟨i,hi,e,_,e2⟩ | ⟨_,e⟩
 ·rw [e2];omega
 ·rw [e] at h;omega
theorem m42_iff (x a b:Int):m42 x a b=decide (a≤x∧x≤b):=by
 unfold m42
 by_cases h1:a≤x <;> by_cases h2:x≤b <;> simp [h1,h2]
def EvR (k:Int) (x y z:ByteArray) (b:Bool):Prop :=
 (k=0∧Clean x∧Clean y∧z=emB)∨(k=1∧Clean x∧y=emB∧z=emB∧b=false)∨(k=2∧Clean x∧Clean z∧y=emB∧b=false)∨(k=3∧Clean x∧y=emB∧z=emB∧b=false)∨(k=4∧Clean x∧y=emB∧z=emB)
theorem event_of {K:Kst} (hn:K.n≤1000000) (hr:K.r≤1000000) (hI:∀ i,i<K.n→m37 (K.di.ss i 0)=true) (hR:∀ i,i<K.r→m37 (K.dr.ss i 0)=true) {k a:Int} {x y z:ByteArray} {b:Bool} (h:m13 K.n K.di K.r K.dr k a x y z b=0) :
  0≤a∧a≤100000∧EvR k x y z b:=by
 unfold m13 at h
 simp only [(m38_eq K hn _).2,(m41_eq K hr _).2,m40,m42_iff] at h
 by_cases hk:(0:Int)≤k∧k≤4
 ·by_cases ha:(0:Int)≤a∧a≤100000
  ·refine ⟨ha.1,ha.2,?_⟩
   by_cases hx:itN K x<0
   ·simp [hk,ha,hx] at h
   ·have cx:=ix_clean hI hx
    rw [dt hk,dt ha,df hx] at h
    rcases (show k=0∨k=1∨k=2∨k=3∨k=4 by omega) with rfl | rfl | rfl | rfl | rfl
    ·by_cases hz:z=emB
     ·by_cases hy:ruN K y<0
      ·simp [hz,hy] at h
      ·exact .inl ⟨rfl,cx,ix_clean hR hy,hz⟩
     ·simp [hz] at h
    ·by_cases hy:y=emB
     ·by_cases hz:z=emB
      ·cases b with
       | true=>simp [hz,hy] at h
       | false=>exact .inr (.inl ⟨rfl,cx,hy,hz,rfl⟩)
      ·simp [hz,hy] at h
     ·simp [hy] at h
    ·by_cases hy:y=emB
     ·cases b with
      | true=>simp [hy] at h
      | false =>
       by_cases hz:itN K z<0
       ·simp [hz,hy] at h
       ·exact .inr (.inr (.inl ⟨rfl,cx,ix_clean hI hz,hy,rfl⟩))
     ·simp [hy] at h
    ·by_cases hy:y=emB
     ·by_cases hz:z=emB
      ·cases b with
       | true=>simp [hz,hy] at h
       | false=>exact .inr (.inr (.inr (.inl ⟨rfl,cx,hy,hz,rfl⟩)))
      ·simp [hz,hy] at h
     ·simp [hy] at h
    ·by_cases hy:y=emB
     ·by_cases hz:z=emB
      ·exact .inr (.inr (.inr (.inr ⟨rfl,cx,hy,hz⟩)))
      ·simp [hz,hy] at h
     ·simp [hy] at h
  ·rw [dt hk,df ha] at h;simp at h
 ·rw [df hk] at h;simp at h
theorem event_need {K:Kst} (hn:K.n≤1000000) (hr:K.r≤1000000) {k a:Int} {x y z:ByteArray} {b:Bool}:n13 K.n K.di K.r K.dr k a x y z b=true:=by
 unfold n13
 simp only [(m38_eq K hn _).1,(m41_eq K hr _).1,(m38_eq K hn _).2,(m41_eq K hr _).2,Bool.true_and]
 have rx:¬ itN K x<0→decide (0≤itN K x∧itN K x<(K.n:Int))=true:=fun h=>dt (ix_range _ _ _ h)
 have rz:¬ itN K z<0→decide (0≤itN K z∧itN K z<(K.n:Int))=true:=fun h=>dt (ix_range _ _ _ h)
 have ry:¬ ruN K y<0→decide (0≤ruN K y∧ruN K y<(K.r:Int))=true:=fun h=>dt (ix_range _ _ _ h)
 by_cases hx:itN K x<0
 ·simp [hx]
 ·by_cases hz:itN K z<0
  ·by_cases hy:ruN K y<0
   ·simp [hx,hy,hz,rx hx]
   ·simp [hx,hy,hz,rx hx,ry hy]
  ·by_cases hy:ruN K y<0
   ·simp [hx,hy,hz,rx hx,rz hz]
   ·simp [hx,hy,hz,rx hx,ry hy,rz hz]
theorem evT_join {l:List ByteArray} (h0:l≠[]) (h:∀ x∈l,Clean x):evT (joinW l)=evOf (l.map bts):=by
 unfold evT
 rw [if_neg (mem_join l fun x hx=>(h x hx).2),cut_join l h0 fun x hx=>(h x hx).1]
theorem clean_w:Clean (toBA wCheck)∧Clean (toBA wUse)∧Clean (toBA wFill)∧Clean (toBA wEmpty)∧Clean (toBA wAir) :=
 ⟨⟨by decide,by decide⟩,⟨by decide,by decide⟩,⟨by decide,by decide⟩,⟨by decide,by decide⟩,⟨by decide,by decide⟩⟩
theorem back {k a:Int} {x y z:ByteArray} {b:Bool} (ha:0≤a∧a≤100000) (h:EvR k x y z b):evT (m8 k a x y z b)=(k,a,x,y,z,b,0):=by
 have hnum:numR (Lib.itoa a)=some a:=numR_itoa (.inl (by
  rcases itoa_cases a with ⟨u,rfl,e⟩ | ⟨u,hu,rfl,e⟩
  ·rw [e];have:=decDigits_len (u:=u) (k:=5) (by omega);omega
  ·omega))
 have ci:=clean_itoa a
 have cr:=clean_res b
 obtain ⟨q1,q2,q3,q4,q5⟩:=clean_w
 have tb:∀ s:ByteArray,toBA (bts s)=s:=toBA_self
 rcases h with ⟨rfl,cx,cy,rfl⟩ | ⟨rfl,cx,rfl,rfl,rfl⟩ | ⟨rfl,cx,cz,rfl,rfl⟩ | ⟨rfl,cx,rfl,rfl,rfl⟩ | ⟨rfl,cx,rfl,rfl⟩
 ·have e:m8 0 a x y emB b=joinW [toBA wCheck,toBA (Lib.itoa a),x,y,resW b]:=by
   unfold m8 m29k;simp only [spB,m67_w (w5 _ _ _ _ _),m66_itoa,checkB];rfl
  rw [e,evT_join (by simp) (List.forall_mem_cons.2 ⟨q1,List.forall_mem_cons.2 ⟨ci,List.forall_mem_cons.2 ⟨cx,List.forall_mem_cons.2 ⟨cy,List.forall_mem_cons.2 ⟨cr,fun _ h=>by cases h⟩⟩⟩⟩⟩)]
  show evOf [wCheck,Lib.itoa a,bts x,bts y,bts (resW b)]=_
  cases b
  ·rw [show bts (resW false)=wFail from rfl];simp only [evOf,hnum,tb];rfl
  ·rw [show bts (resW true)=wPass from rfl];simp only [evOf,hnum,tb];rfl
 ·have e:m8 1 a x emB emB false=joinW [toBA wUse,toBA (Lib.itoa a),x]:=by
   unfold m8 m29u;simp only [spB,m67_w (w3 _ _ _),m66_itoa,useB];rfl
  rw [e,evT_join (by simp) (List.forall_mem_cons.2 ⟨q2,List.forall_mem_cons.2 ⟨ci,List.forall_mem_cons.2 ⟨cx,fun _ h=>by cases h⟩⟩⟩)]
  show evOf [wUse,Lib.itoa a,bts x]=_
  simp only [evOf,hnum,tb];rfl
 ·have e:m8 2 a x emB z false=joinW [toBA wFill,toBA (Lib.itoa a),z,x]:=by
   unfold m8 m29f;simp only [spB,m67_w (w4 _ _ _ _),m66_itoa,fillB];rfl
  rw [e,evT_join (by simp) (List.forall_mem_cons.2 ⟨q3,List.forall_mem_cons.2 ⟨ci,List.forall_mem_cons.2 ⟨cz,List.forall_mem_cons.2 ⟨cx,fun _ h=>by cases h⟩⟩⟩⟩)]
  show evOf [wFill,Lib.itoa a,bts z,bts x]=_
  simp only [evOf,hnum,tb];rfl
 ·have e:m8 3 a x emB emB false=joinW [toBA wEmpty,toBA (Lib.itoa a),x]:=by
   unfold m8 m29u;simp only [spB,m67_w (w3 _ _ _),m66_itoa,emptyB];rfl
  rw [e,evT_join (by simp) (List.forall_mem_cons.2 ⟨q4,List.forall_mem_cons.2 ⟨ci,List.forall_mem_cons.2 ⟨cx,fun _ h=>by cases h⟩⟩⟩)]
  show evOf [wEmpty,Lib.itoa a,bts x]=_
  simp only [evOf,hnum,tb];rfl
 ·have e:m8 4 a x emB emB b=joinW [toBA wAir,toBA (Lib.itoa a),x,resW b]:=by
   unfold m8 m29a;simp only [spB,m67_w (w4 _ _ _ _),m66_itoa,airB];rfl
  rw [e,evT_join (by simp) (List.forall_mem_cons.2 ⟨q5,List.forall_mem_cons.2 ⟨ci,List.forall_mem_cons.2 ⟨cx,List.forall_mem_cons.2 ⟨cr,fun _ h=>by cases h⟩⟩⟩⟩)]
  show evOf [wAir,Lib.itoa a,bts x,bts (resW b)]=_
  cases b
  ·rw [show bts (resW false)=wFail from rfl];simp only [evOf,hnum,tb];rfl
  ·rw [show bts (resW true)=wPass from rfl];simp only [evOf,hnum,tb];rfl
theorem texts_law (nI:Nat) (dI:Dat) (nR:Nat) (dR:Dat) (k a:Int) (x y z:ByteArray) (b:Bool) (s:ByteArray) (ha:i64ok a):n3 nI dI nR dR k a x y z b s=true∧m3 nI dI nR dR k a x y z b s=true:=by
 obtain ⟨s1,s2⟩:=short_eq ⟨nI,dI,nR,dR⟩ 0 noDat
 obtain ⟨c,hc⟩:∃ c,(bif (bif (bif (m6 nI dI nR dR 0 noDat) then false else true) then true else (bif (m7 k a x y z b) then false else true)) then true else (decide (120<((↑s.size:Int)))))=c:=⟨_,rfl⟩
 unfold n3 m3
 rw [show m5g=true from rfl,hc,s1]
 cases c with
 | true=>exact ⟨rfl,rfl⟩
 | false =>
  have h6:m6 nI dI nR dR 0 noDat=true:=by
   cases hm:m6 nI dI nR dR 0 noDat with
   | true=>rfl
   | false=>rw [hm] at hc;simp at hc
  have h7:m7 k a x y z b=true:=by
   cases hm:m7 k a x y z b with
   | true=>rfl
   | false=>rw [hm] at hc;simp at hc
  have hs:s.size≤120:=by
   by_cases h:s.size≤120
   ·exact h
   ·rw [dt (show (120:Int)<s.size by omega)] at hc;simp at hc
  have S:=s2 h6
  have hcn:=S.cn
  have hcr:=S.cr
  unfold m7 at h7
  simp only [bif_and,Bool.and_eq_true,decide_eq_true_eq] at h7
  obtain ⟨f1,f2,f3,f4⟩:=format_eq (k:=k) (a:=a) (x:=x) (y:=y) (z:=z) (b:=b) ha (by omega) (by omega) (by omega)
  obtain ⟨r1,r2⟩:=ref_event (s:=s) (by omega)
  obtain ⟨p1,p2⟩:=prog_event (s:=s) (by omega)
  obtain ⟨p3,p4⟩:=prog_event (s:=m8 k a x y z b) (by omega)
  have hN:nI≤32:=hcn.1
  have hR:nR≤22:=hcr.1
  obtain ⟨c1,c2⟩:=m12_eq ⟨nI,dI,nR,dR⟩ (show nI≤1000000 by omega) (show nR≤1000000 by omega) S.names
  dsimp only at c1 c2
  have e13:=event_need (K:=⟨nI,dI,nR,dR⟩) (show nI≤1000000 by omega) (show nR≤1000000 by omega) (k:=k) (a:=a) (x:=x) (y:=y) (z:=z) (b:=b)
  dsimp only at e13
  simp only [f1,f2,r1,r2,p1,p2,p3,p4,c1,e13,dt f3,decide_true,cond_true,cond_false,Bool.true_and,Bool.and_true,Bool.cond_self]
  by_cases h12:m12 nI dI nR dR=0
  ·by_cases h13:m13 nI dI nR dR k a x y z b=0
   ·obtain ⟨n1,n2⟩:=names_of (K:=⟨nI,dI,nR,dR⟩) (c2.symm.trans h12)
    obtain ⟨a0,a1,hE⟩:=event_of (K:=⟨nI,dI,nR,dR⟩) (show nI≤1000000 by omega) (show nR≤1000000 by omega) n1 n2 h13
    rw [back ⟨a0,a1⟩ hE]
    simp [h12,h13]
   ·simp [h12,h13]
  ·simp [h12]
end Go.Proofs.YtdcdjjogieojhaaGreatDoor
