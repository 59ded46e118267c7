/-
 Print of a table, and what Parse makes of it. Conditions: none.
-/
import Derived.Lib.Split
import Derived.Lib.SplitLaws
import Derived.Lib.IndexBytes
import Derived.Lib.IndexLaws
import Derived.Lib.ItoaMem
import Derived.Lib.Atoi
import Derived.Lib.AtoiAll
import Derived.Test.YtpfipoimpmlmoaaGreatDoorJFTides
import Derived.Test.YtpfipoimpmlmoaaGreatDoorJSyV
namespace Go.Proofs.YtpfipoimpmlmoaaGreatDoor
open Go Go.Lib
set_option linter.unusedVariables false
def toBA (l:List UInt8):ByteArray:=⟨l.toArray⟩
theorem toBA_bytes (l:List UInt8):(toBA l).data.toList=l:=rfl
theorem ba_ext {s t:ByteArray} (h:s.data.toList=t.data.toList):s=t:=by
 obtain ⟨⟨a⟩⟩:=s;obtain ⟨⟨b⟩⟩:=t
 simp at h;subst h;rfl
theorem toBA_self (s:ByteArray):toBA s.data.toList=s:=ba_ext rfl
theorem toBA_size (l:List UInt8):(toBA l).size=l.length:=by rw [size_eq];rfl
theorem toBA_inj {l m:List UInt8} (h:toBA l=toBA m):l=m:=by
 have:=congrArg (·.data.toList) h
 exact this
theorem toBA_append (l m:List UInt8):toBA l ++ toBA m=toBA (l ++ m):=by
 apply ba_ext
 simp [toBA,ByteArray.data_append]
theorem append_bytes (s t:ByteArray):(s ++ t).data.toList=s.data.toList ++ t.data.toList:=by simp [ByteArray.data_append]
def cutL (c:UInt8):List UInt8→List (List UInt8)
 | []=>[[]]
 | b :: l=>if b=c then [] :: cutL c l else match cutL c l with
  | x :: r=>(b :: x) :: r
  | []=>[[b]]
theorem cutL_miss {c:UInt8}:∀ {x:List UInt8},c ∉ x→cutL c x=[x]
 | [],_=>rfl
 | b :: x,h=>by
  have h1:b≠c:=fun e=>h (by rw [e];simp)
  have h2:c ∉ x:=fun e=>h (by simp [e])
  rw [cutL,if_neg h1,cutL_miss h2]
theorem cutL_hit {c:UInt8} (y:List UInt8):∀ {x:List UInt8},c ∉ x→cutL c (x ++ c :: y)=x :: cutL c y
 | [],_=>by rw [List.nil_append,cutL,if_pos rfl]
 | b :: x,h=>by
  have h1:b≠c:=fun e=>h (by rw [e];simp)
  have h2:c ∉ x:=fun e=>h (by simp [e])
  rw [List.cons_append,cutL,if_neg h1,cutL_hit y h2]
theorem byte_cases (c:UInt8) (l:List UInt8):c ∉ l∨∃ x y,l=x ++ c :: y∧c ∉ x:=by
 by_cases h:c∈l
 ·obtain ⟨x,y,e,hx⟩:=List.eq_append_cons_of_mem h
  exact .inr ⟨x,y,e,hx⟩
 ·exact .inl h
theorem cut_ind {c:UInt8} {p:List UInt8→Prop} (h0:∀ x,c ∉ x→p x) (h1:∀ x y,c ∉ x→p y→p (x ++ c :: y)):∀ (n:Nat) (l:List UInt8),l.length≤n→p l
 | n,l,hn=>by
  rcases byte_cases c l with h | ⟨x,y,rfl,hx⟩
  ·exact h0 l h
  ·simp only [List.length_append,List.length_cons] at hn
   cases n with
   | zero=>omega
   | succ n=>exact h1 x y hx (cut_ind h0 h1 n y (by omega))
theorem cut_rec {c:UInt8} {p:List UInt8→Prop} (h0:∀ x,c ∉ x→p x) (h1:∀ x y,c ∉ x→p y→p (x ++ c :: y)) (l:List UInt8):p l:=cut_ind h0 h1 l.length l (Nat.le_refl _)
theorem cutL_pos (c:UInt8) (l:List UInt8):0<(cutL c l).length:=by
 refine cut_rec (c:=c) (p:=fun l=>0<(cutL c l).length) (fun x hx=>?_) (fun x y hx hy=>?_) l
 ·rw [cutL_miss hx];simp
 ·rw [cutL_hit y hx];simp
theorem cutL_le (c:UInt8) (l:List UInt8):(cutL c l).length≤l.length+1:=by
 refine cut_rec (c:=c) (p:=fun l=>(cutL c l).length≤l.length+1) (fun x hx=>?_) (fun x y hx hy=>?_) l
 ·rw [cutL_miss hx];simp
 ·rw [cutL_hit y hx];simp;omega
theorem idx_miss {c:UInt8} {x:List UInt8} (h:c ∉ x):indexByte x c=-1:=by
 have:=indexByte_ge x c
 rcases Int.lt_or_le (indexByte x c) 0 with h1 | h1
 ·omega
 ·obtain ⟨o,ho⟩:∃ o:Nat,indexByte x c=o:=⟨(indexByte x c).toNat,by omega⟩
  exact absurd (List.mem_of_getElem? (indexByte_some ho).1) h
theorem idx_hit {c:UInt8} {x y:List UInt8} (h:c ∉ x):indexByte (x ++ c :: y) c=x.length:=by
 have hge:=indexByte_ge (x ++ c :: y) c
 have hat:(x ++ c :: y)[x.length]? = some c:=by rw [List.getElem?_append_right (Nat.le_refl _)];simp
 rcases Int.lt_or_le (indexByte (x ++ c :: y) c) 0 with h1 | h1
 ·exact absurd hat (indexByte_none (by omega) _)
 ·obtain ⟨o,ho⟩:∃ o:Nat,indexByte (x ++ c :: y) c=o:=⟨_,(Int.toNat_of_nonneg h1).symm⟩
  obtain ⟨g1,g2⟩:=indexByte_some ho
  rw [ho]
  rcases Nat.lt_trichotomy o x.length with hl | hl | hl
  ·rw [List.getElem?_append_left hl] at g1
   exact absurd (List.mem_of_getElem? g1) h
  ·omega
  ·exact absurd hat (g2 _ hl)
theorem splitB_cut (c:UInt8):∀ (k:Nat) (s:ByteArray),s.size≤k→(splitB ⟨#[c]⟩ 0 (countB s ⟨#[c]⟩) s).map (·.data.toList)=cutL c s.data.toList
 | k,s,hk=>by
  have h1:1≤(⟨#[c]⟩:ByteArray).size:=Nat.le_refl 1
  rcases byte_cases c s.data.toList with h | ⟨x,y,e,hx⟩
  ·have hi:indexB s ⟨#[c]⟩=-1:=(index_one _ c).trans (idx_miss h)
   rw [countB_miss s _ hi,splitB_zero,cutL_miss h]
   rfl
  ·have hi:indexB s ⟨#[c]⟩=x.length:=(index_one _ c).trans (by rw [e];exact idx_hit hx)
   have hsz:s.size=x.length+1+y.length:=by rw [size_eq,e];simp;omega
   rw [countB_hit s _ x.length h1 hi,Nat.add_comm,splitB_hit _ _ _ _ _ hi,List.map_cons,e,cutL_hit y hx,extract_from_zero,e]
   have e1:(x ++ c :: y).take (x.length+0)=x:=by simp
   rw [e1]
   congr 1
   have e2:(s.extract (x.length+(⟨#[c]⟩:ByteArray).size) s.size).data.toList=y:=by
    rw [extract_to_end,e,show (⟨#[c]⟩:ByteArray).size=1 from rfl,List.drop_append]
    simp
   have hsz2:(s.extract (x.length+(⟨#[c]⟩:ByteArray).size) s.size).size=y.length:=by rw [size_eq,e2]
   cases k with
   | zero=>omega
   | succ k =>
    have ih:=splitB_cut c k (s.extract (x.length+(⟨#[c]⟩:ByteArray).size) s.size) (by omega)
    rw [ih,e2]
theorem countB_cut (c:UInt8) (s:ByteArray):countB s ⟨#[c]⟩+1=(cutL c s.data.toList).length:=by
 rw [← splitB_cut c s.size s (Nat.le_refl _),List.length_map,splitB_all ⟨#[c]⟩ (Nat.le_refl 1) 0 _ s rfl]
theorem splitB_get (c:UInt8) (s:ByteArray) (q:Nat):(splitB ⟨#[c]⟩ 0 (countB s ⟨#[c]⟩) s).getD q ByteArray.empty=toBA ((cutL c s.data.toList).getD q []):=by
 rw [← splitB_cut c s.size s (Nat.le_refl _)]
 simp only [List.getD_eq_getElem?_getD,List.getElem?_map]
 cases (splitB ⟨#[c]⟩ 0 (countB s ⟨#[c]⟩) s)[q]? with
 | none=>rfl
 | some t=>exact (toBA_self t).symm
def isDig (b:UInt8):Prop:=48≤b.toNat∧b.toNat≤57
theorem dig_val {b:UInt8} (h:isDig b):digitVal b=some (b.toNat - 48):=if_pos h
theorem decFrom_append:∀ (l m:List UInt8) (a:Nat),decFrom a (l ++ m)=(decFrom a l).bind fun x=>decFrom x m
 | [],m,a=>rfl
 | b :: l,m,a=>by
  simp only [List.cons_append,decFrom]
  cases digitVal b with
  | none=>rfl
  | some d=>exact decFrom_append l m _
theorem ofNat_dig {d:Nat} (h:d<10):(UInt8.ofNat (48+d)).toNat=48+d:=by rw [UInt8.toNat_ofNat'];omega
theorem decDigits_small {u:Nat} (h:u<10):decDigits u=[UInt8.ofNat (48+u)]:=by rw [decDigits,dif_pos h]
theorem decDigits_big {u:Nat} (h:¬ u<10):decDigits u=decDigits (u / 10) ++ [UInt8.ofNat (48+u % 10)]:=by rw [decDigits,dif_neg h]
theorem decDigits_ne (u:Nat):decDigits u≠[]:=by
 by_cases h:u<10
 ·rw [decDigits_small h];simp
 ·rw [decDigits_big h];simp
theorem decDigits_dig:∀ (u:Nat),∀ b∈decDigits u,isDig b:=by
 intro u
 induction u using Nat.strongRecOn with
 | _ u ih =>
  intro b hb
  by_cases h:u<10
  ·rw [decDigits_small h] at hb
   simp only [List.mem_singleton] at hb
   subst hb
   unfold isDig;rw [ofNat_dig h];omega
  ·rw [decDigits_big h] at hb
   rcases List.mem_append.1 hb with hb | hb
   ·exact ih (u / 10) (by omega) b hb
   ·simp only [List.mem_singleton] at hb
    subst hb
    unfold isDig;rw [ofNat_dig (by omega)];omega
theorem decFrom_decDigits (u:Nat):decFrom 0 (decDigits u)=some u:=by
 induction u using Nat.strongRecOn with
 | _ u ih =>
  by_cases h:u<10
  ·rw [decDigits_small h]
   simp only [decFrom]
   rw [dig_val (by unfold isDig;rw [ofNat_dig h];omega),ofNat_dig h]
   simp
  ·rw [decDigits_big h,decFrom_append,ih (u / 10) (by omega)]
   simp only [Option.bind_some,decFrom]
   rw [dig_val (by unfold isDig;rw [ofNat_dig (by omega)];omega),ofNat_dig (by omega)]
   simp;omega
theorem decDigits_head {u:Nat} (h0:0<u):∃ b r,decDigits u=b :: r∧b.toNat≠48:=by
 induction u using Nat.strongRecOn with
 | _ u ih =>
  by_cases h:u<10
  ·exact ⟨_,[],decDigits_small h,by rw [ofNat_dig h];omega⟩
  ·obtain ⟨b,r,e,hb⟩:=ih (u / 10) (by omega) (by omega)
   exact ⟨b,r ++ [UInt8.ofNat (48+u % 10)],by rw [decDigits_big h,e];rfl,hb⟩
theorem decFrom_ge:∀ (l:List UInt8) (a u:Nat),decFrom a l=some u→a≤u
 | [],a,u,h=>by simp only [decFrom,Option.some.injEq] at h;omega
 | b :: l,a,u,h=>by
  simp only [decFrom] at h
  cases hd:digitVal b with
  | none=>rw [hd] at h;cases h
  | some d=>rw [hd] at h;have:=decFrom_ge l _ u h;omega
theorem decFrom_lt:∀ (l:List UInt8) (a u:Nat),decFrom a l=some u→u<(a+1) * 10 ^ l.length
 | [],a,u,h=>by simp only [decFrom,Option.some.injEq] at h;simp;omega
 | b :: l,a,u,h=>by
  simp only [decFrom] at h
  cases hd:digitVal b with
  | none=>rw [hd] at h;cases h
  | some d =>
   rw [hd] at h
   have h1:=decFrom_lt l _ u h
   have h2:d<10:=by unfold digitVal at hd;split at hd <;> cases hd;omega
   rw [List.length_cons,Nat.pow_succ]
   have h3:(a * 10+d+1) * 10 ^ l.length≤((a+1) * 10) * 10 ^ l.length:=Nat.mul_le_mul_right _ (by omega)
   have h4:((a+1) * 10) * 10 ^ l.length=(a+1) * (10 ^ l.length * 10):=by rw [Nat.mul_assoc,Nat.mul_comm 10]
   omega
theorem decDigits_of:∀ (n:Nat) (r:List UInt8),r.length=n→r≠[]→(∀ b t,r=b :: t→b.toNat≠48∨t=[])→∀ u,decFrom 0 r=some u→decDigits u=r
 | n,r,hn,hne,hh,u,h=>by
  obtain ⟨t,b,rfl⟩:∃ t b,r=t ++ [b]:=⟨r.dropLast,r.getLast hne,(List.dropLast_concat_getLast hne).symm⟩
  rw [decFrom_append] at h
  cases ht:decFrom 0 t with
  | none=>rw [ht] at h;cases h
  | some a =>
   rw [ht] at h
   simp only [Option.bind_some,decFrom] at h
   cases hd:digitVal b with
   | none=>rw [hd] at h;cases h
   | some d =>
    rw [hd] at h
    simp only [Option.some.injEq] at h
    have hb:b.toNat=48+d∧d<10:=by unfold digitVal at hd;split at hd <;> cases hd;omega
    have hbe:UInt8.ofNat (48+d)=b:=by apply UInt8.toNat_inj.1;rw [ofNat_dig hb.2];omega
    cases t with
    | nil =>
     simp only [decFrom,Option.some.injEq] at ht
     subst ht
     rw [← h,Nat.zero_mul,Nat.zero_add,decDigits_small hb.2,hbe];rfl
    | cons x t =>
     have hx:x.toNat≠48:=by
      rcases hh x (t ++ [b]) rfl with h1 | h1
      ·exact h1
      ·simp at h1
     have ha:0<a:=by
      simp only [decFrom] at ht
      cases hxd:digitVal x with
      | none=>rw [hxd] at ht;cases ht
      | some e =>
       rw [hxd] at ht
       have:=decFrom_ge t _ a ht
       have:e=x.toNat - 48∧48≤x.toNat:=by unfold digitVal at hxd;split at hxd <;> cases hxd;omega
       omega
     have ih:=decDigits_of (x :: t).length (x :: t) rfl (by simp) (fun b' t' e=>by cases e;exact .inl hx) a ht
     rw [← h,decDigits_big (by omega),show (a * 10+d) / 10=a by omega,show (a * 10+d) % 10=d by omega,ih,hbe]
 termination_by n=>n
 decreasing_by simp at hn ⊢;omega
def numR (l:List UInt8):Option Int:=match l with
 | []=>none
 | b :: r=>if b=45 then (if r=[]∨7<r.length∨r.head? = some 48 then none else (decFrom 0 r).map fun (u:Nat)=>-(u:Int))
  else (if 7<l.length∨(b=48∧r≠[]) then none else (decFrom 0 l).map fun (u:Nat)=>(u:Int))
theorem numR_cons (b:UInt8) (r:List UInt8):numR (b :: r)=if b=45 then (if r=[]∨7<r.length∨r.head? = some 48 then none else (decFrom 0 r).map fun (u:Nat)=>-(u:Int)) else (if 7<(b :: r).length∨(b=48∧r≠[]) then none else (decFrom 0 (b :: r)).map fun (u:Nat)=>(u:Int)):=rfl
theorem dig45:¬ isDig 45:=by unfold isDig;decide
theorem itoa_cases (v:Int):(∃ u:Nat,v=u∧itoa v=decDigits u)∨∃ u:Nat,0<u∧v=-(u:Int)∧itoa v=45 :: decDigits u:=by
 rcases Int.lt_or_le v 0 with h | h
 ·exact .inr ⟨v.natAbs,by omega,by omega,by unfold itoa;rw [if_pos h]⟩
 ·exact .inl ⟨v.toNat,by omega,by unfold itoa;rw [if_neg (by omega)]⟩
theorem decDigits_len {u k:Nat} (h:u<10 ^ (k+1)):(decDigits u).length≤k+1:=by
 induction k generalizing u with
 | zero=>rw [decDigits_small (by simpa using h)];simp
 | succ k ih =>
  by_cases hs:u<10
  ·rw [decDigits_small hs];simp
  ·rw [decDigits_big hs,List.length_append]
   have:=ih (u:=u / 10) (by rw [Nat.pow_succ] at h;omega)
   simp;omega
theorem numR_itoa {v:Int} (h:(itoa v).length≤7∨(v<0∧(itoa v).length≤8)):numR (itoa v)=some v:=by
 rcases itoa_cases v with ⟨u,rfl,e⟩ | ⟨u,h0,rfl,e⟩
 ·have hl:(decDigits u).length≤7:=by rw [e] at h;rcases h with h | h;exact h;omega
  obtain ⟨b,r,hbr⟩:∃ b r,decDigits u=b :: r:=by
   cases hd:decDigits u with
   | nil=>exact absurd hd (decDigits_ne u)
   | cons b r=>exact ⟨b,r,rfl⟩
  have hdig:=decDigits_dig u b (by rw [hbr];simp)
  have hd:=decFrom_decDigits u
  rw [e,hbr]
  rw [hbr] at hd hl
  rw [numR_cons,if_neg (fun e=>dig45 (by rw [← e];exact hdig)),if_neg,hd]
  ·rfl
  ·rintro (h1 | ⟨h1,h2⟩)
   ·omega
   ·by_cases hu:0<u
    ·obtain ⟨b',r',e',hb'⟩:=decDigits_head hu
     rw [hbr] at e';cases e'
     exact hb' (by rw [h1];rfl)
    ·rw [decDigits_small (by omega)] at hbr
     cases hbr
     exact h2 rfl
 ·have hl:(decDigits u).length≤7:=by rw [e] at h;simp at h;rcases h with h | h <;> omega
  obtain ⟨b,r,hbr,hb⟩:=decDigits_head h0
  rw [e]
  rw [numR_cons,if_pos rfl,if_neg,decFrom_decDigits u]
  ·rfl
  ·rintro (h1 | h1 | h1)
   ·exact decDigits_ne u h1
   ·omega
   ·rw [hbr] at h1
    simp at h1
    exact hb (by rw [h1];rfl)
theorem numR_some {l:List UInt8} {v:Int} (h:numR l=some v):itoa v=l∧l.length≤8∧(l.length≤7∨∃ r,l=45 :: r):=by
 unfold numR at h
 split at h
 ·cases h
 ·rename_i b r
  split at h
  ·rename_i hb
   subst hb
   split at h
   ·cases h
   ·rename_i hc
    simp only [not_or] at hc
    rw [Option.map_eq_some_iff] at h
    obtain ⟨u,hu,rfl⟩:=h
    have e:=decDigits_of r.length r rfl hc.1 (fun b t e=>.inl fun e2=>hc.2.2 (by rw [e];simp;exact UInt8.toNat_inj.1 e2)) u hu
    have hu0:0<u:=by
     rcases Nat.eq_zero_or_pos u with e0 | h1
     ·subst e0
      rw [decDigits_small (by decide)] at e
      exact absurd (by rw [← e];rfl) hc.2.2
     ·exact h1
    refine ⟨by rw [itoa_neg u hu0,e],by simp;omega,.inr ⟨r,rfl⟩⟩
  ·rename_i hb
   split at h
   ·cases h
   ·rename_i hc
    simp only [not_or,not_and] at hc
    rw [Option.map_eq_some_iff] at h
    obtain ⟨u,hu,rfl⟩:=h
    have e:=decDigits_of (b :: r).length (b :: r) rfl (by simp) (fun b' t e=>by
     cases e
     by_cases h48:b=48
     ·exact .inr (by have:=hc.2 h48;simpa using this)
     ·exact .inl fun e2=>h48 (UInt8.toNat_inj.1 e2)) u hu
    exact ⟨by rw [itoa_nonneg,e],by simp at hc ⊢;omega,.inl (by omega)⟩
theorem parse_dec:∀ (l:List UInt8) (a u:Nat),decFrom a l=some u→u<1844674407370955162→parseUint10 a l=.ok u
 | [],a,u,h,_=>by simp only [decFrom,Option.some.injEq] at h;rw [parseUint10,h]
 | c :: r,a,u,h,hu=>by
  simp only [decFrom] at h
  cases hd:digitVal c with
  | none=>rw [hd] at h;cases h
  | some d =>
   rw [hd] at h
   have hc:(48≤c.toNat∧c.toNat≤57)∧d=c.toNat - 48:=by unfold digitVal at hd;split at hd <;> cases hd;exact ⟨by assumption,rfl⟩
   have hge:=decFrom_ge r _ u h
   rw [parseUint10,if_pos hc.1,if_neg (by omega),if_neg (by omega),← hc.2]
   exact parse_dec r _ u h hu
theorem atoi_neg {r:List UInt8} {u:Nat} (h:parseMag r=.ok u) (hu:u≤9223372036854775808):atoiAll (45 :: r)=.ok (-(u:Int)):=by
 unfold atoiAll
 dsimp only
 rw [if_pos (show (45:UInt8).toNat=43∨(45:UInt8).toNat=45 from .inr rfl),h]
 dsimp only
 rw [if_neg (fun e=>e.1 rfl),if_neg (fun e=>by omega)]
 exact congrArg _ (if_pos rfl)
theorem atoi_pos {b:UInt8} {r:List UInt8} {u:Nat} (hb:isDig b) (h:parseMag (b :: r)=.ok u) (hu:u<9223372036854775808):atoiAll (b :: r)=.ok (u:Int):=by
 have h45:¬ (b.toNat=45):=by unfold isDig at hb;omega
 unfold atoiAll
 dsimp only
 rw [if_neg (show ¬ (b.toNat=43∨b.toNat=45) by unfold isDig at hb;omega),h]
 dsimp only
 rw [if_neg (fun e=>by omega),if_neg (fun e=>h45 e.1),if_neg h45]
theorem atoi_num {l:List UInt8} {v:Int} (h:numR l=some v):atoiAll l=.ok v:=by
 unfold numR at h
 split at h
 ·cases h
 ·rename_i b r
  split at h
  ·rename_i hb
   subst hb
   split at h
   ·cases h
   ·rename_i hc
    simp only [not_or] at hc
    rw [Option.map_eq_some_iff] at h
    obtain ⟨u,hu,rfl⟩:=h
    have hlt:u<10000000:=by
     have h1:=decFrom_lt r 0 u hu
     have h2:10 ^ r.length≤10 ^ 7:=Nat.pow_le_pow_right (by decide) (by omega)
     omega
    have hp:=parse_dec r 0 u hu (by omega)
    have hm:parseMag r=.ok u:=by unfold parseMag;rw [if_neg hc.1,hp]
    exact atoi_neg hm (by omega)
  ·rename_i hb
   split at h
   ·cases h
   ·rename_i hc
    simp only [not_or] at hc
    rw [Option.map_eq_some_iff] at h
    obtain ⟨u,hu,rfl⟩:=h
    have hlt:u<10000000:=by
     have h1:=decFrom_lt (b :: r) 0 u hu
     have h2:10 ^ (b :: r).length≤10 ^ 7:=Nat.pow_le_pow_right (by decide) (by omega)
     omega
    have hbd:isDig b:=by
     simp only [decFrom] at hu
     cases hd:digitVal b with
     | none=>rw [hd] at hu;cases hu
     | some d=>unfold digitVal at hd;split at hd <;> cases hd;assumption
    have hp:=parse_dec (b :: r) 0 u hu (by omega)
    have hm:parseMag (b :: r)=.ok u:=by unfold parseMag;rw [if_neg (by simp),hp]
    exact atoi_pos hbd hm (by omega)
end Go.Proofs.YtpfipoimpmlmoaaGreatDoor
namespace Go.Sy
open Go
theorem wrp {n:Int} (h0:-9223372036854775808≤n) (h1:n≤9223372036854775807):IntKind.i64.wrap n=n:=by
 simp [IntKind.wrap,IntKind.bits,IntKind.signed];omega
theorem wrS {i n:Nat} (h:i<n) (hn:n≤9223372036854775807):IntKind.i64.wrap ((i:Int)+1)=((i+1:Nat):Int):=by rw [wrp (by omega) (by omega)];omega
def brk {β:Type}:Option β→Option β→Option β
 | some b,_=>some b
 | none,r=>r
def first {β:Type} (g:Nat→Option β) (e:β):Nat→Nat→β
 | 0,_=>e
 | k+1,i=>match g i with | some b=>b | none=>first g e k (i+1)
theorem loop_first {β:Type} {l:Nat→Int→Option β} {g:Nat→Option β} {e:β} {n:Nat} (hn:n≤9223372036854775807)
  (step:∀ f i,i<n→l (f+1) (i:Int)=brk (g i) (l f (IntKind.i64.wrap ((i:Int)+1)))) (stop:∀ f,l (f+1) (n:Int)=some e) :
  ∀ (k i f:Nat),i+k=n→k<f→l f (i:Int)=some (first g e k i)
 | 0,i,f,hi,hf=>by
  obtain ⟨f,rfl⟩:∃ f',f=f'+1:=⟨f - 1,by omega⟩
  obtain rfl:i=n:=by omega
  exact stop f
 | k+1,i,f,hi,hf=>by
  obtain ⟨f,rfl⟩:∃ f',f=f'+1:=⟨f - 1,by omega⟩
  rw [step f i (by omega),wrS (show i<n by omega) hn,first]
  cases g i with
  | some b=>rfl
  | none=>exact loop_first hn step stop k (i+1) f (by omega) (by omega)
section
variable {β:Type} {g:Nat→Option β} {e:β}
theorem first_none:∀ {k i:Nat},(∀ j,i≤j→j<i+k→g j=none)→first g e k i=e
 | 0,_,_=>rfl
 | k+1,i,h=>by
  rw [first,h i (Nat.le_refl _) (by omega)]
  exact first_none fun j h1 h2=>h j (by omega) (by omega)
theorem first_some:∀ {k i:Nat} {j:Nat} {b:β},i≤j→j<i+k→g j=some b→(∀ j',i≤j'→j'<j→g j'=none)→first g e k i=b
 | 0,i,j,b,h1,h2,_,_=>by omega
 | k+1,i,j,b,h1,h2,hg,h=>by
  rw [first]
  by_cases hij:i=j
  ·subst hij;rw [hg]
  ·rw [h i (Nat.le_refl _) (by omega)]
   exact first_some (by omega) (by omega) hg fun j' a b=>h j' (by omega) b
theorem first_cases (k i:Nat):(∃ j b,i≤j∧j<i+k∧g j=some b∧(∀ j',i≤j'→j'<j→g j'=none)∧first g e k i=b)∨((∀ j,i≤j→j<i+k→g j=none)∧first g e k i=e):=by
 induction k generalizing i with
 | zero=>exact Or.inr ⟨fun j h1 h2=>by omega,rfl⟩
 | succ k ih =>
  rw [first]
  cases hg:g i with
  | some b=>exact Or.inl ⟨i,b,Nat.le_refl _,by omega,hg,fun j' h1 h2=>by omega,rfl⟩
  | none =>
   rcases ih (i+1) with ⟨j,b,h1,h2,h3,h4,h5⟩ | ⟨h1,h2⟩
   ·exact Or.inl ⟨j,b,by omega,by omega,h3,fun j' a c=>by by_cases hj:j'=i;(subst hj;exact hg);exact h4 j' (by omega) c,h5⟩
   ·exact Or.inr ⟨fun j a c=>by by_cases hj:j=i;(subst hj;exact hg);exact h1 j (by omega) (by omega),h2⟩
end
theorem app_zero (d e:Dat):d.app 0 e=e:=by
 have h:∀ q:Nat,Nat.blt q 0=false:=fun q=>by cases q <;> rfl
 cases e
 simp [Dat.app,h]
theorem cdd {i n:Nat} (h:i<n):decide ((0:Int)≤(i:Int)∧(i:Int)<(n:Int))=true:=decide_eq_true ⟨by omega,by omega⟩
theorem cdl {i n:Nat} (h:i<n):decide ((i:Int)<(n:Int))=true:=decide_eq_true (by omega)
theorem cdn (n:Nat):decide ((n:Int)<(n:Int))=false:=decide_eq_false (by omega)
end Go.Sy
namespace Go.Proofs.YtpfipoimpmlmoaaGreatDoor
open Go Go.Sy
set_option linter.unusedVariables false
set_option linter.unusedSimpArgs false
set_option maxRecDepth 100000
theorem app_lt_ss {d e:Dat} {n q c:Nat} (h:q<n):(d.app n e).ss q c=d.ss q c:=by simp only [Dat.app,blt_t h,cond_true]
theorem app_ge_ss {d e:Dat} {n q c:Nat} (h:n≤q):(d.app n e).ss q c=e.ss (q - n) c:=by simp only [Dat.app,blt_f (Nat.not_lt.2 h),cond_false]
theorem app_lt_ii {d e:Dat} {n q c:Nat} (h:q<n):(d.app n e).ii q c=d.ii q c:=by simp only [Dat.app,blt_t h,cond_true]
theorem app_ge_ii {d e:Dat} {n q c:Nat} (h:n≤q):(d.app n e).ii q c=e.ii (q - n) c:=by simp only [Dat.app,blt_f (Nat.not_lt.2 h),cond_false]
theorem dt {p:Prop} [Decidable p] (h:p):decide p=true:=decide_eq_true h
theorem df {p:Prop} [Decidable p] (h:¬ p):decide p=false:=decide_eq_false h
abbrev bts (s:ByteArray):List UInt8:=s.data.toList
theorem bts_size (s:ByteArray):s.size=(bts s).length:=Lib.size_eq s
theorem m57_len (s:ByteArray) (c:UInt8):(m57 s ⟨#[c]⟩).1=(cutL c (bts s)).length:=by unfold m57;exact countB_cut c s
theorem m57_at (s:ByteArray) (c:UInt8) (q:Nat):(m57 s ⟨#[c]⟩).2.ss q 0=toBA ((cutL c (bts s)).getD q []):=by unfold m57;exact splitB_get c s q
theorem byteAt_of {s:ByteArray} {i:Nat} {b:UInt8} (h:(bts s)[i]? = some b):byteAt s i=(b.toNat:Int):=by
 unfold byteAt
 rw [List.getD_eq_getElem?_getD,h];rfl
theorem l34_run {t0:ByteArray} {c:UInt8} (hs:t0.size≤100000000):∀ (k i g n f0:Nat) (d:Dat),i+k=t0.size→k<g→f0≤i→n≤f0→c ∉ ((bts t0).drop f0).take (i - f0) →
  ∃ n' f' d',l34_0 t0 (c.toNat:Int) g n (f0:Int) (i:Int) d=some (n',((f':Nat):Int),n',d')∧f'≤t0.size∧n'≤f'∧n'+1=n+(cutL c ((bts t0).drop f0)).length ∧
   (∀ q,q<n→d'.ss q 0=d.ss q 0)∧(∀ j,j+1<(cutL c ((bts t0).drop f0)).length→d'.ss (n+j) 0=toBA ((cutL c ((bts t0).drop f0)).getD j []))∧(cutL c ((bts t0).drop f0)).getD (n' - n) []=(bts t0).drop f'∧n≤n'
 | 0,i,g,n,f0,d,hi,hg,hf,hn,hc=>by
  obtain ⟨g,rfl⟩:∃ g',g=g'+1:=⟨g - 1,by omega⟩
  have e:((bts t0).drop f0).take (i - f0)=(bts t0).drop f0:=List.take_of_length_le (by rw [List.length_drop,← bts_size];omega)
  rw [e] at hc
  unfold l34_0
  rw [df (show ¬ ((i:Int)<t0.size) by omega)]
  rw [cutL_miss hc]
  exact ⟨n,f0,d,rfl,by omega,hn,rfl,fun _ _=>rfl,fun j hj=>by simp at hj,by simp,Nat.le_refl _⟩
 | k+1,i,g,n,f0,d,hi,hg,hf,hn,hc=>by
  obtain ⟨g,rfl⟩:∃ g',g=g'+1:=⟨g - 1,by omega⟩
  have hlt:i<(bts t0).length:=by rw [← bts_size];omega
  obtain ⟨b,hb⟩:∃ b,(bts t0)[i]? = some b:=⟨_,List.getElem?_eq_getElem hlt⟩
  have hby:=byteAt_of hb
  have hd:(bts t0).drop i=b :: (bts t0).drop (i+1):=by rw [List.drop_eq_getElem_cons hlt];congr 1;rw [List.getElem?_eq_getElem hlt] at hb;cases hb;rfl
  have hsp:(bts t0).drop f0=((bts t0).drop f0).take (i - f0) ++ b :: (bts t0).drop (i+1):=by
   conv=>lhs;rw [← List.take_append_drop (i - f0) ((bts t0).drop f0)]
   rw [List.drop_drop,show f0+(i - f0)=i by omega,hd]
  have hw:IntKind.i64.wrap ((i:Int)+1)=((i+1:Nat):Int):=wrS (show i<t0.size by omega) (by omega)
  unfold l34_0
  simp only [Int.toNat_natCast,hby,hw]
  rw [dt (show (i:Int)<t0.size by omega),dt (show (0:Int)≤i∧(i:Int)<t0.size by omega)]
  simp only [cond_true]
  by_cases hbc:b=c
  ·subst hbc
   rw [dt rfl,dt (show (0:Int)≤f0∧(f0:Int)≤i∧(i:Int)≤t0.size by omega),dt (show n+1≤1073741824 by omega)]
   simp only [cond_true]
   obtain ⟨n',f',d',h1,h2,h3,h4,h5,h6,h7,h8⟩:=l34_run (c:=b) hs k (i+1) g (n+1) (i+1) (d.app n (datS [SV.str (t0.extract f0 i)] 1)) (by omega) (by omega) (Nat.le_refl _) (by omega) (by simp)
   refine ⟨n',f',d',h1,h2,h3,?_,fun q hq=>?_,fun j hj=>?_,?_,by omega⟩
   ·rw [hsp,cutL_hit _ hc,List.length_cons];omega
   ·rw [h5 q (by omega),app_lt_ss hq]
   ·rw [hsp,cutL_hit _ hc] at hj ⊢
    cases j with
    | zero =>
     rw [Nat.add_zero,h5 n (by omega),app_ge_ss (Nat.le_refl _),Nat.sub_self]
     show t0.extract f0 i=toBA _
     apply ba_ext
     rw [Lib.extract_data];rfl
    | succ j =>
     have:=h6 j (by simp only [List.length_cons] at hj;omega)
     rw [show n+(j+1)=n+1+j by omega,this];rfl
   ·rw [hsp,cutL_hit _ hc,show n' - n=(n' - (n+1))+1 by omega]
    exact h7
  ·rw [df (show ¬ ((b.toNat:Int)=(c.toNat:Int)) from fun e=>hbc (UInt8.toNat_inj.1 (by omega)))]
   simp only [cond_false]
   refine l34_run (c:=c) hs k (i+1) g n f0 d (by omega) (by omega) (by omega) hn ?_
   have:((bts t0).drop f0).take (i+1 - f0)=((bts t0).drop f0).take (i - f0) ++ [b]:=by
    conv=>lhs;rw [hsp]
    have hl:(((bts t0).drop f0).take (i - f0)).length=i - f0:=by rw [List.length_take,List.length_drop];omega
    rw [List.take_append,hl,show i+1 - f0 - (i - f0)=1 by omega,List.take_of_length_le (by rw [hl];omega)]
    rfl
   rw [this]
   intro hm
   rcases List.mem_append.1 hm with h | h
   ·exact hc h
   ·exact hbc (List.mem_singleton.1 h).symm
theorem cut_ref {s:ByteArray} {c:UInt8} {a:Int} (ha:a=(c.toNat:Int)) (hs:s.size≤100000000):n34 s a=true∧(m34 s a).1=(cutL c (bts s)).length∧∀ q,q<(cutL c (bts s)).length→(m34 s a).2.ss q 0=toBA ((cutL c (bts s)).getD q []):=by
 subst ha
 obtain ⟨n',f',d',h1,h2,h3,h4,h5,h6,h7,h8⟩:=l34_run (t0:=s) (c:=c) hs s.size 0 (s.size+(c.toNat:Int).toNat+0+(0:Int).toNat+(0:Int).toNat+8) 0 0 noDat (by omega) (by omega) (Nat.le_refl _) (Nat.le_refl _) (by simp)
 rw [List.drop_zero] at h4 h6 h7
 rw [Nat.sub_zero] at h7
 have ho:o34_0 s (c.toNat:Int) 0 0 0 noDat=some (n',((f':Nat):Int),n',d'):=h1
 refine ⟨?_,?_,fun q hq=>?_⟩
 ·unfold n34
  rw [ho]
  simp only [Option.isSome_some,Option.getD_some,Bool.true_and,Bool.and_true]
  rw [dt (show (0:Int)≤f'∧(f':Int)≤s.size∧(s.size:Int)≤s.size by omega),dt (Nat.le_refl _),dt (show n'+1≤1073741824 by omega),dt (show 0+(n'+1)≤n'+1 by omega)]
  rfl
 ·unfold m34
  rw [ho]
  simp only [Option.getD_some]
  omega
 ·unfold m34
  rw [ho]
  simp only [Option.getD_some,Int.toNat_natCast]
  by_cases hq':q<n'
  ·rw [app_lt_ss hq']
   have:=h6 q (by omega)
   rw [Nat.zero_add] at this
   exact this
  ·have e:q=n':=by omega
   subst e
   rw [app_ge_ss (Nat.le_refl _),Nat.sub_self,h7]
   show s.extract f' s.size=toBA _
   apply ba_ext
   rw [Lib.extract_to_end];rfl
theorem m22_eq (n:Int):m22 n=toBA (Lib.itoa n):=by unfold m22;rfl
theorem m58_ok {s:ByteArray} {v:Int} (h:Lib.atoiAll (bts s)=.ok v):m58 s=(v,true):=by unfold m58;rw [h]
theorem m59_size (s:ByteArray):(m59 s ⟨#[45]⟩).size=(match bts s with | 45 :: r=>r.length | l=>l.length):=by
 unfold m59
 rw [Lib.size_eq]
 show (Lib.trimPrefix (bts s) [45]).length=_
 unfold Lib.trimPrefix Lib.hasPrefix
 cases h:bts s with
 | nil=>rfl
 | cons b r =>
  by_cases hb:b=45
  ·subst hb;simp [List.isPrefixOf]
  ·have:([45]:List UInt8).isPrefixOf (b :: r)=false:=by simp [List.isPrefixOf];exact fun e=>hb e.symm
   rw [this]
   simp only [Bool.false_eq_true,if_false]
   split
   ·rename_i e;cases e;exact absurd rfl hb
   ·rfl
theorem num_prog (s:ByteArray):(bif bif bif (m58 s).2 then false else true then true else bif decide (m22 (m58 s).1=s) then false else true then true else decide (7<((m59 s ⟨#[45]⟩).size:Int)))=(numR (bts s)).isNone∧∀ v,numR (bts s)=some v→(m58 s).1=v:=by
 cases h:numR (bts s) with
 | some v =>
  have h1:=m58_ok (atoi_num h)
  obtain ⟨h2,h3,h4⟩:=numR_some h
  rw [h1]
  refine ⟨?_,fun w hw=>by cases hw;rfl⟩
  have e:m22 v=s:=by rw [m22_eq,h2];exact toBA_self s
  have hsz:¬ ((7:Int)<((m59 s ⟨#[45]⟩).size:Int)):=by
   rw [m59_size]
   rcases h4 with h4 | ⟨r,h4⟩
   ·split
    ·rename_i r e;rw [e] at h4;simp at h4;omega
    ·omega
   ·rw [h4] at h3 ⊢;simp at h3 ⊢;omega
  simp [e,df hsz]
 | none =>
  refine ⟨?_,fun v hv=>by cases hv⟩
  simp only [Option.isNone_none]
  cases h2:(m58 s).2 with
  | false=>simp
  | true =>
   by_cases h3:m22 (m58 s).1=s
   ·by_cases h4:(7:Int)<((m59 s ⟨#[45]⟩).size:Int)
    ·simp [h3,dt h4]
    ·exfalso
     have e:Lib.itoa (m58 s).1=bts s:=by
      have:=congrArg bts h3
      rwa [m22_eq] at this
     rw [m59_size] at h4
     have:numR (Lib.itoa (m58 s).1)=some (m58 s).1:=by
      refine numR_itoa ?_
      rcases itoa_cases (m58 s).1 with ⟨u,hu,e2⟩ | ⟨u,hu0,hu,e2⟩
      ·left
       rw [e]
       split at h4
       ·rename_i r er
        exfalso
        have:=decDigits_dig u 45 (by rw [← e2,e,er];simp)
        exact dig45 this
       ·omega
      ·right
       rw [e2] at e
       rw [← e] at h4
       rw [e2]
       simp at h4 ⊢
       omega
     rw [e,h] at this
     cases this
   ·simp [df h3]
theorem wrap_dig {b:UInt8} (h:isDig b):IntKind.i64.wrap (IntKind.u8.wrap ((b.toNat:Int) - 48))=((b.toNat - 48:Nat):Int):=by
 unfold isDig at h
 have e:IntKind.u8.wrap ((b.toNat:Int) - 48)=((b.toNat - 48:Nat):Int):=by
  simp [IntKind.wrap,IntKind.bits,IntKind.signed];omega
 rw [e,wrp (by omega) (by omega)]
theorem l61_run {s:ByteArray} {t6:Int} (hs:s.size≤8):∀ (k i g a:Nat),i+k=s.size→k<g→a<10 ^ i →
  ∃ r,l61_0 s t6 g (a:Int) (i:Int)=some r∧(match Lib.decFrom a ((bts s).drop i) with | some u=>r=(false,default,(u:Int)) | none=>∃ z,r=(true,(0,false,z),default))
 | 0,i,g,a,hi,hg,ha=>by
  obtain ⟨g,rfl⟩:∃ g',g=g'+1:=⟨g - 1,by omega⟩
  unfold l61_0
  rw [df (show ¬ ((i:Int)<s.size) by omega),List.drop_eq_nil_of_le (by rw [← bts_size];omega)]
  exact ⟨_,rfl,rfl⟩
 | k+1,i,g,a,hi,hg,ha=>by
  obtain ⟨g,rfl⟩:∃ g',g=g'+1:=⟨g - 1,by omega⟩
  have hlt:i<(bts s).length:=by rw [← bts_size];omega
  obtain ⟨b,hb⟩:∃ b,(bts s)[i]? = some b:=⟨_,List.getElem?_eq_getElem hlt⟩
  have hby:=byteAt_of hb
  have hd:(bts s).drop i=b :: (bts s).drop (i+1):=by rw [List.drop_eq_getElem_cons hlt];congr 1;rw [List.getElem?_eq_getElem hlt] at hb;cases hb;rfl
  have hw:IntKind.i64.wrap ((i:Int)+1)=((i+1:Nat):Int):=wrS (show i<s.size by omega) (by omega)
  unfold l61_0
  simp only [Int.toNat_natCast,hby,hw]
  rw [dt (show (i:Int)<s.size by omega),dt (show (0:Int)≤i∧(i:Int)<s.size by omega),hd]
  simp only [cond_true,Bool.cond_true_right]
  by_cases hbd:isDig b
  ·have h10:a<100000000:=Nat.lt_of_lt_of_le ha (Nat.le_trans (Nat.pow_le_pow_right (by decide) (show i≤8 by omega)) (by decide))
   have hv:IntKind.i64.wrap (IntKind.i64.wrap (10 * (a:Int))+IntKind.i64.wrap (IntKind.u8.wrap ((b.toNat:Int) - 48)))=((a * 10+(b.toNat - 48):Nat):Int):=by
    have h9:b.toNat - 48<10:=by unfold isDig at hbd;omega
    rw [wrap_dig hbd,wrp (n:=10 * (a:Int)) (by omega) (by omega),wrp (by omega) (by omega)]
    omega
   rw [hv,Lib.decFrom,dig_val hbd]
   have c1:¬ ((b.toNat:Int)<48):=by unfold isDig at hbd;omega
   have c2:¬ ((57:Int)<(b.toNat:Int)):=by unfold isDig at hbd;omega
   rw [df c1,df c2]
   simp only [cond_true,cond_false]
   refine l61_run hs k (i+1) g _ (by omega) (by omega) ?_
   have:b.toNat - 48<10:=by unfold isDig at hbd;omega
   rw [Nat.pow_succ];omega
  ·have hdn:Lib.digitVal b=none:=if_neg hbd
   rw [Lib.decFrom,hdn]
   have:(bif decide ((b.toNat:Int)<48) then true else decide ((57:Int)<(b.toNat:Int)))=true:=by
    by_cases h1:(b.toNat:Int)<48
    ·rw [dt h1];rfl
    ·rw [df h1,dt (show (57:Int)<(b.toNat:Int) by unfold isDig at hbd;omega)];rfl
   rw [this]
   by_cases h1:(b.toNat:Int)<48
   ·simp [h1]
   ·simp [h1]
theorem number_ref {s:ByteArray} (hs:s.size≤100000000):n61 s 7=true∧(m61 s 7).2=(numR (bts s)).isSome∧∀ v,numR (bts s)=some v→(m61 s 7).1=v:=by
 have hsz:=bts_size s
 cases hl:bts s with
 | nil =>
  rw [hl] at hsz
  have h0:s.size=0:=by simpa using hsz
  refine ⟨?_,?_,fun v hv=>by cases hv⟩
  ·unfold n61;simp [h0]
  ·unfold m61;simp [h0,numR]
 | cons b r =>
  rw [hl] at hsz
  simp only [List.length_cons] at hsz
  have hb0:byteAt s 0=(b.toNat:Int):=byteAt_of (by rw [hl];rfl)
  have hpos:(0:Int)<s.size:=by omega
  rw [numR_cons]
  by_cases hb:b=45
  ·subst hb
   have hb45:byteAt s 0=45:=hb0
   rw [if_pos rfl]
   have hw:IntKind.i64.wrap ((s.size:Int) - 1)=(r.length:Int):=by rw [wrp (by omega) (by omega)];omega
   have hhd:(bif decide (byteAt s 1=48) then decide (1<(s.size:Int)) else false)=decide (r.head? = some 48):=by
    cases r with
    | nil=>simp [hsz]
    | cons x r =>
     have hx:byteAt s 1=(x.toNat:Int):=byteAt_of (by rw [hl];rfl)
     rw [hx]
     by_cases h48:x=48
     ·subst h48;simp [hsz];omega
     ·have:¬ ((x.toNat:Int)=48):=fun e=>h48 (UInt8.toNat_inj.1 (by show x.toNat=48;omega))
      simp [this,h48]
   have hc:(bif bif decide ((s.size:Int)=1) then true else decide (7<IntKind.i64.wrap ((s.size:Int) - 1)) then true else bif decide (byteAt s 1=48) then decide (1<(s.size:Int)) else false)=decide (r=[]∨7<r.length∨r.head? = some 48):=by
    rw [hhd,hw]
    by_cases h1:r=[]
    ·subst h1;simp [hsz]
    ·have:¬ ((s.size:Int)=1):=by
      intro e
      exact h1 (List.length_eq_zero_iff.1 (by omega))
     rw [df this]
     by_cases h2:7<r.length
     ·simp [h2,show (7:Int)<r.length by omega]
     ·simp [h2,h1,show ¬ (7:Int)<r.length by omega]
   by_cases hbad:r=[]∨7<r.length∨r.head? = some 48
   ·rw [if_pos hbad]
    refine ⟨?_,?_,fun v hv=>by cases hv⟩
    ·unfold n61
     rw [hc,hb45,dt hbad,dt hpos]
     by_cases h1:r=[]
     ·subst h1;simp [hsz]
     ·have hr:0<r.length:=List.length_pos_iff.2 h1
      simp;omega
    ·unfold m61
     rw [hc,hb45,dt hbad,dt hpos]
     rfl
   ·rw [if_neg hbad]
    simp only [not_or] at hbad
    have hr:0<r.length:=List.length_pos_iff.2 hbad.1
    obtain ⟨res,h1,h2⟩:=l61_run (s:=s) (t6:=1) (by omega) r.length 1 (s.size+(1:Int).toNat+(0:Int).toNat+(1:Int).toNat+8) 0 (by omega) (by omega) (by decide)
    have ho:o61_0 s 1 0 1=some res:=h1
    rw [hl] at h2
    simp only [List.drop_succ_cons,List.drop_zero] at h2
    have hbad':¬ (r=[]∨7<r.length∨r.head? = some 48):=by simp only [not_or];exact hbad
    have hn:n61 s 7=true:=by
     unfold n61
     rw [hc,hb45,df hbad',dt hpos,ho]
     simp;omega
    refine ⟨hn,?_⟩
    unfold m61
    rw [hc,hb45,df hbad',dt hpos,ho]
    cases hd:Lib.decFrom 0 r with
    | none =>
     rw [hd] at h2
     obtain ⟨z,rfl⟩:=h2
     exact ⟨rfl,fun v hv=>by cases hv⟩
    | some u =>
     rw [hd] at h2
     subst h2
     have hu:u<10000000:=by
      have h1:=decFrom_lt r 0 u hd
      have h2:10 ^ r.length≤10 ^ 7:=Nat.pow_le_pow_right (by decide) (by omega)
      omega
     refine ⟨rfl,fun v hv=>?_⟩
     cases hv
     show IntKind.i64.wrap (0 - (u:Int))=-(u:Int)
     rw [wrp (by omega) (by omega)];omega
  ·have hnb:¬ (byteAt s 0=45):=by
    rw [hb0];exact fun e=>hb (UInt8.toNat_inj.1 (by show b.toNat=45;omega))
   rw [if_neg hb]
   have hw:IntKind.i64.wrap ((s.size:Int) - 0)=((r.length+1:Nat):Int):=by rw [wrp (by omega) (by omega)];omega
   have hc:(bif bif decide ((s.size:Int)=0) then true else decide (7<IntKind.i64.wrap ((s.size:Int) - 0)) then true else bif decide (byteAt s 0=48) then decide (1<(s.size:Int)) else false)=decide (7<(b :: r).length∨(b=48∧r≠[])):=by
    rw [hw,df (show ¬ ((s.size:Int)=0) by omega),hb0]
    by_cases h2:7<(b :: r).length
    ·rw [dt (show (7:Int)<((r.length+1:Nat):Int) by simp at h2;omega),dt (Or.inl h2:7<(b :: r).length∨(b=48∧r≠[]))];rfl
    ·rw [df (show ¬ (7:Int)<((r.length+1:Nat):Int) by simp at h2;omega)]
     by_cases h48:b=48
     ·subst h48
      cases r with
      | nil=>simp [hsz]
      | cons x r=>simp only [List.length_cons] at hsz h2;simp [hsz,h2];omega
     ·have:¬ ((b.toNat:Int)=48):=fun e=>h48 (UInt8.toNat_inj.1 (by show b.toNat=48;omega))
      simp only [List.length_cons] at h2
      simp [this,h48];omega
   by_cases hbad:7<(b :: r).length∨(b=48∧r≠[])
   ·rw [if_pos hbad]
    refine ⟨?_,?_,fun v hv=>by cases hv⟩
    ·unfold n61
     rw [hc,df hnb,dt hbad,dt hpos]
     simp;omega
    ·unfold m61
     rw [hc,df hnb,dt hbad,dt hpos]
     rfl
   ·rw [if_neg hbad]
    have hl7:(b :: r).length≤7:=by simp only [not_or] at hbad;omega
    simp only [List.length_cons] at hl7
    obtain ⟨res,h1,h2⟩:=l61_run (s:=s) (t6:=0) (by omega) (r.length+1) 0 (s.size+(0:Int).toNat+(0:Int).toNat+(0:Int).toNat+8) 0 (by omega) (by omega) (by decide)
    have ho:o61_0 s 0 0 0=some res:=h1
    rw [hl] at h2
    simp only [List.drop_zero] at h2
    have hn:n61 s 7=true:=by
     unfold n61
     rw [hc,df hnb,df hbad,dt hpos,ho]
     simp;omega
    refine ⟨hn,?_⟩
    unfold m61
    rw [hc,df hnb,df hbad,dt hpos,ho]
    cases hd:Lib.decFrom 0 (b :: r) with
    | none =>
     rw [hd] at h2
     obtain ⟨z,rfl⟩:=h2
     exact ⟨rfl,fun v hv=>by cases hv⟩
    | some u =>
     rw [hd] at h2
     subst h2
     refine ⟨rfl,fun v hv=>?_⟩
     cases hv
     rfl
end Go.Proofs.YtpfipoimpmlmoaaGreatDoor
namespace Go.Proofs.YtpfipoimpmlmoaaGreatDoor
open Go Go.Sy
set_option linter.unusedVariables false
set_option linter.unusedSimpArgs false
set_option maxRecDepth 100000
def allNum:List (List UInt8)→Option (List Int)
 | []=>some []
 | x :: r=>match numR x with
  | some v=>(match allNum r with
   | some l=>some (v :: l)
   | none=>none)
  | none=>none
theorem allNum_len:∀ {w:List (List UInt8)} {l:List Int},allNum w=some l→l.length=w.length
 | [],l,h=>by cases h;rfl
 | x :: r,l,h=>by
  simp only [allNum] at h
  split at h <;> try (cases h;done)
  split at h <;> cases h
  rename_i l' h'
  simp [allNum_len h']
def rowOf (word:List UInt8) (cnt:Nat) (x:List UInt8):Option (List Int) :=
 if (cutL 32 x).length=cnt+1∧(cutL 32 x).getD 0 []=word then allNum (cutL 32 x).tail else none
theorem cutL_get_le (c:UInt8) (x:List UInt8):∀ q,((cutL c x).getD q []).length≤x.length:=by
 refine cut_rec (c:=c) (p:=fun x=>∀ q,((cutL c x).getD q []).length≤x.length) (fun x hx q=>?_) (fun x y hx hy q=>?_) x
 ·rw [cutL_miss hx]
  cases q with
  | zero=>simp
  | succ q=>simp
 ·rw [cutL_hit y hx]
  cases q with
  | zero=>simp
  | succ q=>have:=hy q;simp at this ⊢;omega
theorem l35_run {T:Nat} {D:Dat} {w:List (List UInt8)} (hT:T=w.length) (hD:∀ q,q<T→D.ss q 0=toBA (w.getD q [])) (hl:∀ q,(w.getD q []).length≤100000000) (hTs:T≤100000001) :
  ∀ (k i g t:Nat) (d:Dat),i+k=T→k<g→t≤i→∃ r,l35_0 T D g t (i:Int) d=some r∧(match allNum (w.drop i) with
   | some l=>∃ d',r=(false,default,(t+l.length,t+l.length,d'))∧(∀ q,q<t→d'.ii q 0=d.ii q 0)∧∀ j,j<l.length→d'.ii (t+j) 0=l.getD j 0
   | none=>∃ t' d',r=(true,(false,t',t',d'),default))
 | 0,i,g,t,d,hi,hg,ht=>by
  obtain ⟨g,rfl⟩:∃ g',g=g'+1:=⟨g - 1,by omega⟩
  unfold l35_0
  rw [df (show ¬ ((i:Int)<T) by omega),List.drop_eq_nil_of_le (by omega)]
  exact ⟨_,rfl,d,rfl,fun _ _=>rfl,fun j hj=>by simp at hj⟩
 | k+1,i,g,t,d,hi,hg,ht=>by
  obtain ⟨g,rfl⟩:∃ g',g=g'+1:=⟨g - 1,by omega⟩
  have hlt:i<w.length:=by omega
  have hgd:w.getD i []=w[i]:=by rw [List.getD_eq_getElem?_getD,List.getElem?_eq_getElem hlt];rfl
  have hd:w.drop i=w.getD i [] :: w.drop (i+1):=by rw [List.drop_eq_getElem_cons hlt,hgd]
  have hw:IntKind.i64.wrap ((i:Int)+1)=((i+1:Nat):Int):=wrS (show i<T by omega) (by omega)
  have hsz:(toBA (w.getD i [])).size≤100000000:=by rw [toBA_size];exact hl i
  obtain ⟨h1,h2,h3⟩:=number_ref hsz
  unfold l35_0
  simp only [Int.toNat_natCast,hw,hD i (by omega)]
  rw [dt (show (i:Int)<T by omega),dt (show (0:Int)≤i∧(i:Int)<T by omega),h1,h2,hd]
  simp only [cond_true]
  cases hn:numR (bts (toBA (w.getD i []))) with
  | none =>
   have hn':numR (w.getD i [])=none:=hn
   rw [show allNum (w.getD i [] :: w.drop (i+1))=none by simp only [allNum,hn']]
   exact ⟨_,rfl,t,d,rfl⟩
  | some v =>
   have hn':numR (w.getD i [])=some v:=hn
   simp only [Option.isSome_some,cond_true,cond_false]
   rw [dt (show t+1≤1073741824 by omega),h3 v hn]
   simp only [cond_true]
   obtain ⟨r,hr,hm⟩:=l35_run hT hD hl hTs k (i+1) g (t+1) (d.app t (datS [SV.int IntKind.i64 v] 1)) (by omega) (by omega) (by omega)
   refine ⟨r,hr,?_⟩
   cases ha:allNum (w.drop (i+1)) with
   | none =>
    rw [ha] at hm
    rw [show allNum (w.getD i [] :: w.drop (i+1))=none by simp only [allNum,hn',ha]]
    exact hm
   | some l =>
    rw [ha] at hm
    rw [show allNum (w.getD i [] :: w.drop (i+1))=some (v :: l) by simp only [allNum,hn',ha]]
    obtain ⟨d',e,k1,k2⟩:=hm
    refine ⟨d',by rw [e];simp only [List.length_cons];rw [show t+(l.length+1)=t+1+l.length by omega],fun q hq=>?_,fun j hj=>?_⟩
    ·rw [k1 q (by omega),app_lt_ii hq]
    ·cases j with
     | zero =>
      rw [Nat.add_zero,k1 t (by omega),app_ge_ii (Nat.le_refl _),Nat.sub_self];rfl
     | succ j =>
      have:=k2 j (by simp only [List.length_cons] at hj;omega)
      rw [show t+(j+1)=t+1+j by omega,this];rfl
theorem words_ref {s:ByteArray} {word:List UInt8} {cnt:Nat} {a:Int} (ha:a=(cnt:Int)) (hc:cnt≤1000) (hs:s.size≤100000000):n35 s (toBA word) a=true∧(match rowOf word cnt (bts s) with
  | some l=>∃ d,m35 s (toBA word) a=(cnt,d,true)∧∀ j,j<cnt→d.ii j 0=l.getD j 0
  | none=>(m35 s (toBA word) a).2.2=false):=by
 subst ha
 obtain ⟨h1,h2,h3⟩:=cut_ref (s:=s) (c:=32) (a:=32) rfl hs
 have hpos:=cutL_pos 32 (bts s)
 have hle:=cutL_le 32 (bts s)
 rw [← bts_size] at hle
 have hw:IntKind.i64.wrap ((cnt:Int)+1)=((cnt+1:Nat):Int):=by rw [wrp (by omega) (by omega)];omega
 have h0:=h3 0 hpos
 have hcnd:(bif bif decide (((m34 s 32).1:Int)=IntKind.i64.wrap ((cnt:Int)+1)) then false else true then true else bif decide ((m34 s 32).2.ss 0 0=toBA word) then false else true)=!decide ((cutL 32 (bts s)).length=cnt+1∧(cutL 32 (bts s)).getD 0 []=word):=by
  rw [hw,h2,h0]
  by_cases e1:(cutL 32 (bts s)).length=cnt+1
  ·rw [dt (show (((cutL 32 (bts s)).length:Nat):Int)=((cnt+1:Nat):Int) by omega)]
   by_cases e2:(cutL 32 (bts s)).getD 0 []=word
   ·rw [dt (congrArg toBA e2),dt (And.intro e1 e2)];rfl
   ·rw [df (show ¬ (toBA ((cutL 32 (bts s)).getD 0 [])=toBA word) from fun e=>e2 (toBA_inj e)),df (show ¬ ((cutL 32 (bts s)).length=cnt+1∧(cutL 32 (bts s)).getD 0 []=word) from fun e=>e2 e.2)];rfl
  ·rw [df (show ¬ ((((cutL 32 (bts s)).length:Nat):Int)=((cnt+1:Nat):Int)) by omega),df (show ¬ ((cutL 32 (bts s)).length=cnt+1∧(cutL 32 (bts s)).getD 0 []=word) from fun e=>e1 e.1)];rfl
 have hi0:∀ b:Bool,(bif b then true else decide ((0:Int)≤0∧(0:Int)<((m34 s 32).1:Int)))=true:=fun b=>by
  rw [dt (show (0:Int)≤0∧(0:Int)<((m34 s 32).1:Int) by rw [h2];omega)];cases b <;> rfl
 unfold n35 m35 rowOf
 rw [hcnd,h1,hi0]
 by_cases hok:(cutL 32 (bts s)).length=cnt+1∧(cutL 32 (bts s)).getD 0 []=word
 ·rw [dt hok,if_pos hok]
  obtain ⟨r,hr,hm⟩:=l35_run (T:=(m34 s 32).1) (D:=(m34 s 32).2) (w:=cutL 32 (bts s)) h2 (fun q hq=>h3 q (by omega)) (fun q=>by have:=cutL_get_le 32 (bts s) q;rw [← bts_size] at this;omega) (by omega) cnt 1 ((m34 s 32).1+0+(1:Int).toNat+8) 0 noDat (by omega) (by omega) (by omega)
  have ho:o35_0 (m34 s 32).1 (m34 s 32).2 0 1 noDat=some r:=hr
  rw [ho]
  rw [show List.drop 1 (cutL 32 (bts s))=(cutL 32 (bts s)).tail by rw [List.drop_one]] at hm
  cases ha:allNum (cutL 32 (bts s)).tail with
  | none =>
   rw [ha] at hm
   obtain ⟨t',d',rfl⟩:=hm
   exact ⟨rfl,rfl⟩
  | some l =>
   rw [ha] at hm
   obtain ⟨d',rfl,_,k2⟩:=hm
   have hl:=allNum_len ha
   rw [List.length_tail,hok.1] at hl
   refine ⟨?_,d',?_,fun j hj=>?_⟩
   ·simp
   ·simp only [Bool.not_true,cond_false,Option.getD_some]
    rw [show 0+l.length=cnt by omega]
   ·have:=k2 j (by omega)
    rwa [Nat.zero_add] at this
 ·rw [df hok,if_neg hok]
  exact ⟨rfl,rfl⟩
theorem suffix_yes {s:ByteArray} {x:List UInt8} (h:bts s=x ++ [10]):m56 s ⟨#[10]⟩=(toBA x,true):=by
 unfold m56
 show (toBA (Lib.trimSuffix (bts s) [10]),Lib.hasSuffix (bts s) [10])=_
 have hs:Lib.hasSuffix (bts s) [10]=true:=by
  unfold Lib.hasSuffix
  rw [h,List.isSuffixOf_iff_suffix]
  exact List.suffix_append _ _
 unfold Lib.trimSuffix
 rw [hs,if_pos rfl,h]
 simp
theorem suffix_no {s:ByteArray} (h:∀ x,bts s≠x ++ [10]):m56 s ⟨#[10]⟩=(s,false):=by
 unfold m56
 show (toBA (Lib.trimSuffix (bts s) [10]),Lib.hasSuffix (bts s) [10])=_
 have hs:Lib.hasSuffix (bts s) [10]=false:=by
  cases hh:Lib.hasSuffix (bts s) [10] with
  | false=>rfl
  | true =>
   unfold Lib.hasSuffix at hh
   rw [List.isSuffixOf_iff_suffix] at hh
   obtain ⟨x,hx⟩:=hh
   exact absurd hx.symm (h x)
 unfold Lib.trimSuffix
 rw [hs]
 simp [toBA_self]
theorem m56_size (s:ByteArray):(m56 s ⟨#[10]⟩).1.size≤s.size:=by
 by_cases h:∃ x,bts s=x ++ [10]
 ·obtain ⟨x,hx⟩:=h
  rw [suffix_yes hx,bts_size s,hx]
  rw [toBA_size];simp
 ·rw [suffix_no fun x hx=>h ⟨x,hx⟩]
  exact Nat.le_refl _
theorem atoi_range {l:List UInt8} {v:Int} (h:Lib.atoiAll l=.ok v):-9223372036854775808≤v∧v≤9223372036854775807:=by
 unfold Lib.atoiAll at h
 split at h
 ·cases h
 ·dsimp only at h
  split at h <;> try (cases h;done)
  split at h <;> try (cases h;done)
  split at h <;> try (cases h;done)
  rename_i h1 h2
  injection h with h
  subst h
  split
  ·rename_i h3;simp only [h3,true_and] at h2;omega
  ·rename_i h3;simp only [h3,not_false_eq_true,true_and] at h1;omega
theorem n22_58 (s:ByteArray):n22 (m58 s).1=true:=by
 unfold n22
 rw [decide_eq_true_eq]
 unfold m58
 rcases h:Lib.atoiAll s.data.toList with v | _ | _
 ·exact atoi_range h
 ·simp
 ·simp only [Lib.atoiSat];split <;> omega
theorem n58_ok {s:ByteArray} (h:s.size≤100000000):n58 s=true:=by unfold n58;rw [decide_eq_true_eq];omega
theorem ss_size {s:ByteArray} {c:UInt8} (hs:s.size≤100000000) (q:Nat):((m57 s ⟨#[c]⟩).2.ss q 0).size≤100000000:=by
 rw [m57_at,toBA_size]
 have:=cutL_get_le c (bts s) q
 rw [← bts_size] at this
 omega
theorem w1:IntKind.i64.wrap (0+1)=1:=by decide
theorem w2:IntKind.i64.wrap (1+1)=2:=by decide
theorem w3:IntKind.i64.wrap (2+1)=3:=by decide
theorem form_pre {s:ByteArray} (hs:s.size≤100000000):n56 s=true∧n57 (m56 s ⟨#[10]⟩).1 ⟨#[32]⟩=true∧(0:Int)<((m57 (m56 s ⟨#[10]⟩).1 ⟨#[32]⟩).1:Int):=by
 refine ⟨?_,?_,?_⟩
 ·unfold n56;rw [decide_eq_true_eq];omega
 ·unfold n57
  have:=m56_size s
  rw [dt (show (m56 s ⟨#[10]⟩).1.size≤4000000000 by omega),dt (show 1≤(⟨#[32]⟩:ByteArray).size from Nat.le_refl 1)];rfl
 ·rw [m57_len]
  have:=cutL_pos 32 (bts (m56 s ⟨#[10]⟩).1)
  omega
theorem form1_need {s word:ByteArray} {a:Int} {n m:Nat} {d:Dat} (hs:s.size≤100000000):n32t s word a n m d=true:=by
 obtain ⟨h1,h2,h3⟩:=form_pre hs
 have hB:(m56 s ⟨#[10]⟩).1.size≤100000000:=by have:=m56_size s;omega
 unfold n32t
 rw [h1,h2,dt (show (0:Int)≤0∧(0:Int)<((m57 (m56 s ⟨#[10]⟩).1 ⟨#[32]⟩).1:Int) by omega),n58_ok (ss_size hB 1),n22_58,w1]
 simp only [Bool.true_and,Bool.and_true,Bool.cond_self]
 by_cases hw:((m57 (m56 s ⟨#[10]⟩).1 ⟨#[32]⟩).1:Int)=2
 ·rw [dt (show (0:Int)≤1∧(1:Int)<((m57 (m56 s ⟨#[10]⟩).1 ⟨#[32]⟩).1:Int) by omega)]
  simp only [Bool.true_and,Bool.and_true,Bool.cond_self]
 ·rw [df hw]
  simp
theorem form3_need {s word:ByteArray} {a b c:Int} (hs:s.size≤100000000):n32w s word a b c=true:=by
 obtain ⟨h1,h2,h3⟩:=form_pre hs
 have hB:(m56 s ⟨#[10]⟩).1.size≤100000000:=by have:=m56_size s;omega
 unfold n32w
 rw [h1,h2,dt (show (0:Int)≤0∧(0:Int)<((m57 (m56 s ⟨#[10]⟩).1 ⟨#[32]⟩).1:Int) by omega),n58_ok (ss_size hB 1),n58_ok (ss_size hB 2),n58_ok (ss_size hB 3),n22_58,n22_58,n22_58,w1,w2,w3]
 simp only [Bool.true_and,Bool.and_true,Bool.cond_self]
 by_cases hw:((m57 (m56 s ⟨#[10]⟩).1 ⟨#[32]⟩).1:Int)=4
 ·rw [dt (show (0:Int)≤1∧(1:Int)<((m57 (m56 s ⟨#[10]⟩).1 ⟨#[32]⟩).1:Int) by omega),dt (show (0:Int)≤2∧(2:Int)<((m57 (m56 s ⟨#[10]⟩).1 ⟨#[32]⟩).1:Int) by omega),dt (show (0:Int)≤3∧(3:Int)<((m57 (m56 s ⟨#[10]⟩).1 ⟨#[32]⟩).1:Int) by omega)]
  simp only [Bool.true_and,Bool.and_true,Bool.cond_self]
 ·rw [df hw]
  simp
theorem form1_no {s word:ByteArray} {a:Int} {n m:Nat} {d:Dat} (h:∀ x,bts s≠x ++ [10]):m32t s word a n m d=(false,a,n,m,d):=by
 unfold m32t
 rw [suffix_no h]
 rfl
theorem form3_no {s word:ByteArray} {a b c:Int} (h:∀ x,bts s≠x ++ [10]):(m32w s word a b c).1=false:=by
 unfold m32w
 rw [suffix_no h]
 rfl
theorem form1_yes {s:ByteArray} {x word:List UInt8} {a:Int} {n m:Nat} {d:Dat} (h:bts s=x ++ [10]):m32t s (toBA word) a n m d=(match rowOf word 1 x with | some l=>(true,l.getD 0 0,n,m,d) | none=>(false,a,n,m,d)):=by
 unfold m32t rowOf
 rw [suffix_yes h]
 dsimp only
 rw [(num_prog _).1]
 have hp:=(num_prog ((m57 (toBA x) ⟨#[32]⟩).2.ss 1 0)).2
 rw [m57_len,m57_at,m57_at] at *
 simp only [toBA_bytes] at *
 obtain ⟨w,hw⟩:∃ w,cutL 32 x=w:=⟨_,rfl⟩
 simp only [hw] at hp ⊢
 by_cases e1:w.length=2
 ·match w,e1 with
  | [w0,w1'],_ =>
  simp only [List.getD_cons_zero,List.getD_cons_succ,List.length_cons,List.length_nil,List.tail_cons] at hp ⊢
  by_cases e2:w0=word
  ·subst e2
   cases hn:numR w1' with
   | none=>simp [allNum,hn]
   | some v=>have:=hp v hn;simp [allNum,hn,this]
  ·have:¬ (toBA w0=toBA word):=fun e=>e2 (toBA_inj e)
   simp [this,e2]
 ·have:¬ ((w.length:Int)=2):=by omega
  simp [this,e1]
theorem form3_yes {s:ByteArray} {x word:List UInt8} {a b c:Int} (h:bts s=x ++ [10]):(match rowOf word 3 x with | some l=>m32w s (toBA word) a b c=(true,l.getD 0 0,l.getD 1 0,l.getD 2 0) | none=>(m32w s (toBA word) a b c).1=false):=by
 unfold m32w rowOf
 rw [suffix_yes h]
 dsimp only
 rw [(num_prog _).1,(num_prog _).1,(num_prog _).1]
 have hp1:=(num_prog ((m57 (toBA x) ⟨#[32]⟩).2.ss 1 0)).2
 have hp2:=(num_prog ((m57 (toBA x) ⟨#[32]⟩).2.ss 2 0)).2
 have hp3:=(num_prog ((m57 (toBA x) ⟨#[32]⟩).2.ss 3 0)).2
 rw [m57_len,m57_at,m57_at,m57_at,m57_at] at *
 simp only [toBA_bytes] at *
 obtain ⟨w,hw⟩:∃ w,cutL 32 x=w:=⟨_,rfl⟩
 simp only [hw] at hp1 hp2 hp3 ⊢
 by_cases e1:w.length=4
 ·match w,e1 with
  | [w0,x1,x2,x3],_ =>
  simp only [List.getD_cons_zero,List.getD_cons_succ,List.length_cons,List.length_nil,List.tail_cons] at hp1 hp2 hp3 ⊢
  by_cases e2:w0=word
  ·subst e2
   cases hn1:numR x1 with
   | none=>simp [allNum,hn1]
   | some v1 =>
    have k1:=hp1 v1 hn1
    cases hn2:numR x2 with
    | none=>simp [allNum,hn1,hn2]
    | some v2 =>
     have k2:=hp2 v2 hn2
     cases hn3:numR x3 with
     | none=>simp [allNum,hn1,hn2,hn3]
     | some v3=>have k3:=hp3 v3 hn3;simp [allNum,hn1,hn2,hn3,k1,k2,k3]
  ·have:¬ (toBA w0=toBA word):=fun e=>e2 (toBA_inj e)
   simp [this,e2]
 ·have:¬ ((w.length:Int)=4):=by omega
  simp [this,e1]
end Go.Proofs.YtpfipoimpmlmoaaGreatDoor
namespace Go.Proofs.YtpfipoimpmlmoaaGreatDoor
open Go Go.Sy
set_option linter.unusedVariables false
set_option linter.unusedSimpArgs false
set_option maxRecDepth 100000
attribute [local simp] brk
theorem m25_iff {x a b:Int}:m25 x a b=true↔a≤x∧x≤b:=by
 simp only [m25]
 by_cases h1:a≤x <;> by_cases h2:x≤b <;> simp [h1,h2]
theorem m25_f {x a b:Int} (h:¬ (a≤x∧x≤b)):m25 x a b=false:=by
 cases hh:m25 x a b with
 | false=>rfl
 | true=>exact absurd (m25_iff.1 hh) h
theorem m27_m25 (x a b:Int):m27 x a b=m25 x a b:=rfl
structure Wav (h p f:Int):Prop where
 h0:0≤h
 h1:h≤100000
 p0:1≤p
 p1:p≤100000
 f0:0≤f
 f1:f≤4095
theorem m26_ok {h p f:Int} (w:Wav h p f):m26 h p f=0:=by
 simp only [m26,m25_iff.2 ⟨w.h0,w.h1⟩,m25_iff.2 ⟨w.p0,w.p1⟩,m25_iff.2 ⟨w.f0,w.f1⟩,cond_true,cond_false]
theorem m26_cases (h p f:Int):(Wav h p f∧m26 h p f=0∧m30 h p f=true)∨(m26 h p f=2∧m30 h p f=false):=by
 by_cases w:Wav h p f
 ·refine .inl ⟨w,m26_ok w,?_⟩
  simp only [m30,m27_m25,m25_iff.2 ⟨w.h0,w.h1⟩,m25_iff.2 ⟨w.p0,w.p1⟩,m25_iff.2 ⟨w.f0,w.f1⟩,cond_true,cond_false]
 ·right
  have:¬ ((m25 h 0 100000=true∧m25 p 1 100000=true)∧m25 f 0 4095=true):=fun ⟨⟨a,b⟩,c⟩=>w ⟨(m25_iff.1 a).1,(m25_iff.1 a).2,(m25_iff.1 b).1,(m25_iff.1 b).2,(m25_iff.1 c).1,(m25_iff.1 c).2⟩
  simp only [m26,m30,m27_m25]
  cases ha:m25 h 0 100000 <;> cases hb:m25 p 1 100000 <;> cases hc:m25 f 0 4095 <;> simp_all
structure Tab (M:Int) (n:Nat) (d:Dat):Prop where
 m0:-100000≤M
 m1:M≤100000
 n10:n≤10
 w:∀ i,i<n→Wav (d.ii i 0) (d.ii i 1) (d.ii i 2)
noncomputable def badR (d:Dat) (i:Nat):Option (Bool × Int × Unit) :=
 cond (bif decide (m26 (d.ii i 0) (d.ii i 1) (d.ii i 2)=0) then false else true) (some (true,m26 (d.ii i 0) (d.ii i 1) (d.ii i 2),default)) none
noncomputable def badP (d:Dat) (i:Nat):Option (Bool × Int × Unit) :=
 cond (m29 (d.ii i 0) (d.ii i 1) (d.ii i 2)) (some (true,(i:Int),default)) none
theorem bad_cases (d:Dat) (i:Nat):(Wav (d.ii i 0) (d.ii i 1) (d.ii i 2)∧badR d i=none∧badP d i=none)∨(badR d i=some (true,2,default)∧badP d i=some (true,(i:Int),default)):=by
 rcases m26_cases (d.ii i 0) (d.ii i 1) (d.ii i 2) with ⟨w,c1,c2⟩ | ⟨c1,c2⟩
 ·left
  refine ⟨w,?_,?_⟩
  ·simp only [badR,c1,decide_true,cond_true,cond_false]
  ·simp only [badP,m29,c2,cond_true,cond_false]
 ·right
  constructor
  ·simp only [badR,c1,decide_eq_false (show ¬ (2:Int)=0 by decide),cond_true,cond_false]
  ·simp only [badP,m29,c2,cond_true,cond_false]
theorem l8_step (M:Int) (n:Nat) (hn:n≤9223372036854775807) (d:Dat) (f i:Nat) (hi:i<n):l8_0 M n d (f+1) (i:Int)=brk (badR d i) (l8_0 M n d f (IntKind.i64.wrap ((i:Int)+1))):=by
 simp only [l8_0,cdl hi,cdd hi,cond_true,Int.toNat_natCast,badR,Nat.zero_add,Nat.reduceAdd]
 cases (bif decide (m26 (d.ii i 0) (d.ii i 1) (d.ii i 2)=0) then false else true) <;> simp
theorem l8_all (M:Int) (n:Nat) (hn:n≤9223372036854775807) (d:Dat):o8_0 M n d 0=some (first (badR d) (false,default,()) n 0) :=
 loop_first (l:=l8_0 M n d) hn (l8_step M n hn d) (fun f=>by simp only [l8_0,cdn];rfl) n 0 _ (by omega) (by omega)
theorem l53_step (n:Nat) (hn:n≤9223372036854775807) (d:Dat) (f i:Nat) (hi:i<n):l53c29_0 n d (n:Int) (f+1) (i:Int)=brk (badP d i) (l53c29_0 n d (n:Int) f (IntKind.i64.wrap ((i:Int)+1))):=by
 simp only [l53c29_0,cdl hi,cdd hi,cond_true,Int.toNat_natCast,badP,Nat.zero_add,Nat.reduceAdd]
 cases m29 (d.ii i 0) (d.ii i 1) (d.ii i 2) <;> simp
theorem l53_all (n:Nat) (hn:n≤9223372036854775807) (d:Dat):o53c29_0 n d (n:Int) 0=some (first (badP d) (false,default,()) n 0) :=
 loop_first (l:=l53c29_0 n d (n:Int)) hn (l53_step n hn d) (fun f=>by simp only [l53c29_0,cdn];rfl) n 0 _ (by omega) (by omega)
theorem tab_cases (M:Int) (n:Nat) (hn:n≤9223372036854775807) (d:Dat):n8 M n d=true∧n9 M n d=true∧((Tab M n d∧m8 M n d=0∧m9 M n d=0)∨∃ e,e≠0∧m8 M n d=e∧m9 M n d=e):=by
 have i8:(o8_0 M n d 0).isSome=true:=by rw [l8_all M n hn d];rfl
 have i53:(o53c29_0 n d (n:Int) 0).isSome=true:=by rw [l53_all n hn d];rfl
 refine ⟨?_,?_,?_⟩
 ·simp only [n8,i8]
  cases m25 M (-100000) 100000 <;> cases decide ((10:Int)<(n:Int)) <;> rfl
 ·simp only [n9,n28c29,n53c29,i53,m27_m25]
  cases m25 M (-100000) 100000 <;> cases decide ((10:Int)<(n:Int)) <;> rfl
 ·by_cases hM:-100000≤M∧M≤100000
  ·have q1:m25 M (-100000) 100000=true:=m25_iff.2 hM
   by_cases h10:n≤10
   ·have q2:decide ((10:Int)<(n:Int))=false:=decide_eq_false (by omega)
    by_cases hw:∀ i,i<n→Wav (d.ii i 0) (d.ii i 1) (d.ii i 2)
    ·left
     have g1:first (badR d) (false,default,()) n 0=(false,default,()):=first_none fun j _ hj=>by
      rcases bad_cases d j with ⟨_,a,_⟩ | ⟨a,b⟩
      ·exact a
      ·have:=m26_ok (hw j (by omega));simp only [badR,this,decide_true,cond_true,cond_false] at a;cases a
     have g2:first (badP d) (false,default,()) n 0=(false,default,()):=first_none fun j _ hj=>by
      rcases bad_cases d j with ⟨_,_,a⟩ | ⟨a,b⟩
      ·exact a
      ·have:=m26_ok (hw j (by omega));simp only [badR,this,decide_true,cond_true,cond_false] at a;cases a
     refine ⟨⟨hM.1,hM.2,h10,hw⟩,?_,?_⟩
     ·simp only [m8,q1,q2,l8_all M n hn d,g1,cond_true,cond_false,Option.getD_some]
     ·simp only [m9,m28c29,m53c29,m27_m25,q1,q2,l53_all n hn d,g2,cond_true,cond_false,Option.getD_some]
      rfl
    ·right
     rcases first_cases (g:=badR d) (e:=(false,default,())) n 0 with ⟨j,b,h1,h2,h3,h4,h5⟩ | ⟨h1,h2⟩
     ·obtain ⟨r1,r2⟩:badR d j=some (true,2,default)∧badP d j=some (true,(j:Int),default):=by
       rcases bad_cases d j with ⟨_,a,_⟩ | a
       ·rw [a] at h3;cases h3
       ·exact a
      have g1:first (badR d) (false,default,()) n 0=(true,2,default):=by rw [h5];rw [r1] at h3;exact (Option.some.inj h3).symm
      have g2:first (badP d) (false,default,()) n 0=(true,(j:Int),default):=first_some h1 h2 r2 fun j' a b=>by
       rcases bad_cases d j' with ⟨_,_,c⟩ | ⟨c,_⟩
       ·exact c
       ·rw [h4 j' a b] at c;cases c
      refine ⟨2,by decide,?_,?_⟩
      ·simp only [m8,q1,q2,l8_all M n hn d,g1,cond_true,cond_false,Option.getD_some]
      ·simp only [m9,m28c29,m53c29,m27_m25,q1,q2,l53_all n hn d,g2,cond_true,cond_false,Option.getD_some]
       rw [decide_eq_true (show (0:Int)≤(j:Int) by omega)];rfl
     ·exfalso
      apply hw
      intro i hi
      rcases bad_cases d i with ⟨w,_⟩ | ⟨a,_⟩
      ·exact w
      ·rw [h1 i (Nat.zero_le _) (by omega)] at a;cases a
   ·have q2:decide ((10:Int)<(n:Int))=true:=decide_eq_true (by omega)
    right
    refine ⟨8,by decide,?_,?_⟩
    ·simp only [m8,q1,q2,cond_true,cond_false]
    ·simp only [m9,m27_m25,q1,q2,cond_true,cond_false]
  ·have q1:m25 M (-100000) 100000=false:=m25_f hM
   right
   refine ⟨2,by decide,?_,?_⟩
   ·simp only [m8,q1,cond_true,cond_false]
   ·simp only [m9,m27_m25,q1,cond_true,cond_false]
end Go.Proofs.YtpfipoimpmlmoaaGreatDoor
namespace Go.Proofs.YtpfipoimpmlmoaaGreatDoor
open Go Go.Sy
set_option linter.unusedVariables false
set_option linter.unusedSimpArgs false
set_option maxRecDepth 100000
abbrev tideW:List UInt8:=[116,105,100,101]
abbrev waveW:List UInt8:=[119,97,118,101]
theorem tideB:({ data:=#[116,105,100,101] }:ByteArray)=toBA tideW:=rfl
theorem waveB:({ data:=#[119,97,118,101] }:ByteArray)=toBA waveW:=rfl
noncomputable def walk:List (List UInt8)→Nat→Int→Nat→Dat→Nat ⊕ (Nat × Int × Nat × Dat)
 | [],k,M,n,d=>.inr (k,M,n,d)
 | x :: r,k,M,n,d=>if r=[] then (if x=[] then .inr (k,M,n,d) else .inl (k+1)) else
  if k=0 then (match rowOf tideW 1 x with
   | some l=>walk r (k+1) (l.getD 0 0) n d
   | none=>.inl (k+1))
  else (match rowOf waveW 3 x with
   | some l=>walk r (k+1) M (n+1) (d.app n (datS [SV.int .i64 (l.getD 0 0),SV.int .i64 (l.getD 1 0),SV.int .i64 (l.getD 2 0)] 3))
   | none=>.inl (k+1))
def linesOf:List (List UInt8)→List (List UInt8)
 | []=>[]
 | x :: r=>if r=[] then (if x=[] then [] else [x]) else (x ++ [10]) :: linesOf r
theorem walk_one {x:List UInt8} {k:Nat} {M:Int} {n:Nat} {d:Dat}:walk [x] k M n d=if x=[] then .inr (k,M,n,d) else .inl (k+1):=by rw [walk,if_pos rfl]
theorem walk_two {x y:List UInt8} {r:List (List UInt8)} {k:Nat} {M:Int} {n:Nat} {d:Dat}:walk (x :: y :: r) k M n d=if k=0 then (match rowOf tideW 1 x with
   | some l=>walk (y :: r) (k+1) (l.getD 0 0) n d
   | none=>.inl (k+1))
  else (match rowOf waveW 3 x with
   | some l=>walk (y :: r) (k+1) M (n+1) (d.app n (datS [SV.int .i64 (l.getD 0 0),SV.int .i64 (l.getD 1 0),SV.int .i64 (l.getD 2 0)] 3))
   | none=>.inl (k+1)):=by rw [walk,if_neg (by simp)]
theorem linesOf_one {x:List UInt8}:linesOf [x]=if x=[] then [] else [x]:=by rw [linesOf,if_pos rfl]
theorem linesOf_two {x y:List UInt8} {r:List (List UInt8)}:linesOf (x :: y :: r)=(x ++ [10]) :: linesOf (y :: r):=by rw [linesOf,if_neg (by simp)]
theorem walk_k:∀ (P:List (List UInt8)) (k:Nat) (M:Int) (n:Nat) (d:Dat) (k':Nat) (M':Int) (n':Nat) (d':Dat),P≠[]→n≤k→walk P k M n d=.inr (k',M',n',d')→k'+1=k+P.length∧n'≤k'
 | [],_,_,_,_,_,_,_,_,h,_,_=>absurd rfl h
 | [x],k,M,n,d,k',M',n',d',_,hn,h=>by
  rw [walk_one] at h
  split at h <;> cases h
  exact ⟨rfl,hn⟩
 | x :: y :: r,k,M,n,d,k',M',n',d',_,hn,h=>by
  rw [walk_two] at h
  split at h
  ·split at h
   ·have:=walk_k (y :: r) _ _ _ _ _ _ _ _ (by simp) (by omega) h
    simp only [List.length_cons] at this ⊢;omega
   ·cases h
  ·split at h
   ·have:=walk_k (y :: r) _ _ _ _ _ _ _ _ (by simp) (by omega) h
    simp only [List.length_cons] at this ⊢;omega
   ·cases h
theorem form_size {x:List UInt8} (h:x.length≤99999999):(toBA (x ++ [10])).size≤100000000:=by rw [toBA_size];simp;omega
theorem l10_run {b0 b1 b2:Int} {Y:Dat}:∀ (P:List (List UInt8)) (kk k:Nat) (M:Int) (n:Nat) (d:Dat),P≠[]→(∀ x∈P,(10:UInt8) ∉ x)→(∀ x∈P,x.length≤99999999)→n≤k→k+P.length≤100000→(∀ i,i<(linesOf P).length→Y.ss (kk+i) 0=toBA ((linesOf P).getD i [])) →
  match walk P k M n d with
  | .inr (k',M',n',d')=>l10_0 b0 b1 b2 Y (linesOf P).length kk M n k n d=some (true,(M',n',(k':Int),n',d'),default)
  | .inl e=>∃ r,l10_0 b0 b1 b2 Y (linesOf P).length kk M n k n d=some (false,default,r)∧r.1=0∧r.2.1=e∧r.2.2.1=7
 | [],_,_,_,_,_,h,_,_,_,_,_=>absurd rfl h
 | [x],kk,k,M,n,d,_,hx,hs,hn,hk,hY=>by
  rw [walk_one]
  rw [linesOf_one] at hY ⊢
  by_cases he:x=[]
  ·rw [if_pos he,if_pos he]
   rfl
  ·rw [if_neg he,if_neg he]
   rw [if_neg he] at hY
   have hy:=hY 0 (by simp)
   rw [Nat.add_zero,List.getD_cons_zero] at hy
   have hno:∀ z,bts (toBA x)≠z ++ [10]:=fun z e=>hx x (by simp) (by have e2:x=z ++ [10]:=e;rw [e2];simp)
   have hsz:(toBA x).size≤100000000:=by rw [toBA_size];have:=hs x (by simp);omega
   have hw:IntKind.i64.wrap ((k:Int)+1)=((k+1:Nat):Int):=by simp only [List.length_cons,List.length_nil] at hk;rw [wrp (by omega) (by omega)];omega
   dsimp only
   rw [show [x].length=0+1 from rfl]
   unfold l10_0
   rw [hw,hy,tideB,waveB,form1_no hno]
   have hf3:=form3_no (word:=toBA waveW) (a:=0) (b:=0) (c:=0) hno
   rw [hf3,form1_need hsz,form3_need hsz]
   by_cases h0:k=0
   ·subst h0
    exact ⟨_,rfl,rfl,rfl,rfl⟩
   ·rw [df (show ¬ (((k+1:Nat):Int)=1) by omega),dt (show (1:Int)<((k+1:Nat):Int) by omega)]
    exact ⟨_,rfl,rfl,rfl,rfl⟩
 | x :: y :: r,kk,k,M,n,d,_,hx,hs,hn,hk,hY=>by
  rw [walk_two]
  rw [linesOf_two] at hY ⊢
  have hy:=hY 0 (by simp)
  rw [Nat.add_zero,List.getD_cons_zero] at hy
  simp only [List.length_cons] at hk
  have hyes:bts (toBA (x ++ [10]))=x ++ [10]:=rfl
  have hsz:=form_size (hs x (by simp))
  have hw:IntKind.i64.wrap ((k:Int)+1)=((k+1:Nat):Int):=by rw [wrp (by omega) (by omega)];omega
  have hY':∀ i,i<(linesOf (y :: r)).length→Y.ss (kk+1+i) 0=toBA ((linesOf (y :: r)).getD i []):=fun i hi=>by
   have:=hY (i+1) (by simp only [List.length_cons];omega)
   rw [List.getD_cons_succ] at this
   rw [show kk+1+i=kk+(i+1) by omega];exact this
  have ih:=fun M' n' d' hn'=>l10_run (b0:=b0) (b1:=b1) (b2:=b2) (Y:=Y) (y :: r) (kk+1) (k+1) M' n' d' (by simp) (fun z hz=>hx z (by simp at hz ⊢;exact .inr hz)) (fun z hz=>hs z (by simp at hz ⊢;exact .inr hz)) hn' (by simp only [List.length_cons];omega) hY'
  rw [show ((x ++ [10]) :: linesOf (y :: r)).length=(linesOf (y :: r)).length+1 from rfl]
  have hf1:=form1_yes (word:=tideW) (a:=M) (n:=n) (m:=n) (d:=d) hyes
  have hf3:=form3_yes (word:=waveW) (a:=0) (b:=0) (c:=0) hyes
  unfold l10_0
  rw [hw,hy,tideB,waveB,hf1,form1_need hsz,form3_need hsz]
  by_cases h0:k=0
  ·subst h0
   rw [if_pos rfl]
   cases hr:rowOf tideW 1 x with
   | some l=>exact ih (l.getD 0 0) n d (by omega)
   | none=>exact ⟨_,rfl,rfl,rfl,rfl⟩
  ·rw [df (show ¬ (((k+1:Nat):Int)=1) by omega),dt (show (1:Int)<((k+1:Nat):Int) by omega),if_neg h0]
   cases hr:rowOf waveW 3 x with
   | some l =>
    rw [hr] at hf3
    dsimp only at hf3
    rw [hf3,dt (Nat.le_refl n),dt (show n+1≤1073741824 by omega)]
    exact ih M (n+1) _ (by omega)
   | none =>
    rw [hr] at hf3
    dsimp only at hf3
    rw [hf3]
    exact ⟨_,rfl,rfl,rfl,rfl⟩
def out13 (R:Nat ⊕ (Nat × Int × Nat × Dat)) (o:Option (Bool × (Int × Nat × Nat × Dat) × (Int × Int × Int × Int × Nat × Nat × Dat))):Prop:=match R with
 | .inr (k',M',n',d')=>o=some (true,(M',n',n',d'),default)
 | .inl e=>∃ r,o=some (false,default,r)∧r.1=e∧r.2.1=7∧r.2.2.1=0
theorem l13_run {T:Nat} {D:Dat} {w:List (List UInt8)} {b0:Int} (hT:T=w.length) (hD:∀ q,q<T→D.ss q 0=toBA (w.getD q [])) (hl:∀ q,(w.getD q []).length≤100000000) (hTs:T≤100001) :
  ∀ (k i g:Nat) (M:Int) (n:Nat) (d:Dat),i+k=T→0<k→k<g→n≤i→out13 (walk (w.drop i) i M n d) (l13_0 T D b0 g (i:Int) M n d)
 | 0,i,g,M,n,d,hi,h0,hg,hn=>by omega
 | k+1,i,g,M,n,d,hi,h0,hg,hn=>by
  obtain ⟨g,rfl⟩:∃ g',g=g'+1:=⟨g - 1,by omega⟩
  have hlt:i<w.length:=by omega
  have hgd:w.getD i []=w[i]:=by rw [List.getD_eq_getElem?_getD,List.getElem?_eq_getElem hlt];rfl
  have hd:w.drop i=w.getD i [] :: w.drop (i+1):=by rw [List.drop_eq_getElem_cons hlt,hgd]
  have hw:IntKind.i64.wrap ((i:Int)+1)=((i+1:Nat):Int):=by rw [wrp (by omega) (by omega)];omega
  have hw2:IntKind.i64.wrap ((T:Int) - 1)=((T - 1:Nat):Int):=by rw [wrp (by omega) (by omega)];omega
  have hsz:(toBA (w.getD i [])).size≤100000000:=by rw [toBA_size];exact hl i
  obtain ⟨h1,h2⟩:=words_ref (s:=toBA (w.getD i [])) (word:=tideW) (cnt:=1) (a:=1) rfl (by omega) hsz
  obtain ⟨h3,h4⟩:=words_ref (s:=toBA (w.getD i [])) (word:=waveW) (cnt:=3) (a:=3) rfl (by omega) hsz
  simp only [bts,toBA_bytes] at h2 h4
  unfold l13_0
  simp only [Int.toNat_natCast]
  rw [hw,hw2]
  simp only [hD i (by omega)]
  rw [tideB,waveB,h1,h3]
  rw [dt (show (i:Int)<T by omega),dt (show (0:Int)≤i∧(i:Int)<T by omega)]
  have hor:∀ b:Bool,(bif b then true else true)=true:=fun b=>by cases b <;> rfl
  rw [hor]
  by_cases hk:k=0
  ·rw [dt (show (i:Int)=((T - 1:Nat):Int) by omega),hd,List.drop_eq_nil_of_le (by omega),walk_one]
   by_cases he:w.getD i []=[]
   ·rw [if_pos he,dt (show toBA (w.getD i [])=({ data:=#[] }:ByteArray) by rw [he];rfl)]
    rfl
   ·rw [if_neg he,df (show ¬ (toBA (w.getD i [])=({ data:=#[] }:ByteArray)) from fun e=>he (toBA_inj (m:=[]) e))]
    by_cases hi0:i=0
    ·subst hi0
     simp only [Bool.cond_true_right,Bool.or_true,cond_true,cond_false]
     exact ⟨_,rfl,rfl,rfl,rfl⟩
    ·rw [df (show ¬ ((i:Int)=0) by omega)]
     simp only [Bool.cond_true_right,Bool.or_true,cond_true,cond_false]
     exact ⟨_,rfl,rfl,rfl,rfl⟩
  ·rw [df (show ¬ ((i:Int)=((T - 1:Nat):Int)) by omega)]
   have hd2:w.drop (i+1)=w.getD (i+1) [] :: w.drop (i+1+1):=by
    have hlt':i+1<w.length:=by omega
    rw [List.drop_eq_getElem_cons hlt']
    congr 1
    rw [List.getD_eq_getElem?_getD,List.getElem?_eq_getElem hlt'];rfl
   have ih:=fun M' n' d' hn'=>l13_run (b0:=b0) hT hD hl hTs k (i+1) g M' n' d' (by omega) (by omega) (by omega) hn'
   rw [hd2] at ih
   rw [hd,hd2,walk_two]
   by_cases hi0:i=0
   ·subst hi0
    rw [if_pos rfl]
    cases hr:rowOf tideW 1 (w.getD 0 []) with
    | some l =>
     rw [hr] at h2
     obtain ⟨dd,e,hdd⟩:=h2
     rw [e,hdd 0 (by omega)]
     exact ih (l.getD 0 0) n d (by omega)
    | none =>
     rw [hr] at h2
     dsimp only at h2
     rw [h2]
     exact ⟨_,rfl,rfl,rfl,rfl⟩
   ·rw [if_neg hi0,df (show ¬ ((i:Int)=0) by omega)]
    cases hr:rowOf waveW 3 (w.getD i []) with
    | some l =>
     rw [hr] at h4
     obtain ⟨dd,e,hdd⟩:=h4
     rw [e,hdd 0 (by omega),hdd 1 (by omega),hdd 2 (by omega),dt (show n+1≤1073741824 by omega)]
     exact ih M (n+1) _ (by omega)
    | none =>
     rw [hr] at h4
     dsimp only at h4
     rw [h4]
     exact ⟨_,rfl,rfl,rfl,rfl⟩
end Go.Proofs.YtpfipoimpmlmoaaGreatDoor
namespace Go.Proofs.YtpfipoimpmlmoaaGreatDoor
open Go Go.Sy
set_option linter.unusedVariables false
set_option linter.unusedSimpArgs false
set_option maxRecDepth 100000
theorem cutL_ne (c:UInt8) (l:List UInt8):cutL c l≠[]:=fun e=>by have:=cutL_pos c l;rw [e] at this;simp at this
theorem cutL_no (c:UInt8) (l:List UInt8):∀ x∈cutL c l,c ∉ x:=by
 refine cut_rec (c:=c) (p:=fun l=>∀ x∈cutL c l,c ∉ x) (fun x hx z hz=>?_) (fun x y hx hy z hz=>?_) l
 ·rw [cutL_miss hx] at hz;simp at hz;rw [hz];exact hx
 ·rw [cutL_hit y hx] at hz
  rcases List.mem_cons.1 hz with h | h
  ·rw [h];exact hx
  ·exact hy z h
theorem cutL_mem_le (c:UInt8) (l:List UInt8):∀ x∈cutL c l,x.length≤l.length:=by
 refine cut_rec (c:=c) (p:=fun l=>∀ x∈cutL c l,x.length≤l.length) (fun x hx z hz=>?_) (fun x y hx hy z hz=>?_) l
 ·rw [cutL_miss hx] at hz;simp at hz;rw [hz];exact Nat.le_refl _
 ·rw [cutL_hit y hx] at hz
  simp only [List.length_append,List.length_cons]
  rcases List.mem_cons.1 hz with h | h
  ·rw [h];omega
  ·have:=hy z h;omega
theorem linesOf_cons {x:List UInt8} {r:List (List UInt8)} (h:r≠[]):linesOf (x :: r)=(x ++ [10]) :: linesOf r:=by rw [linesOf,if_neg h]
theorem linesF_of:∀ (g:Nat) (s:ByteArray),s.size<g→linesF g s=(linesOf (cutL 10 (bts s))).map toBA
 | 0,s,h=>by omega
 | g+1,s,h=>by
  have hsz:=bts_size s
  unfold linesF
  have hm:m55 s 10=Lib.indexByte (bts s) 10:=by unfold m55;rw [show (10:Int).toNat.toUInt8=10 by decide]
  rcases byte_cases 10 (bts s) with hn | ⟨x,y,e,hx⟩
  ·rw [cutL_miss hn,linesOf_one,hm,idx_miss hn]
   by_cases h0:0<s.size
   ·have he:bts s≠[]:=fun e=>by rw [e,List.length_nil] at hsz;omega
    rw [if_pos h0,if_neg (show ¬ ((0:Int)≤-1) by omega),if_neg he]
    exact congrArg (fun z=>[z]) (toBA_self s).symm
   ·have he:bts s=[]:=List.length_eq_zero_iff.1 (by omega)
    rw [if_neg h0,if_pos he]
    rfl
  ·have hlen:s.size=x.length+(y.length+1):=by rw [hsz,e];simp
   rw [if_pos (show 0<s.size by omega),hm,e,idx_hit hx,if_pos (show (0:Int)≤x.length by omega),cutL_hit y hx,linesOf_cons (cutL_ne _ _),List.map_cons]
   rw [show ((x.length:Int)+1).toNat=x.length+1 by omega]
   have e1:s.extract 0 (x.length+1)=toBA (x ++ [10]):=by
    apply ba_ext
    rw [Lib.extract_from_zero,show s.data.toList=x ++ 10 :: y from e]
    rw [show x ++ 10 :: y=(x ++ [10]) ++ y by simp,List.take_left' (by simp)]
    rfl
   have e2:bts (s.extract (x.length+1) s.size)=y:=by
    show (s.extract (x.length+1) s.size).data.toList=y
    rw [Lib.extract_to_end,show s.data.toList=x ++ 10 :: y from e]
    rw [show x ++ 10 :: y=(x ++ [10]) ++ y by simp,List.drop_left' (by simp)]
   have e3:(s.extract (x.length+1) s.size).size=y.length:=by rw [bts_size,e2]
   rw [linesF_of g _ (by omega),e1,e2]
theorem lines_N (s:ByteArray):N54 s=(linesOf (cutL 10 (bts s))).length:=by
 unfold N54
 rw [linesF_of _ s (by omega),List.length_map]
theorem lines_Y (s:ByteArray) (i:Nat):(Y54 s).ss i 0=toBA ((linesOf (cutL 10 (bts s))).getD i []):=by
 unfold Y54
 rw [linesF_of _ s (by omega)]
 show ((linesOf (cutL 10 (bts s))).map toBA).getD i ByteArray.empty=_
 simp only [List.getD_eq_getElem?_getD,List.getElem?_map]
 cases (linesOf (cutL 10 (bts s)))[i]? with
 | none=>rfl
 | some t=>rfl
theorem empty_iff (s:ByteArray):s=({ data:=#[] }:ByteArray)↔bts s=[]:=⟨fun e=>by rw [e],fun e=>ba_ext e⟩
noncomputable def parsed (s:ByteArray):Int × Nat × Dat × Int × Int:=match walk (cutL 10 (bts s)) 0 0 0 noDat with
 | .inl e=>(0,0,noDat,(e:Int),7)
 | .inr (k,M,n,d)=>if k=0 then (0,0,noDat,1,7) else if m8 M n d=0 then (M,n,d,0,0) else (0,0,noDat,0,m8 M n d)
theorem parse_big {s:ByteArray} (h:60000<s.size):n10 s=true∧n13 s=true∧m10 s=m13 s:=by
 refine ⟨?_,?_,?_⟩
 ·unfold n10;rw [dt (show (60000:Int)<s.size by omega)];rfl
 ·unfold n13;rw [dt (show (60000:Int)<s.size by omega)];rfl
 ·unfold m10 m13;rw [dt (show (60000:Int)<s.size by omega)];rfl
theorem parse_prog {s:ByteArray} (h:s.size≤60000):n10 s=true∧m10 s=parsed s:=by
 have hle:=cutL_le 10 (bts s)
 rw [← bts_size] at hle
 have hr:=l10_run (b0:=0) (b1:=0) (b2:=0) (Y:=Y54 s) (cutL 10 (bts s)) 0 0 0 0 noDat (cutL_ne _ _) (cutL_no _ _) (fun x hx=>by have:=cutL_mem_le 10 (bts s) x hx;rw [← bts_size] at this;omega) (Nat.le_refl _) (by omega) (fun i _=>by rw [Nat.zero_add];exact lines_Y s i)
 rw [← lines_N] at hr
 have hok:ok54 s=true:=by unfold ok54;rw [decide_eq_true_eq];omega
 unfold n10 m10 parsed m31 o10_0
 rw [df (show ¬ ((60000:Int)<s.size) by omega),hok]
 cases hw:walk (cutL 10 (bts s)) 0 0 0 noDat with
 | inl e =>
  rw [hw] at hr
  obtain ⟨⟨r0,r1,r2,r3⟩,hr1,hr2,hr3,hr4⟩:=hr
  dsimp only at hr2 hr3 hr4
  subst hr2 hr3 hr4
  rw [show ((0:Nat):Int)=0 from rfl] at hr1
  rw [hr1]
  exact ⟨rfl,rfl⟩
 | inr p =>
  obtain ⟨k,M,n,d⟩:=p
  rw [hw] at hr
  dsimp only at hr
  rw [show ((0:Nat):Int)=0 from rfl] at hr
  obtain ⟨k1,k2⟩:=walk_k _ _ _ _ _ _ _ _ _ (cutL_ne _ _) (Nat.le_refl _) hw
  rw [hr]
  simp only [Option.getD_some,Option.isSome_some]
  by_cases hk:k=0
  ·subst hk
   exact ⟨rfl,rfl⟩
  ·rw [df (show ¬ ((k:Int)=0) by omega),if_neg hk]
   obtain ⟨t1,t2,t3⟩:=tab_cases M n (by omega) d
   have e:m9 M n d=m8 M n d:=by
    rcases t3 with ⟨_,a,b⟩ | ⟨e,_,a,b⟩
    ·rw [a,b]
    ·rw [a,b]
   rw [t2]
   simp only [e,Nat.zero_add]
   rw [dt (Nat.le_refl n)]
   by_cases h8:m8 M n d=0
   ·rw [dt h8,if_pos h8]
    exact ⟨rfl,rfl⟩
   ·rw [df h8,if_neg h8]
    exact ⟨rfl,rfl⟩
theorem parse_ref {s:ByteArray} (h:s.size≤60000):n13 s=true∧m13 s=parsed s:=by
 have hle:=cutL_le 10 (bts s)
 rw [← bts_size] at hle
 obtain ⟨c1,c2,c3⟩:=cut_ref (s:=s) (c:=10) (a:=10) rfl (by omega)
 have hr:=l13_run (T:=(m34 s 10).1) (D:=(m34 s 10).2) (w:=cutL 10 (bts s)) (b0:=0) c2 (fun q hq=>c3 q (by omega)) (fun q=>by have:=cutL_get_le 10 (bts s) q;rw [← bts_size] at this;omega) (by omega) (m34 s 10).1 0 ((m34 s 10).1+(0:Int).toNat+(0:Int).toNat+(0:Int).toNat+0+8) 0 0 noDat (by omega) (by have:=cutL_pos 10 (bts s);omega) (by omega) (Nat.le_refl _)
 rw [List.drop_zero,show ((0:Nat):Int)=0 from rfl] at hr
 have ho:o13_0 (m34 s 10).1 (m34 s 10).2 0 0 0 0 noDat=l13_0 (m34 s 10).1 (m34 s 10).2 0 ((m34 s 10).1+(0:Int).toNat+(0:Int).toNat+(0:Int).toNat+0+8) 0 0 0 noDat:=rfl
 rw [← ho] at hr
 unfold n13 m13 parsed
 rw [df (show ¬ ((60000:Int)<s.size) by omega),c1]
 by_cases he:bts s=[]
 ·rw [dt ((empty_iff s).2 he),he]
  exact ⟨rfl,rfl⟩
 ·rw [df fun e=>he ((empty_iff s).1 e)]
  cases hw:walk (cutL 10 (bts s)) 0 0 0 noDat with
  | inl e =>
   rw [hw] at hr
   obtain ⟨⟨r0,r1,r2,r3⟩,hr1,hr2,hr3,hr4⟩:=hr
   dsimp only at hr2 hr3 hr4
   subst hr2 hr3 hr4
   rw [hr1]
   exact ⟨rfl,rfl⟩
  | inr p =>
   obtain ⟨k,M,n,d⟩:=p
   rw [hw] at hr
   replace hr:o13_0 (m34 s 10).1 (m34 s 10).2 0 0 0 0 noDat=some (true,(M,n,n,d),default):=hr
   obtain ⟨k1,k2⟩:=walk_k _ _ _ _ _ _ _ _ _ (cutL_ne _ _) (Nat.le_refl _) hw
   have hk:k≠0:=fun hk=>by
    subst hk
    rcases byte_cases 10 (bts s) with hn | ⟨x,y,e,hx⟩
    ·rw [cutL_miss hn,walk_one,if_neg he] at hw
     cases hw
    ·rw [e,cutL_hit y hx] at k1
     have:=cutL_pos 10 y
     simp only [List.length_cons] at k1
     omega
   rw [hr]
   simp only [Option.getD_some,Option.isSome_some]
   rw [if_neg hk]
   obtain ⟨t1,t2,t3⟩:=tab_cases M n (by omega) d
   rw [t1]
   simp only [Nat.zero_add]
   rw [dt (Nat.le_refl n)]
   by_cases h8:m8 M n d=0
   ·rw [dt h8,if_pos h8]
    exact ⟨rfl,rfl⟩
   ·rw [df h8,if_neg h8]
    exact ⟨rfl,rfl⟩
theorem parse_both (s:ByteArray):n10 s=true∧n13 s=true∧m10 s=m13 s:=by
 by_cases h:s.size≤60000
 ·obtain ⟨a,b⟩:=parse_prog h
  obtain ⟨c,d⟩:=parse_ref h
  exact ⟨a,c,b.trans d.symm⟩
 ·exact parse_big (by omega)
end Go.Proofs.YtpfipoimpmlmoaaGreatDoor
namespace Go.Proofs.YtpfipoimpmlmoaaGreatDoor
open Go Go.Sy
set_option linter.unusedVariables false
set_option linter.unusedSimpArgs false
set_option maxRecDepth 100000
theorem cnd_t {α:Type} {b:Bool} {x y:α} (h:b=true):(bif b then x else y)=x:=by rw [h];rfl
theorem dig_of {r:Int} (h0:-9≤r) (h1:r≤9):IntKind.u8.wrap (IntKind.i64.wrap (48+m84 r))=((48+r.natAbs:Nat):Int):=by
 have e:m84 r=(r.natAbs:Int):=by
  unfold m84 imax
  rw [wrp (n:=0 - r) (by omega) (by omega)]
  try split
  all_goals omega
 rw [e,wrp (by omega) (by omega)]
 simp [IntKind.wrap,IntKind.bits,IntKind.signed]
 omega
def sgn (neg:Bool) (u:Nat):Int:=if neg then -(u:Int) else u
theorem sgn_div (neg:Bool) (u:Nat):(sgn neg u).tdiv 10=sgn neg (u / 10):=by
 unfold sgn
 cases neg with
 | true=>simp only [if_true];rw [Int.neg_tdiv];rfl
 | false=>rfl
theorem sgn_mod (neg:Bool) (u:Nat):(sgn neg u).tmod 10=sgn neg (u % 10):=by
 unfold sgn
 cases neg with
 | true=>simp only [if_true];rw [Int.neg_tmod];rfl
 | false=>rfl
theorem sgn_abs (neg:Bool) (u:Nat):(sgn neg u).natAbs=u:=by
 unfold sgn;cases neg <;> simp
theorem sgn_range (neg:Bool) {u k:Nat} (h:u≤k):-(k:Int)≤sgn neg u∧sgn neg u≤k:=by
 unfold sgn;cases neg <;> simp <;> omega
theorem sgn_zero (neg:Bool) (u:Nat):sgn neg u=0↔u=0:=by
 unfold sgn;cases neg <;> simp
theorem byteS_dig {d:Nat} (h:d<10):byteS ((48+d:Nat):Int)=toBA [UInt8.ofNat (48+d)]:=rfl
theorem l60_run (neg:Bool) (t4:ByteArray):∀ (k g u:Nat) (t3:List UInt8),0<u→u<10 ^ k→k<g→k≤18→t3.length+k≤1000→l60_0 t4 g (sgn neg u) (toBA t3)=some (toBA (Lib.decDigits u ++ t3))
 | 0,g,u,t3,h0,h1,h2,_,_=>by rw [Nat.pow_zero] at h1;omega
 | k+1,g,u,t3,h0,h1,h2,h3,h4=>by
  obtain ⟨g,rfl⟩:∃ g',g=g'+1:=⟨g - 1,by omega⟩
  have hu:u<10 ^ 18:=Nat.lt_of_lt_of_le h1 (Nat.pow_le_pow_right (by decide) h3)
  have hr:=sgn_range neg (u:=u % 10) (k:=9) (by omega)
  have hr2:=sgn_range neg (u:=u / 10) (k:=10 ^ 18) (by omega)
  unfold l60_0
  rw [sgn_mod,sgn_div,dig_of hr.1 hr.2,sgn_abs,wrp (by omega) (by omega),df (show ¬ (sgn neg u=0) from fun e=>by have:=(sgn_zero neg u).1 e;omega),dt (show (0:Int)≤((48+u % 10:Nat):Int)∧((48+u % 10:Nat):Int)≤255 by omega),byteS_dig (by omega),toBA_append,toBA_size,toBA_size,dt (show [UInt8.ofNat (48+u % 10)].length+t3.length≤9223372036854775807 by simp;omega)]
  simp only [cond_true,cond_false]
  by_cases hs:u<10
  ·obtain ⟨g,rfl⟩:∃ g',g=g'+1:=⟨g - 1,by omega⟩
   rw [show u / 10=0 by omega]
   unfold l60_0
   rw [dt ((sgn_zero neg 0).2 rfl),decDigits_small hs,show u % 10=u by omega]
   rfl
  ·rw [l60_run neg t4 k g (u / 10) _ (by omega) (by rw [Nat.pow_succ] at h1;omega) (by omega) (by omega) (by simp;omega),decDigits_big hs,List.append_assoc]
theorem itoa_len {v:Int} (h0:-1000000<v) (h1:v<1000000):(Lib.itoa v).length≤7:=by
 rcases itoa_cases v with ⟨u,rfl,e⟩ | ⟨u,hu,rfl,e⟩
 ·rw [e]
  have:=decDigits_len (u:=u) (k:=5) (by omega)
  omega
 ·rw [e]
  have:=decDigits_len (u:=u) (k:=5) (by omega)
  simp;omega
theorem dec_eq {v:Int} (h0:-1000000<v) (h1:v<1000000):n60 v=true∧m60 v=toBA (Lib.itoa v):=by
 unfold n60 m60
 rcases itoa_cases v with ⟨u,rfl,e⟩ | ⟨u,hu,rfl,e⟩
 ·rw [e]
  by_cases hz:u=0
  ·subst hz
   rw [decDigits_small (by omega)]
   exact ⟨rfl,rfl⟩
  ·have hl:=l60_run false ({ data:=#[] }:ByteArray) 6 8 u [] (by omega) (by omega) (by omega) (by omega) (by simp)
   rw [List.append_nil] at hl
   have ho:∀ g,8≤g→l60_0 ({ data:=#[] }:ByteArray) g ((u:Nat):Int) ({ data:=#[] }:ByteArray)=some (toBA (Lib.decDigits u)):=fun g hg=>by
    have hl:=l60_run false ({ data:=#[] }:ByteArray) 6 g u [] (by omega) (by omega) (by omega) (by omega) (by simp)
    rw [List.append_nil] at hl
    exact hl
   rw [df (show ¬ ((u:Int)=0) by omega),df (show ¬ ((u:Int)<0) by omega)]
   unfold o60_0
   rw [ho _ (by omega)]
   have:=decDigits_len (u:=u) (k:=5) (by omega)
   simp only [Option.getD_some,Option.isSome_some,cond_false]
   simp only [toBA_size]
   rw [dt (show 0+(Lib.decDigits u).length≤9223372036854775807 by omega)]
   exact ⟨rfl,ba_ext (by rw [append_bytes];rfl)⟩
 ·rw [e]
  have ho:∀ t g,8≤g→l60_0 t g (-((u:Nat):Int)) ({ data:=#[] }:ByteArray)=some (toBA (Lib.decDigits u)):=fun t g hg=>by
   have hl:=l60_run true t 6 g u [] (by omega) (by omega) (by omega) (by omega) (by simp)
   rw [List.append_nil] at hl
   exact hl
  rw [df (show ¬ (-(u:Int)=0) by omega),dt (show (-(u:Int)<0) by omega)]
  unfold o60_0
  rw [ho _ _ (by omega)]
  have:=decDigits_len (u:=u) (k:=5) (by omega)
  simp only [Option.getD_some,Option.isSome_some,cond_false]
  simp only [toBA_size]
  rw [dt (show 1+(Lib.decDigits u).length≤9223372036854775807 by omega)]
  exact ⟨rfl,ba_ext (by show (({ data:=#[45] }:ByteArray) ++ toBA (Lib.decDigits u)).data.toList=_;rw [append_bytes];rfl)⟩
def lineX (word:List UInt8) (nums:List Int):List UInt8:=word ++ nums.flatMap fun v=>32 :: Lib.itoa v
theorem itoa_mem {v:Int} {b:UInt8} (h:b∈Lib.itoa v):b=45∨isDig b:=by
 rcases itoa_cases v with ⟨u,rfl,e⟩ | ⟨u,hu,rfl,e⟩
 ·rw [e] at h;exact .inr (decDigits_dig u b h)
 ·rw [e] at h
  rcases List.mem_cons.1 h with h | h
  ·exact .inl h
  ·exact .inr (decDigits_dig u b h)
theorem itoa_no {c:UInt8} (hc:c.toNat<45) (v:Int):c ∉ Lib.itoa v:=fun h=>by
 rcases itoa_mem h with h | h
 ·subst h;revert hc;decide
 ·unfold isDig at h;omega
theorem lineX_no {word:List UInt8} (hw:(10:UInt8) ∉ word):∀ nums:List Int,(10:UInt8) ∉ lineX word nums:=fun nums h=>by
 unfold lineX at h
 rcases List.mem_append.1 h with h | h
 ·exact hw h
 ·obtain ⟨v,_,hv⟩:=List.mem_flatMap.1 h
  rcases List.mem_cons.1 hv with h | h
  ·exact absurd h (by decide)
  ·exact itoa_no (c:=10) (by decide) v h
theorem lineX_cut:∀ (nums:List Int) {word:List UInt8},(32:UInt8) ∉ word→cutL 32 (lineX word nums)=word :: nums.map Lib.itoa
 | [],word,hw=>by rw [lineX,List.flatMap_nil,List.append_nil,cutL_miss hw];rfl
 | v :: r,word,hw=>by
  have ih:=lineX_cut r (word:=Lib.itoa v) (itoa_no (by decide) v)
  rw [lineX,List.flatMap_cons,List.cons_append,cutL_hit _ hw]
  rw [lineX] at ih
  rw [ih];rfl
theorem allNum_itoa:∀ (nums:List Int),(∀ v∈nums,-1000000<v∧v<1000000)→allNum (nums.map Lib.itoa)=some nums
 | [],_=>rfl
 | v :: r,h=>by
  have hv:=h v (by simp)
  rw [List.map_cons,allNum,numR_itoa (.inl (itoa_len hv.1 hv.2))]
  dsimp only
  rw [allNum_itoa r fun w hw=>h w (by simp [hw])]
theorem rowOf_line {word:List UInt8} {nums:List Int} (hw:(32:UInt8) ∉ word) (h:∀ v∈nums,-1000000<v∧v<1000000):rowOf word nums.length (lineX word nums)=some nums:=by
 unfold rowOf
 rw [lineX_cut nums hw,if_pos ⟨by simp,rfl⟩]
 exact allNum_itoa nums h
theorem lineX_len {word:List UInt8}:∀ {nums:List Int},(∀ v∈nums,-1000000<v∧v<1000000)→(lineX word nums).length≤word.length+8 * nums.length
 | [],_=>by simp [lineX]
 | v :: r,h=>by
  have ih:=lineX_len (word:=word) (nums:=r) fun w hw=>h w (by simp [hw])
  have hv:=h v (by simp)
  have:=itoa_len hv.1 hv.2
  simp only [lineX,List.flatMap_cons,List.length_append,List.length_cons] at ih ⊢
  omega
theorem l33_run {n:Nat} {d:Dat} (h:∀ q,q<n→-1000000<d.ii q 0∧d.ii q 0<1000000) (hn:n≤1000):∀ (k i g:Nat) (acc:List UInt8),i+k=n→k<g→acc.length≤100+100 * i→l33_0 n d g (toBA acc) (i:Int)=some (toBA (acc ++ ((List.range' i k).map fun q=>d.ii q 0).flatMap fun v=>32 :: Lib.itoa v))
 | 0,i,g,acc,hi,hg,ha=>by
  obtain ⟨g,rfl⟩:∃ g',g=g'+1:=⟨g - 1,by omega⟩
  unfold l33_0
  rw [df (show ¬ ((i:Int)<n) by omega)]
  simp
 | k+1,i,g,acc,hi,hg,ha=>by
  obtain ⟨g,rfl⟩:∃ g',g=g'+1:=⟨g - 1,by omega⟩
  obtain ⟨q0,q1⟩:=h i (by omega)
  obtain ⟨d1,d2⟩:=dec_eq q0 q1
  have hl:=itoa_len q0 q1
  have hw:IntKind.i64.wrap ((i:Int)+1)=((i+1:Nat):Int):=wrS (show i<n by omega) (by omega)
  have e32:({ data:=#[32] }:ByteArray)=toBA [32]:=rfl
  unfold l33_0
  simp only [Int.toNat_natCast]
  simp only [hw,e32,d1,d2,toBA_append,toBA_size]
  rw [dt (show (i:Int)<n by omega),dt (show (0:Int)≤i∧(i:Int)<n by omega),dt (show acc.length+1≤9223372036854775807 by omega)]
  simp only [cond_true]
  refine (cnd_t (decide_eq_true (by simp;omega))).trans ?_
  rw [l33_run h hn k (i+1) g _ (by omega) (by omega) (by simp;omega)]
  rw [List.range'_succ,List.map_cons,List.flatMap_cons]
  simp
end Go.Proofs.YtpfipoimpmlmoaaGreatDoor
namespace Go.Proofs.YtpfipoimpmlmoaaGreatDoor
open Go Go.Sy
set_option linter.unusedVariables false
set_option linter.unusedSimpArgs false
set_option maxRecDepth 100000
def waveN (d:Dat) (i:Nat):List Int:=[d.ii i 0,d.ii i 1,d.ii i 2]
def wavesT (d:Dat) (k i:Nat):List UInt8:=(List.range' i k).flatMap fun q=>lineX waveW (waveN d q) ++ [10]
def textT (M:Int) (n:Nat) (d:Dat):List UInt8:=lineX tideW [M] ++ [10] ++ wavesT d n 0
theorem wavesT_zero (d:Dat) (i:Nat):wavesT d 0 i=[]:=rfl
theorem wavesT_succ (d:Dat) (k i:Nat):wavesT d (k+1) i=lineX waveW (waveN d i) ++ [10] ++ wavesT d k (i+1):=by
 unfold wavesT;rw [List.range'_succ,List.flatMap_cons]
def Small (d:Dat) (n:Nat):Prop:=∀ i,i<n→∀ v∈waveN d i,-1000000<v∧v<1000000
theorem tab_small {M:Int} {n:Nat} {d:Dat} (t:Tab M n d):Small d n:=fun i hi v hv=>by
 have w:=t.w i hi
 have:=w.h0;have:=w.h1;have:=w.p0;have:=w.p1;have:=w.f0;have:=w.f1
 unfold waveN at hv
 simp only [List.mem_cons,List.not_mem_nil,or_false] at hv
 rcases hv with h | h | h <;> omega
theorem wave_len {d:Dat} {n i:Nat} (h:Small d n) (hi:i<n):(lineX waveW (waveN d i)).length≤28:=lineX_len (word:=waveW) (h i hi)
theorem nl:({ data:=#[10] }:ByteArray)=toBA [10]:=rfl
theorem sp:({ data:=#[32] }:ByteArray)=toBA [32]:=rfl
theorem tidesp:({ data:=#[116,105,100,101,32] }:ByteArray)=toBA (tideW ++ [32]):=rfl
theorem m33_eq {word:List UInt8} {n:Nat} {d:Dat} (h:∀ q,q<n→-1000000<d.ii q 0∧d.ii q 0<1000000) (hn:n≤3) (hw:word.length≤4):n33 (toBA word) n d=true∧m33 (toBA word) n d=toBA (lineX word ((List.range' 0 n).map fun q=>d.ii q 0) ++ [10]):=by
 have hr:∀ g,n<g→l33_0 n d g (toBA word) 0=some (toBA (lineX word ((List.range' 0 n).map fun q=>d.ii q 0))):=fun g hg=>l33_run h (by omega) n 0 g word (by omega) hg (by omega)
 have hl:=lineX_len (word:=word) (nums:=(List.range' 0 n).map fun q=>d.ii q 0) (fun v hv=>by
  obtain ⟨q,hq,rfl⟩:=List.mem_map.1 hv
  rw [List.mem_range'_1] at hq
  exact h q (by omega))
 rw [List.length_map,List.length_range'] at hl
 unfold n33 m33 o33_0
 rw [hr _ (by omega),nl]
 simp only [Option.getD_some,Option.isSome_some,toBA_append,toBA_size,Bool.true_and,Bool.and_true]
 refine ⟨decide_eq_true ?_,trivial⟩
 omega
theorem dat3 (a b c:Int):(List.range' 0 3).map (fun q=>(datS [SV.int .i64 a,SV.int .i64 b,SV.int .i64 c] 1).ii q 0)=[a,b,c]:=rfl
theorem dat1 (a:Int):(List.range' 0 1).map (fun q=>(datS [SV.int .i64 a] 1).ii q 0)=[a]:=rfl
theorem l11_run {M:Int} {n:Nat} {d:Dat} {e:Dat} (h:Small d n) (hn:n≤100):∀ (k i g:Nat) (acc:List UInt8),i+k=n→k<g→acc.length≤100+100 * i→l11_0 M n d e g (toBA acc) (i:Int)=some (toBA (acc ++ wavesT d k i))
 | 0,i,g,acc,hi,hg,ha=>by
  obtain ⟨g,rfl⟩:∃ g',g=g'+1:=⟨g - 1,by omega⟩
  unfold l11_0
  rw [df (show ¬ ((i:Int)<n) by omega),wavesT_zero,List.append_nil]
  rfl
 | k+1,i,g,acc,hi,hg,ha=>by
  obtain ⟨g,rfl⟩:∃ g',g=g'+1:=⟨g - 1,by omega⟩
  have hw:IntKind.i64.wrap ((i:Int)+1)=((i+1:Nat):Int):=wrS (show i<n by omega) (by omega)
  have hq:=h i (by omega)
  have hl:=wave_len h (show i<n by omega)
  have q0:=hq (d.ii i 0) (by simp [waveN])
  have q1:=hq (d.ii i 1) (by simp [waveN])
  have q2:=hq (d.ii i 2) (by simp [waveN])
  obtain ⟨d1,d2⟩:=m33_eq (word:=waveW) (n:=3) (d:=datS [SV.int .i64 (d.ii i 0),SV.int .i64 (d.ii i 1),SV.int .i64 (d.ii i 2)] 1) (fun q hq=>by
   match q,hq with
   | 0,_=>exact q0
   | 1,_=>exact q1
   | 2,_=>exact q2) (by omega) (by decide)
  rw [dat3] at d2
  unfold l11_0
  simp only [Int.toNat_natCast,hw,waveB,d1,d2,toBA_append,toBA_size]
  rw [dt (show (i:Int)<n by omega),dt (show (0:Int)≤i∧(i:Int)<n by omega)]
  simp only [cond_true]
  rw [show lineX waveW [d.ii i 0,d.ii i 1,d.ii i 2]=lineX waveW (waveN d i) from rfl]
  refine (cnd_t (decide_eq_true (by simp;omega))).trans ?_
  rw [l11_run h hn k (i+1) g _ (by omega) (by omega) (by simp;omega),wavesT_succ]
  simp
theorem print_ref {M:Int} {n:Nat} {d:Dat} (t:Tab M n d):n11 M n d=true∧m11 M n d=toBA (textT M n d):=by
 have hM0:=t.m0;have hM1:=t.m1;have h10:=t.n10
 have hM:∀ v∈[M],-1000000<v∧v<1000000:=fun v hv=>by simp at hv;omega
 obtain ⟨d1,d2⟩:=m33_eq (word:=tideW) (n:=1) (d:=datS [SV.int .i64 M] 1) (fun q hq=>by
   match q,hq with
   | 0,_=>exact hM M (by simp)) (by omega) (by decide)
 rw [dat1] at d2
 have hl:(lineX tideW [M]).length≤12:=lineX_len (word:=tideW) hM
 have hr:∀ g,n<g→l11_0 M n d (datS [SV.int .i64 M] 1) g (toBA (lineX tideW [M] ++ [10])) 0=some (toBA (textT M n d)):=fun g hg=>by
  have:=l11_run (M:=M) (e:=datS [SV.int .i64 M] 1) (tab_small t) (by omega) n 0 g (lineX tideW [M] ++ [10]) (by omega) hg (by simp;omega)
  exact this
 unfold n11 m11 o11_0
 simp only [tideB,d1,d2]
 rw [hr _ (by omega)]
 exact ⟨rfl,rfl⟩
theorem wave23 (a b c:Int):m23 4 (datS [SV.str (toBA waveW),SV.str (m22 a),SV.str (m22 b),SV.str (m22 c)] 1) (toBA [32])=toBA (lineX waveW [a,b,c]):=by
 unfold m23
 have e:(wordsL 4 (datS [SV.str (toBA waveW),SV.str (m22 a),SV.str (m22 b),SV.str (m22 c)] 1)).map (·.data.toList)=[waveW,Lib.itoa a,Lib.itoa b,Lib.itoa c]:=by
  show [bts (toBA waveW),bts (m22 a),bts (m22 b),bts (m22 c)]=_
  rw [m22_eq,m22_eq,m22_eq]
  rfl
 rw [e,Lib.join_cons]
 unfold Lib.joinTail lineX
 apply ba_ext
 simp [toBA]
structure Held2 (n:Nat) (d:Dat) (l:List UInt8):Prop where
 len:n=l.length
 by_:bytesOf n d=l
 ok:∀ q,q<n→0≤d.ii q 0∧d.ii q 0≤255
theorem held_app {n:Nat} {d:Dat} {l m:List UInt8} (h:Held2 n d l):Held2 (n+m.length) (d.app n { ii:=fun q x=>((m.getD q 0).toNat:Int),ss:=noDat.ss,bb:=noDat.bb,sn:=noDat.sn,sd:=noDat.sd }) (l ++ m):=by
 have hn:=h.len
 refine ⟨by rw [List.length_append,hn],?_,fun q hq=>?_⟩
 ·unfold bytesOf
  apply List.ext_getElem?
  intro q
  rw [List.getElem?_map]
  by_cases hq:q<n+m.length
  ·rw [List.getElem?_range hq]
   by_cases hq2:q<n
   ·rw [List.getElem?_append_left (by omega),Option.map_some,app_lt_ii hq2]
    have e:=congrArg (fun z:List UInt8=>z[q]?) h.by_
    try dsimp only at e
    rw [← e]
    unfold bytesOf
    rw [List.getElem?_map,List.getElem?_range hq2];rfl
   ·rw [List.getElem?_append_right (by omega),Option.map_some,app_ge_ii (by omega)]
    try dsimp only
    rw [← hn,Int.toNat_natCast,UInt8.ofNat_toNat,List.getD_eq_getElem?_getD,List.getElem?_eq_getElem (by omega)]
    rfl
  ·rw [List.getElem?_eq_none (by simp;omega),List.getElem?_eq_none (by simp;omega)];rfl
 ·by_cases hq2:q<n
  ·rw [app_lt_ii hq2];exact h.ok q hq2
  ·rw [app_ge_ii (by omega)]
   try dsimp only
   have:=(m.getD (q - n) 0).toNat_lt
   omega
theorem l6_run {n:Nat} {d d2:Dat} {b0:Int} (h:Small d n) (hn:n≤100):∀ (k i g N:Nat) (e:Dat) (acc:List UInt8),i+k=n→k<g→acc.length≤100+100 * i→Held2 N e acc→∃ N' e',l6_0 n d (n:Int) b0 d2 g (i:Int) N N e=some (N',N',e')∧Held2 N' e' (acc ++ wavesT d k i)
 | 0,i,g,N,e,acc,hi,hg,ha,hh=>by
  obtain ⟨g,rfl⟩:∃ g',g=g'+1:=⟨g - 1,by omega⟩
  unfold l6_0
  rw [df (show ¬ ((i:Int)<n) by omega),wavesT_zero,List.append_nil]
  exact ⟨N,e,rfl,hh⟩
 | k+1,i,g,N,e,acc,hi,hg,ha,hh=>by
  obtain ⟨g,rfl⟩:∃ g',g=g'+1:=⟨g - 1,by omega⟩
  have hw:IntKind.i64.wrap ((i:Int)+1)=((i+1:Nat):Int):=wrS (show i<n by omega) (by omega)
  have hq:=h i (by omega)
  have hl:=wave_len h (show i<n by omega)
  have hlen:=hh.len
  have q0:=hq (d.ii i 0) (by simp [waveN])
  have q1:=hq (d.ii i 1) (by simp [waveN])
  have q2:=hq (d.ii i 2) (by simp [waveN])
  have n22:∀ {v:Int},-1000000<v∧v<1000000→n22 v=true:=fun hv=>by unfold n22;rw [decide_eq_true_eq];omega
  have e23:=wave23 (d.ii i 0) (d.ii i 1) (d.ii i 2)
  have hn23:n23 4 (datS [SV.str (toBA waveW),SV.str (m22 (d.ii i 0)),SV.str (m22 (d.ii i 1)),SV.str (m22 (d.ii i 2))] 1) (toBA [32])=true:=by
   unfold n23
   rw [e23,toBA_size]
   rw [show lineX waveW [d.ii i 0,d.ii i 1,d.ii i 2]=lineX waveW (waveN d i) from rfl]
   simp;omega
  unfold l6_0
  simp only [Int.toNat_natCast,hw,waveB,sp,nl,n22 q0,n22 q1,n22 q2,hn23,e23,toBA_append,toBA_size]
  rw [show lineX waveW [d.ii i 0,d.ii i 1,d.ii i 2]=lineX waveW (waveN d i) from rfl]
  have hn21:n21u N N e (toBA (lineX waveW (waveN d i) ++ [10]))=true:=by
   unfold n21u
   rw [toBA_size]
   simp
   omega
  rw [dt (show (i:Int)<n by omega),dt (show (0:Int)≤i∧(i:Int)<n by omega),hn21]
  simp only [cond_true]
  have h21:m21u N N e (toBA (lineX waveW (waveN d i) ++ [10]))=((((lineX waveW (waveN d i) ++ [10]).length:Nat):Int),N+(lineX waveW (waveN d i) ++ [10]).length,N+(lineX waveW (waveN d i) ++ [10]).length,e.app N { ii:=fun q x=>(((lineX waveW (waveN d i) ++ [10]).getD q 0).toNat:Int),ss:=noDat.ss,bb:=noDat.bb,sn:=noDat.sn,sd:=noDat.sd }):=by
   unfold m21u
   rw [toBA_size,toBA_bytes]
  obtain ⟨N',e',r1,r2⟩:=l6_run (d2:=d2) (b0:=b0) h hn k (i+1) g _ _ _ (by omega) (by omega) (by simp;omega) (held_app (m:=lineX waveW (waveN d i) ++ [10]) hh)
  refine ⟨N',e',?_,?_⟩
  ·refine (cnd_t (decide_eq_true ?_)).trans ?_
   ·omega
   ·rw [h21];exact r1
  ·rw [wavesT_succ]
   rw [List.append_assoc] at r2
   exact r2
theorem print_prog {M:Int} {n:Nat} {d:Dat} (t:Tab M n d) (e9:m9 M n d=0):n6 M n d=true∧m6 M n d=(toBA (textT M n d),0):=by
 have hM0:=t.m0;have hM1:=t.m1;have h10:=t.n10
 have hM:∀ v∈[M],-1000000<v∧v<1000000:=fun v hv=>by simp at hv;omega
 obtain ⟨t1,t2,t3⟩:=tab_cases M n (by omega) d
 have hl:(lineX tideW [M]).length≤12:=lineX_len (word:=tideW) hM
 have hn22:n22 M=true:=by unfold n22;rw [decide_eq_true_eq];omega
 have e1:tideW ++ [32] ++ Lib.itoa M ++ [10]=lineX tideW [M] ++ [10]:=by simp [lineX]
 have il:=itoa_len (v:=M) (by omega) (by omega)
 have hh:Held2 0 noDat []:=⟨rfl,rfl,fun q hq=>by omega⟩
 have h21:m21f 0 0 noDat (toBA (lineX tideW [M] ++ [10]))=((((lineX tideW [M] ++ [10]).length:Nat):Int),0+(lineX tideW [M] ++ [10]).length,0+(lineX tideW [M] ++ [10]).length,noDat.app 0 { ii:=fun q x=>(((lineX tideW [M] ++ [10]).getD q 0).toNat:Int),ss:=noDat.ss,bb:=noDat.bb,sn:=noDat.sn,sd:=noDat.sd }):=by
  unfold m21f
  rw [toBA_size,toBA_bytes]
 have hn21:n21f 0 0 noDat (toBA (lineX tideW [M] ++ [10]))=true:=by
  unfold n21f
  rw [toBA_size]
  simp
  omega
 have hw:Held2 _ _ (lineX tideW [M] ++ [10]):=held_app (m:=lineX tideW [M] ++ [10]) hh
 obtain ⟨W0,hW0⟩:∃ W0,noDat.app 0 { ii:=fun q x=>(((lineX tideW [M] ++ [10]).getD q 0).toNat:Int),ss:=noDat.ss,bb:=noDat.bb,sn:=noDat.sn,sd:=noDat.sd }=W0:=⟨_,rfl⟩
 rw [hW0] at hw h21
 obtain ⟨L0,hL0⟩:∃ L0,0+(lineX tideW [M] ++ [10]).length=L0:=⟨_,rfl⟩
 rw [hL0] at hw h21
 have hlo:L0≤13:=by rw [← hL0];simp;omega
 obtain ⟨N',e',r1,r2⟩:=l6_run (d2:=d) (b0:=M) (tab_small t) (by omega) n 0 (n+(n:Int).toNat+(0:Int).toNat+M.toNat+L0+L0+8) L0 W0 _ (by omega) (by omega) (by rw [← hw.len];omega) hw
 have ho:o6_0 n d (n:Int) M d 0 L0 L0 W0=some (N',N',e'):=r1
 have hN':=r2.len
 have hpos:0<N':=by rw [hN'];simp [textT];omega
 have c1:n24 N' N' e'=true:=by
  unfold n24
  rw [dt hpos,dt (Nat.le_refl N')]
  simp only [Bool.true_and]
  rw [List.all_eq_true]
  intro q hq
  exact decide_eq_true (r2.ok q (List.mem_range.1 hq))
 have c2:m24 N' e'=toBA (textT M n d):=by
  unfold m24
  rw [r2.by_];rfl
 unfold n6 m6
 simp only [tidesp,m22_eq,nl,toBA_append,toBA_size,e1,h21,hn21,hn22,t2,e9,ho,Option.isSome_some,Option.getD_some,c1,c2,decide_true,cond_false,Bool.true_and,Bool.and_true,Bool.not_true,cond_true]
 refine ⟨?_,trivial⟩
 rw [Bool.and_eq_true]
 exact ⟨decide_eq_true (by omega),decide_eq_true (by simp;omega)⟩
end Go.Proofs.YtpfipoimpmlmoaaGreatDoor
