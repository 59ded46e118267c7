/-
 What is printed is read back; the law of tides. Conditions: none.
-/
import Derived.Test.YtpfipoimpmlmoaaGreatDoorJE17
namespace Go.Proofs.YtpfipoimpmlmoaaGreatDoor
open Go Go.Sy
set_option linter.unusedVariables false
set_option linter.unusedSimpArgs false
set_option maxRecDepth 100000
def wlines (d:Dat) (k i:Nat):List (List UInt8):=(List.range' i k).map fun q=>lineX waveW (waveN d q)
theorem wlines_succ (d:Dat) (k i:Nat):wlines d (k+1) i=lineX waveW (waveN d i) :: wlines d k (i+1):=by
 unfold wlines;rw [List.range'_succ,List.map_cons]
theorem waves_cut (d:Dat):∀ (k i:Nat),cutL 10 (wavesT d k i)=wlines d k i ++ [[]]
 | 0,i=>rfl
 | k+1,i=>by
  rw [wavesT_succ,wlines_succ,List.append_assoc,List.singleton_append,cutL_hit _ (lineX_no (by decide) _),waves_cut d k (i+1)]
  rfl
theorem text_cut (M:Int) (n:Nat) (d:Dat):cutL 10 (textT M n d)=lineX tideW [M] :: (wlines d n 0 ++ [[]]):=by
 unfold textT
 rw [List.append_assoc,List.singleton_append,cutL_hit _ (lineX_no (by decide) _),waves_cut]
theorem walk_cons {x:List UInt8} {r:List (List UInt8)} (h:r≠[]) {k:Nat} {M:Int} {n:Nat} {d:Dat}:walk (x :: r) k M n d=if k=0 then (match rowOf tideW 1 x with
   | some l=>walk r (k+1) (l.getD 0 0) n d
   | none=>.inl (k+1))
  else (match rowOf waveW 3 x with
   | some l=>walk r (k+1) M (n+1) (d.app n (datS [SV.int .i64 (l.getD 0 0),SV.int .i64 (l.getD 1 0),SV.int .i64 (l.getD 2 0)] 3))
   | none=>.inl (k+1)):=by
 cases r with
 | nil=>exact absurd rfl h
 | cons y r=>exact walk_two
def Same3 (n:Nat) (d e:Dat):Prop:=∀ q,q<n→d.ii q 0=e.ii q 0∧d.ii q 1=e.ii q 1∧d.ii q 2=e.ii q 2
theorem walk_back {M:Int} {n:Nat} {d:Dat} (h:Small d n):∀ (k i c:Nat) (e:Dat),i+k=n→0<c→Same3 i e d→∃ e',walk (wlines d k i ++ [[]]) c M i e=.inr (c+k,M,n,e')∧Same3 n e' d
 | 0,i,c,e,hi,hc,hs=>by
  rw [show i=n by omega] at hs ⊢
  exact ⟨e,by rw [show wlines d 0 n ++ [[]]=[[]] from rfl,walk_one,if_pos rfl];rfl,hs⟩
 | k+1,i,c,e,hi,hc,hs=>by
  rw [wlines_succ,List.cons_append,walk_cons (by simp),if_neg (by omega)]
  have hr:rowOf waveW 3 (lineX waveW (waveN d i))=some (waveN d i):=rowOf_line (word:=waveW) (nums:=waveN d i) (by decide) (h i (by omega))
  rw [hr]
  obtain ⟨e',r1,r2⟩:=walk_back (M:=M) h k (i+1) (c+1) (e.app i (datS [SV.int .i64 ((waveN d i).getD 0 0),SV.int .i64 ((waveN d i).getD 1 0),SV.int .i64 ((waveN d i).getD 2 0)] 3)) (by omega) (by omega) (fun q hq=>by
   by_cases hq2:q<i
   ·rw [app_lt_ii hq2,app_lt_ii hq2,app_lt_ii hq2];exact hs q hq2
   ·have:q=i:=by omega
    subst this
    rw [app_ge_ii (Nat.le_refl _),app_ge_ii (Nat.le_refl _),app_ge_ii (Nat.le_refl _),Nat.sub_self]
    exact ⟨rfl,rfl,rfl⟩)
  refine ⟨e',?_,r2⟩
  dsimp only
  rw [r1,show c+1+k=c+(k+1) by omega]
theorem tab_zero {M:Int} {n:Nat} {d:Dat} (t:Tab M n d):m8 M n d=0:=by
 have h10:=t.n10
 have g1:first (badR d) (false,default,()) n 0=(false,default,()):=first_none fun j _ hj=>by
  rcases bad_cases d j with ⟨_,a,_⟩ | ⟨a,b⟩
  ·exact a
  ·have:=m26_ok (t.w j (by omega));simp only [badR,this,decide_true,cond_true,cond_false] at a;cases a
 simp only [m8,m25_iff.2 ⟨t.m0,t.m1⟩,decide_eq_false (show ¬ ((10:Int)<(n:Int)) by omega),l8_all M n (by omega) d,g1,cond_true,cond_false,Option.getD_some]
theorem tab_same {M:Int} {n:Nat} {d e:Dat} (t:Tab M n d) (h:Same3 n e d):Tab M n e:=⟨t.m0,t.m1,t.n10,fun i hi=>by obtain ⟨a,b,c⟩:=h i hi;rw [a,b,c];exact t.w i hi⟩
theorem text_len {M:Int} {n:Nat} {d:Dat} (t:Tab M n d):(textT M n d).length≤60000:=by
 have hM0:=t.m0;have hM1:=t.m1;have h10:=t.n10
 have hl:(lineX tideW [M]).length≤12:=lineX_len (word:=tideW) fun v hv=>by simp at hv;omega
 have hw:∀ k i,i+k≤n→(wavesT d k i).length≤29 * k:=by
  intro k
  induction k with
  | zero=>intro i _;rw [wavesT_zero];simp
  | succ k ih =>
   intro i hi
   have:=ih (i+1) (by omega)
   have:=wave_len (tab_small t) (show i<n by omega)
   rw [wavesT_succ,List.length_append,List.length_append]
   simp only [List.length_cons,List.length_nil]
   omega
 have:=hw n 0 (by omega)
 unfold textT
 rw [List.length_append,List.length_append]
 simp only [List.length_cons,List.length_nil]
 omega
theorem read_back {M:Int} {n:Nat} {d:Dat} (t:Tab M n d):∃ e,m10 (toBA (textT M n d))=(M,n,e,0,0)∧Same3 n e d:=by
 have hM0:=t.m0;have hM1:=t.m1
 obtain ⟨_,h2⟩:=parse_prog (s:=toBA (textT M n d)) (by rw [toBA_size];exact text_len t)
 have hr:rowOf tideW 1 (lineX tideW [M])=some [M]:=rowOf_line (word:=tideW) (nums:=[M]) (by decide) (fun v hv=>by simp at hv;omega)
 obtain ⟨e,r1,r2⟩:=walk_back (M:=M) (tab_small t) n 0 1 noDat (by omega) (by omega) (fun q hq=>by omega)
 have hw:walk (cutL 10 (bts (toBA (textT M n d)))) 0 0 0 noDat=.inr (1+n,M,n,e):=by
  show walk (cutL 10 (textT M n d)) 0 0 0 noDat=_
  rw [text_cut,walk_cons (by simp),if_pos rfl,hr]
  exact r1
 refine ⟨e,?_,r2⟩
 rw [h2]
 unfold parsed
 rw [hw]
 dsimp only
 rw [if_neg (by omega),if_pos (tab_zero (tab_same t r2))]
theorem l12_run {M M':Int} {n:Nat} {d e:Dat} (h:Same3 n d e) (hn:n≤1000):∀ (k i g:Nat),i+k=n→k<g→l12_0 M n d M' n e g (i:Int)=some (false,default,())
 | 0,i,g,hi,hg=>by
  obtain ⟨g,rfl⟩:∃ g',g=g'+1:=⟨g - 1,by omega⟩
  unfold l12_0
  rw [df (show ¬ ((i:Int)<n) by omega)]
  rfl
 | k+1,i,g,hi,hg=>by
  obtain ⟨g,rfl⟩:∃ g',g=g'+1:=⟨g - 1,by omega⟩
  have hw:IntKind.i64.wrap ((i:Int)+1)=((i+1:Nat):Int):=wrS (show i<n by omega) (by omega)
  obtain ⟨a,b,c⟩:=h i (by omega)
  unfold l12_0
  simp only [Int.toNat_natCast,hw,a,b,c,decide_true,cond_true,cond_false]
  rw [dt (show (i:Int)<n by omega),dt (show (0:Int)≤i∧(i:Int)<n by omega)]
  exact l12_run h hn k (i+1) g (by omega) (by omega)
theorem same_yes {M:Int} {n:Nat} {d e:Dat} (h:Same3 n d e) (hn:n≤1000):n12 M n d M n e=true∧m12 M n d M n e=true:=by
 have ho:o12_0 M n d M n e 0=some (false,default,()):=l12_run h hn n 0 _ (by omega) (by omega)
 unfold n12 m12
 rw [ho]
 simp
theorem parse_n (s:ByteArray):(m10 s).2.1≤1000:=by
 by_cases h:s.size≤60000
 ·rw [(parse_prog h).2]
  have hle:=cutL_le 10 (bts s)
  rw [← bts_size] at hle
  unfold parsed
  cases hw:walk (cutL 10 (bts s)) 0 0 0 noDat with
  | inl e=>exact Nat.zero_le _
  | inr p =>
   obtain ⟨k,M,n,d⟩:=p
   obtain ⟨k1,k2⟩:=walk_k _ _ _ _ _ _ _ _ _ (cutL_ne _ _) (Nat.le_refl _) hw
   dsimp only
   split
   ·exact Nat.zero_le _
   ·split
    ·rename_i h8
     obtain ⟨_,_,t3⟩:=tab_cases M n (by omega) d
     rcases t3 with ⟨t,_,_⟩ | ⟨e,he,a,b⟩
     ·have:=t.n10;exact Nat.le_trans this (by omega)
     ·exact absurd (a.symm.trans h8) he
    ·exact Nat.zero_le _
 ·unfold m10;rw [dt (show (60000:Int)<s.size by omega)];exact Nat.zero_le _
theorem tides_law (M:Int) (n:Nat) (d:Dat) (s:ByteArray):n3 M n d s=true∧m3 M n d s=true:=by
 obtain ⟨c,hc⟩:∃ c,(bif (bif (bif (m5 M n d) then false else true) then true else (bif (decide ((300:Int)<((↑s.size:Int)))) then (decide (((↑s.size:Int))≤60000)) else false)) then true else (decide (60005<((↑s.size:Int)))))=c:=⟨_,rfl⟩
 unfold n3 m3
 rw [n4_val,show m4=true from rfl,hc]
 cases c with
 | true=>exact ⟨rfl,rfl⟩
 | false =>
  have hn:n≤12:=by
   by_cases h:n≤12
   ·exact h
   ·exfalso
    have h5:m5 M n d=false:=by
     unfold m5
     rw [df (show ¬ ((n:Int)≤4) by omega),df (show ¬ ((n:Int)≤12) by omega)]
     simp
    rw [h5] at hc
    simp at hc
  have e7:m7 M n d=(M,n,d):=by
   unfold m7
   rw [app_zero,Nat.zero_add]
  have h7:n7 M n d=true:=by
   unfold n7
   rw [Nat.zero_add,Nat.zero_add,dt (show n≤1073741824 by omega),dt (Nat.le_refl n)]
   rfl
  obtain ⟨p1,p2,p3⟩:=parse_both s
  have p4:=parse_n s
  rw [← p3] at *
  obtain ⟨R,hR⟩:∃ R,m10 s=R:=⟨_,rfl⟩
  rw [hR] at p4 ⊢
  obtain ⟨q1,q2⟩:=same_yes (M:=R.1) (n:=R.2.1) (d:=R.2.2.1) (e:=R.2.2.1) (fun q _=>⟨rfl,rfl,rfl⟩) p4
  obtain ⟨t1,t2,t3⟩:=tab_cases M n (by omega) d
  simp only [e7,h7,p1,p2,q1,q2,t1,t2,decide_true,cond_true,cond_false,Bool.true_and,Bool.and_true]
  rcases t3 with ⟨t,a,b⟩ | ⟨e,he,a,b⟩
  ·obtain ⟨u1,u2⟩:=print_prog t b
   obtain ⟨u3,u4⟩:=print_ref t
   obtain ⟨x,v1,v2⟩:=read_back t
   obtain ⟨w1,w2⟩:=same_yes (M:=M) v2 (by omega)
   obtain ⟨v3,_,_⟩:=parse_both (toBA (textT M n d))
   simp only [a,b,u1,u2,u3,u4,v1,v3,w1,w2,decide_true,cond_true,cond_false,Bool.true_and,Bool.and_true]
   exact ⟨trivial,trivial⟩
  ·have h6:n6 M n d=true∧m6 M n d=(({ data:=#[] }:ByteArray),e):=by
    unfold n6 m6
    rw [t2,b,df he]
    exact ⟨rfl,rfl⟩
   simp only [a,b,h6.1,h6.2,df he,decide_true,cond_true,cond_false,Bool.true_and,Bool.and_true]
   exact ⟨trivial,trivial⟩
end Go.Proofs.YtpfipoimpmlmoaaGreatDoor
