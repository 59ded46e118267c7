/-
 Names, vessels, and fills alone: the program and the reference alike. Conditions: none.
-/
import Derived.Test.YtmndejpcpfkajaaBPShares
namespace Go.Proofs.Ytmndejpcpfkajaa
open Go Go.Sy
set_option linter.unusedVariables false
set_option maxRecDepth 100000
attribute [local simp] brk
noncomputable def badC (s : ByteArray) (i : Nat) : Option (Bool × Bool × Unit) :=
 cond (bif (bif (bif (bif decide (97 ≤ byteAt s i) then decide (byteAt s i ≤ 122) else false) then true else (bif decide (65 ≤ byteAt s i) then decide (byteAt s i ≤ 90) else false)) then false else true) then (bif decide (i = 0) then true else (bif (bif decide (byteAt s i = 45) then false else true) then (bif decide (byteAt s i < 48) then true else decide (57 < byteAt s i)) else false)) else false) (some (true, false, default)) none
theorem l90_all (s : ByteArray) (hs : s.size ≤ 9223372036854775807) : o90_0 s 0 = some (first (badC s) (false, default, ()) s.size 0) :=
 loop_first (l := l90_0 s) hs (fun f i hi => by
  have e : decide ((i : Int) = 0) = decide (i = 0) := by by_cases h : i = 0 <;> simp [h]
  simp only [l90_0, cdl hi, cdd hi, cond_true, Int.toNat_natCast, e, badC]
  generalize (bif bif bif bif decide (97 ≤ byteAt s i) then decide (byteAt s i ≤ 122) else false then true else bif decide (65 ≤ byteAt s i) then decide (byteAt s i ≤ 90) else false then false else true then bif decide (i = 0) then true else bif bif decide (byteAt s i = 45) then false else true then bif decide (byteAt s i < 48) then true else decide (57 < byteAt s i) else false else false) = c
  cases c <;> rfl) (fun f => by simp only [l90_0, cdn]; rfl) s.size 0 _ (by omega) (by omega)
theorem l104_all (s : ByteArray) (hs : s.size ≤ 9223372036854775807) : o104_0 s (s.size : Int) 0 = some (first (badC s) (false, default, ()) s.size 0) :=
 loop_first (l := l104_0 s (s.size : Int)) hs (fun f i hi => by
  have e : decide ((i : Int) = 0) = decide (i = 0) := by by_cases h : i = 0 <;> simp [h]
  simp only [l104_0, cdl hi, cdd hi, cond_true, Int.toNat_natCast, e, badC, Bool.cond_self]
  generalize decide (97 ≤ byteAt s i) = c1
  generalize decide (byteAt s i ≤ 122) = c2
  generalize decide (65 ≤ byteAt s i) = c6
  generalize decide (byteAt s i ≤ 90) = c7
  generalize decide (i = 0) = c8
  generalize decide (byteAt s i = 45) = c9
  generalize decide (byteAt s i < 48) = c10
  generalize decide (57 < byteAt s i) = c11
  cases c1 <;> cases c2 <;> cases c6 <;> cases c7 <;> cases c8 <;> cases c9 <;> cases c10 <;> cases c11 <;> rfl) (fun f => by simp only [l104_0, cdn]; rfl) s.size 0 _ (by omega) (by omega)
theorem names (s : ByteArray) (hs : s.size ≤ 9223372036854775807) : n104 s = true ∧ n90 s = true ∧ m104 s = m90 s := by
 simp only [n104, n90, m104, m90, l104_all s hs, l90_all s hs, Option.getD_some]
 have hb : (first (badC s) (false, default, ()) s.size 0).1 = true → (first (badC s) (false, default, ()) s.size 0).2.1 = false := by
  rcases first_cases (g := badC s) (e := (false, (default : Bool), ())) s.size 0 with ⟨j, b, _, _, hg, _, hb⟩ | ⟨_, hb⟩
  ·intro _
   have : first (badC s) (false, default, ()) s.size 0 = b := hb
   rw [this]
   unfold badC at hg
   generalize (bif bif bif bif decide (97 ≤ byteAt s j) then decide (byteAt s j ≤ 122) else false then true else bif decide (65 ≤ byteAt s j) then decide (byteAt s j ≤ 90) else false then false else true then bif decide (j = 0) then true else bif bif decide (byteAt s j = 45) then false else true then bif decide (byteAt s j < 48) then true else decide (57 < byteAt s j) else false else false) = c at hg
   cases c <;> simp at hg
   rw [← hg]
  ·intro h
   have : first (badC s) (false, default, ()) s.size 0 = (false, default, ()) := hb
   rw [this] at h
   cases h
 have e0 : decide (s = { data := #[] }) = decide ((s.size : Int) < 1) := by
  apply decide_eq_decide.2
  constructor
  ·intro h; subst h; decide
  ·intro h
   have : s.size = 0 := by omega
   obtain ⟨d⟩ := s
   have : d.size = 0 := this
   rw [Array.size_eq_zero_iff] at this
   rw [this]
 rw [e0]
 generalize first (badC s) (false, default, ()) s.size 0 = r at *
 obtain ⟨r1, r2, r3⟩ := r
 simp only at hb ⊢
 refine ⟨rfl, ?_, ?_⟩
 ·cases decide ((s.size : Int) < 1) <;> cases decide (12 < (s.size : Int)) <;> rfl
 ·have e1 : decide ((s.size : Int) ≤ 12) = !decide (12 < (s.size : Int)) := by
   by_cases h : 12 < (s.size : Int)
   ·have : ¬ (s.size : Int) ≤ 12 := by omega
    simp [h, this]
   ·have : (s.size : Int) ≤ 12 := by omega
    simp [h, this]
  rw [e1]
  cases r1
  ·cases decide ((s.size : Int) < 1) <;> cases decide (12 < (s.size : Int)) <;> rfl
  ·have := hb rfl
   subst this
   cases decide ((s.size : Int) < 1) <;> cases decide (12 < (s.size : Int)) <;> rfl
noncomputable def hasN (d : Dat) (s : ByteArray) (i : Nat) : Option (Bool × Int × Unit) := cond (decide (d.ss i 0 = s)) (some (true, (i : Int), default)) none
noncomputable def fnd (n : Nat) (d : Dat) (s : ByteArray) : Int := cond (first (hasN d s) (false, default, ()) n 0).1 (first (hasN d s) (false, default, ()) n 0).2.1 (-1)
theorem fnd_cases (n : Nat) (d : Dat) (s : ByteArray) : (∃ i, i < n ∧ fnd n d s = (i : Int) ∧ d.ss i 0 = s ∧ ∀ j, j < i → d.ss j 0 ≠ s) ∨ (fnd n d s = -1 ∧ ∀ j, j < n → d.ss j 0 ≠ s) := by
 unfold fnd
 rcases first_cases (g := hasN d s) (e := (false, (default : Int), ())) n 0 with ⟨j, b, _, hj, hg, hbef, hb⟩ | ⟨hall, hb⟩
 ·left
  have hb' : first (hasN d s) (false, default, ()) n 0 = b := hb
  have hne : ∀ i, i < j → d.ss i 0 ≠ s := fun i hi h => by
   have := hbef i (by omega) hi
   simp [hasN, h] at this
  unfold hasN at hg
  by_cases h : d.ss j 0 = s
  ·simp [h] at hg
   exact ⟨j, by omega, by rw [hb', ← hg]; rfl, h, hne⟩
  ·simp [h] at hg
 ·right
  have hb' : first (hasN d s) (false, default, ()) n 0 = (false, default, ()) := hb
  refine ⟨by rw [hb']; rfl, fun j hj h => ?_⟩
  have := hall j (by omega) (by omega)
  simp [hasN, h] at this
end Go.Proofs.Ytmndejpcpfkajaa
