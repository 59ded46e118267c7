/-
  Winds: the checks of program and reference alike; the wind at a minute. Conditions: none.
-/
import Derived.Test.YtbhldggbjjailaaA1
import Derived.Test.YtbhldggbjjailaaA2
import Derived.Test.YtbhldggbjjailaaA3
import Derived.Test.YtbhldggbjjailaaA4
import Derived.Test.YtbhldggbjjailaaA5
import Derived.Test.YtbhldggbjjailaaAFDiveWindows
import Derived.Test.YtbhldggbjjailaaAPApt
import Derived.Test.YtbhldggbjjailaaAPLoop
import Derived.Test.YtbhldggbjjailaaAPAng
import Derived.Test.YtbhldggbjjailaaAPCheckW
import Derived.Test.YtbhldggbjjailaaAPFits
import Derived.Test.YtbhldggbjjailaaAPCirc
import Derived.Test.YtbhldggbjjailaaAPRay
import Derived.Test.YtbhldggbjjailaaAPCos
import Derived.Test.YtbhldggbjjailaaAPTide
import Derived.Test.YtbhldggbjjailaaAPLevels
import Derived.Test.YtbhldggbjjailaaAPWin
import Derived.Test.YtbhldggbjjailaaAPMeet
import Derived.Test.YtbhldggbjjailaaAPRuns
import Derived.Test.YtbhldggbjjailaaAPSlackW
import Derived.Test.YtbhldggbjjailaaAPSurely
namespace Go.Proofs.Ytbhldggbjjailaa
open Go Go.Sy
set_option linter.unusedVariables false
set_option linter.unusedSimpArgs false
set_option maxRecDepth 100000
attribute [local simp] brk
noncomputable def badD (d : Dat) (i : Nat) : Option (Bool × Int × Unit) :=
  cond (bif (bif (bif (m39 (d.ii i 0)) then false else true) then true else (bif (m24 (d.ii i 1) 0 7) then false else true)) then true else (bif (m24 (d.ii i 2) 0 200) then false else true)) (some (true, 2, default))
    (cond (bif decide (0 < i) then decide (d.ii i 0 ≤ d.ii (i - 1) 0) else false) (some (true, 9, default)) none)
theorem m88_m29 (x : Int) : m88 x = m24 x 0 200 := rfl
section
variable {n : Nat} {d : Dat}
theorem l21_all (hn : n ≤ 9223372036854775807) : o21_0 n d 0 = some (first (badD d) (false, default, ()) n 0) := by
  refine loop_first (n := n) (l := l21_0 n d) hn (fun f i hi => ?_) (fun f => by simp only [l21_0, cdn]; rfl) n 0 _ (by omega) (by omega)
  have w : IntKind.i64.wrap ((i : Int) - 1) = (i : Int) - 1 := wr (by omega) (by omega)
  have t : ((i : Int) - 1).toNat = i - 1 := by omega
  by_cases h0 : 0 < i
  · have z : decide ((0 : Int) < (i : Int)) = true := decide_eq_true (by omega)
    have z2 : decide (0 ≤ (i : Int) - 1 ∧ (i : Int) - 1 < (n : Int)) = true := decide_eq_true ⟨by omega, by omega⟩
    simp only [l21_0, cdl hi, cdd hi, cond_true, Int.toNat_natCast, badD, w, t, z, z2, decide_eq_true h0]
    cases m39 (d.ii i 0) <;> cases m24 (d.ii i 1) 0 7 <;> cases m24 (d.ii i 2) 0 200 <;> cases decide (d.ii i 0 ≤ d.ii (i - 1) 0) <;> simp
  · have z : decide ((0 : Int) < (i : Int)) = false := decide_eq_false (by omega)
    simp only [l21_0, cdl hi, cdd hi, cond_true, Int.toNat_natCast, badD, w, t, z, decide_eq_false h0]
    cases m39 (d.ii i 0) <;> cases m24 (d.ii i 1) 0 7 <;> cases m24 (d.ii i 2) 0 200 <;> simp
theorem l77_all (hn : n ≤ 9223372036854775807) : o77_1 n d d (n : Int) 0 = some (first (badD d) (false, default, ()) n 0) := by
  refine loop_first (n := n) (l := l77_1 n d d (n : Int)) hn (fun f i hi => ?_) (fun f => by simp only [l77_1, cdn]; rfl) n 0 _ (by omega) (by omega)
  have w : IntKind.i64.wrap ((i : Int) - 1) = (i : Int) - 1 := wr (by omega) (by omega)
  have t : ((i : Int) - 1).toNat = i - 1 := by omega
  by_cases h0 : 0 < i
  · have z : decide ((0 : Int) < (i : Int)) = true := decide_eq_true (by omega)
    have z2 : decide (0 ≤ (i : Int) - 1 ∧ (i : Int) - 1 < (n : Int)) = true := decide_eq_true ⟨by omega, by omega⟩
    simp only [l77_1, cdl hi, cdd hi, cond_true, Int.toNat_natCast, badD, w, t, z, z2, m93_m22, m95_m29, m88_m29, decide_eq_true h0]
    cases m39 (d.ii i 0) <;> cases m24 (d.ii i 1) 0 7 <;> cases m24 (d.ii i 2) 0 200 <;> cases decide (d.ii i 0 ≤ d.ii (i - 1) 0) <;> simp
  · have z : decide ((0 : Int) < (i : Int)) = false := decide_eq_false (by omega)
    simp only [l77_1, cdl hi, cdd hi, cond_true, Int.toNat_natCast, badD, w, t, z, m93_m22, m95_m29, m88_m29, decide_eq_false h0]
    cases m39 (d.ii i 0) <;> cases m24 (d.ii i 1) 0 7 <;> cases m24 (d.ii i 2) 0 200 <;> simp
/-- Right winds. -/
structure Wds (n : Nat) (d : Dat) : Prop where
  pos : 0 < n
  few : n ≤ 60
  lo : ∀ i, i < n → 0 ≤ d.ii i 0 ∧ d.ii i 0 ≤ 1000000
  sec : ∀ i, i < n → 0 ≤ d.ii i 1 ∧ d.ii i 1 ≤ 7
  frc : ∀ i, i < n → 0 ≤ d.ii i 2 ∧ d.ii i 2 ≤ 200
  up : ∀ i, i + 1 < n → d.ii i 0 < d.ii (i + 1) 0
theorem badD_none {i : Nat} (h : badD d i = none) : (0 ≤ d.ii i 0 ∧ d.ii i 0 ≤ 1000000) ∧ (0 ≤ d.ii i 1 ∧ d.ii i 1 ≤ 7) ∧ (0 ≤ d.ii i 2 ∧ d.ii i 2 ≤ 200) ∧ (0 < i → d.ii (i - 1) 0 < d.ii i 0) := by
  simp only [badD] at h
  cases a : m39 (d.ii i 0) with
  | false => rw [a] at h; cases h
  | true =>
    cases b : m24 (d.ii i 1) 0 7 with
    | false => rw [a, b] at h; cases h
    | true =>
      cases c : m24 (d.ii i 2) 0 200 with
      | false => rw [a, b, c] at h; cases h
      | true =>
        rw [a, b, c] at h
        refine ⟨m39_iff.1 a, m24_iff.1 b, m24_iff.1 c, fun hi => ?_⟩
        rw [decide_eq_true hi] at h
        by_cases e : d.ii i 0 ≤ d.ii (i - 1) 0
        · rw [decide_eq_true e] at h; cases h
        · omega
theorem winds_cases (hn : n ≤ 9223372036854775807) : n21 n d = true ∧ n77 n d = true ∧ m77 n d = m21 n d ∧ ((Wds n d ∧ m21 n d = 0) ∨ m21 n d ≠ 0) := by
  by_cases h0 : n = 0
  · subst h0
    have z : decide (((0 : Nat) : Int) = 0) = true := rfl
    exact ⟨by simp only [n21, z, cond_true], by simp only [n77, z, cond_true], by simp only [m21, m77, z, cond_true], .inr (by simp only [m21, z, cond_true]; decide)⟩
  · have z0 : decide ((n : Int) = 0) = false := decide_eq_false (by omega)
    by_cases h60 : 60 < n
    · have z : decide ((60 : Int) < (n : Int)) = true := decide_eq_true (by omega)
      exact ⟨by simp only [n21, z0, z, cond_true, cond_false], by simp only [n77, z0, z, cond_true, cond_false], by simp only [m21, m77, z0, z, cond_true, cond_false], .inr (by simp only [m21, z0, z, cond_true, cond_false]; decide)⟩
    · have z : decide ((60 : Int) < (n : Int)) = false := decide_eq_false (by omega)
      refine ⟨by simp only [n21, z0, z, l21_all hn, cond_false]; rfl, by simp only [n77, z0, z, l77_all hn, cond_false]; rfl, by simp only [m21, m77, z0, z, l21_all hn, l77_all hn, cond_false], ?_⟩
      simp only [m21, z0, z, l21_all hn, cond_false, Option.getD_some]
      rcases first_cases (g := badD d) (e := (false, default, ())) n 0 with ⟨j, b, _, _, h3, _, h5⟩ | ⟨h1, h2⟩
      · right
        rw [h5]
        simp only [badD] at h3
        revert h3
        cases (bif (bif (bif (m39 (d.ii j 0)) then false else true) then true else (bif (m24 (d.ii j 1) 0 7) then false else true)) then true else (bif (m24 (d.ii j 2) 0 200) then false else true)) <;> cases (bif decide (0 < j) then decide (d.ii j 0 ≤ d.ii (j - 1) 0) else false) <;> intro h3 <;> cases h3 <;> simp
      · left
        have g := fun i (hi : i < n) => badD_none (h1 i (Nat.zero_le _) (by omega))
        refine ⟨⟨by omega, by omega, fun i hi => (g i hi).1, fun i hi => (g i hi).2.1, fun i hi => (g i hi).2.2.1, fun i hi => ?_⟩, by rw [h2]; rfl⟩
        have a := (g (i + 1) hi).2.2.2 (by omega)
        rwa [Nat.add_sub_cancel] at a
theorem l78_run {t : Int} (hn : n ≤ 60) (x y z : Int) : ∀ (k i f : Nat) (j : Nat), i + k = n → k < f → wlast d t i = some j →
    ∃ j', wlast d t n = some j' ∧ l78_0 n d t x y z f (i : Int) (d.ii j 0) (d.ii j 1) (d.ii j 2) = some (d.ii j' 0, d.ii j' 1, d.ii j' 2)
  | 0, i, f, j, hi, hf, h => by
    obtain ⟨f, rfl⟩ : ∃ g, f = g + 1 := ⟨f - 1, by omega⟩
    obtain rfl : i = n := by omega
    exact ⟨j, h, by simp only [l78_0, cdn, cond_false]⟩
  | k + 1, i, f, j, hi, hf, h => by
    obtain ⟨f, rfl⟩ : ∃ g, f = g + 1 := ⟨f - 1, by omega⟩
    have hlt : i < n := by omega
    by_cases hc : d.ii i 0 ≤ t
    · obtain ⟨j', a, b⟩ := l78_run (t := t) hn x y z k (i + 1) f i (by omega) (by omega) (by simp only [wlast, decide_eq_true hc, cond_true])
      exact ⟨j', a, by simp only [l78_0, cdl hlt, cdd hlt, Int.toNat_natCast, decide_eq_true hc, wrS hlt (by omega), cond_true]; exact b⟩
    · obtain ⟨j', a, b⟩ := l78_run (t := t) hn x y z k (i + 1) f j (by omega) (by omega) (by simp only [wlast, decide_eq_false hc, cond_false]; exact h)
      exact ⟨j', a, by simp only [l78_0, cdl hlt, cdd hlt, Int.toNat_natCast, decide_eq_false hc, wrS hlt (by omega), cond_true, cond_false]; exact b⟩
theorem Wds.mono (W : Wds n d) : ∀ (k i : Nat), i + k < n → d.ii i 0 + (k : Int) ≤ d.ii (i + k) 0
  | 0, i, _ => by rw [Nat.add_zero]; omega
  | k + 1, i, h => by
    have := W.mono k i (by omega)
    have := W.up (i + k) (by omega)
    rw [show i + (k + 1) = i + k + 1 by omega]; omega
theorem wind_ok (W : Wds n d) (t : Int) : n78 n d t = true ∧ n90 n d t = true ∧ m78 n d t = m90 n d t := by
  have few := W.few
  have pos := W.pos
  have z : decide ((0 : Int) ≤ (0 : Int) ∧ (0 : Int) < (n : Int)) = true := decide_eq_true ⟨by omega, by omega⟩
  have f123 : n90 n d t = true := by simp only [n90]; exact decide_eq_true (by omega)
  by_cases hc : t < d.ii 0 0
  · have hw : wlast d t n = none := wlast_none fun i hi => by
      have := W.mono i 0 (by omega)
      rw [Nat.zero_add] at this
      omega
    refine ⟨by simp only [n78, z, decide_eq_true hc, cond_true]; rfl, f123, ?_⟩
    simp only [m78, m90, hw, decide_eq_true hc, cond_true]
  · obtain ⟨j', a, b⟩ := l78_run (d := d) (t := t) few 0 0 0 (n - 1) 1 (n + t.toNat + (1 : Int).toNat + (0 : Int).toNat + (0 : Int).toNat + (0 : Int).toNat + (d.ii 0 0).toNat + (d.ii 0 1).toNat + (d.ii 0 2).toNat + 8) 0 (by omega) (by omega) (by simp only [wlast, decide_eq_true (show d.ii 0 0 ≤ t by omega), cond_true])
    have o : o78_0 n d t 0 0 0 1 (d.ii 0 0) (d.ii 0 1) (d.ii 0 2) = some (d.ii j' 0, d.ii j' 1, d.ii j' 2) := b
    refine ⟨by simp only [n78, z, decide_eq_false hc, o, cond_false]; rfl, f123, ?_⟩
    simp only [m78, m90, a, o, decide_eq_false hc, cond_false, Option.getD_some]
end
end Go.Proofs.Ytbhldggbjjailaa
