/-
  Winds: the calm windows of program and reference. Conditions: none.
-/
import Derived.Test.YtbhldggbjjailaaAFDiveWindows
import Derived.Test.YtbhldggbjjailaaAPApt
import Derived.Test.YtbhldggbjjailaaAPLoop
import Derived.Test.YtbhldggbjjailaaAPAng
import Derived.Test.YtbhldggbjjailaaAPCheckW
import Derived.Test.YtbhldggbjjailaaAPFits
import Derived.Test.YtbhldggbjjailaaAPCirc
import Derived.Test.YtbhldggbjjailaaAPRay
import Derived.Test.YtbhldggbjjailaaAPCos
import Derived.Test.YtbhldggbjjailaaAPTide
import Derived.Test.YtbhldggbjjailaaAPLevels
import Derived.Test.YtbhldggbjjailaaAPWin
import Derived.Test.YtbhldggbjjailaaAPMeet
import Derived.Test.YtbhldggbjjailaaAPRuns
import Derived.Test.YtbhldggbjjailaaAPSlackW
import Derived.Test.YtbhldggbjjailaaAPSurely
import Derived.Test.YtbhldggbjjailaaAPWinds
import Derived.Test.YtbhldggbjjailaaA1
import Derived.Test.YtbhldggbjjailaaA2
import Derived.Test.YtbhldggbjjailaaA3
import Derived.Test.YtbhldggbjjailaaA4
import Derived.Test.YtbhldggbjjailaaA5
namespace Go.Proofs.Ytbhldggbjjailaa
open Go Go.Sy
set_option linter.unusedVariables false
set_option linter.unusedSimpArgs false
set_option maxRecDepth 100000
section
variable {n : Nat} {d : Dat} {s0 s1 s2 s3 s4 s5 s6 s7 : Int}
noncomputable def hasC (n : Nat) (d : Dat) (s0 s1 s2 s3 s4 s5 s6 s7 : Int) (t : Int) : Bool :=
  bif (m90 n d t).2.2.2 then decide ((m90 n d t).2.2.1 ≤ intAt [SV.int IntKind.i64 s0, SV.int IntKind.i64 s1, SV.int IntKind.i64 s2, SV.int IntKind.i64 s3, SV.int IntKind.i64 s4, SV.int IntKind.i64 s5, SV.int IntKind.i64 s6, SV.int IntKind.i64 s7] (((0 + ((m90 n d t).2.1.toNat * 1)) + 0) + 0)) else false
theorem wlast_up {t t' : Int} (h : t ≤ t') : ∀ {n j : Nat}, wlast d t n = some j → j < n ∧ ∃ j', wlast d t' n = some j' ∧ j ≤ j'
  | 0, j, e => by cases e
  | n + 1, j, e => by
    simp only [wlast] at e ⊢
    by_cases hc : d.ii n 0 ≤ t
    · rw [decide_eq_true hc, cond_true] at e
      cases e
      rw [decide_eq_true (show d.ii n 0 ≤ t' by omega), cond_true]
      exact ⟨by omega, n, rfl, Nat.le_refl _⟩
    · rw [decide_eq_false hc, cond_false] at e
      obtain ⟨h1, j', h2, h3⟩ := wlast_up h e
      by_cases hc' : d.ii n 0 ≤ t'
      · rw [decide_eq_true hc', cond_true]; exact ⟨by omega, n, rfl, by omega⟩
      · rw [decide_eq_false hc', cond_false]; exact ⟨by omega, j', h2, h3⟩
theorem m90_sec (W : Wds n d) (t : Int) (h : (m90 n d t).2.2.2 = true) : 0 ≤ (m90 n d t).2.1 ∧ (m90 n d t).2.1 ≤ 7 := by
  cases e : wlast d t n with
  | none => simp only [m90, e] at h; cases h
  | some j =>
    have := W.sec j (wlast_up (Int.le_refl t) e).1
    simp only [m90, e]; exact this
theorem m89_ok (W : Wds n d) (t : Int) : n89 t (datC [SV.ro [Kd.int IntKind.i64, Kd.int IntKind.i64, Kd.int IntKind.i64] n d]) s0 s1 s2 s3 s4 s5 s6 s7 = true ∧ m89 t (datC [SV.ro [Kd.int IntKind.i64, Kd.int IntKind.i64, Kd.int IntKind.i64] n d]) s0 s1 s2 s3 s4 s5 s6 s7 = (hasC n d s0 s1 s2 s3 s4 s5 s6 s7 t, s0, s1, s2, s3, s4, s5, s6, s7) := by
  have e1 : (datC [SV.ro [Kd.int IntKind.i64, Kd.int IntKind.i64, Kd.int IntKind.i64] n d]).sn 0 0 = n := rfl
  have e2 : (datC [SV.ro [Kd.int IntKind.i64, Kd.int IntKind.i64, Kd.int IntKind.i64] n d]).sub 0 0 = d := rfl
  refine ⟨?_, by simp only [m89, e1, e2]; rfl⟩
  have f := (wind_ok W t).2.1
  simp only [n89, e1, e2, f]
  cases h : (m90 n d t).2.2.2 with
  | false => rfl
  | true =>
    obtain ⟨a, b⟩ := m90_sec W t h
    rw [decide_eq_true (show 0 ≤ (m90 n d t).2.1 ∧ (m90 n d t).2.1 < (8 : Int) from ⟨a, by omega⟩), decide_eq_true (show (m90 n d t).2.1.toNat < 8 by omega)]
    rfl
def idx (n : Nat) (d : Dat) (t : Int) : Nat := match wlast d t n with | some j => j + 1 | none => 0
theorem idx_le (t : Int) : idx n d t ≤ n := by
  unfold idx
  cases e : wlast d t n with
  | none => exact Nat.zero_le _
  | some j => exact (wlast_up (Int.le_refl t) e).1
theorem idx_up (t : Int) : idx n d t ≤ idx n d (t + 1) := by
  unfold idx
  cases e : wlast d t n with
  | none => exact Nat.zero_le _
  | some j =>
    obtain ⟨_, j', e', h⟩ := wlast_up (show t ≤ t + 1 by omega) e
    rw [e']; exact Nat.succ_le_succ h
theorem hasC_idx {t t' : Int} (h : idx n d t = idx n d t') : hasC n d s0 s1 s2 s3 s4 s5 s6 s7 t = hasC n d s0 s1 s2 s3 s4 s5 s6 s7 t' := by
  have e : wlast d t n = wlast d t' n := by
    unfold idx at h
    cases e1 : wlast d t n <;> cases e2 : wlast d t' n <;> rw [e1, e2] at h <;> simp at h <;> simp [h]
  unfold hasC m90; rw [e]
theorem hasC_pos {t : Int} (h : hasC n d s0 s1 s2 s3 s4 s5 s6 s7 t = true) : 0 < idx n d t := by
  unfold idx
  cases e : wlast d t n with
  | none => simp only [hasC, m90, e, cond_false] at h; cases h
  | some j => exact Nat.succ_pos _
theorem wl_last {P : Int → Bool} {lo : Int} {k : Nat} (h : P (lo + (k : Int)) = true) : ∃ a T, wl P lo (k + 1) = (a, lo + (k : Int)) :: T := by
  simp only [wl, h, if_true]
  split
  · exact ⟨_, _, rfl⟩
  · split <;> exact ⟨_, _, rfl⟩
theorem wl_few (lo : Int) : ∀ k : Nat, (wl (hasC n d s0 s1 s2 s3 s4 s5 s6 s7) lo (k + 1)).length ≤ idx n d (lo + (k : Int))
  | 0 => by
    simp only [wl]
    split
    · rename_i h
      exact hasC_pos h
    · exact Nat.zero_le _
  | k + 1 => by
    have ih := wl_few lo k
    have up := idx_up (n := n) (d := d) (lo + (k : Int))
    rw [show lo + (k : Int) + 1 = lo + ((k + 1 : Nat) : Int) by omega] at up
    by_cases hp : hasC n d s0 s1 s2 s3 s4 s5 s6 s7 (lo + ((k + 1 : Nat) : Int)) = true
    · by_cases hi : idx n d (lo + (k : Int)) = idx n d (lo + ((k + 1 : Nat) : Int))
      · have hp' : hasC n d s0 s1 s2 s3 s4 s5 s6 s7 (lo + (k : Int)) = true := by rw [hasC_idx hi]; exact hp
        obtain ⟨a, T, e⟩ := wl_last hp'
        rw [e] at ih
        have e2 : wl (hasC n d s0 s1 s2 s3 s4 s5 s6 s7) lo (k + 1 + 1) = (a, lo + ((k + 1 : Nat) : Int)) :: T := by
          rw [wl, if_pos hp, e]
          simp only [if_pos (show lo + (k : Int) + 1 = lo + ((k + 1 : Nat) : Int) by omega)]
        rw [e2]
        simp only [List.length_cons] at ih ⊢
        omega
      · have : (wl (hasC n d s0 s1 s2 s3 s4 s5 s6 s7) lo (k + 1 + 1)).length ≤ (wl (hasC n d s0 s1 s2 s3 s4 s5 s6 s7) lo (k + 1)).length + 1 := by
          rw [wl, if_pos hp]
          split
          · simp
          · split <;> rename_i e _ <;> rw [e] <;> simp
        omega
    · have e2 : wl (hasC n d s0 s1 s2 s3 s4 s5 s6 s7) lo (k + 1 + 1) = wl (hasC n d s0 s1 s2 s3 s4 s5 s6 s7) lo (k + 1) := by rw [wl, if_neg hp]
      rw [e2]; omega
theorem l117w_run (W : Wds n d) {lo hi : Int} (h0 : 0 ≤ lo) (h1 : hi ≤ 1000000) : ∀ (k i f c : Nat) (D : Dat), lo + ((i + k : Nat) : Int) = hi + 1 → i + k ≤ 3000 → k < f → Rep c D (wl (hasC n d s0 s1 s2 s3 s4 s5 s6 s7) lo i) →
    ∃ c' D', Rep c' D' (wl (hasC n d s0 s1 s2 s3 s4 s5 s6 s7) lo (i + k)) ∧ l84c89_0 (datC [SV.ro [Kd.int IntKind.i64, Kd.int IntKind.i64, Kd.int IntKind.i64] n d]) lo hi f (lo + (i : Int)) s0 s1 s2 s3 s4 s5 s6 s7 c c D = some (s0, s1, s2, s3, s4, s5, s6, s7, c', c', D')
  | 0, i, f, c, D, he, hk, hf, R => by
    obtain ⟨f, rfl⟩ : ∃ f', f = f' + 1 := ⟨f - 1, by omega⟩
    refine ⟨c, D, R, ?_⟩
    have : decide (lo + (i : Int) ≤ hi) = false := decide_eq_false (by omega)
    simp only [l84c89_0, this, cond_false]
  | k + 1, i, f, c, D, he, hk, hf, R => by
    obtain ⟨f, rfl⟩ : ∃ f', f = f' + 1 := ⟨f - 1, by omega⟩
    have z : decide (lo + (i : Int) ≤ hi) = true := decide_eq_true (by omega)
    obtain ⟨g1, g2⟩ := m89_ok (s0 := s0) (s1 := s1) (s2 := s2) (s3 := s3) (s4 := s4) (s5 := s5) (s6 := s6) (s7 := s7) W (lo + (i : Int))
    have w : IntKind.i64.wrap (lo + (i : Int) + 1) = lo + ((i + 1 : Nat) : Int) := by rw [wr (by omega) (by omega)]; omega
    cases hp : hasC n d s0 s1 s2 s3 s4 s5 s6 s7 (lo + (i : Int)) with
    | true =>
      obtain ⟨a1, c', D', a2, a3⟩ := add_ok R h0 (by omega) (by omega) hp
      obtain ⟨c2, D2, R2, e2⟩ := l117w_run W h0 h1 k (i + 1) f c' D' (by rw [← he]; omega) (by omega) (by omega) a3
      refine ⟨c2, D2, by rwa [show i + 1 + k = i + (k + 1) by omega] at R2, ?_⟩
      simp only [l84c89_0, z, g1, g2, hp, a1, a2, w, cond_true]
      exact e2
    | false =>
      have e : wl (hasC n d s0 s1 s2 s3 s4 s5 s6 s7) lo (i + 1) = wl (hasC n d s0 s1 s2 s3 s4 s5 s6 s7) lo i := by simp [wl, hp]
      obtain ⟨c2, D2, R2, e2⟩ := l117w_run W h0 h1 k (i + 1) f c D (by rw [← he]; omega) (by omega) (by omega) (by rw [e]; exact R)
      refine ⟨c2, D2, by rwa [show i + 1 + k = i + (k + 1) by omega] at R2, ?_⟩
      simp only [l84c89_0, z, g1, g2, hp, w, cond_true, cond_false]
      exact e2
end
end Go.Proofs.Ytbhldggbjjailaa
