/-
  The law 'TopDiveWindows': its model is true, and its need. Conditions: none.
-/
import Derived.Test.YtbhldggbjjailaaAFDiveWindows
import Derived.Test.YtbhldggbjjailaaAPApt
import Derived.Test.YtbhldggbjjailaaAPLoop
import Derived.Test.YtbhldggbjjailaaAPAng
import Derived.Test.YtbhldggbjjailaaAPCheckW
import Derived.Test.YtbhldggbjjailaaAPFits
import Derived.Test.YtbhldggbjjailaaAPCirc
import Derived.Test.YtbhldggbjjailaaAPRay
import Derived.Test.YtbhldggbjjailaaAPCos
import Derived.Test.YtbhldggbjjailaaAPTide
import Derived.Test.YtbhldggbjjailaaAPLevels
import Derived.Test.YtbhldggbjjailaaAPWin
import Derived.Test.YtbhldggbjjailaaAPMeet
import Derived.Test.YtbhldggbjjailaaAPRuns
import Derived.Test.YtbhldggbjjailaaAPSlackW
import Derived.Test.YtbhldggbjjailaaAPSurely
import Derived.Test.YtbhldggbjjailaaAPWinds
import Derived.Test.YtbhldggbjjailaaAPWinds2
import Derived.Test.YtbhldggbjjailaaAPWinds3
import Derived.Test.YtbhldggbjjailaaAPDive
import Derived.Test.YtbhldggbjjailaaAPDive2
import Derived.Test.YtbhldggbjjailaaA1
import Derived.Test.YtbhldggbjjailaaA2
import Derived.Test.YtbhldggbjjailaaA3
import Derived.Test.YtbhldggbjjailaaA4
import Derived.Test.YtbhldggbjjailaaA5
namespace Go.Proofs.Ytbhldggbjjailaa
open Go Go.Sy
set_option linter.unusedVariables false
set_option linter.unusedSimpArgs false
set_option maxRecDepth 100000
section
variable {M : Int} {n : Nat} {d : Dat} {l lo hi mins : Int} {s0 s1 s2 s3 s4 s5 s6 s7 : Int} {nw : Nat} {dw : Dat} {q : Nat} {D : Dat}
theorem intAt_six {b : Bool} {sec : Int} (h0 : 0 ≤ sec) (h1 : sec ≤ 7) : intAt [SV.int IntKind.i64 M, SV.ro [Kd.int IntKind.i64, Kd.int IntKind.i64, Kd.int IntKind.i64] n d, SV.int IntKind.i64 l, SV.int IntKind.i64 lo, SV.int IntKind.i64 hi, SV.bool b, SV.int IntKind.i64 s0, SV.int IntKind.i64 s1, SV.int IntKind.i64 s2, SV.int IntKind.i64 s3, SV.int IntKind.i64 s4, SV.int IntKind.i64 s5, SV.int IntKind.i64 s6, SV.int IntKind.i64 s7, SV.ro [Kd.int IntKind.i64, Kd.int IntKind.i64, Kd.int IntKind.i64] nw dw] (((6 + (sec.toNat * 1)) + 0) + 0) =
    intAt [SV.int IntKind.i64 s0, SV.int IntKind.i64 s1, SV.int IntKind.i64 s2, SV.int IntKind.i64 s3, SV.int IntKind.i64 s4, SV.int IntKind.i64 s5, SV.int IntKind.i64 s6, SV.int IntKind.i64 s7] (((0 + (sec.toNat * 1)) + 0) + 0) := by
  obtain ⟨i, hi⟩ : ∃ i : Nat, i = sec.toNat := ⟨_, rfl⟩
  have h8 : i < 8 := by omega
  rw [← hi]
  match i, h8 with
  | 0, _ | 1, _ | 2, _ | 3, _ | 4, _ | 5, _ | 6, _ | 7, _ => rfl
/-- A minute's round finds nothing wrong. -/
theorem dive_loop (T : Tab M n d) (c2 : m129 M n d = 0) (q2 : n129 M n d = true) (Wd : Wds nw dw) (w2 : n77 nw dw = true) (w3 : m77 nw dw = 0) (S : Spn lo hi) (l0 : 0 ≤ l) (l1 : l ≤ 10000000)
    (g32 : ∀ m, n32 q D m = true) (hin : ∀ m, lo ≤ m → m ≤ hi → m32 q D m = (decide (slk M n d m l = 2) && hasC nw dw s0 s1 s2 s3 s4 s5 s6 s7 m)) : ∀ (k f : Nat) (t : Int), t + (k : Int) = hi + 1 → lo ≤ t → k < f →
    l3_0 mins q D M n d l lo hi true s0 s1 s2 s3 s4 s5 s6 s7 nw dw f t = some (false, default, ())
  | 0, f, t, ht, h1, hf => by
    obtain ⟨f, rfl⟩ : ∃ f', f = f' + 1 := ⟨f - 1, by omega⟩
    simp only [l3_0, decide_eq_false (show ¬ t ≤ hi by omega), cond_false]
  | k + 1, f, t, ht, h1, hf => by
    obtain ⟨f, rfl⟩ : ∃ f', f = f' + 1 := ⟨f - 1, by omega⟩
    obtain ⟨S0, S1, S2, S3⟩ := S
    have ih := dive_loop T c2 q2 Wd w2 w3 ⟨S0, S1, S2, S3⟩ l0 l1 g32 hin k f (t + 1) (by omega) (by omega) (by omega)
    have wt : IntKind.i64.wrap (t + 1) = t + 1 := wr (by omega) (by omega)
    have wl : IntKind.i64.wrap (0 - l) = -l := by rw [wr (by omega) (by omega)]; omega
    have hm : m39 t = true := m39_iff.2 ⟨by omega, by omega⟩
    have hm' : m93 t = true := by rw [m93_m22]; exact hm
    have hl : m24 l 0 10000000 = true := m24_iff.2 ⟨l0, l1⟩
    obtain ⟨a1, a2⟩ := m28_ok (t := t) (l := l) T c2 q2
    obtain ⟨b1, b2⟩ := m29_ok (t := t) T c2 q2
    simp only [hm, hl, cond_true, cond_false] at a2 b2
    obtain ⟨_, f90, _⟩ := wind_ok Wd t
    have n30e : n30 nw dw t = true := by simp only [n30, w2, w3, hm', f90, decide_true, cond_true, cond_false]; rfl
    have hi' := hin t h1 (by omega)
    have z0 : decide ((0 : Int) = 0) = true := rfl
    have z19 : decide ((19 : Int) = 0) = false := rfl
    have zt : decide (t ≤ hi) = true := decide_eq_true (by omega)
    have slk2 : ∀ b : Bool, (decide (slk M n d t l = 2) && b) = true → decide ((LV M n d t).1 < -l) = false ∧ decide (l < (LV M n d t).2) = false := fun b hb => by
      rw [Bool.and_eq_true] at hb
      have := slk_two (of_decide_eq_true hb.1)
      exact ⟨decide_eq_false (by omega), decide_eq_false (by omega)⟩
    cases hw : (m90 nw dw t).2.2.2 with
    | false =>
      have m30e : m30 nw dw t = (0, 0, 0, 19) := by simp only [m30, w3, hm', hw, decide_true, cond_true, cond_false]
      have hc : hasC nw dw s0 s1 s2 s3 s4 s5 s6 s7 t = false := by simp only [hasC, hw, cond_false]
      rw [hc, Bool.and_false] at hi'
      simp only [l3_0, zt, a1, b1, n30e, a2, b2, m30e, z19, z0, g32, hi', wt, cond_true, cond_false]
      cases decide (slk M n d t l = 2) <;> simp only [cond_true, cond_false, decide_true] <;> exact ih
    | true =>
      obtain ⟨p0, p1⟩ := m90_sec Wd t hw
      have m30e : m30 nw dw t = ((m90 nw dw t).1, (m90 nw dw t).2.1, (m90 nw dw t).2.2.1, 0) := by simp only [m30, w3, hm', hw, decide_true, cond_true, cond_false]
      obtain ⟨u1, u2⟩ := mod8 p0 p1
      have hs : m24 (m90 nw dw t).2.1 0 7 = true := m24_iff.2 ⟨p0, p1⟩
      have v1 : decide (0 ≤ m31 (m90 nw dw t).2.1 8 ∧ m31 (m90 nw dw t).2.1 8 < (8 : Int)) = true := decide_eq_true (by rw [u2]; exact ⟨p0, by omega⟩)
      have v2 : decide ((m31 (m90 nw dw t).2.1 8).toNat < 8) = true := decide_eq_true (by rw [u2]; omega)
      have v3 : intAt [SV.int IntKind.i64 M, SV.ro [Kd.int IntKind.i64, Kd.int IntKind.i64, Kd.int IntKind.i64] n d, SV.int IntKind.i64 l, SV.int IntKind.i64 lo, SV.int IntKind.i64 hi, SV.bool true, SV.int IntKind.i64 s0, SV.int IntKind.i64 s1, SV.int IntKind.i64 s2, SV.int IntKind.i64 s3, SV.int IntKind.i64 s4, SV.int IntKind.i64 s5, SV.int IntKind.i64 s6, SV.int IntKind.i64 s7, SV.ro [Kd.int IntKind.i64, Kd.int IntKind.i64, Kd.int IntKind.i64] nw dw] (((6 + ((m31 (m90 nw dw t).2.1 8).toNat * 1)) + 0) + 0) =
          intAt [SV.int IntKind.i64 s0, SV.int IntKind.i64 s1, SV.int IntKind.i64 s2, SV.int IntKind.i64 s3, SV.int IntKind.i64 s4, SV.int IntKind.i64 s5, SV.int IntKind.i64 s6, SV.int IntKind.i64 s7] (((0 + ((m90 nw dw t).2.1.toNat * 1)) + 0) + 0) := by rw [u2]; exact intAt_six p0 p1
      have hc : hasC nw dw s0 s1 s2 s3 s4 s5 s6 s7 t = decide ((m90 nw dw t).2.2.1 ≤ intAt [SV.int IntKind.i64 s0, SV.int IntKind.i64 s1, SV.int IntKind.i64 s2, SV.int IntKind.i64 s3, SV.int IntKind.i64 s4, SV.int IntKind.i64 s5, SV.int IntKind.i64 s6, SV.int IntKind.i64 s7] (((0 + ((m90 nw dw t).2.1.toNat * 1)) + 0) + 0)) := by simp only [hasC, hw, cond_true]
      rw [hc] at hi'
      have key := slk2 (decide ((m90 nw dw t).2.2.1 ≤ intAt [SV.int IntKind.i64 s0, SV.int IntKind.i64 s1, SV.int IntKind.i64 s2, SV.int IntKind.i64 s3, SV.int IntKind.i64 s4, SV.int IntKind.i64 s5, SV.int IntKind.i64 s6, SV.int IntKind.i64 s7] (((0 + ((m90 nw dw t).2.1.toNat * 1)) + 0) + 0)))
      simp only [l3_0, zt, a1, b1, n30e, a2, b2, m30e, z0, hs, u1, v1, v2, v3, g32, hi', wt, wl, cond_true, cond_false]
      generalize decide ((m90 nw dw t).2.2.1 ≤ intAt [SV.int IntKind.i64 s0, SV.int IntKind.i64 s1, SV.int IntKind.i64 s2, SV.int IntKind.i64 s3, SV.int IntKind.i64 s4, SV.int IntKind.i64 s5, SV.int IntKind.i64 s6, SV.int IntKind.i64 s7] (((0 + ((m90 nw dw t).2.1.toNat * 1)) + 0) + 0)) = B at *
      cases hA : decide (slk M n d t l = 2) with
      | false => cases B <;> simp only [Bool.false_and, cond_true, cond_false, decide_true] <;> exact ih
      | true =>
        rw [hA] at key
        cases B with
        | false => simp only [Bool.and_false, cond_true, cond_false, decide_true]; exact ih
        | true =>
          obtain ⟨k1, k2⟩ := key rfl
          simp only [Bool.and_true, k1, k2, cond_true, cond_false, decide_true]; exact ih
end
end Go.Proofs.Ytbhldggbjjailaa
