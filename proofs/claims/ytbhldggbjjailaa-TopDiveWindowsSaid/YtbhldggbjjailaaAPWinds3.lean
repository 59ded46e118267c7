/-
  The plain law of 'SiteWinds': the law's model is true, and its need. Conditions: none.
-/
import Derived.Test.YtbhldggbjjailaaAFDiveWindows
import Derived.Test.YtbhldggbjjailaaAPApt
import Derived.Test.YtbhldggbjjailaaAPLoop
import Derived.Test.YtbhldggbjjailaaAPAng
import Derived.Test.YtbhldggbjjailaaAPCheckW
import Derived.Test.YtbhldggbjjailaaAPFits
import Derived.Test.YtbhldggbjjailaaAPCirc
import Derived.Test.YtbhldggbjjailaaAPRay
import Derived.Test.YtbhldggbjjailaaAPCos
import Derived.Test.YtbhldggbjjailaaAPTide
import Derived.Test.YtbhldggbjjailaaAPLevels
import Derived.Test.YtbhldggbjjailaaAPWin
import Derived.Test.YtbhldggbjjailaaAPMeet
import Derived.Test.YtbhldggbjjailaaAPRuns
import Derived.Test.YtbhldggbjjailaaAPSlackW
import Derived.Test.YtbhldggbjjailaaAPSurely
import Derived.Test.YtbhldggbjjailaaAPWinds
import Derived.Test.YtbhldggbjjailaaAPWinds2
import Derived.Test.YtbhldggbjjailaaA1
import Derived.Test.YtbhldggbjjailaaA2
import Derived.Test.YtbhldggbjjailaaA3
import Derived.Test.YtbhldggbjjailaaA4
import Derived.Test.YtbhldggbjjailaaA5
namespace Go.Proofs.Ytbhldggbjjailaa
open Go Go.Sy
set_option linter.unusedVariables false
set_option linter.unusedSimpArgs false
set_option maxRecDepth 100000
set_option maxHeartbeats 1000000
attribute [local simp] brk
section
variable {n : Nat} {d : Dat} {s0 s1 s2 s3 s4 s5 s6 s7 : Int}
def Shl (s0 s1 s2 s3 s4 s5 s6 s7 : Int) : Prop := m24 s0 0 200 = true ∧ m24 s1 0 200 = true ∧ m24 s2 0 200 = true ∧ m24 s3 0 200 = true ∧ m24 s4 0 200 = true ∧ m24 s5 0 200 = true ∧ m24 s6 0 200 = true ∧ m24 s7 0 200 = true
noncomputable def badS8 (s0 s1 s2 s3 s4 s5 s6 s7 : Int) (i : Nat) : Option (Bool × Int × Unit) := cond (bif (m24 (intAt [SV.int IntKind.i64 s0, SV.int IntKind.i64 s1, SV.int IntKind.i64 s2, SV.int IntKind.i64 s3, SV.int IntKind.i64 s4, SV.int IntKind.i64 s5, SV.int IntKind.i64 s6, SV.int IntKind.i64 s7] (((0 + (i * 1)) + 0) + 0)) 0 200) then false else true) (some (true, 2, default)) none
theorem shel_run : o22_0 s0 s1 s2 s3 s4 s5 s6 s7 0 = some (first (badS8 s0 s1 s2 s3 s4 s5 s6 s7) (false, default, ()) 8 0) := by
  refine loop_first (n := 8) (l := l22_0 s0 s1 s2 s3 s4 s5 s6 s7) (by omega) (fun f i hi => ?_) (fun f => by simp only [l22_0]; rfl) 8 0 _ (by omega) (by omega)
  have z1 : decide ((i : Int) < 8) = true := decide_eq_true (by omega)
  have z2 : decide (0 ≤ (i : Int) ∧ (i : Int) < 8) = true := decide_eq_true ⟨by omega, by omega⟩
  have z3 : decide (i < 8) = true := decide_eq_true hi
  have z4 : decide (0 ≤ (i : Int) ∧ (i : Int) < ((8 : Nat) : Int)) = true := z2
  simp only [l22_0, z1, z2, z3, z4, Int.toNat_natCast, badS8, cond_true]
  cases m24 (intAt [SV.int IntKind.i64 s0, SV.int IntKind.i64 s1, SV.int IntKind.i64 s2, SV.int IntKind.i64 s3, SV.int IntKind.i64 s4, SV.int IntKind.i64 s5, SV.int IntKind.i64 s6, SV.int IntKind.i64 s7] (((0 + (i * 1)) + 0) + 0)) 0 200 <;> simp
theorem shel_cases : n22 s0 s1 s2 s3 s4 s5 s6 s7 = true ∧ ((Shl s0 s1 s2 s3 s4 s5 s6 s7 ∧ m22 s0 s1 s2 s3 s4 s5 s6 s7 = 0) ∨ (¬ Shl s0 s1 s2 s3 s4 s5 s6 s7 ∧ m22 s0 s1 s2 s3 s4 s5 s6 s7 = 2)) := by
  refine ⟨by simp only [n22, shel_run]; rfl, ?_⟩
  simp only [m22, shel_run, Option.getD_some]
  rcases first_cases (g := badS8 s0 s1 s2 s3 s4 s5 s6 s7) (e := (false, default, ())) 8 0 with ⟨j, b, _, hj, h3, _, h5⟩ | ⟨h1, h2⟩
  · right
    have hb : m24 (intAt [SV.int IntKind.i64 s0, SV.int IntKind.i64 s1, SV.int IntKind.i64 s2, SV.int IntKind.i64 s3, SV.int IntKind.i64 s4, SV.int IntKind.i64 s5, SV.int IntKind.i64 s6, SV.int IntKind.i64 s7] (((0 + (j * 1)) + 0) + 0)) 0 200 = false ∧ b = (true, 2, default) := by
      simp only [badS8] at h3
      cases hh : m24 (intAt [SV.int IntKind.i64 s0, SV.int IntKind.i64 s1, SV.int IntKind.i64 s2, SV.int IntKind.i64 s3, SV.int IntKind.i64 s4, SV.int IntKind.i64 s5, SV.int IntKind.i64 s6, SV.int IntKind.i64 s7] (((0 + (j * 1)) + 0) + 0)) 0 200 with
      | true => rw [hh] at h3; cases h3
      | false => rw [hh] at h3; exact ⟨rfl, (Option.some.inj h3).symm⟩
    refine ⟨fun h => ?_, by rw [h5, hb.2]; rfl⟩
    obtain ⟨h0', h1', h2', h3', h4', h5', h6', h7'⟩ := h
    have hb1 := hb.1
    match j, hj, hb1 with
    | 0, _, hb1 => exact absurd (h0'.symm.trans (show m24 s0 0 200 = false from hb1)) (by decide)
    | 1, _, hb1 => exact absurd (h1'.symm.trans (show m24 s1 0 200 = false from hb1)) (by decide)
    | 2, _, hb1 => exact absurd (h2'.symm.trans (show m24 s2 0 200 = false from hb1)) (by decide)
    | 3, _, hb1 => exact absurd (h3'.symm.trans (show m24 s3 0 200 = false from hb1)) (by decide)
    | 4, _, hb1 => exact absurd (h4'.symm.trans (show m24 s4 0 200 = false from hb1)) (by decide)
    | 5, _, hb1 => exact absurd (h5'.symm.trans (show m24 s5 0 200 = false from hb1)) (by decide)
    | 6, _, hb1 => exact absurd (h6'.symm.trans (show m24 s6 0 200 = false from hb1)) (by decide)
    | 7, _, hb1 => exact absurd (h7'.symm.trans (show m24 s7 0 200 = false from hb1)) (by decide)
  · left
    have g : ∀ j, j < 8 → m24 (intAt [SV.int IntKind.i64 s0, SV.int IntKind.i64 s1, SV.int IntKind.i64 s2, SV.int IntKind.i64 s3, SV.int IntKind.i64 s4, SV.int IntKind.i64 s5, SV.int IntKind.i64 s6, SV.int IntKind.i64 s7] (((0 + (j * 1)) + 0) + 0)) 0 200 = true := fun j hj => by
      have := h1 j (Nat.zero_le _) (by omega)
      simp only [badS8] at this
      cases hh : m24 (intAt [SV.int IntKind.i64 s0, SV.int IntKind.i64 s1, SV.int IntKind.i64 s2, SV.int IntKind.i64 s3, SV.int IntKind.i64 s4, SV.int IntKind.i64 s5, SV.int IntKind.i64 s6, SV.int IntKind.i64 s7] (((0 + (j * 1)) + 0) + 0)) 0 200 with
      | true => rfl
      | false => rw [hh] at this; cases this
    exact ⟨⟨g 0 (by omega), g 1 (by omega), g 2 (by omega), g 3 (by omega), g 4 (by omega), g 5 (by omega), g 6 (by omega), g 7 (by omega)⟩, by rw [h2]; rfl⟩
theorem calm_ok (h : Shl s0 s1 s2 s3 s4 s5 s6 s7) {lo hi : Int} (w2 : n77 n d = true) (w3 : m77 n d = 0) (c : m83 lo hi = 0) (W : Wds n d) (Sp : Spn lo hi) : n26a s0 s1 s2 s3 s4 s5 s6 s7 n d lo hi = false ∧ n26b s0 s1 s2 s3 s4 s5 s6 s7 n d lo hi = true ∧ ∃ k D, k ≤ 1000 ∧ Rep k D (wl (hasC n d s0 s1 s2 s3 s4 s5 s6 s7) lo (hi - lo + 1).toNat) ∧ m26b s0 s1 s2 s3 s4 s5 s6 s7 n d lo hi = (k, 0, k, D) := by
  have q0 : m88 s0 = true := h.1
  have q1 : m88 s1 = true := h.2.1
  have q2 : m88 s2 = true := h.2.2.1
  have q4 : m88 s3 = true := h.2.2.2.1
  have q5 : m88 s4 = true := h.2.2.2.2.1
  have q6 : m88 s5 = true := h.2.2.2.2.2.1
  have q7 : m88 s6 = true := h.2.2.2.2.2.2.1
  have q8 : m88 s7 = true := h.2.2.2.2.2.2.2
  obtain ⟨h0, le, h1, few⟩ := Sp
  obtain ⟨K, hK⟩ : ∃ K, (hi - lo + 1).toNat = K + 1 := ⟨(hi - lo).toNat, by omega⟩
  have key : ∀ X : Nat, K + 1 < X + hi.toNat + 0 + 0 + 8 := fun X => by omega
  obtain ⟨k, D, R, e⟩ := l117w_run (s0 := s0) (s1 := s1) (s2 := s2) (s3 := s3) (s4 := s4) (s5 := s5) (s6 := s6) (s7 := s7) W h0 h1 (K + 1) 0 (lo.toNat + s0.toNat + s1.toNat + s2.toNat + s3.toNat + s4.toNat + s5.toNat + s6.toNat + s7.toNat + lo.toNat + hi.toNat + 0 + 0 + 8) 0 noDat (by omega) (by omega) (key _) rep_nil
  rw [Nat.zero_add] at R
  rw [show lo + ((0 : Nat) : Int) = lo by omega] at e
  have o : o84c89_0 (datC [SV.ro [Kd.int IntKind.i64, Kd.int IntKind.i64, Kd.int IntKind.i64] n d]) lo hi lo s0 s1 s2 s3 s4 s5 s6 s7 0 0 noDat = some (s0, s1, s2, s3, s4, s5, s6, s7, k, k, D) := e
  have g1 : n84c89 lo hi (datC [SV.ro [Kd.int IntKind.i64, Kd.int IntKind.i64, Kd.int IntKind.i64] n d]) s0 s1 s2 s3 s4 s5 s6 s7 = true := by simp only [n84c89, o, Option.isSome_some]; rfl
  have g2 : m84c89 lo hi (datC [SV.ro [Kd.int IntKind.i64, Kd.int IntKind.i64, Kd.int IntKind.i64] n d]) s0 s1 s2 s3 s4 s5 s6 s7 = (k, s0, s1, s2, s3, s4, s5, s6, s7, k, D) := by simp only [m84c89, o, Option.getD_some]
  have hk : k ≤ 60 := by
    have a := wl_few (n := n) (d := d) (s0 := s0) (s1 := s1) (s2 := s2) (s3 := s3) (s4 := s4) (s5 := s5) (s6 := s6) (s7 := s7) lo K
    have b := idx_le (n := n) (d := d) (lo + (K : Int))
    have := R.1
    have := W.few
    omega
  have z : decide ((60 : Int) < (k : Int)) = false := decide_eq_false (by omega)
  refine ⟨?_, ?_, k, D, by omega, by rw [hK]; exact R, ?_⟩
  · simp only [n26a, q0, q1, q2, q4, q5, q6, q7, q8, w2, w3, c, g1, g2, n87a, z, decide_true, cond_true, cond_false]; rfl
  · simp only [n26b, q0, q1, q2, q4, q5, q6, q7, q8, w2, w3, c, g1, g2, n87b, z, decide_true, cond_true, cond_false]; rfl
  · simp only [m26b, g2, m87b]
end
end Go.Proofs.Ytbhldggbjjailaa
