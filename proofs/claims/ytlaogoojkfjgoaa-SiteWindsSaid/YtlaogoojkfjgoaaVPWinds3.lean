/-
  The plain law of 'SiteWinds': the law's model is true, and its need. Conditions: none.
-/
import Derived.Test.YtlaogoojkfjgoaaVFWinds
import Derived.Test.YtlaogoojkfjgoaaVPLoop
import Derived.Test.YtlaogoojkfjgoaaVPAng
import Derived.Test.YtlaogoojkfjgoaaVPWinds
import Derived.Test.YtlaogoojkfjgoaaVPTide
import Derived.Test.YtlaogoojkfjgoaaVE17
import Derived.Test.YtlaogoojkfjgoaaVPWin
import Derived.Test.YtlaogoojkfjgoaaVPWinds2
import Derived.Test.YtlaogoojkfjgoaaVPSlackW
import Derived.Test.YtlaogoojkfjgoaaVPFits
import Derived.Test.YtlaogoojkfjgoaaV1
import Derived.Test.YtlaogoojkfjgoaaV2
import Derived.Test.YtlaogoojkfjgoaaV3
import Derived.Test.YtlaogoojkfjgoaaV4
namespace Go.Proofs.Ytlaogoojkfjgoaa
open Go Go.Sy
set_option linter.unusedVariables false
set_option linter.unusedSimpArgs false
set_option maxRecDepth 100000
set_option maxHeartbeats 1000000
attribute [local simp] brk
theorem e17u : m17 = true := rfl
section
variable {n : Nat} {d : Dat} {s0 s1 s2 s3 s4 s5 s6 s7 : Int}
def Shl (s0 s1 s2 s3 s4 s5 s6 s7 : Int) : Prop := m29 s0 0 200 = true ∧ m29 s1 0 200 = true ∧ m29 s2 0 200 = true ∧ m29 s3 0 200 = true ∧ m29 s4 0 200 = true ∧ m29 s5 0 200 = true ∧ m29 s6 0 200 = true ∧ m29 s7 0 200 = true
noncomputable def badS8 (s0 s1 s2 s3 s4 s5 s6 s7 : Int) (i : Nat) : Option (Bool × Int × Unit) := cond (bif (m29 (intAt [SV.int IntKind.i64 s0, SV.int IntKind.i64 s1, SV.int IntKind.i64 s2, SV.int IntKind.i64 s3, SV.int IntKind.i64 s4, SV.int IntKind.i64 s5, SV.int IntKind.i64 s6, SV.int IntKind.i64 s7] (((0 + (i * 1)) + 0) + 0)) 0 200) then false else true) (some (true, 2, default)) none
theorem shel_run : o74_0 s0 s1 s2 s3 s4 s5 s6 s7 0 = some (first (badS8 s0 s1 s2 s3 s4 s5 s6 s7) (false, default, ()) 8 0) := by
  refine loop_first (n := 8) (l := l74_0 s0 s1 s2 s3 s4 s5 s6 s7) (by omega) (fun f i hi => ?_) (fun f => by simp only [l74_0]; rfl) 8 0 _ (by omega) (by omega)
  have z1 : decide ((i : Int) < 8) = true := decide_eq_true (by omega)
  have z2 : decide (0 ≤ (i : Int) ∧ (i : Int) < 8) = true := decide_eq_true ⟨by omega, by omega⟩
  have z3 : decide (i < 8) = true := decide_eq_true hi
  have z4 : decide (0 ≤ (i : Int) ∧ (i : Int) < ((8 : Nat) : Int)) = true := z2
  simp only [l74_0, z1, z2, z3, z4, Int.toNat_natCast, badS8, cond_true]
  cases m29 (intAt [SV.int IntKind.i64 s0, SV.int IntKind.i64 s1, SV.int IntKind.i64 s2, SV.int IntKind.i64 s3, SV.int IntKind.i64 s4, SV.int IntKind.i64 s5, SV.int IntKind.i64 s6, SV.int IntKind.i64 s7] (((0 + (i * 1)) + 0) + 0)) 0 200 <;> simp
theorem shel_cases : n74 s0 s1 s2 s3 s4 s5 s6 s7 = true ∧ ((Shl s0 s1 s2 s3 s4 s5 s6 s7 ∧ m74 s0 s1 s2 s3 s4 s5 s6 s7 = 0) ∨ (¬ Shl s0 s1 s2 s3 s4 s5 s6 s7 ∧ m74 s0 s1 s2 s3 s4 s5 s6 s7 = 2)) := by
  refine ⟨by simp only [n74, shel_run]; rfl, ?_⟩
  simp only [m74, shel_run, Option.getD_some]
  rcases first_cases (g := badS8 s0 s1 s2 s3 s4 s5 s6 s7) (e := (false, default, ())) 8 0 with ⟨j, b, _, hj, h3, _, h5⟩ | ⟨h1, h2⟩
  · right
    have hb : m29 (intAt [SV.int IntKind.i64 s0, SV.int IntKind.i64 s1, SV.int IntKind.i64 s2, SV.int IntKind.i64 s3, SV.int IntKind.i64 s4, SV.int IntKind.i64 s5, SV.int IntKind.i64 s6, SV.int IntKind.i64 s7] (((0 + (j * 1)) + 0) + 0)) 0 200 = false ∧ b = (true, 2, default) := by
      simp only [badS8] at h3
      cases hh : m29 (intAt [SV.int IntKind.i64 s0, SV.int IntKind.i64 s1, SV.int IntKind.i64 s2, SV.int IntKind.i64 s3, SV.int IntKind.i64 s4, SV.int IntKind.i64 s5, SV.int IntKind.i64 s6, SV.int IntKind.i64 s7] (((0 + (j * 1)) + 0) + 0)) 0 200 with
      | true => rw [hh] at h3; cases h3
      | false => rw [hh] at h3; exact ⟨rfl, (Option.some.inj h3).symm⟩
    refine ⟨fun h => ?_, by rw [h5, hb.2]; rfl⟩
    obtain ⟨h0', h1', h2', h3', h4', h5', h6', h7'⟩ := h
    have hb1 := hb.1
    match j, hj, hb1 with
    | 0, _, hb1 => exact absurd (h0'.symm.trans (show m29 s0 0 200 = false from hb1)) (by decide)
    | 1, _, hb1 => exact absurd (h1'.symm.trans (show m29 s1 0 200 = false from hb1)) (by decide)
    | 2, _, hb1 => exact absurd (h2'.symm.trans (show m29 s2 0 200 = false from hb1)) (by decide)
    | 3, _, hb1 => exact absurd (h3'.symm.trans (show m29 s3 0 200 = false from hb1)) (by decide)
    | 4, _, hb1 => exact absurd (h4'.symm.trans (show m29 s4 0 200 = false from hb1)) (by decide)
    | 5, _, hb1 => exact absurd (h5'.symm.trans (show m29 s5 0 200 = false from hb1)) (by decide)
    | 6, _, hb1 => exact absurd (h6'.symm.trans (show m29 s6 0 200 = false from hb1)) (by decide)
    | 7, _, hb1 => exact absurd (h7'.symm.trans (show m29 s7 0 200 = false from hb1)) (by decide)
  · left
    have g : ∀ j, j < 8 → m29 (intAt [SV.int IntKind.i64 s0, SV.int IntKind.i64 s1, SV.int IntKind.i64 s2, SV.int IntKind.i64 s3, SV.int IntKind.i64 s4, SV.int IntKind.i64 s5, SV.int IntKind.i64 s6, SV.int IntKind.i64 s7] (((0 + (j * 1)) + 0) + 0)) 0 200 = true := fun j hj => by
      have := h1 j (Nat.zero_le _) (by omega)
      simp only [badS8] at this
      cases hh : m29 (intAt [SV.int IntKind.i64 s0, SV.int IntKind.i64 s1, SV.int IntKind.i64 s2, SV.int IntKind.i64 s3, SV.int IntKind.i64 s4, SV.int IntKind.i64 s5, SV.int IntKind.i64 s6, SV.int IntKind.i64 s7] (((0 + (j * 1)) + 0) + 0)) 0 200 with
      | true => rfl
      | false => rw [hh] at this; cases this
    exact ⟨⟨g 0 (by omega), g 1 (by omega), g 2 (by omega), g 3 (by omega), g 4 (by omega), g 5 (by omega), g 6 (by omega), g 7 (by omega)⟩, by rw [h2]; rfl⟩
theorem shel_bad (h : ¬ Shl s0 s1 s2 s3 s4 s5 s6 s7) (lo hi : Int) : n71a s0 s1 s2 s3 s4 s5 s6 s7 n d lo hi = true ∧ m71a s0 s1 s2 s3 s4 s5 s6 s7 n d lo hi = 2 := by
  cases h0 : m124 s0 with
  | false => exact ⟨by simp only [n71a, h0, cond_true, cond_false], by simp only [m71a, h0, cond_true, cond_false]⟩
  | true =>
    cases h1 : m124 s1 with
    | false => exact ⟨by simp only [n71a, h0, h1, cond_true, cond_false], by simp only [m71a, h0, h1, cond_true, cond_false]⟩
    | true =>
      cases h2 : m124 s2 with
      | false => exact ⟨by simp only [n71a, h0, h1, h2, cond_true, cond_false], by simp only [m71a, h0, h1, h2, cond_true, cond_false]⟩
      | true =>
        cases h3 : m124 s3 with
        | false => exact ⟨by simp only [n71a, h0, h1, h2, h3, cond_true, cond_false], by simp only [m71a, h0, h1, h2, h3, cond_true, cond_false]⟩
        | true =>
          cases h4 : m124 s4 with
          | false => exact ⟨by simp only [n71a, h0, h1, h2, h3, h4, cond_true, cond_false], by simp only [m71a, h0, h1, h2, h3, h4, cond_true, cond_false]⟩
          | true =>
            cases h5 : m124 s5 with
            | false => exact ⟨by simp only [n71a, h0, h1, h2, h3, h4, h5, cond_true, cond_false], by simp only [m71a, h0, h1, h2, h3, h4, h5, cond_true, cond_false]⟩
            | true =>
              cases h6 : m124 s6 with
              | false => exact ⟨by simp only [n71a, h0, h1, h2, h3, h4, h5, h6, cond_true, cond_false], by simp only [m71a, h0, h1, h2, h3, h4, h5, h6, cond_true, cond_false]⟩
              | true =>
                cases h7 : m124 s7 with
                | false => exact ⟨by simp only [n71a, h0, h1, h2, h3, h4, h5, h6, h7, cond_true, cond_false], by simp only [m71a, h0, h1, h2, h3, h4, h5, h6, h7, cond_true, cond_false]⟩
                | true =>
                  exact absurd ⟨h0, h1, h2, h3, h4, h5, h6, h7⟩ h
theorem calm_err {e : Int} (h : Shl s0 s1 s2 s3 s4 s5 s6 s7) (lo hi : Int) (w2 : n73 n d = true) (w3 : m73 n d = e) (he : e ≠ 0) : n71a s0 s1 s2 s3 s4 s5 s6 s7 n d lo hi = true ∧ m71a s0 s1 s2 s3 s4 s5 s6 s7 n d lo hi = e := by
  have q0 : m124 s0 = true := h.1
  have q1 : m124 s1 = true := h.2.1
  have q2 : m124 s2 = true := h.2.2.1
  have q3 : m124 s3 = true := h.2.2.2.1
  have q4 : m124 s4 = true := h.2.2.2.2.1
  have q5 : m124 s5 = true := h.2.2.2.2.2.1
  have q6 : m124 s6 = true := h.2.2.2.2.2.2.1
  have q7 : m124 s7 = true := h.2.2.2.2.2.2.2
  constructor
  · simp only [n71a, q0, q1, q2, q3, q4, q5, q6, q7, w2, w3, decide_eq_false he, cond_true, cond_false]; rfl
  · simp only [m71a, q0, q1, q2, q3, q4, q5, q6, q7, w3, decide_eq_false he, cond_true, cond_false]
theorem calm_span {e : Int} (h : Shl s0 s1 s2 s3 s4 s5 s6 s7) {lo hi : Int} (w2 : n73 n d = true) (w3 : m73 n d = 0) (c : m116 lo hi = e) (he : e ≠ 0) : n71a s0 s1 s2 s3 s4 s5 s6 s7 n d lo hi = true ∧ m71a s0 s1 s2 s3 s4 s5 s6 s7 n d lo hi = e := by
  have q0 : m124 s0 = true := h.1
  have q1 : m124 s1 = true := h.2.1
  have q2 : m124 s2 = true := h.2.2.1
  have q3 : m124 s3 = true := h.2.2.2.1
  have q4 : m124 s4 = true := h.2.2.2.2.1
  have q5 : m124 s5 = true := h.2.2.2.2.2.1
  have q6 : m124 s6 = true := h.2.2.2.2.2.2.1
  have q7 : m124 s7 = true := h.2.2.2.2.2.2.2
  constructor
  · simp only [n71a, q0, q1, q2, q3, q4, q5, q6, q7, w2, w3, c, decide_eq_false he, decide_true, cond_true, cond_false]; rfl
  · simp only [m71a, q0, q1, q2, q3, q4, q5, q6, q7, w3, c, decide_eq_false he, decide_true, cond_true, cond_false]
theorem calm_ok (h : Shl s0 s1 s2 s3 s4 s5 s6 s7) {lo hi : Int} (w2 : n73 n d = true) (w3 : m73 n d = 0) (c : m116 lo hi = 0) (W : Wds n d) (Sp : Spn lo hi) : n71a s0 s1 s2 s3 s4 s5 s6 s7 n d lo hi = false ∧ n71b s0 s1 s2 s3 s4 s5 s6 s7 n d lo hi = true ∧ ∃ k D, k ≤ 1000 ∧ Rep k D (wl (hasC n d s0 s1 s2 s3 s4 s5 s6 s7) lo (hi - lo + 1).toNat) ∧ m71b s0 s1 s2 s3 s4 s5 s6 s7 n d lo hi = (k, 0, k, D) := by
  have q0 : m124 s0 = true := h.1
  have q1 : m124 s1 = true := h.2.1
  have q2 : m124 s2 = true := h.2.2.1
  have q3 : m124 s3 = true := h.2.2.2.1
  have q4 : m124 s4 = true := h.2.2.2.2.1
  have q5 : m124 s5 = true := h.2.2.2.2.2.1
  have q6 : m124 s6 = true := h.2.2.2.2.2.2.1
  have q7 : m124 s7 = true := h.2.2.2.2.2.2.2
  obtain ⟨h0, le, h1, few⟩ := Sp
  obtain ⟨K, hK⟩ : ∃ K, (hi - lo + 1).toNat = K + 1 := ⟨(hi - lo).toNat, by omega⟩
  have key : ∀ X : Nat, K + 1 < X + hi.toNat + 0 + 0 + 8 := fun X => by omega
  obtain ⟨k, D, R, e⟩ := l117w_run (s0 := s0) (s1 := s1) (s2 := s2) (s3 := s3) (s4 := s4) (s5 := s5) (s6 := s6) (s7 := s7) W h0 h1 (K + 1) 0 (lo.toNat + s0.toNat + s1.toNat + s2.toNat + s3.toNat + s4.toNat + s5.toNat + s6.toNat + s7.toNat + lo.toNat + hi.toNat + 0 + 0 + 8) 0 noDat (by omega) (by omega) (key _) rep_nil
  rw [Nat.zero_add] at R
  rw [show lo + ((0 : Nat) : Int) = lo by omega] at e
  have o : o117c125_0 (datC [SV.ro [Kd.int IntKind.i64, Kd.int IntKind.i64, Kd.int IntKind.i64] n d]) lo hi lo s0 s1 s2 s3 s4 s5 s6 s7 0 0 noDat = some (s0, s1, s2, s3, s4, s5, s6, s7, k, k, D) := e
  have g1 : n117c125 lo hi (datC [SV.ro [Kd.int IntKind.i64, Kd.int IntKind.i64, Kd.int IntKind.i64] n d]) s0 s1 s2 s3 s4 s5 s6 s7 = true := by simp only [n117c125, o, Option.isSome_some]; rfl
  have g2 : m117c125 lo hi (datC [SV.ro [Kd.int IntKind.i64, Kd.int IntKind.i64, Kd.int IntKind.i64] n d]) s0 s1 s2 s3 s4 s5 s6 s7 = (k, s0, s1, s2, s3, s4, s5, s6, s7, k, D) := by simp only [m117c125, o, Option.getD_some]
  have hk : k ≤ 60 := by
    have a := wl_few (n := n) (d := d) (s0 := s0) (s1 := s1) (s2 := s2) (s3 := s3) (s4 := s4) (s5 := s5) (s6 := s6) (s7 := s7) lo K
    have b := idx_le (n := n) (d := d) (lo + (K : Int))
    have := R.1
    have := W.few
    omega
  have z : decide ((60 : Int) < (k : Int)) = false := decide_eq_false (by omega)
  refine ⟨?_, ?_, k, D, by omega, by rw [hK]; exact R, ?_⟩
  · simp only [n71a, q0, q1, q2, q3, q4, q5, q6, q7, w2, w3, c, g1, g2, n106a, z, decide_true, cond_true, cond_false]; rfl
  · simp only [n71b, q0, q1, q2, q3, q4, q5, q6, q7, w2, w3, c, g1, g2, n106b, z, decide_true, cond_true, cond_false]; rfl
  · simp only [m71b, g2, m106b]
theorem calm_ref (W : Wds n d) {lo hi : Int} (Sp : Spn lo hi) : n76 s0 s1 s2 s3 s4 s5 s6 s7 n d lo hi = true ∧ ∃ k D, Rep k D (wl (hasC n d s0 s1 s2 s3 s4 s5 s6 s7) lo (hi - lo + 1).toNat) ∧ m76 s0 s1 s2 s3 s4 s5 s6 s7 n d lo hi = (k, D) := by
  obtain ⟨h0, le, h1, few⟩ := Sp
  obtain ⟨K, hK⟩ : ∃ K, K = (hi - lo + 1).toNat := ⟨_, rfl⟩
  have key : ∀ X : Nat, K < X + hi.toNat + 8 := fun X => by omega
  obtain ⟨S', hS', e⟩ := l76_run (s0 := s0) (s1 := s1) (s2 := s2) (s3 := s3) (s4 := s4) (s5 := s5) (s6 := s6) (s7 := s7) W h0 h1 K 0 (n + 0 + lo.toNat + s0.toNat + s1.toNat + s2.toNat + s3.toNat + s4.toNat + s5.toNat + s6.toNat + s7.toNat + lo.toNat + hi.toNat + 8) noDat (by omega) (by omega) (key _) (fun q hq => absurd hq (Nat.not_lt_zero q))
  rw [show lo + ((0 : Nat) : Int) = lo by omega, show 0 + K = K by omega] at e
  rw [Nat.zero_add] at hS'
  have o : o76_0 n d s0 s1 s2 s3 s4 s5 s6 s7 lo hi 0 lo noDat = some (K, K, S') := e
  obtain ⟨k, D, R, e2⟩ := l122_run (P := hasC n d s0 s1 s2 s3 s4 s5 s6 s7) (lo := lo) h0 (by omega) (by omega) hS' K 0 (lo.toNat + K + 0 + (0 : Int).toNat + 8) 0 noDat (by omega) (by omega) rep_nil
  have o2 : o122_0 lo K S' 0 0 noDat = some (k, k, D) := e2
  rw [← hK]
  refine ⟨?_, k, D, R, ?_⟩
  · simp only [n76, o, n122, m122, o2, Option.isSome_some, Option.getD_some, Nat.zero_add, Nat.le_refl, decide_true]; rfl
  · simp only [m76, o, m122, o2, Option.getD_some]
end
theorem lawWinds (n : Nat) (d : Dat) (s0 s1 s2 s3 s4 s5 s6 s7 t lo hi : Int) (hn : n ≤ 9223372036854775807) : n16 n d s0 s1 s2 s3 s4 s5 s6 s7 t lo hi = true ∧ m16 n d s0 s1 s2 s3 s4 s5 s6 s7 t lo hi = true := by
  cases hg : (bif (bif (bif (decide (12 < (n : Int))) then (decide ((n : Int) ≤ 60)) else false) then true else (decide (62 < (n : Int)))) then true else (bif (m58 lo hi) then false else true)) with
  | true =>
    constructor
    · simp only [n16, v16, n17_val, e17u, hg, cond_true, cond_false]; rfl
    · simp only [m16, w16, e17u, hg, cond_true, cond_false]
  | false =>
    have hn62 : n ≤ 62 := by
      apply Decidable.byContradiction
      intro h
      rw [decide_eq_true (show (62 : Int) < (n : Int) by omega)] at hg
      revert hg
      cases (bif (decide (12 < (n : Int))) then (decide ((n : Int) ≤ 60)) else false) <;> simp
    have z30 : decide (n ≤ 1073741824) = true := decide_eq_true (by omega)
    have zle : decide (n ≤ n) = true := decide_eq_true (Nat.le_refl n)
    have eapp : (datS [] 3).app 0 d = d := app_zero _ _
    have mb : m80 t = m22 t := m80_m22 t
    have z00 : decide (((0 : Nat) : Int) = 0) = true := rfl
    have z2 : decide ((2 : Int) = 0) = false := rfl
    obtain ⟨w1, w2, w3, w4⟩ := winds_cases (n := n) (d := d) hn
    obtain ⟨v1, v2⟩ := shel_cases (s0 := s0) (s1 := s1) (s2 := s2) (s3 := s3) (s4 := s4) (s5 := s5) (s6 := s6) (s7 := s7)
    have nots : ∀ e : Int, e ≠ 0 → True := fun _ _ => trivial
    rcases w4 with ⟨W, w4⟩ | w4
    · rw [w4] at w3
      obtain ⟨f75, f123, m75e⟩ := wind_ok W t
      cases ht : m22 t with
      | false =>
        have m70e : m70 n d t = (0, 0, 0, 2) := by simp only [m70, w3, mb, ht, decide_true, cond_true, cond_false]
        have n70e : n70 n d t = true := by simp only [n70, w2, w3, mb, ht, decide_true, cond_true, cond_false]; rfl
        rcases v2 with ⟨hS, v2⟩ | ⟨hS, v2⟩
        · rcases span_cases lo hi with ⟨Sp, c1, c2⟩ | ⟨e, he, c1, c2⟩
          · obtain ⟨a1, a2, k, D, hk, R, a3⟩ := calm_ok hS w2 w3 c2 W Sp
            obtain ⟨b1, k', D', R', b2⟩ := calm_ref (s0 := s0) (s1 := s1) (s2 := s2) (s3 := s3) (s4 := s4) (s5 := s5) (s6 := s6) (s7 := s7) W Sp
            obtain ⟨rfl, hsame⟩ := rep_same R R'
            obtain ⟨x1, x2⟩ := same_ok hk hsame
            have zkk : decide (k ≤ k) = true := decide_eq_true (Nat.le_refl k)
            exact ⟨by simp only [n16, v16, t16_0, t16_1, t16_2, t16_3, t16_4, t16_5, t16_6, t16_7, t16_8, t16_9, t16_10, t16_11, t16_12, t16_13, t16_14, t16_15, n17_val, e17u, hg, eapp, mb, z30, zle, z00, z2, w1, w2, w3, w4, v1, Nat.zero_add, a1, a2, a3, b1, b2, x1, x2, zkk, c1, v2, ht, m70e, n70e, decide_true, cond_true, cond_false]; rfl, by simp only [m16, w16, t16_0, t16_1, t16_2, t16_3, t16_4, t16_5, t16_6, t16_7, t16_8, t16_9, t16_10, t16_11, t16_12, t16_13, t16_14, t16_15, n17_val, e17u, hg, eapp, mb, z30, zle, z00, z2, w1, w2, w3, w4, v1, Nat.zero_add, a1, a2, a3, b1, b2, x1, x2, zkk, c1, v2, ht, m70e, n70e, decide_true, cond_true, cond_false]⟩
          · obtain ⟨a1, a2⟩ := calm_span hS w2 w3 c2 he
            have ze : decide (e = 0) = false := decide_eq_false he
            exact ⟨by simp only [n16, v16, t16_0, t16_1, t16_2, t16_3, t16_4, t16_5, t16_6, t16_7, t16_8, t16_9, t16_10, t16_11, t16_12, t16_13, t16_14, t16_15, n17_val, e17u, hg, eapp, mb, z30, zle, z00, z2, w1, w2, w3, w4, v1, Nat.zero_add, a1, a2, ze, c1, v2, ht, m70e, n70e, decide_true, cond_true, cond_false]; rfl, by simp only [m16, w16, t16_0, t16_1, t16_2, t16_3, t16_4, t16_5, t16_6, t16_7, t16_8, t16_9, t16_10, t16_11, t16_12, t16_13, t16_14, t16_15, n17_val, e17u, hg, eapp, mb, z30, zle, z00, z2, w1, w2, w3, w4, v1, Nat.zero_add, a1, a2, ze, c1, v2, ht, m70e, n70e, decide_true, cond_true, cond_false]⟩
        · obtain ⟨a1, a2⟩ := shel_bad (n := n) (d := d) hS lo hi
          exact ⟨by simp only [n16, v16, t16_0, t16_1, t16_2, t16_3, t16_4, t16_5, t16_6, t16_7, t16_8, t16_9, t16_10, t16_11, t16_12, t16_13, t16_14, t16_15, n17_val, e17u, hg, eapp, mb, z30, zle, z00, z2, w1, w2, w3, w4, v1, Nat.zero_add, a1, a2, v2, ht, m70e, n70e, decide_true, cond_true, cond_false]; rfl, by simp only [m16, w16, t16_0, t16_1, t16_2, t16_3, t16_4, t16_5, t16_6, t16_7, t16_8, t16_9, t16_10, t16_11, t16_12, t16_13, t16_14, t16_15, n17_val, e17u, hg, eapp, mb, z30, zle, z00, z2, w1, w2, w3, w4, v1, Nat.zero_add, a1, a2, v2, ht, m70e, n70e, decide_true, cond_true, cond_false]⟩
      | true =>
        cases hw : wlast d t n with
        | none =>
          have m123e : m123 n d t = (0, 0, 0, false) := by simp only [m123, hw]
          have m70e : m70 n d t = (0, 0, 0, 19) := by simp only [m70, w3, mb, ht, m123e, decide_true, cond_true, cond_false]
          have n70e : n70 n d t = true := by simp only [n70, w2, w3, mb, ht, f123, decide_true, cond_true, cond_false]; rfl
          rcases v2 with ⟨hS, v2⟩ | ⟨hS, v2⟩
          · rcases span_cases lo hi with ⟨Sp, c1, c2⟩ | ⟨e, he, c1, c2⟩
            · obtain ⟨a1, a2, k, D, hk, R, a3⟩ := calm_ok hS w2 w3 c2 W Sp
              obtain ⟨b1, k', D', R', b2⟩ := calm_ref (s0 := s0) (s1 := s1) (s2 := s2) (s3 := s3) (s4 := s4) (s5 := s5) (s6 := s6) (s7 := s7) W Sp
              obtain ⟨rfl, hsame⟩ := rep_same R R'
              obtain ⟨x1, x2⟩ := same_ok hk hsame
              have zkk : decide (k ≤ k) = true := decide_eq_true (Nat.le_refl k)
              exact ⟨by simp only [n16, v16, t16_0, t16_1, t16_2, t16_3, t16_4, t16_5, t16_6, t16_7, t16_8, t16_9, t16_10, t16_11, t16_12, t16_13, t16_14, t16_15, n17_val, e17u, hg, eapp, mb, z30, zle, z00, z2, w1, w2, w3, w4, v1, Nat.zero_add, a1, a2, a3, b1, b2, x1, x2, zkk, c1, v2, ht, m70e, n70e, f75, m75e, m123e, decide_true, cond_true, cond_false]; rfl, by simp only [m16, w16, t16_0, t16_1, t16_2, t16_3, t16_4, t16_5, t16_6, t16_7, t16_8, t16_9, t16_10, t16_11, t16_12, t16_13, t16_14, t16_15, n17_val, e17u, hg, eapp, mb, z30, zle, z00, z2, w1, w2, w3, w4, v1, Nat.zero_add, a1, a2, a3, b1, b2, x1, x2, zkk, c1, v2, ht, m70e, n70e, f75, m75e, m123e, decide_true, cond_true, cond_false]⟩
            · obtain ⟨a1, a2⟩ := calm_span hS w2 w3 c2 he
              have ze : decide (e = 0) = false := decide_eq_false he
              exact ⟨by simp only [n16, v16, t16_0, t16_1, t16_2, t16_3, t16_4, t16_5, t16_6, t16_7, t16_8, t16_9, t16_10, t16_11, t16_12, t16_13, t16_14, t16_15, n17_val, e17u, hg, eapp, mb, z30, zle, z00, z2, w1, w2, w3, w4, v1, Nat.zero_add, a1, a2, ze, c1, v2, ht, m70e, n70e, f75, m75e, m123e, decide_true, cond_true, cond_false]; rfl, by simp only [m16, w16, t16_0, t16_1, t16_2, t16_3, t16_4, t16_5, t16_6, t16_7, t16_8, t16_9, t16_10, t16_11, t16_12, t16_13, t16_14, t16_15, n17_val, e17u, hg, eapp, mb, z30, zle, z00, z2, w1, w2, w3, w4, v1, Nat.zero_add, a1, a2, ze, c1, v2, ht, m70e, n70e, f75, m75e, m123e, decide_true, cond_true, cond_false]⟩
          · obtain ⟨a1, a2⟩ := shel_bad (n := n) (d := d) hS lo hi
            exact ⟨by simp only [n16, v16, t16_0, t16_1, t16_2, t16_3, t16_4, t16_5, t16_6, t16_7, t16_8, t16_9, t16_10, t16_11, t16_12, t16_13, t16_14, t16_15, n17_val, e17u, hg, eapp, mb, z30, zle, z00, z2, w1, w2, w3, w4, v1, Nat.zero_add, a1, a2, v2, ht, m70e, n70e, f75, m75e, m123e, decide_true, cond_true, cond_false]; rfl, by simp only [m16, w16, t16_0, t16_1, t16_2, t16_3, t16_4, t16_5, t16_6, t16_7, t16_8, t16_9, t16_10, t16_11, t16_12, t16_13, t16_14, t16_15, n17_val, e17u, hg, eapp, mb, z30, zle, z00, z2, w1, w2, w3, w4, v1, Nat.zero_add, a1, a2, v2, ht, m70e, n70e, f75, m75e, m123e, decide_true, cond_true, cond_false]⟩
        | some j =>
          have m123e : m123 n d t = (d.ii j 0, d.ii j 1, d.ii j 2, true) := by simp only [m123, hw]
          have m70e : m70 n d t = (d.ii j 0, d.ii j 1, d.ii j 2, 0) := by simp only [m70, w3, mb, ht, m123e, decide_true, cond_true, cond_false]
          have n70e : n70 n d t = true := by simp only [n70, w2, w3, mb, ht, f123, decide_true, cond_true, cond_false]; rfl
          rcases v2 with ⟨hS, v2⟩ | ⟨hS, v2⟩
          · rcases span_cases lo hi with ⟨Sp, c1, c2⟩ | ⟨e, he, c1, c2⟩
            · obtain ⟨a1, a2, k, D, hk, R, a3⟩ := calm_ok hS w2 w3 c2 W Sp
              obtain ⟨b1, k', D', R', b2⟩ := calm_ref (s0 := s0) (s1 := s1) (s2 := s2) (s3 := s3) (s4 := s4) (s5 := s5) (s6 := s6) (s7 := s7) W Sp
              obtain ⟨rfl, hsame⟩ := rep_same R R'
              obtain ⟨x1, x2⟩ := same_ok hk hsame
              have zkk : decide (k ≤ k) = true := decide_eq_true (Nat.le_refl k)
              exact ⟨by simp only [n16, v16, t16_0, t16_1, t16_2, t16_3, t16_4, t16_5, t16_6, t16_7, t16_8, t16_9, t16_10, t16_11, t16_12, t16_13, t16_14, t16_15, n17_val, e17u, hg, eapp, mb, z30, zle, z00, z2, w1, w2, w3, w4, v1, Nat.zero_add, a1, a2, a3, b1, b2, x1, x2, zkk, c1, v2, ht, m70e, n70e, f75, m75e, m123e, decide_true, cond_true, cond_false]; rfl, by simp only [m16, w16, t16_0, t16_1, t16_2, t16_3, t16_4, t16_5, t16_6, t16_7, t16_8, t16_9, t16_10, t16_11, t16_12, t16_13, t16_14, t16_15, n17_val, e17u, hg, eapp, mb, z30, zle, z00, z2, w1, w2, w3, w4, v1, Nat.zero_add, a1, a2, a3, b1, b2, x1, x2, zkk, c1, v2, ht, m70e, n70e, f75, m75e, m123e, decide_true, cond_true, cond_false]⟩
            · obtain ⟨a1, a2⟩ := calm_span hS w2 w3 c2 he
              have ze : decide (e = 0) = false := decide_eq_false he
              exact ⟨by simp only [n16, v16, t16_0, t16_1, t16_2, t16_3, t16_4, t16_5, t16_6, t16_7, t16_8, t16_9, t16_10, t16_11, t16_12, t16_13, t16_14, t16_15, n17_val, e17u, hg, eapp, mb, z30, zle, z00, z2, w1, w2, w3, w4, v1, Nat.zero_add, a1, a2, ze, c1, v2, ht, m70e, n70e, f75, m75e, m123e, decide_true, cond_true, cond_false]; rfl, by simp only [m16, w16, t16_0, t16_1, t16_2, t16_3, t16_4, t16_5, t16_6, t16_7, t16_8, t16_9, t16_10, t16_11, t16_12, t16_13, t16_14, t16_15, n17_val, e17u, hg, eapp, mb, z30, zle, z00, z2, w1, w2, w3, w4, v1, Nat.zero_add, a1, a2, ze, c1, v2, ht, m70e, n70e, f75, m75e, m123e, decide_true, cond_true, cond_false]⟩
          · obtain ⟨a1, a2⟩ := shel_bad (n := n) (d := d) hS lo hi
            exact ⟨by simp only [n16, v16, t16_0, t16_1, t16_2, t16_3, t16_4, t16_5, t16_6, t16_7, t16_8, t16_9, t16_10, t16_11, t16_12, t16_13, t16_14, t16_15, n17_val, e17u, hg, eapp, mb, z30, zle, z00, z2, w1, w2, w3, w4, v1, Nat.zero_add, a1, a2, v2, ht, m70e, n70e, f75, m75e, m123e, decide_true, cond_true, cond_false]; rfl, by simp only [m16, w16, t16_0, t16_1, t16_2, t16_3, t16_4, t16_5, t16_6, t16_7, t16_8, t16_9, t16_10, t16_11, t16_12, t16_13, t16_14, t16_15, n17_val, e17u, hg, eapp, mb, z30, zle, z00, z2, w1, w2, w3, w4, v1, Nat.zero_add, a1, a2, v2, ht, m70e, n70e, f75, m75e, m123e, decide_true, cond_true, cond_false]⟩
    · have z72 : decide (m72 n d = 0) = false := decide_eq_false w4
      have m70e : m70 n d t = (0, 0, 0, m72 n d) := by simp only [m70, w3, z72, cond_true, cond_false]
      have n70e : n70 n d t = true := by simp only [n70, w2, w3, z72, cond_true, cond_false]; rfl
      rcases v2 with ⟨hS, v2⟩ | ⟨hS, v2⟩
      · obtain ⟨a1, a2⟩ := calm_err hS lo hi w2 w3 w4
        exact ⟨by simp only [n16, v16, t16_0, t16_1, t16_2, t16_3, t16_4, t16_5, t16_6, t16_7, t16_8, t16_9, t16_10, t16_11, t16_12, t16_13, t16_14, t16_15, n17_val, e17u, hg, eapp, mb, z30, zle, z00, z2, w1, w2, w3, v1, Nat.zero_add, a1, a2, z72, v2, m70e, n70e, decide_true, cond_true, cond_false]; rfl, by simp only [m16, w16, t16_0, t16_1, t16_2, t16_3, t16_4, t16_5, t16_6, t16_7, t16_8, t16_9, t16_10, t16_11, t16_12, t16_13, t16_14, t16_15, n17_val, e17u, hg, eapp, mb, z30, zle, z00, z2, w1, w2, w3, v1, Nat.zero_add, a1, a2, z72, v2, m70e, n70e, decide_true, cond_true, cond_false]⟩
      · obtain ⟨a1, a2⟩ := shel_bad (n := n) (d := d) hS lo hi
        exact ⟨by simp only [n16, v16, t16_0, t16_1, t16_2, t16_3, t16_4, t16_5, t16_6, t16_7, t16_8, t16_9, t16_10, t16_11, t16_12, t16_13, t16_14, t16_15, n17_val, e17u, hg, eapp, mb, z30, zle, z00, z2, w1, w2, w3, v1, Nat.zero_add, a1, a2, z72, v2, m70e, n70e, decide_true, cond_true, cond_false]; rfl, by simp only [m16, w16, t16_0, t16_1, t16_2, t16_3, t16_4, t16_5, t16_6, t16_7, t16_8, t16_9, t16_10, t16_11, t16_12, t16_13, t16_14, t16_15, n17_val, e17u, hg, eapp, mb, z30, zle, z00, z2, w1, w2, w3, v1, Nat.zero_add, a1, a2, z72, v2, m70e, n70e, decide_true, cond_true, cond_false]⟩
end Go.Proofs.Ytlaogoojkfjgoaa
