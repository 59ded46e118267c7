/-
  Tables of tides and their levels: program and reference alike. Conditions: none.
-/
import Derived.Test.YtbhldggbjjailaaA1
import Derived.Test.YtbhldggbjjailaaA2
import Derived.Test.YtbhldggbjjailaaA3
import Derived.Test.YtbhldggbjjailaaA4
import Derived.Test.YtbhldggbjjailaaA5
import Derived.Test.YtbhldggbjjailaaAFDiveWindows
import Derived.Test.YtbhldggbjjailaaAPApt
import Derived.Test.YtbhldggbjjailaaAPLoop
import Derived.Test.YtbhldggbjjailaaAPAng
import Derived.Test.YtbhldggbjjailaaAPCheckW
import Derived.Test.YtbhldggbjjailaaAPFits
import Derived.Test.YtbhldggbjjailaaAPCirc
import Derived.Test.YtbhldggbjjailaaAPRay
import Derived.Test.YtbhldggbjjailaaAPCos
namespace Go.Proofs.Ytbhldggbjjailaa
open Go Go.Sy
set_option linter.unusedVariables false
set_option linter.unusedSimpArgs false
set_option maxRecDepth 100000
attribute [local simp] brk
/-- A wave's cosine at a minute, with both texts. -/
structure WaveOk (h p f t : Int) : Prop where
  n123 : n123 h p f t = true
  lo : n119 m118 (m123 h p f t).1 = true
  hi : n119 m118 (m123 h p f t).2 = true
  n103 : n103 h p f t = true
  eq1 : imin (m119 m118 (m123 h p f t).1).1 (m119 m118 (m123 h p f t).2).1 = (m103 h p f t).1
  eq2 : imax (m119 m118 (m123 h p f t).1).2 (m119 m118 (m123 h p f t).2).2 = (m103 h p f t).2
  b0 : -100000000 ≤ (m103 h p f t).1
  b1 : (m103 h p f t).1 ≤ (m103 h p f t).2
  b2 : (m103 h p f t).2 ≤ 100000000
theorem wave_ok {h p f t : Int} (w : Wav h p f) (t0 : 0 ≤ t) (t1 : t ≤ 1000000) : WaveOk h p f t := by
  have A := ang_ok w t0 t1
  obtain ⟨a, ha⟩ : ∃ a, a = (((f * p + 4096 * t) % (4096 * p)) / p, -((-((f * p + 4096 * t) % (4096 * p))) / p)) := ⟨_, rfl⟩
  rw [← ha] at A
  obtain ⟨e1, e2, e3, e4, g0, g1, g2, g4⟩ := A
  have C1 := cos_ok (a := a.1) g0 (by omega)
  have C2 := cos_ok (a := a.2) (by omega) (by omega)
  have t1 : a.1.tmod 4096 = a.1 := by rw [Int.tmod_eq_emod_of_nonneg g0]; omega
  have d1 : (m103 h p f t).1 = imin (m119 m118 a.1).1 (m119 m118 a.2).1 := by
    simp only [Go.Proofs.Ytbhldggbjjailaa.m103, e2]
    rw [C1.eq, C2.eq, t1]
  have d2 : (m103 h p f t).2 = imax (m119 m118 a.1).2 (m119 m118 a.2).2 := by
    simp only [Go.Proofs.Ytbhldggbjjailaa.m103, e2]
    rw [C1.eq, C2.eq, t1]
  have x1 := C1.b0
  have x2 := C1.b1
  have x4 := C1.b2
  have y1 := C2.b0
  have y2 := C2.b1
  have y3 := C2.b2
  refine ⟨e3, by rw [e1]; exact C1.n119, by rw [e1]; exact C2.n119, ?_, by rw [e1, d1], by rw [e1, d2], ?_, ?_, ?_⟩
  · simp only [Go.Proofs.Ytbhldggbjjailaa.n103, e2, e4, C2.n49]
    have := C1.n49
    rw [t1] at this
    rw [this]; rfl
  · rw [d1]; unfold imin; split <;> omega
  · rw [d1, d2]; unfold imin imax; split <;> split <;> omega
  · rw [d2]; unfold imax; split <;> omega
structure Tab (M : Int) (n : Nat) (d : Dat) : Prop where
  m0 : -100000 ≤ M
  m1 : M ≤ 100000
  n10 : n ≤ 10
  w : ∀ i, i < n → Wav (d.ii i 0) (d.ii i 1) (d.ii i 2)
noncomputable def badR (d : Dat) (i : Nat) : Option (Bool × Int × Unit) :=
  cond (bif decide (m53 (d.ii i 0) (d.ii i 1) (d.ii i 2) = 0) then false else true) (some (true, m53 (d.ii i 0) (d.ii i 1) (d.ii i 2), default)) none
noncomputable def badP (d : Dat) (i : Nat) : Option (Bool × Int × Unit) :=
  cond (m146 (d.ii i 0) (d.ii i 1) (d.ii i 2)) (some (true, (i : Int), default)) none
theorem bad_cases (d : Dat) (i : Nat) : (Wav (d.ii i 0) (d.ii i 1) (d.ii i 2) ∧ badR d i = none ∧ badP d i = none) ∨ (badR d i = some (true, 2, default) ∧ badP d i = some (true, (i : Int), default)) := by
  rcases m53_cases (d.ii i 0) (d.ii i 1) (d.ii i 2) with ⟨w, c1, c2⟩ | ⟨c1, c2⟩
  · left
    refine ⟨w, ?_, ?_⟩
    · simp only [badR, c1, decide_true, cond_true, cond_false]
    · simp only [badP, m146, c2, cond_true, cond_false]
  · right
    constructor
    · simp only [badR, c1, decide_eq_false (show ¬ (2 : Int) = 0 by decide), cond_true, cond_false]
    · simp only [badP, m146, c2, cond_true, cond_false]
theorem l20_step (M : Int) (n : Nat) (hn : n ≤ 9223372036854775807) (d : Dat) (f i : Nat) (hi : i < n) : l20_0 M n d (f + 1) (i : Int) = brk (badR d i) (l20_0 M n d f (IntKind.i64.wrap ((i : Int) + 1))) := by
  simp only [l20_0, cdl hi, cdd hi, cond_true, Int.toNat_natCast, badR, Nat.zero_add, Nat.reduceAdd]
  cases (bif decide (m53 (d.ii i 0) (d.ii i 1) (d.ii i 2) = 0) then false else true) <;> simp
theorem l20_all (M : Int) (n : Nat) (hn : n ≤ 9223372036854775807) (d : Dat) : o20_0 M n d 0 = some (first (badR d) (false, default, ()) n 0) :=
  loop_first (l := l20_0 M n d) hn (l20_step M n hn d) (fun f => by simp only [l20_0, cdn]; rfl) n 0 _ (by omega) (by omega)
theorem l161_step (n : Nat) (hn : n ≤ 9223372036854775807) (d : Dat) (f i : Nat) (hi : i < n) : l161c146_0 n d (n : Int) (f + 1) (i : Int) = brk (badP d i) (l161c146_0 n d (n : Int) f (IntKind.i64.wrap ((i : Int) + 1))) := by
  simp only [l161c146_0, cdl hi, cdd hi, cond_true, Int.toNat_natCast, badP, Nat.zero_add, Nat.reduceAdd]
  cases m146 (d.ii i 0) (d.ii i 1) (d.ii i 2) <;> simp
theorem l161_all (n : Nat) (hn : n ≤ 9223372036854775807) (d : Dat) : o161c146_0 n d (n : Int) 0 = some (first (badP d) (false, default, ()) n 0) :=
  loop_first (l := l161c146_0 n d (n : Int)) hn (l161_step n hn d) (fun f => by simp only [l161c146_0, cdn]; rfl) n 0 _ (by omega) (by omega)
/-- Both texts' check of a table. -/
theorem tab_cases (M : Int) (n : Nat) (hn : n ≤ 9223372036854775807) (d : Dat) : n20 M n d = true ∧ n129 M n d = true ∧ ((Tab M n d ∧ m20 M n d = 0 ∧ m129 M n d = 0) ∨ ∃ e, e ≠ 0 ∧ m20 M n d = e ∧ m129 M n d = e) := by
  have i21 : (o20_0 M n d 0).isSome = true := by rw [l20_all M n hn d]; rfl
  have i158 : (o161c146_0 n d (n : Int) 0).isSome = true := by rw [l161_all n hn d]; rfl
  refine ⟨?_, ?_, ?_⟩
  · simp only [n20, i21]
    cases m24 M (-100000) 100000 <;> cases decide ((10 : Int) < (n : Int)) <;> rfl
  · simp only [n129, n145c146, n161c146, i158, m95_m29]
    cases m24 M (-100000) 100000 <;> cases decide ((10 : Int) < (n : Int)) <;> rfl
  · by_cases hM : -100000 ≤ M ∧ M ≤ 100000
    · have q1 : m24 M (-100000) 100000 = true := m24_iff.2 hM
      by_cases h10 : n ≤ 10
      · have q2 : decide ((10 : Int) < (n : Int)) = false := decide_eq_false (by omega)
        by_cases hw : ∀ i, i < n → Wav (d.ii i 0) (d.ii i 1) (d.ii i 2)
        · left
          have g1 : first (badR d) (false, default, ()) n 0 = (false, default, ()) := first_none fun j _ hj => by
            rcases bad_cases d j with ⟨_, a, _⟩ | ⟨a, b⟩
            · exact a
            · have := m53_ok (hw j (by omega)); simp only [badR, this, decide_true, cond_true, cond_false] at a; cases a
          have g2 : first (badP d) (false, default, ()) n 0 = (false, default, ()) := first_none fun j _ hj => by
            rcases bad_cases d j with ⟨_, _, a⟩ | ⟨a, b⟩
            · exact a
            · have := m53_ok (hw j (by omega)); simp only [badR, this, decide_true, cond_true, cond_false] at a; cases a
          refine ⟨⟨hM.1, hM.2, h10, hw⟩, ?_, ?_⟩
          · simp only [m20, q1, q2, l20_all M n hn d, g1, cond_true, cond_false, Option.getD_some]
          · simp only [m129, m145c146, m161c146, m95_m29, q1, q2, l161_all n hn d, g2, cond_true, cond_false, Option.getD_some]
            rfl
        · right
          rcases first_cases (g := badR d) (e := (false, default, ())) n 0 with ⟨j, b, h1, h2, h3, h4, h5⟩ | ⟨h1, h2⟩
          · obtain ⟨r1, r2⟩ : badR d j = some (true, 2, default) ∧ badP d j = some (true, (j : Int), default) := by
              rcases bad_cases d j with ⟨_, a, _⟩ | a
              · rw [a] at h3; cases h3
              · exact a
            have g1 : first (badR d) (false, default, ()) n 0 = (true, 2, default) := by rw [h5]; rw [r1] at h3; exact (Option.some.inj h3).symm
            have g2 : first (badP d) (false, default, ()) n 0 = (true, (j : Int), default) := first_some h1 h2 r2 fun j' a b => by
              rcases bad_cases d j' with ⟨_, _, c⟩ | ⟨c, _⟩
              · exact c
              · rw [h4 j' a b] at c; cases c
            refine ⟨2, by decide, ?_, ?_⟩
            · simp only [m20, q1, q2, l20_all M n hn d, g1, cond_true, cond_false, Option.getD_some]
            · simp only [m129, m145c146, m161c146, m95_m29, q1, q2, l161_all n hn d, g2, cond_true, cond_false, Option.getD_some]
              rw [decide_eq_true (show (0 : Int) ≤ (j : Int) by omega)]; rfl
          · exfalso
            apply hw
            intro i hi
            rcases bad_cases d i with ⟨w, _⟩ | ⟨a, _⟩
            · exact w
            · rw [h1 i (Nat.zero_le _) (by omega)] at a; cases a
      · have q2 : decide ((10 : Int) < (n : Int)) = true := decide_eq_true (by omega)
        right
        refine ⟨8, by decide, ?_, ?_⟩
        · simp only [m20, q1, q2, cond_true, cond_false]
        · simp only [m129, m95_m29, q1, q2, cond_true, cond_false]
    · have q1 : m24 M (-100000) 100000 = false := m24_f hM
      right
      refine ⟨2, by decide, ?_, ?_⟩
      · simp only [m20, q1, cond_true, cond_false]
      · simp only [m129, m95_m29, q1, cond_true, cond_false]
noncomputable def lvl (d : Dat) (t : Int) : Nat → Int × Int
  | 0 => (0, 0)
  | k + 1 => ((lvl d t k).1 + d.ii k 0 * (m103 (d.ii k 0) (d.ii k 1) (d.ii k 2) t).1, (lvl d t k).2 + d.ii k 0 * (m103 (d.ii k 0) (d.ii k 1) (d.ii k 2) t).2)
noncomputable def hs (d : Dat) : Nat → Int
  | 0 => 0
  | k + 1 => hs d k + d.ii k 0
theorem prod_bd {h c : Int} (h0 : 0 ≤ h) (c0 : -100000000 ≤ c) (c1 : c ≤ 100000000) : -(100000000 * h) ≤ h * c ∧ h * c ≤ 100000000 * h := by
  have a := Int.mul_le_mul_of_nonneg_left c0 h0
  have b := Int.mul_le_mul_of_nonneg_left c1 h0
  omega
section
variable {n : Nat} {d : Dat} {t : Int}
theorem lvl_bd (hw : ∀ i, i < n → Wav (d.ii i 0) (d.ii i 1) (d.ii i 2)) (t0 : 0 ≤ t) (t1 : t ≤ 1000000) : ∀ k, k ≤ n → 0 ≤ hs d k ∧ hs d k ≤ 100000 * (k : Int) ∧ -(100000000 * hs d k) ≤ (lvl d t k).1 ∧ (lvl d t k).1 ≤ (lvl d t k).2 ∧ (lvl d t k).2 ≤ 100000000 * hs d k
  | 0, _ => by simp [hs, lvl]
  | k + 1, hk => by
    obtain ⟨a, b, c, e, f⟩ := lvl_bd hw t0 t1 k (by omega)
    have w := hw k (by omega)
    have W := wave_ok w t0 t1
    have b0 := W.b0
    have b1 := W.b1
    have b2 := W.b2
    have p1 := prod_bd w.h0 b0 (by omega)
    have p2 := prod_bd w.h0 (show -100000000 ≤ (m103 (d.ii k 0) (d.ii k 1) (d.ii k 2) t).2 by omega) b2
    have p4 := Int.mul_le_mul_of_nonneg_left b1 w.h0
    have w0 := w.h0
    have w1 := w.h1
    simp only [hs, lvl]
    omega
theorem l94_run (hn : n ≤ 10) (M b0 b1 : Int) (hw : ∀ i, i < n → Wav (d.ii i 0) (d.ii i 1) (d.ii i 2)) (t0 : 0 ≤ t) (t1 : t ≤ 1000000) : ∀ (k i f : Nat), i + k = n → k < f →
    l94_0 t n d (n : Int) M d m118 b0 b1 f (lvl d t i).1 (lvl d t i).2 (i : Int) = some (lvl d t n)
  | 0, i, f, hi, hf => by
    obtain ⟨f, rfl⟩ : ∃ f', f = f' + 1 := ⟨f - 1, by omega⟩
    obtain rfl : i = n := by omega
    simp only [l94_0, cdn, cond_false]
  | k + 1, i, f, hi, hf => by
    obtain ⟨f, rfl⟩ : ∃ f', f = f' + 1 := ⟨f - 1, by omega⟩
    have hlt : i < n := by omega
    have w := hw i hlt
    have W := wave_ok w t0 t1
    obtain ⟨a1, a2, a3, a4, a5⟩ := lvl_bd hw t0 t1 i (by omega)
    obtain ⟨c1, c2, c4, c5, c6⟩ := lvl_bd hw t0 t1 (i + 1) (by omega)
    have w0 := w.h0
    have w1 := w.h1
    have p1 := prod_bd w.h0 W.b0 (by have := W.b1; have := W.b2; omega)
    have p2 := prod_bd w.h0 (show -100000000 ≤ (m103 (d.ii i 0) (d.ii i 1) (d.ii i 2) t).2 by have := W.b1; have := W.b0; omega) W.b2
    have s1 : hs d (i + 1) = hs d i + d.ii i 0 := rfl
    have e1 : (lvl d t (i + 1)).1 = (lvl d t i).1 + d.ii i 0 * (m103 (d.ii i 0) (d.ii i 1) (d.ii i 2) t).1 := rfl
    have e2 : (lvl d t (i + 1)).2 = (lvl d t i).2 + d.ii i 0 * (m103 (d.ii i 0) (d.ii i 1) (d.ii i 2) t).2 := rfl
    simp only [l94_0, cdl hlt, cdd hlt, cond_true, Int.toNat_natCast, W.n123, W.lo, W.hi, W.eq1, W.eq2]
    rw [wr (n := d.ii i 0 * (m103 (d.ii i 0) (d.ii i 1) (d.ii i 2) t).1) (by omega) (by omega), wr (n := d.ii i 0 * (m103 (d.ii i 0) (d.ii i 1) (d.ii i 2) t).2) (by omega) (by omega), ← e1, ← e2, wr (n := (lvl d t (i + 1)).1) (by omega) (by omega), wr (n := (lvl d t (i + 1)).2) (by omega) (by omega), wrS hlt (by omega)]
    exact l94_run hn M b0 b1 hw t0 t1 k (i + 1) f (by omega) (by omega)
theorem l40_run (hn : n ≤ 10) (M b0 b1 : Int) (hM0 : -100000 ≤ M) (hM1 : M ≤ 100000) (hw : ∀ i, i < n → Wav (d.ii i 0) (d.ii i 1) (d.ii i 2)) (t0 : 0 ≤ t) (t1 : t ≤ 1000000) : ∀ (k i f : Nat), i + k = n → k < f →
    l40_0 t M n d b0 b1 f (M * 100000000 + (lvl d t i).1) (M * 100000000 + (lvl d t i).2) (i : Int) = some (M * 100000000 + (lvl d t n).1, M * 100000000 + (lvl d t n).2)
  | 0, i, f, hi, hf => by
    obtain ⟨f, rfl⟩ : ∃ f', f = f' + 1 := ⟨f - 1, by omega⟩
    obtain rfl : i = n := by omega
    simp only [l40_0, cdn, cond_false]
  | k + 1, i, f, hi, hf => by
    obtain ⟨f, rfl⟩ : ∃ f', f = f' + 1 := ⟨f - 1, by omega⟩
    have hlt : i < n := by omega
    have w := hw i hlt
    have W := wave_ok w t0 t1
    obtain ⟨a1, a2, a3, a4, a5⟩ := lvl_bd hw t0 t1 i (by omega)
    obtain ⟨c1, c2, c4, c5, c6⟩ := lvl_bd hw t0 t1 (i + 1) (by omega)
    have w0 := w.h0
    have w1 := w.h1
    have p1 := prod_bd w.h0 W.b0 (by have := W.b1; have := W.b2; omega)
    have p2 := prod_bd w.h0 (show -100000000 ≤ (m103 (d.ii i 0) (d.ii i 1) (d.ii i 2) t).2 by have := W.b1; have := W.b0; omega) W.b2
    have s1 : hs d (i + 1) = hs d i + d.ii i 0 := rfl
    have e1 : M * 100000000 + (lvl d t (i + 1)).1 = M * 100000000 + (lvl d t i).1 + d.ii i 0 * (m103 (d.ii i 0) (d.ii i 1) (d.ii i 2) t).1 := by rw [Int.add_assoc]; rfl
    have e2 : M * 100000000 + (lvl d t (i + 1)).2 = M * 100000000 + (lvl d t i).2 + d.ii i 0 * (m103 (d.ii i 0) (d.ii i 1) (d.ii i 2) t).2 := by rw [Int.add_assoc]; rfl
    simp only [l40_0, cdl hlt, cdd hlt, cond_true, Int.toNat_natCast, W.n103, Nat.zero_add, Nat.reduceAdd]
    rw [wr (n := d.ii i 0 * (m103 (d.ii i 0) (d.ii i 1) (d.ii i 2) t).1) (by omega) (by omega), wr (n := d.ii i 0 * (m103 (d.ii i 0) (d.ii i 1) (d.ii i 2) t).2) (by omega) (by omega), ← e1, ← e2, wr (n := M * 100000000 + (lvl d t (i + 1)).1) (by omega) (by omega), wr (n := M * 100000000 + (lvl d t (i + 1)).2) (by omega) (by omega), wrS hlt (by omega)]
    exact l40_run hn M b0 b1 hM0 hM1 hw t0 t1 k (i + 1) f (by omega) (by omega)
end
/-- The level. -/
noncomputable def LV (M : Int) (n : Nat) (d : Dat) (t : Int) : Int × Int := (M + (lvl d t n).1 / 100000000, M + -((-(lvl d t n).2) / 100000000))
structure LevelOk (M : Int) (n : Nat) (d : Dat) (t : Int) : Prop where
  n94 : n94 M n d m118 t = true
  m94 : m94 M n d m118 t = ((LV M n d t).1, (LV M n d t).2, M, n, d, m118)
  n40 : n40 M n d t = true
  m40 : m40 M n d t = LV M n d t
  lo : M - hs d n ≤ (LV M n d t).1
  le : (LV M n d t).1 ≤ (LV M n d t).2
  hi : (LV M n d t).2 ≤ M + hs d n
  h0 : 0 ≤ hs d n
  h1 : hs d n ≤ 1000000
theorem level_ok {M : Int} {n : Nat} {d : Dat} {t : Int} (T : Tab M n d) (t0 : 0 ≤ t) (t1 : t ≤ 1000000) : LevelOk M n d t := by
  obtain ⟨hM0, hM1, hn, hw⟩ := T
  obtain ⟨c1, c2, c4, c5, c6⟩ := lvl_bd hw t0 t1 n (Nat.le_refl _)
  have r81 := l94_run hn M 0 0 hw t0 t1 n 0 (t.toNat + (0 : Int).toNat + (0 : Int).toNat + n + (n : Int).toNat + ((0 : Nat) : Int).toNat + M.toNat + (0 : Int).toNat + (0 : Int).toNat + 8) (by omega) (by omega)
  have o81 : o94_0 t n d (n : Int) M d m118 0 0 0 0 0 = some (lvl d t n) := r81
  have wM : IntKind.i64.wrap (M * 100000000) = M * 100000000 := wr (by omega) (by omega)
  have r23 := l40_run hn M 0 0 hM0 hM1 hw t0 t1 n 0 (t.toNat + (M * 100000000).toNat + (M * 100000000).toNat + (0 : Int).toNat + M.toNat + n + (0 : Int).toNat + (0 : Int).toNat + 8) (by omega) (by omega)
  have z1 : M * 100000000 + (lvl d t 0).1 = M * 100000000 := by simp [lvl]
  have z2 : M * 100000000 + (lvl d t 0).2 = M * 100000000 := by simp [lvl]
  rw [z1, z2] at r23
  have o23 : o40_0 t M n d 0 0 (M * 100000000) (M * 100000000) 0 = some (M * 100000000 + (lvl d t n).1, M * 100000000 + (lvl d t n).2) := r23
  have q1 : (lvl d t n).1 / 100000000 ≤ 100000000 * hs d n / 100000000 := Int.ediv_le_ediv (by decide) (by omega)
  refine ⟨?_, ?_, ?_, ?_, ?_, ?_, ?_, c1, by omega⟩
  · simp only [Go.Proofs.Ytbhldggbjjailaa.n94, o81, Option.isSome_some, Option.getD_some, n131_t (show (0 : Int) < 100000000 by decide), n132_t (show (0 : Int) < 100000000 by decide)]; rfl
  · simp only [Go.Proofs.Ytbhldggbjjailaa.m94, o81, Option.getD_some]
    rw [m131_eq (by decide) (by decide) (by omega) (by omega), m132_eq (by decide) (by decide) (by omega) (by omega)]
    rw [wr (n := M + (lvl d t n).1 / 100000000) (by omega) (by omega), wr (n := M + -(-(lvl d t n).2 / 100000000)) (by omega) (by omega)]
    rfl
  · simp only [Go.Proofs.Ytbhldggbjjailaa.n40, wM, o23, Option.isSome_some, Option.getD_some, n104_t (show (0 : Int) < 100000000 by decide), n105_t (show (0 : Int) < 100000000 by decide)]; rfl
  · simp only [Go.Proofs.Ytbhldggbjjailaa.m40, wM, o23, Option.getD_some]
    rw [m104_eq (by decide) (by omega) (by omega), m105_eq (by decide) (by omega) (by omega)]
    simp only [LV]
    refine Prod.ext ?_ ?_ <;> simp only <;> omega
  · simp only [LV]; omega
  · simp only [LV]; omega
  · simp only [LV]; omega
theorem m29_ok {M : Int} {n : Nat} {d : Dat} {t : Int} (T : Tab M n d) (c20 : m129 M n d = 0) (cn : n129 M n d = true) : n29 M n d t = true ∧ m29 M n d t = cond (m39 t) ((LV M n d t).1, (LV M n d t).2, 0) (0, 0, 2) := by
  have a1 : n81a M n d = false := by simp only [n81a, c20, cn, decide_true, cond_true]; rfl
  have a2 : n81b M n d = true := by simp only [n81b, c20, cn, n118_val, decide_true, cond_true]; rfl
  cases ht : m39 t with
  | false =>
    constructor
    · simp only [n29, a1, a2, m81b, m93_m22, ht, decide_true, cond_true, cond_false]; rfl
    · simp only [m29, a1, m81b, m93_m22, ht, decide_true, cond_true, cond_false]
  | true =>
    have ⟨t0, t1⟩ := m39_iff.1 ht
    have L := level_ok T t0 t1
    constructor
    · simp only [n29, a1, a2, m81b, m93_m22, ht, decide_true, cond_true, cond_false, L.n94]; rfl
    · simp only [m29, a1, m81b, m93_m22, ht, decide_true, cond_true, cond_false, L.m94]
end Go.Proofs.Ytbhldggbjjailaa
