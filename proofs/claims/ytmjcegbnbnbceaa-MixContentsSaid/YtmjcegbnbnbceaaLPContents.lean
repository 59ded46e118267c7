/-
  The plain law of 'MixContents': the law's model is true, and its need. Conditions: none.
-/
import Derived.Test.YtmjcegbnbnbceaaL1
import Derived.Test.YtmjcegbnbnbceaaL2
import Derived.Test.YtmjcegbnbnbceaaL3
import Derived.Test.YtmjcegbnbnbceaaL4
import Derived.Test.YtmjcegbnbnbceaaLFContents
import Derived.Test.YtmjcegbnbnbceaaLE1
import Derived.Test.YtmjcegbnbnbceaaLPMatches
import Derived.Test.YtmjcegbnbnbceaaLPPartials
import Derived.Test.YtmjcegbnbnbceaaLPLoop
import Derived.Test.YtmjcegbnbnbceaaLPFactors
import Derived.Test.YtmjcegbnbnbceaaLPShares
import Derived.Test.YtmjcegbnbnbceaaLPVessels
import Derived.Test.YtmjcegbnbnbceaaLPFills
import Derived.Test.YtmjcegbnbnbceaaLPRead
import Derived.Test.YtmjcegbnbnbceaaLPRun
import Derived.Test.YtmjcegbnbnbceaaLPShort
namespace Go.Proofs.Ytmjcegbnbnbceaa
open Go Go.Sy
set_option linter.unusedVariables false
set_option maxRecDepth 100000
theorem l9_step (nv : Nat) (dv dh : Dat) (s : ByteArray) (c1 c2 c3 c4 c5 c6 c7 c8 c9 c10 c11 c12 c13 c14 d1 d2 d3 d4 d5 d6 d7 : Int) (f i : Nat) (hi : i < nv) :
    l9_0 nv dv s nv (cpy dh nv) c1 c2 c3 c4 c5 c6 c7 c8 c9 c10 c11 c12 c13 c14 nv dh d1 d2 d3 d4 d5 d6 d7 (f + 1) (i : Int) = l9_0 nv dv s nv (cpy dh nv) c1 c2 c3 c4 c5 c6 c7 c8 c9 c10 c11 c12 c13 c14 nv dh d1 d2 d3 d4 d5 d6 d7 f (IntKind.i64.wrap ((i : Int) + 1)) := by
  obtain ⟨e0, e1, e2⟩ := cpy_ii dh nv i hi
  rw [l9_0]
  simp only [cdl hi, cdd hi, cond_true, Int.toNat_natCast, Nat.zero_add, Nat.reduceAdd, e0, e1, e2, decide_true, cond_false]
theorem l9_run (nv : Nat) (hnv : nv ≤ 9223372036854775807) (dv dh : Dat) (s : ByteArray) (c1 c2 c3 c4 c5 c6 c7 c8 c9 c10 c11 c12 c13 c14 d1 d2 d3 d4 d5 d6 d7 : Int) : ∀ (k i f : Nat), i + k = nv → k < f →
    l9_0 nv dv s nv (cpy dh nv) c1 c2 c3 c4 c5 c6 c7 c8 c9 c10 c11 c12 c13 c14 nv dh d1 d2 d3 d4 d5 d6 d7 f (i : Int) = some (false, default, ())
  | 0, i, f, hi, hf => by
    obtain ⟨f, rfl⟩ : ∃ f', f = f' + 1 := ⟨f - 1, by omega⟩
    obtain rfl : i = nv := by omega
    rw [l9_0]
    simp only [cdn, cond_false]
  | k + 1, i, f, hi, hf => by
    obtain ⟨f, rfl⟩ : ∃ f', f = f' + 1 := ⟨f - 1, by omega⟩
    rw [l9_step _ _ _ _ _ _ _ _ _ _ _ _ _ _ _ _ _ _ _ _ _ _ _ _ _ f i (by omega), wrS (show i < nv by omega) hnv]
    exact l9_run nv hnv dv dh s c1 c2 c3 c4 c5 c6 c7 c8 c9 c10 c11 c12 c13 c14 d1 d2 d3 d4 d5 d6 d7 k (i + 1) f (by omega) (by omega)
theorem l9_all (nv : Nat) (hnv : nv ≤ 9223372036854775807) (dv dh : Dat) (s : ByteArray) (c1 c2 c3 c4 c5 c6 c7 c8 c9 c10 c11 c12 c13 c14 d1 d2 d3 d4 d5 d6 d7 : Int) :
    o9_0 nv dv s nv (cpy dh nv) c1 c2 c3 c4 c5 c6 c7 c8 c9 c10 c11 c12 c13 c14 nv dh d1 d2 d3 d4 d5 d6 d7 0 = some (false, default, ()) := by
  have h := l9_run nv hnv dv dh s c1 c2 c3 c4 c5 c6 c7 c8 c9 c10 c11 c12 c13 c14 d1 d2 d3 d4 d5 d6 d7 nv 0 (nv + s.size + nv + c1.toNat + c2.toNat + c3.toNat + c4.toNat + c5.toNat + c6.toNat + c7.toNat + c8.toNat + c9.toNat + c10.toNat + c11.toNat + c12.toNat + c13.toNat + c14.toNat + nv + d1.toNat + d2.toNat + d3.toNat + d4.toNat + d5.toNat + d6.toNat + d7.toNat + (0 : Int).toNat + 8) (Nat.zero_add nv) (by
    refine Nat.lt_of_le_of_lt ?_ (Nat.lt_add_of_pos_right (by decide))
    repeat (first | exact Nat.le_refl _ | refine Nat.le_trans ?_ (Nat.le_add_right _ _)))
  rw [Int.ofNat_zero] at h
  exact h
theorem m89_bad {nv n : Nat} {dv d : Dat} {i e : Int} (he : e ≠ 0) (a : n77a nv dv n d = true) (m : m77a nv dv n d = (i, e)) (nm : ByteArray) : n89 nv dv n d nm = true ∧ m89 nv dv n d nm = (0, 0, 0, 0, e) := by
  constructor
  · simp only [n89, a, m, decide_eq_false he]; rfl
  · simp only [m89, a, m, decide_eq_false he]; rfl
theorem lawContents (nv : Nat) (dv : Dat) (n : Nat) (d : Dat) (nm : ByteArray) (hnv : nv ≤ 9223372036854775807) (hn : n ≤ 9223372036854775807) (hz : SzV nv dv) : n9 nv dv n d nm = true ∧ m9 nv dv n d nm = true := by
  obtain ⟨s1, s2⟩ := short_ok (dv := dv) (d := d) hnv hn
  have en : n9 nv dv n d nm = v9 nv dv n d nm _ _ _ _ _ _ _ _ _ _ _ _ _ _ _ _ _ _ _ _ _ _ _ _ _ _ _ _ _ _ := rfl
  have em : m9 nv dv n d nm = w9 nv dv n d nm _ _ _ _ _ _ _ _ _ _ _ _ _ _ _ _ _ _ _ _ _ _ _ _ _ _ _ _ _ _ := rfl
  by_cases hs : m23 nv dv n d = true
  · obtain ⟨b1, b2⟩ := s2 hs
    obtain ⟨c1, c2, c3, c4⟩ := copies (dv := dv) (d := d) b1 b2
    obtain ⟨R, r27⟩ := read_all (d := d) hnv hn hz
    obtain ⟨x1, x2, x3⟩ := both30 R
    obtain ⟨_, _, y3⟩ := both24 R
    obtain ⟨nf79, mf79⟩ := find79 nv hnv dv nm
    obtain ⟨nf43, mf43⟩ := find43 nv hnv dv nm
    cases R with
    | bad i e he hE a m r =>
      obtain ⟨q1, q2⟩ := m89_bad he a m nm
      have q40 : m40 nv dv n d nm = (0, 0, e) ∧ n40 nv dv n d nm = true := by
        constructor
        · simp only [m40, q2, decide_eq_false he]; rfl
        · simp only [n40, q1, q2, decide_eq_false he]; rfl
      have q41 : m41 nv dv n d nm = (0, 0, 0, 0, e) ∧ n41 nv dv n d nm = true := by
        constructor
        · simp only [m41, q2, decide_eq_false he]; rfl
        · simp only [n41, q1, q2, decide_eq_false he]; rfl
      rcases x3 with ⟨_, p1, p2⟩ | ⟨s, _, he', _⟩
      · rw [hE] at p1 p2
        rw [en, em]
        simp only [w9, v9, t9_0, t9_1, t9_2, t9_3, t9_4, t9_5, t9_6, t9_7, t9_8, t9_9, t9_10, t9_11, t9_12, t9_13, t9_14, t9_15, t9_16, n15_true, m15_true, s1, hs, c1, c2, c3, c4, x1, x2, p1, p2, q40.1, q40.2, q41.1, q41.2, r27, r, decide_eq_false he]
        generalize decide ((20 : Int) < (nm.size : Int)) = z
        cases z <;> simp
      · rw [hE] at he'; exact absurd he' he
    | good s V hn' hS Rr B hE hv a b m r =>
      rcases x3 with ⟨he', _⟩ | ⟨s', hS', _, p1, p2⟩
      · rw [hE] at he'; exact absurd rfl he'
      · rw [hS] at hS'
        obtain rfl : s = s' := by simpa using hS'
        rw [hE] at y3
        have l9 := l9_all nv hnv dv s.1 nm
        have few := V.few
        have n42t : n42 nv dv n d = true := by
          simp only [n27, hv] at r27
          revert r27
          cases n42 nv dv n d <;> simp
        by_cases hf : fnd nv dv nm < 0
        · have q89 : m89 nv dv n d nm = (0, 0, 0, 0, 6) ∧ n89 nv dv n d nm = true := by
            constructor
            · simp only [m89, a, m, mf79, decide_eq_true hf]; rfl
            · simp only [n89, a, b, m, mf79, nf79, decide_eq_true hf]; rfl
          have q40 : m40 nv dv n d nm = (0, 0, 6) ∧ n40 nv dv n d nm = true := by
            constructor
            · simp only [m40, q89.1]; rfl
            · simp only [n40, q89.1, q89.2]; rfl
          have q41 : m41 nv dv n d nm = (0, 0, 0, 0, 6) ∧ n41 nv dv n d nm = true := by
            constructor
            · simp only [m41, q89.1]; rfl
            · simp only [n41, q89.1, q89.2]; rfl
          rw [en, em]
          simp only [w9, v9, t9_0, t9_1, t9_2, t9_3, t9_4, t9_5, t9_6, t9_7, t9_8, t9_9, t9_10, t9_11, t9_12, t9_13, t9_14, t9_15, t9_16, t9_17, t9_18, t9_19, t9_20, t9_21, t9_22, t9_23, n15_true, m15_true, s1, hs, c1, c2, c3, c4, x1, x2, p1, p2, q40.1, q40.2, q41.1, q41.2, r27, y3, r, l9, n42t, nf43, mf43, decide_eq_true hf, Option.getD_some, Option.isSome_some]
          generalize decide ((20 : Int) < (nm.size : Int)) = z
          cases z <;> simp
        · obtain ⟨i, hi, hfi, _⟩ := fnd_in hf
          have C := Rr.held i hi
          have bd := C.bd V hi
          have cle := C.le V hi
          obtain ⟨w74, w19⟩ := sm_w V hi C
          have sm0 : 0 ≤ sm s.1 i := by unfold sm; omega
          have vol := V.vol i hi
          rw [hfi] at mf79 mf43
          have g1 : decide ((0 : Int) ≤ (i : Int) ∧ (i : Int) < (nv : Int)) = true := cdd hi
          have g2 : decide (i < nv) = true := decide_eq_true hi
          have g3 : decide ((i : Int) < 0) = false := decide_eq_false (by omega)
          have q89 : m89 nv dv n d nm = (s.1.ii i 0, s.1.ii i 1, s.1.ii i 2, dv.ii i 1, 0) ∧ n89 nv dv n d nm = true := by
            constructor
            · simp only [m89, a, m, mf79, g3, Int.toNat_natCast]; rfl
            · simp only [n89, a, b, m, mf79, nf79, g1, g2, g3, Int.toNat_natCast]; rfl
          have w1 : IntKind.i64.wrap (1000 * sm s.1 i) = 1000 * sm s.1 i := wr (by omega) (by omega)
          have u1 := m86_eq (x := 1000 * sm s.1 i) (y := dv.ii i 1) (by omega) (by omega) (by omega) (by omega)
          have u2 := m88_eq (x := 1000 * sm s.1 i) (y := dv.ii i 1) (by omega) (by omega) (by omega)
          have q40 : m40 nv dv n d nm = (1000 * sm s.1 i / dv.ii i 1, -((-(1000 * sm s.1 i)) / dv.ii i 1), 0) ∧ n40 nv dv n d nm = true := by
            constructor
            · simp only [m40, q89.1, w74, w1, u1.1]; rfl
            · simp only [n40, q89.1, q89.2, w74, w1, u1.2]; rfl
          have q44 : m44 (dv.ss i 0) (dv.ii i 1) (dv.ii i 2) (s.1.ii i 0) (s.1.ii i 1) (s.1.ii i 2) = (1000 * sm s.1 i / dv.ii i 1, -((-(1000 * sm s.1 i)) / dv.ii i 1)) ∧ n44 (dv.ss i 0) (dv.ii i 1) (dv.ii i 2) (s.1.ii i 0) (s.1.ii i 1) (s.1.ii i 2) = true := by
            constructor
            · simp only [m44, w19, w1, u2.1]
            · simp only [n44, w19, w1, u2.2]; rfl
          generalize hq : 1000 * sm s.1 i / dv.ii i 1 = Q at *
          generalize hq' : -((-(1000 * sm s.1 i)) / dv.ii i 1) = Q' at *
          by_cases hsm : sm s.1 i = 0
          · have q41 : m41 nv dv n d nm = (0, 0, 0, 0, 11) ∧ n41 nv dv n d nm = true := by
              constructor
              · simp only [m41, q89.1, w74, hsm]; rfl
              · simp only [n41, q89.1, q89.2, w74, hsm]; rfl
            rw [en, em]
            simp only [w9, v9, t9_0, t9_1, t9_2, t9_3, t9_4, t9_5, t9_6, t9_7, t9_8, t9_9, t9_10, t9_11, t9_12, t9_13, t9_14, t9_15, t9_16, t9_17, t9_18, t9_19, t9_20, t9_21, t9_22, t9_23, t9_24, t9_25, t9_26, t9_27, t9_28, t9_29, n15_true, m15_true, s1, hs, c1, c2, c3, c4, x1, x2, p1, p2, q40.1, q40.2, q41.1, q41.2, r27, y3, r, l9, n42t, nf43, mf43, g1, g2, g3, Option.getD_some, Option.isSome_some, Int.toNat_natCast, Nat.zero_add, Nat.reduceAdd, q44.1, q44.2, w19, hsm]
            generalize decide ((20 : Int) < (nm.size : Int)) = z
            cases z <;> simp
          · have a0 : IntKind.i64.wrap (1000 * s.1.ii i 0) = 1000 * s.1.ii i 0 := wr (by omega) (by omega)
            have a1 : IntKind.i64.wrap (1000 * s.1.ii i 1) = 1000 * s.1.ii i 1 := wr (by omega) (by omega)
            have v0 := m86_eq (x := 1000 * s.1.ii i 0) (y := sm s.1 i) (by omega) (by omega) (by omega) (by omega)
            have v1 := m86_eq (x := 1000 * s.1.ii i 1) (y := sm s.1 i) (by omega) (by omega) (by omega) (by omega)
            have v2 := m88_eq (x := 1000 * s.1.ii i 0) (y := sm s.1 i) (by omega) (by omega) (by omega)
            have v3 := m88_eq (x := 1000 * s.1.ii i 1) (y := sm s.1 i) (by omega) (by omega) (by omega)
            have q41 : m41 nv dv n d nm = (1000 * s.1.ii i 0 / sm s.1 i, -((-(1000 * s.1.ii i 0)) / sm s.1 i), 1000 * s.1.ii i 1 / sm s.1 i, -((-(1000 * s.1.ii i 1)) / sm s.1 i), 0) ∧ n41 nv dv n d nm = true := by
              constructor
              · simp only [m41, q89.1, w74, decide_eq_false hsm, a0, a1, v0.1, v1.1]; rfl
              · simp only [n41, q89.1, q89.2, w74, decide_eq_false hsm, a0, a1, v0.2, v1.2]; rfl
            have q45 : m45 (s.1.ii i 0) (s.1.ii i 1) (s.1.ii i 2) = (1000 * s.1.ii i 0 / sm s.1 i, -((-(1000 * s.1.ii i 0)) / sm s.1 i), 1000 * s.1.ii i 1 / sm s.1 i, -((-(1000 * s.1.ii i 1)) / sm s.1 i)) ∧ n45 (s.1.ii i 0) (s.1.ii i 1) (s.1.ii i 2) = true := by
              constructor
              · simp only [m45, w19, a0, a1, v2.1, v3.1]
              · simp only [n45, w19, a0, a1, v2.2, v3.2]; rfl
            rw [en, em]
            simp only [w9, v9, t9_0, t9_1, t9_2, t9_3, t9_4, t9_5, t9_6, t9_7, t9_8, t9_9, t9_10, t9_11, t9_12, t9_13, t9_14, t9_15, t9_16, t9_17, t9_18, t9_19, t9_20, t9_21, t9_22, t9_23, t9_24, t9_25, t9_26, t9_27, t9_28, t9_29, n15_true, m15_true, s1, hs, c1, c2, c3, c4, x1, x2, p1, p2, q40.1, q40.2, q41.1, q41.2, r27, y3, r, l9, n42t, nf43, mf43, g1, g2, g3, Option.getD_some, Option.isSome_some, Int.toNat_natCast, Nat.zero_add, Nat.reduceAdd, q44.1, q44.2, q45.1, q45.2, w19, decide_eq_false hsm]
            generalize decide ((20 : Int) < (nm.size : Int)) = z
            cases z <;> simp
  · simp only [Bool.not_eq_true] at hs
    rw [en, em]
    simp only [w9, v9, n15_true, m15_true, s1, hs]
    simp
end Go.Proofs.Ytmjcegbnbnbceaa
