/-
  The plain law of 'MixWider'. Conditions: none.
-/
import Derived.Test.YtmndejpcpfkajaaHPDuals
namespace Go.Proofs.Ytmndejpcpfkajaa
open Go Go.Sy Lin
set_option linter.unusedVariables false
set_option linter.unusedSimpArgs false
set_option linter.unusedSectionVars false
set_option maxRecDepth 100000
def TaskP (n : Nat) (d : Dat) (b1 b2 b3 T ol oh hl hh : Int) : Prop := (n : Int) ≠ 0 ∧ ¬ 5 < (n : Int) ∧ (∀ i, i < n → srcE d i = none) ∧ m26 b1 b2 b3 = 0 ∧ (bif (bif m32 T 1 10000000 then false else true) then true else decide (T < m29 b1 b2 b3)) = false ∧ m92 ol oh = 0 ∧ m92 hl hh = 0
theorem srcE_ne {d : Dat} {j : Nat} {b : Bool × Int × Unit} (hg : srcE d j = some b) : b.1 = true ∧ b.2.1 ≠ 0 := by
  unfold srcE at hg
  generalize (bif m90 (d.ss j 0) then false else true) = c1 at hg
  generalize decide (0 ≤ fnd j d (d.ss j 0)) = c2 at hg
  generalize (bif bif m32 (d.ii j 3) 0 1000 then false else true then true else bif m32 (d.ii j 4) 0 10000000 then false else true) = c6 at hg
  by_cases z : m91 (d.ii j 1) (d.ii j 2) = 0
  · cases c1 <;> cases c2 <;> cases c6 <;> simp [z] at hg <;> subst hg <;> simp
  · cases c1 <;> cases c2 <;> cases c6 <;> simp [z] at hg <;> subst hg <;> simp [z]
theorem task_iff {n : Nat} (hn : n ≤ 9223372036854775807) {d : Dat} (hs : ∀ i, i < n → (d.ss i 0).size ≤ 9223372036854775807) {b1 b2 b3 T ol oh hl hh : Int} : m34 n d b1 b2 b3 T ol oh hl hh = 0 ↔ TaskP n d b1 b2 b3 T ol oh hl hh := by
  unfold TaskP
  simp only [m34, l34_all n hn d hs, Option.getD_some]
  by_cases z0 : (n : Int) = 0
  · simp [z0]
  by_cases z1 : 5 < (n : Int)
  · have z2 : n ≠ 0 := by omega
    simp [z2, z1]
  simp only [z0, z1, decide_false, cond_false, ne_eq, not_false_eq_true, true_and]
  rcases first_cases (g := srcE d) (e := (false, (default : Int), ())) n 0 with ⟨j, b, h1, h2, hg, _, hb⟩ | ⟨hall, hb⟩
  · have hb' : first (srcE d) (false, default, ()) n 0 = b := hb
    rw [hb']
    obtain ⟨e1, e2⟩ := srcE_ne hg
    simp only [e1, cond_true]
    constructor
    · intro h; exact absurd h e2
    · rintro ⟨h, _⟩
      have := h j (by omega)
      rw [this] at hg; cases hg
  · have hb' : first (srcE d) (false, default, ()) n 0 = (false, default, ()) := hb
    rw [hb']
    simp only [cond_false]
    have hall' : ∀ i, i < n → srcE d i = none := fun i hi => hall i (by omega) (by omega)
    generalize (bif (bif m32 T 1 10000000 then false else true) then true else decide (T < m29 b1 b2 b3)) = c
    by_cases k1 : m26 b1 b2 b3 = 0 <;> by_cases k6 : m92 ol oh = 0 <;> cases c <;> simp [k1, k6] <;> first | exact fun _ => hall' | skip
    all_goals (try constructor <;> intro h <;> first | exact ⟨hall', h⟩ | exact h.2)
theorem fnd_congr {d d' : Dat} (h : ∀ j, d'.ss j 0 = d.ss j 0) (n : Nat) (s : ByteArray) : fnd n d' s = fnd n d s := by
  have e : hasN d' s = hasN d s := by funext i; simp only [hasN, h]
  simp only [fnd, e]
theorem srcE_wide {d d' : Dat} (h1 : ∀ j, d'.ss j 0 = d.ss j 0) (h2 : ∀ j c, c ≠ 4 → d'.ii j c = d.ii j c) {i : Nat} (h3 : 0 ≤ d'.ii i 4 ∧ d'.ii i 4 ≤ 10000000) (h : srcE d i = none) : srcE d' i = none := by
  have e4 : m32 (d'.ii i 4) 0 10000000 = true := m32_iff.2 h3
  unfold srcE at h ⊢
  rw [h1, fnd_congr h1, h2 i 1 (by decide), h2 i 2 (by decide), h2 i 3 (by decide), e4]
  generalize m32 (d.ii i 4) 0 10000000 = x4 at h
  generalize m32 (d.ii i 3) 0 1000 = x3 at h ⊢
  generalize m90 (d.ss i 0) = x0 at h ⊢
  generalize decide (0 ≤ fnd i d (d.ss i 0)) = x1 at h ⊢
  generalize (bif decide (m91 (d.ii i 1) (d.ii i 2) = 0) then false else true) = x2 at h ⊢
  cases x0 <;> cases x1 <;> cases x2 <;> cases x3 <;> cases x4 <;> simp_all
theorem m92_of {a b : Int} (h : 0 ≤ a ∧ a ≤ b ∧ b ≤ 1000) : m92 a b = 0 := by
  have k1 : m32 a 0 1000 = true := m32_iff.2 (by omega)
  have k2 : m32 b 0 1000 = true := m32_iff.2 (by omega)
  have k3 : decide (b < a) = false := decide_eq_false (by omega)
  simp only [m92, k1, k2, k3]
  rfl
section
variable (n : Nat) (hn : n ≤ 9223372036854775807) (d d' : Dat) (hs : ∀ i, i < n → (d.ss i 0).size ≤ 9223372036854775807) (b1 b2 b3 T ol oh hl hh ol' oh' : Int)
  (w1 : ∀ j, d'.ss j 0 = d.ss j 0) (w2 : ∀ j c, c ≠ 4 → d'.ii j c = d.ii j c) (w3 : ∀ j, j < n → d.ii j 4 ≤ d'.ii j 4 ∧ d'.ii j 4 ≤ 10000000) (w4 : 0 ≤ ol' ∧ ol' ≤ ol ∧ oh ≤ oh' ∧ oh' ≤ 1000)
include hn hs w1 w2 w3 w4
theorem wide_task (h : m34 n d b1 b2 b3 T ol oh hl hh = 0) : m34 n d' b1 b2 b3 T ol' oh' hl hh = 0 := by
  have K := rightK_of hn hs h
  obtain ⟨g1, g2, g3, g4, g5, g6, g7⟩ := (task_iff hn hs).1 h
  have kO := m92_ok g6
  exact (task_iff hn (fun i hi => by rw [w1]; exact hs i hi)).2 ⟨g1, g2, fun i hi => srcE_wide w1 w2 ⟨by have := (K.amount i hi).1; have := (w3 i hi).1; omega, (w3 i hi).2⟩ (g3 i hi), g4, g5, m92_of (by omega), g7⟩
theorem wide_plan (h : m34 n d b1 b2 b3 T ol oh hl hh = 0) {bp : Dat} {den : Int} (hd : 1 ≤ den ∧ den ≤ 1000000) (hp : (lpOf (askD n d b1 b2 b3 T ol oh hl hh)).Plan den (xOf n d bp)) :
    (lpOf (askD n d' b1 b2 b3 T ol' oh' hl hh)).Plan den (xOf n d' bp) ∧ (m38 n d' b1 b2 b3 T ol' oh' hl hh n bp den).2 = 0 := by
  have h' := wide_task n hn d d' hs b1 b2 b3 T ol oh hl hh ol' oh' w1 w2 w3 w4 h
  have hs' : ∀ i, i < n → (d'.ss i 0).size ≤ 9223372036854775807 := fun i hi => by rw [w1]; exact hs i hi
  have R := rightK_of hn hs h
  have K := askK_of R
  have K' := askK_of (rightK_of hn hs' h')
  obtain ⟨p1, p2, p3, p4, p5⟩ := (xplan_iff K den bp).1 hp
  have c1 : sm (fun i => bp.ii i 0 * d'.ii i 1) n = sm (fun i => bp.ii i 0 * d.ii i 1) n := sm_congr fun j _ => by rw [w2 j 1 (by decide)]
  have c2 : sm (fun i => bp.ii i 0 * d'.ii i 2) n = sm (fun i => bp.ii i 0 * d.ii i 2) n := sm_congr fun j _ => by rw [w2 j 2 (by decide)]
  have hT := R.T1
  have l1 : den * (ol' * T - 1000 * b1) ≤ den * (ol * T - 1000 * b1) := Int.mul_le_mul_of_nonneg_left (by have := Int.mul_le_mul_of_nonneg_right w4.2.1 (show 0 ≤ T by omega); omega) (by omega)
  have l2 : den * (oh * T - 1000 * b1) ≤ den * (oh' * T - 1000 * b1) := Int.mul_le_mul_of_nonneg_left (by have := Int.mul_le_mul_of_nonneg_right w4.2.2.1 (show 0 ≤ T by omega); omega) (by omega)
  have P' : (lpOf (askD n d' b1 b2 b3 T ol' oh' hl hh)).Plan den (xOf n d' bp) := by
    refine (xplan_iff K' den bp).2 ⟨p1, fun j hj => ⟨(p2 j hj).1, ?_⟩, ?_, ?_, p5⟩
    · have := (p2 j hj).2
      have := Int.mul_le_mul_of_nonneg_left (w3 j hj).1 (show 0 ≤ den by omega)
      omega
    · rw [c1]; omega
    · rw [c2]; exact p4
  refine ⟨P', ?_⟩
  obtain ⟨_, _, e1⟩ := good_plan n hn d' hs' b1 b2 b3 T ol' oh' hl hh n bp den h'
  obtain ⟨_, _, e2, _⟩ := plan_ok n hn d' hs' b1 b2 b3 T ol' oh' hl hh n bp den h'
  rw [e1, ← e2, (plan_spec K' n bp den).2.2 rfl hd.1 hd.2 P']
end
theorem lawWider (n : Nat) (hn : n ≤ 9223372036854775807) (d : Dat) (hs : ∀ i, i < n → (d.ss i 0).size ≤ 9223372036854775807) (b1 b2 b3 T ol oh hl hh x y : Int) :
    n15r n d b1 b2 b3 T ol oh hl hh x y = true ∧ m15r n d b1 b2 b3 T ol oh hl hh x y = true := by
  have a54 := l37_some n hn d b1 b2 b3 T ol oh hl hh
  have e36 : ∀ d b1 b2 b3 T ol oh hl hh, m36r n d b1 b2 b3 T ol oh hl hh = (n, b1, b2, b3, T, ol, oh, hl, hh, n, d) := fun d b1 b2 b3 T ol oh hl hh => by simp only [m36r, app_zero, Nat.zero_add]
  obtain ⟨t1, t2, t3⟩ := task_both n hn d hs b1 b2 b3 T ol oh hl hh
  by_cases hG : m37 n d b1 b2 b3 T ol oh hl hh = true ∧ m34 n d b1 b2 b3 T ol oh hl hh = 0 ∧ m32 x 0 1000 = true ∧ m32 y 0 1000 = true
  · obtain ⟨h37, h34, hx, hy⟩ := hG
    have kx := m32_iff.1 hx
    have ky := m32_iff.1 hy
    have hn7 := light_few hn h37
    have R := rightK_of hn hs h34
    have kO := R.O
    have kA := R.amount 0 R.pos
    have a36 : ∀ d b1 b2 b3 T ol oh hl hh, n36r n d b1 b2 b3 T ol oh hl hh = true := fun d b1 b2 b3 T ol oh hl hh => by
      have : n ≤ 1073741824 := by omega
      simp [n36r, this]
    have hle : decide (n ≤ n) = true := decide_eq_true (Nat.le_refl _)
    have hle0 : decide (0 + n ≤ n) = true := decide_eq_true (by omega)
    have hp1 : decide ((0 : Int) ≤ (0 : Int) ∧ (0 : Int) < (n : Int)) = true := decide_eq_true ⟨Int.le_refl _, by have := R.pos; omega⟩
    have hp2 : decide ((0 : Nat) < n) = true := decide_eq_true R.pos
    obtain ⟨f1, f2⟩ := fill_good n hn d hs b1 b2 b3 T ol oh hl hh h34
    have e1 : IntKind.i64.wrap (ol - x) = ol - x := wr (by omega) (by omega)
    have e2 : IntKind.i64.wrap (oh + x) = oh + x := wr (by omega) (by omega)
    have e3 : IntKind.i64.wrap (d.ii 0 4 + y) = d.ii 0 4 + y := wr (by omega) (by omega)
    generalize hd' : d.upd 0 4 [SV.int IntKind.i64 (imin 10000000 (IntKind.i64.wrap (d.ii 0 4 + y)))] = d'
    generalize hol : imax 0 (IntKind.i64.wrap (ol - x)) = ol'
    generalize hoh : imin 1000 (IntKind.i64.wrap (oh + x)) = oh'
    have w1 : ∀ j, d'.ss j 0 = d.ss j 0 := fun j => by rw [← hd']; simp [Dat.upd]
    have w2 : ∀ j c, c ≠ 4 → d'.ii j c = d.ii j c := fun j c hc => by
      rw [← hd']
      simp only [Dat.upd]
      split
      · split
        · have : c - 4 ≠ 0 := by omega
          obtain ⟨m, hm⟩ : ∃ m, c - 4 = m + 1 := ⟨c - 4 - 1, by omega⟩
          rw [hm]; simp
        · rfl
      · rfl
    have w3 : ∀ j, j < n → d.ii j 4 ≤ d'.ii j 4 ∧ d'.ii j 4 ≤ 10000000 := fun j hj => by
      have ka := R.amount j hj
      by_cases h0 : j = 0
      · subst h0
        have : d'.ii 0 4 = imin 10000000 (d.ii 0 4 + y) := by rw [← hd', e3]; simp [Dat.upd]
        rw [this]
        simp only [imin]
        split <;> omega
      · have : d'.ii j 4 = d.ii j 4 := by rw [← hd']; simp [Dat.upd, h0]
        rw [this]; omega
    have w4 : 0 ≤ ol' ∧ ol' ≤ ol ∧ oh ≤ oh' ∧ oh' ≤ 1000 := by
      rw [← hol, ← hoh, e1, e2]
      simp only [imax, imin]
      refine ⟨?_, ?_, ?_, ?_⟩ <;> split <;> omega
    have hs' : ∀ i, i < n → (d'.ss i 0).size ≤ 9223372036854775807 := fun i hi => by rw [w1]; exact hs i hi
    have h34' := wide_task n hn d d' hs b1 b2 b3 T ol oh hl hh ol' oh' w1 w2 w3 w4 h34
    obtain ⟨f1', f2'⟩ := fill_good n hn d' hs' b1 b2 b3 T ol' oh' hl hh h34'
    rcases f2 with ⟨bp, den, W, a, b, c, e, q, g1, g2, g3, g4, g5, _⟩ | ⟨W, a, b, c, e, q, g1, g2, g3⟩
    · obtain ⟨hP, h38⟩ := wide_plan n hn d d' hs b1 b2 b3 T ol oh hl hh ol' oh' w1 w2 w3 w4 h34 g5 g4
      rcases f2' with ⟨bp', den', W', a', b', c', e', q', g1', g2', g3', _⟩ | ⟨W', a', b', c', e', q', g1', g2', g3'⟩
      · obtain ⟨k1, k2⟩ := cmp_ge n hn d' hs' b1 b2 b3 T ol' oh' hl hh n bp den h34' h38 W' a' b' c' e' q'
        have k2 := k2 g3'
        have k1 := decide_eq_true (k1 k2)
        obtain ⟨s1, _, _⟩ := good_compare n hn d' hs' b1 b2 b3 T ol' oh' hl hh n bp den W' a' b' c' e' q' h34'
        constructor
        · simp only [n15r, v15r, t15r_0, t15r_1, t15r_2, t15r_3, t15r_4, t15r_5, t15r_6, t15r_7, t15r_8, t15r_9, t15r_10, t15r_11, t15r_12, t15r_13, t15r_14, t15r_15, t15r_16, t15r_17, t15r_18, t15r_19, t15r_20, t15r_21, t15r_22, t15r_23, t15r_24, t15r_25, t15r_26, t15r_27, t15r_28, t15r_29, t15r_30, t15r_31, t15r_32, t15r_33, t15r_34, t15r_35, t15r_36, t15r_37, t15r_38, e36, a36, n44_true, m44_true, a54, h37, t2, h34, hx, hy, hle, hle0, hp1, hp2, hd', hol, hoh, Nat.zero_add, f1, g1, f1', g1', s1, decide_true, cond_true, cond_false]
          rfl
        · simp only [m15r, w15r, t15r_0, t15r_1, t15r_2, t15r_3, t15r_4, t15r_5, t15r_6, t15r_7, t15r_8, t15r_9, t15r_10, t15r_11, t15r_12, t15r_13, t15r_14, t15r_15, t15r_16, t15r_17, t15r_18, t15r_19, t15r_20, t15r_21, t15r_22, t15r_23, t15r_24, t15r_25, t15r_26, t15r_27, t15r_28, t15r_29, t15r_30, t15r_31, t15r_32, t15r_33, t15r_34, t15r_35, t15r_36, t15r_37, t15r_38, e36, m44_true, h37, h34, hx, hy, hd', hol, hoh, g1, g1', k1, k2, decide_true, cond_true, cond_false]
          try rfl
      · exact absurd hP (g3' _ _)
    · constructor
      · simp only [n15r, v15r, t15r_0, t15r_1, t15r_2, t15r_3, t15r_4, t15r_5, t15r_6, t15r_7, t15r_8, t15r_9, t15r_10, t15r_11, t15r_12, t15r_13, t15r_14, t15r_15, t15r_16, t15r_17, t15r_18, t15r_19, t15r_20, t15r_21, t15r_22, t15r_23, t15r_24, t15r_25, t15r_26, t15r_27, t15r_28, t15r_29, t15r_30, t15r_31, t15r_32, t15r_33, t15r_34, t15r_35, t15r_36, t15r_37, t15r_38, e36, a36, n44_true, m44_true, a54, h37, t2, h34, hx, hy, hle, hle0, hp1, hp2, f1, g1, decide_true, cond_true, cond_false]
        rfl
      · simp only [m15r, w15r, t15r_0, t15r_1, t15r_2, t15r_3, t15r_4, t15r_5, t15r_6, t15r_7, t15r_8, t15r_9, t15r_10, t15r_11, t15r_12, t15r_13, t15r_14, t15r_15, t15r_16, t15r_17, t15r_18, t15r_19, t15r_20, t15r_21, t15r_22, t15r_23, t15r_24, t15r_25, t15r_26, t15r_27, t15r_28, t15r_29, t15r_30, t15r_31, t15r_32, t15r_33, t15r_34, t15r_35, t15r_36, t15r_37, t15r_38, e36, m44_true, h37, h34, hx, hy, g1, decide_true, cond_true, cond_false]
        rfl
  · by_cases h1 : m34 n d b1 b2 b3 T ol oh hl hh = 0 <;> cases h2 : m37 n d b1 b2 b3 T ol oh hl hh <;> cases h3 : m32 x 0 1000 <;> cases h4 : m32 y 0 1000 <;> first
      | (constructor
         · simp only [n15r, v15r, t15r_0, t15r_1, n44_true, m44_true, a54, t2, h1, h2, h3, h4, decide_true, decide_false, cond_true, cond_false]
           rfl
         · simp only [m15r, w15r, t15r_0, t15r_1, m44_true, h1, h2, h3, h4, decide_true, decide_false, cond_true, cond_false]
           first | done | rfl)
      | exact absurd ⟨h2, h1, h3, h4⟩ hG
end Go.Proofs.Ytmndejpcpfkajaa
