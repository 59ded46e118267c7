/-
  The plain law of 'SiteSurely': the law's model is true, and its need. Conditions: none.
-/
import Derived.Test.YtlaogoojkfjgoaaKFSurely
import Derived.Test.YtlaogoojkfjgoaaKPLoop
import Derived.Test.YtlaogoojkfjgoaaKPAng
import Derived.Test.YtlaogoojkfjgoaaKPCirc
import Derived.Test.YtlaogoojkfjgoaaKPRay
import Derived.Test.YtlaogoojkfjgoaaKPCos
import Derived.Test.YtlaogoojkfjgoaaKPTide
import Derived.Test.YtlaogoojkfjgoaaKE17
import Derived.Test.YtlaogoojkfjgoaaKPLevels
import Derived.Test.YtlaogoojkfjgoaaKPWin
import Derived.Test.YtlaogoojkfjgoaaKPSlackW
import Derived.Test.YtlaogoojkfjgoaaK1
import Derived.Test.YtlaogoojkfjgoaaK2
import Derived.Test.YtlaogoojkfjgoaaK3
import Derived.Test.YtlaogoojkfjgoaaK4
import Derived.Test.YtlaogoojkfjgoaaK5
namespace Go.Proofs.Ytlaogoojkfjgoaa
open Go Go.Sy
set_option linter.unusedVariables false
set_option linter.unusedSimpArgs false
set_option maxRecDepth 100000
attribute [local simp] brk
theorem l61_in {n0 n1 : Nat} {d0 d1 : Dat} (h1 : n1 ≤ 9223372036854775807) {i : Nat} (hi : i < n0) : ∀ (k j f : Nat) (t : Bool), j + k = n1 → k < f →
    (t = true ∨ ∃ j', j ≤ j' ∧ j' < n1 ∧ d1.ii j' 0 ≤ d0.ii i 0 ∧ d0.ii i 1 ≤ d1.ii j' 1) → l61_2 n0 d0 n1 d1 (i : Int) f t (j : Int) = some true
  | 0, j, f, t, he, hf, h => by
    obtain ⟨f, rfl⟩ : ∃ g, f = g + 1 := ⟨f - 1, by omega⟩
    obtain rfl : j = n1 := by omega
    have : t = true := by rcases h with h | ⟨j', a, b, _⟩; exact h; omega
    subst this
    simp only [l61_2, cdn, cond_false]
  | k + 1, j, f, t, he, hf, h => by
    obtain ⟨f, rfl⟩ : ∃ g, f = g + 1 := ⟨f - 1, by omega⟩
    have hlt : j < n1 := by omega
    cases t with
    | true =>
      simp only [l61_2, cdl hlt, cdd hlt, cdd hi, Int.toNat_natCast, wrS hlt h1, cond_true, cond_false]
      exact l61_in h1 hi k (j + 1) f true (by omega) (by omega) (.inl rfl)
    | false =>
      obtain ⟨j', a, b, c, e⟩ : ∃ j', j ≤ j' ∧ j' < n1 ∧ d1.ii j' 0 ≤ d0.ii i 0 ∧ d0.ii i 1 ≤ d1.ii j' 1 := by rcases h with h | h; cases h; exact h
      by_cases hj : j = j'
      · subst hj
        simp only [l61_2, cdl hlt, cdd hlt, cdd hi, Int.toNat_natCast, wrS hlt h1, decide_eq_true c, decide_eq_true e, cond_true, cond_false]
        exact l61_in h1 hi k (j + 1) f true (by omega) (by omega) (.inl rfl)
      · cases hc : decide (d1.ii j 0 ≤ d0.ii i 0) with
        | true =>
          simp only [l61_2, cdl hlt, cdd hlt, cdd hi, Int.toNat_natCast, wrS hlt h1, hc, cond_true, cond_false]
          exact l61_in h1 hi k (j + 1) f _ (by omega) (by omega) (.inr ⟨j', by omega, b, c, e⟩)
        | false =>
          simp only [l61_2, cdl hlt, cdd hlt, cdd hi, Int.toNat_natCast, wrS hlt h1, hc, cond_true, cond_false]
          exact l61_in h1 hi k (j + 1) f _ (by omega) (by omega) (.inr ⟨j', by omega, b, c, e⟩)
theorem inside_ok {n0 n1 : Nat} {d0 d1 : Dat} (h0 : n0 ≤ 9223372036854775807) (h1 : n1 ≤ 9223372036854775807) (h : ∀ i, i < n0 → ∃ j, j < n1 ∧ d1.ii j 0 ≤ d0.ii i 0 ∧ d0.ii i 1 ≤ d1.ii j 1) : n61 n0 d0 n1 d1 = true ∧ m61 n0 d0 n1 d1 = true := by
  have r : o61_0 n0 d0 n1 d1 0 = some (first (fun _ => none) (false, default, ()) n0 0) := by
    refine loop_first (l := l61_0 n0 d0 n1 d1) h0 (fun f i hi => ?_) (fun f => by simp only [l61_0, cdn]; rfl) n0 0 _ (by omega) (by omega)
    obtain ⟨j, a, b, c⟩ := h i hi
    have o : o61_2 n0 d0 n1 d1 (i : Int) false 0 = some true := l61_in h1 hi n1 0 _ false (by omega) (by omega) (.inr ⟨j, by omega, a, b, c⟩)
    simp only [l61_0, cdl hi, o, Option.isSome_some, Option.getD_some, cond_true, cond_false, brk]
  rw [first_none (fun _ _ _ => rfl)] at r
  constructor
  · simp only [n61, r, Option.isSome_some]; rfl
  · simp only [m61, r, Option.getD_some, cond_false]
section
variable {M : Int} {n : Nat} {d : Dat} {l l' : Int} {lo hi : Int}
theorem sure_slk {m : Int} (h : hasW M n d l true m = true) : slk M n d m l = 2 := by
  unfold hasW at h
  by_cases k : slk M n d m l = 2
  · exact k
  · rw [decide_eq_false k] at h
    cases decide (slk M n d m l = 1) <;> simp at h
theorem sure_perhaps {m : Int} (h : hasW M n d l true m = true) : hasW M n d l false m = true := by
  have := sure_slk h
  unfold hasW
  rw [decide_eq_true this]; rfl
theorem sure_more {m : Int} (hl : l ≤ l') (h : hasW M n d l true m = true) : hasW M n d l' true m = true := by
  have h1 := sure_slk h
  have h2 := slk_mono (M := M) (n := n) (d := d) (t := m) hl
  have h3 : slk M n d m l' = 2 := by
    have : slk M n d m l' ≤ 2 := by unfold slk; repeat' split
                                    all_goals omega
    omega
  unfold hasW
  rw [decide_eq_true h3]; rfl
theorem slk_two {m : Int} (h : slk M n d m l = 2) : -l ≤ (LV M n d m).1 ∧ (LV M n d m).2 ≤ l := by
  unfold slk at h
  split at h
  · assumption
  · split at h <;> omega
theorem win_inside {P Q : Int → Bool} (hPQ : ∀ m, P m = true → Q m = true) {K : Nat} {k k' : Nat} {D D' : Dat} (R : Rep k D (wl P lo K)) (R' : Rep k' D' (wl Q lo K)) (hK : K ≤ 3000) : n61 k D k' D' = true ∧ m61 k D k' D' = true := by
  have W := wl_ok P lo K
  have W' := wl_ok Q lo K
  refine inside_ok (by have := R.1; have := W.len; omega) (by have := R'.1; have := W'.len; omega) fun i hi => ?_
  have hw := rep_at R hi
  obtain ⟨r1, r2, r3⟩ := W.rng _ hw
  obtain ⟨w, g1, g2, g3⟩ := W'.cov (D.ii i 0) (D.ii i 1) r1 r2 r3 fun m a b => hPQ m (W.sat _ hw m a b)
  obtain ⟨q, q1, q2, q3⟩ := rep_mem R' g1
  exact ⟨q, q1, by rw [q2]; exact g2, by rw [q3]; exact g3⟩
theorem l13_in {k : Nat} {D : Dat} (T : Tab M n d) (c : m126 M n d = 0) (q : n126 M n d = true) (hn : n ≤ 1000) (l0 : 0 ≤ l) (l1 : l ≤ 10000000) (h0 : 0 ≤ lo) (h1 : hi ≤ 1000000) {i : Nat} (hi' : i < k) (r1 : lo ≤ D.ii i 0) (r3 : D.ii i 1 ≤ hi) (hs : ∀ m, D.ii i 0 ≤ m → m ≤ D.ii i 1 → hasW M n d l true m = true)
    (x1 x2 x3 y1 y2 y3 z1 z2 z3 : Int) (b1 b2 b3 b4 : Bool) (p1 p2 : Int) : ∀ (K f : Nat) (t : Int), t + (K : Int) = D.ii i 1 + 1 → D.ii i 0 ≤ t → K < f →
    l13_2 k D (i : Int) M n d l p1 p2 b1 x1 x2 x3 b2 y1 y2 y3 b3 z1 z2 z3 b4 f t = some (false, default, ())
  | 0, f, t, he, hl, hf => by
    obtain ⟨f, rfl⟩ : ∃ g, f = g + 1 := ⟨f - 1, by omega⟩
    have z : decide (t ≤ D.ii i 1) = false := decide_eq_false (by omega)
    simp only [l13_2, cdd hi', Int.toNat_natCast, z, cond_true, cond_false]
  | K + 1, f, t, he, hl, hf => by
    obtain ⟨f, rfl⟩ : ∃ g, f = g + 1 := ⟨f - 1, by omega⟩
    have z : decide (t ≤ D.ii i 1) = true := decide_eq_true (by omega)
    have t22 : m22 t = true := m22_iff.2 ⟨by omega, by omega⟩
    obtain ⟨g1, g2⟩ := m19_ok (t := t) T c q
    rw [t22, cond_true] at g2
    obtain ⟨s1, s2⟩ := slk_two (sure_slk (hs t hl (by omega)))
    have w : IntKind.i64.wrap (t + 1) = t + 1 := wr (by omega) (by omega)
    have wl0 : IntKind.i64.wrap (0 - l) = 0 - l := wr (by omega) (by omega)
    have d1 : decide ((LV M n d t).1 < 0 - l) = false := decide_eq_false (by omega)
    have d2 : decide (l < (LV M n d t).2) = false := decide_eq_false (by omega)
    simp only [l13_2, cdd hi', Int.toNat_natCast, z, n20_t M d hn, m20_eq, g1, g2, wl0, d1, d2, w, decide_true, cond_true, cond_false]
    exact l13_in T c q hn l0 l1 h0 h1 hi' r1 r3 hs x1 x2 x3 y1 y2 y3 z1 z2 z3 b1 b2 b3 b4 p1 p2 K f (t + 1) (by omega) (by omega) (by omega)
theorem l13_all {k : Nat} {D : Dat} (T : Tab M n d) (c : m126 M n d = 0) (q : n126 M n d = true) (hn : n ≤ 1000) (l0 : 0 ≤ l) (l1 : l ≤ 10000000) (S : Spn lo hi) (R : Rep k D (wl (hasW M n d l true) lo (hi - lo + 1).toNat)) (y1 y2 y3 z1 z2 z3 x1 x2 x3 : Int) (b1 b2 b3 b4 : Bool) :
    o13_0 k D M n d l lo hi b1 x1 x2 x3 b2 y1 y2 y3 b3 z1 z2 z3 b4 0 = some (false, default, ()) := by
  have W := wl_ok (hasW M n d l true) lo (hi - lo + 1).toNat
  obtain ⟨h0, le, h1, few⟩ := S
  have hk : k ≤ 3000 := by have := R.1; have := W.len; omega
  have r : o13_0 k D M n d l lo hi b1 x1 x2 x3 b2 y1 y2 y3 b3 z1 z2 z3 b4 0 = some (first (fun _ => none) (false, default, ()) k 0) := by
    refine loop_first (l := l13_0 k D M n d l lo hi b1 x1 x2 x3 b2 y1 y2 y3 b3 z1 z2 z3 b4) (show k ≤ 9223372036854775807 by omega) (fun f i hi' => ?_) (fun f => by simp only [l13_0, cdn]; rfl) k 0 _ (by omega) (by
      refine Nat.lt_of_le_of_lt ?_ (Nat.lt_add_of_pos_right (by decide))
      repeat (first | exact Nat.le_refl _ | refine Nat.le_trans ?_ (Nat.le_add_right _ _)))
    have hw := rep_at R hi'
    obtain ⟨r1, r2, r3⟩ := W.rng _ hw
    simp only at r1 r2 r3
    have sat : ∀ m, D.ii i 0 ≤ m → m ≤ D.ii i 1 → hasW M n d l true m = true := fun m a b => W.sat _ hw m a b
    have m1 : m29 (D.ii i 0) lo hi = true := m29_iff.2 ⟨r1, by omega⟩
    have m2 : m29 (D.ii i 1) (D.ii i 0) hi = true := m29_iff.2 ⟨r2, by omega⟩
    have o : (o13_2 k D (i : Int) M n d l lo hi b1 x1 x2 x3 b2 y1 y2 y3 b3 z1 z2 z3 b4 (D.ii i 0)) = some (false, default, ()) :=
      l13_in T c q hn l0 l1 h0 h1 hi' r1 (by omega) sat x1 x2 x3 y1 y2 y3 z1 z2 z3 b1 b2 b3 b4 lo hi (D.ii i 1 + 1 - D.ii i 0).toNat _ (D.ii i 0) (by omega) (Int.le_refl _) (by
        refine Nat.lt_of_le_of_lt (show (D.ii i 1 + 1 - D.ii i 0).toNat ≤ hi.toNat + 1 by omega) ?_
        refine Nat.lt_of_lt_of_le (show hi.toNat + 1 < hi.toNat + 8 by omega) (Nat.add_le_add_right ?_ 8)
        repeat (first | exact Nat.le_add_left _ _ | refine Nat.le_trans ?_ (Nat.le_add_right _ _)))
    simp only [l13_0, cdl hi', cdd hi', Int.toNat_natCast, m1, m2, o, Option.isSome_some, Option.getD_some, cond_true, cond_false, brk]
  rw [first_none (fun _ _ _ => rfl)] at r
  exact r
end
theorem lawSurely (M : Int) (n : Nat) (d : Dat) (l lo hi : Int) (s : Bool) (more : Int) (hn : n ≤ 9223372036854775807) : n13 M n d l lo hi s more = true ∧ m13 M n d l lo hi s more = true := by
  cases hf : m18 M n d with
  | false =>
    constructor
    · simp only [n13, n17_val, e17, hf, cond_true, cond_false]; rfl
    · simp only [m13, e17, hf, cond_true, cond_false]
  | true =>
    cases hb : m58 lo hi with
    | false =>
      constructor
      · simp only [n13, n17_val, e17, hf, hb, cond_true, cond_false]; rfl
      · simp only [m13, e17, hf, hb, cond_true, cond_false]
    | true =>
      obtain ⟨q1, q2, tc⟩ := tab_cases M n hn d
      have q59 : n59 M n d l lo hi s = true := by simp only [n59, q1]; rfl
      by_cases h59 : m59 M n d l lo hi s = 0
      · cases hm : m29 more 0 1000 with
        | false =>
          constructor
          · simp only [n13, n17_val, e17, hf, hb, q59, h59, hm, decide_true, cond_true, cond_false]; rfl
          · simp only [m13, e17, hf, hb, h59, hm, decide_true, cond_true, cond_false]
        | true =>
          have ⟨mo0, mo1⟩ := m29_iff.1 hm
          have h12 := m18_le hf
          have g20 := n20_t M d (show n ≤ 1000 by omega)
          obtain ⟨T, c1, c2⟩ : Tab M n d ∧ m21 M n d = 0 ∧ m126 M n d = 0 := by
            rcases tc with h | ⟨e, he, c1, c2⟩
            · exact h
            · simp only [m59, c1, decide_eq_false he, cond_true, cond_false] at h59; exact absurd h59 he
          have hl : m29 l 0 10000000 = true := by
            cases h : m29 l 0 10000000 with
            | true => rfl
            | false => simp only [m59, c1, h, decide_true, cond_true, cond_false] at h59; cases h59
          have ⟨l0, l1⟩ := m29_iff.1 hl
          obtain ⟨S, s1, s2⟩ : Spn lo hi ∧ m67 lo hi = 0 ∧ m116 lo hi = 0 := by
            rcases span_cases lo hi with h | ⟨e, he, s1, s2⟩
            · exact h
            · simp only [m59, c1, hl, s1, decide_true, cond_true, cond_false] at h59; exact absurd h59 he
          have wl1 : IntKind.i64.wrap (l + more) = l + more := wr (by omega) (by omega)
          obtain ⟨l', hl'⟩ : ∃ l', l' = imin (l + more) 10000000 := ⟨_, rfl⟩
          have b2 : l ≤ l' ∧ l' ≤ 10000000 := by rw [hl']; unfold imin; split <;> omega
          have few := S.few
          have le := S.le
          obtain ⟨x1, kx, Dx, Rx, x2⟩ := win_ok (s := true) T c2 q2 S s2 l0 l1
          obtain ⟨y1, ky, Dy, Ry, y2⟩ := win_ok (s := false) T c2 q2 S s2 l0 l1
          obtain ⟨z1, kz, Dz, Rz, z2⟩ := win_ok (s := true) T c2 q2 S s2 (l := l') (by omega) b2.2
          obtain ⟨i1, i2⟩ := win_inside (fun m h => sure_perhaps h) Rx Ry (by omega)
          obtain ⟨j1, j2⟩ := win_inside (fun m h => sure_more b2.1 h) Rx Rz (by omega)
          have o := l13_all T c2 q2 (show n ≤ 1000 by omega) l0 l1 S Rx l lo hi l' lo hi l lo hi s true false true
          have f8 : decide ((8 : Int) = 0) = false := rfl
          by_cases hx : 60 < kx <;> by_cases hy : 60 < ky <;> by_cases hz : 60 < kz <;> simp only [hx, hy, hz, if_true, if_false] at x2 y2 z2 <;>
          first
          | (constructor
             · simp only [n13, n17_val, e17, hf, hb, q59, h59, hm, g20, m20_eq, wl1, ← hl', x1, y1, z1, x2, y2, z2, i1, i2, j1, j2, o, f8, Option.isSome_some, decide_true, cond_true, cond_false]; rfl
             · simp only [m13, e17, hf, hb, h59, hm, m20_eq, wl1, ← hl', x2, y2, z2, i2, j2, o, f8, Option.getD_some, decide_true, cond_true, cond_false])
          | (constructor
             · simp only [n13, n17_val, e17, hf, hb, q59, h59, hm, g20, m20_eq, wl1, ← hl', x1, y1, z1, x2, y2, z2, i1, i2, j1, j2, o, f8, Option.isSome_some, decide_true, cond_true, cond_false]; rfl
             · simp only [m13, e17, hf, hb, h59, hm, m20_eq, wl1, ← hl', x2, y2, z2, i2, j2, o, f8, Option.getD_some, decide_true, cond_true, cond_false]; rfl)
      · constructor
        · simp only [n13, n17_val, e17, hf, hb, q59, decide_eq_false h59, cond_true, cond_false]; rfl
        · simp only [m13, e17, hf, hb, decide_eq_false h59, cond_true, cond_false]
end Go.Proofs.Ytlaogoojkfjgoaa
