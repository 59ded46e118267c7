/-
  The plain laws of 'SiteSlackWindows' and 'SiteSurely': the laws' models are true, and their needs. Conditions: none.
-/
import Derived.Test.YtlaogoojkfjgoaaHFSlackWindows
import Derived.Test.YtlaogoojkfjgoaaHPLoop
import Derived.Test.YtlaogoojkfjgoaaHPAng
import Derived.Test.YtlaogoojkfjgoaaHPCirc
import Derived.Test.YtlaogoojkfjgoaaHPRay
import Derived.Test.YtlaogoojkfjgoaaHPCos
import Derived.Test.YtlaogoojkfjgoaaHPTide
import Derived.Test.YtlaogoojkfjgoaaHE17
import Derived.Test.YtlaogoojkfjgoaaHPLevels
import Derived.Test.YtlaogoojkfjgoaaHPWin
import Derived.Test.YtlaogoojkfjgoaaH1
import Derived.Test.YtlaogoojkfjgoaaH2
import Derived.Test.YtlaogoojkfjgoaaH3
import Derived.Test.YtlaogoojkfjgoaaH4
import Derived.Test.YtlaogoojkfjgoaaH5
namespace Go.Proofs.Ytlaogoojkfjgoaa
open Go Go.Sy
set_option linter.unusedVariables false
set_option linter.unusedSimpArgs false
set_option maxRecDepth 100000
attribute [local simp] brk
structure Spn (lo hi : Int) : Prop where
  h0 : 0 ≤ lo
  le : lo ≤ hi
  h1 : hi ≤ 1000000
  few : hi - lo < 3000
theorem span_cases (lo hi : Int) : (Spn lo hi ∧ m67 lo hi = 0 ∧ m116 lo hi = 0) ∨ ∃ e, e ≠ 0 ∧ m67 lo hi = e ∧ m116 lo hi = e := by
  simp only [m67, m116, m80_m22]
  cases a : m22 lo with
  | false => exact .inr ⟨2, by decide, rfl, rfl⟩
  | true =>
    cases b : m22 hi with
    | false => exact .inr ⟨2, by decide, rfl, rfl⟩
    | true =>
      have ⟨a0, a1⟩ := m22_iff.1 a
      have ⟨b0, b1⟩ := m22_iff.1 b
      rw [wr (n := hi - lo) (by omega) (by omega), wr (n := hi - lo + 1) (by omega) (by omega)]
      by_cases h : hi < lo
      · rw [decide_eq_true h]; exact .inr ⟨9, by decide, rfl, rfl⟩
      · rw [decide_eq_false h]
        by_cases k : 3000 ≤ hi - lo
        · rw [decide_eq_true k, decide_eq_true (show 3000 < hi - lo + 1 by omega)]; exact .inr ⟨8, by decide, rfl, rfl⟩
        · rw [decide_eq_false k, decide_eq_false (show ¬ 3000 < hi - lo + 1 by omega)]
          exact .inl ⟨⟨a0, by omega, b1, by omega⟩, rfl, rfl⟩
section
variable {M : Int} {n : Nat} {d : Dat} {l : Int} {s : Bool} {lo hi : Int}
theorem ab (c : m126 M n d = 0) (q : n126 M n d = true) : n79a M n d = false ∧ n79b M n d = true := by
  constructor
  · simp only [n79a, c, q, decide_true, cond_true]; rfl
  · simp only [n79b, c, q, n98_val, decide_true, cond_true]; rfl
theorem ab' {e : Int} (he : e ≠ 0) (c : m126 M n d = e) (q : n126 M n d = true) : n79a M n d = true := by
  simp only [n79a, c, q, decide_eq_false he, cond_false]; rfl
theorem hi_run (T : Tab M n d) (h0 : 0 ≤ lo) (h1 : hi ≤ 1000000) : ∀ (k f f' : Nat) (t best top : Int), t + (k : Int) = hi + 1 → lo ≤ t → k < f → k < f' →
    ∃ r, l66_0 M n d lo hi f best top t M n d m98 = some (r, M, n, d, m98) ∧ l68_0 M n d lo hi f' best top t = some r
  | 0, f, f', t, best, top, he, hl, hf, hf' => by
    obtain ⟨f, rfl⟩ : ∃ g, f = g + 1 := ⟨f - 1, by omega⟩
    obtain ⟨f', rfl⟩ : ∃ g, f' = g + 1 := ⟨f' - 1, by omega⟩
    have z : decide (t ≤ hi) = false := decide_eq_false (by omega)
    exact ⟨best, by simp only [l66_0, z, cond_false], by simp only [l68_0, z, cond_false]⟩
  | k + 1, f, f', t, best, top, he, hl, hf, hf' => by
    obtain ⟨f, rfl⟩ : ∃ g, f = g + 1 := ⟨f - 1, by omega⟩
    obtain ⟨f', rfl⟩ : ∃ g, f' = g + 1 := ⟨f' - 1, by omega⟩
    have z : decide (t ≤ hi) = true := decide_eq_true (by omega)
    have L := level_ok T (t := t) (by omega) (by omega)
    have w : IntKind.i64.wrap (t + 1) = t + 1 := wr (by omega) (by omega)
    cases hc : decide (top < (LV M n d t).1) with
    | true =>
      obtain ⟨r, r1, r2⟩ := hi_run T h0 h1 k f f' (t + 1) t (LV M n d t).1 (by omega) (by omega) (by omega) (by omega)
      exact ⟨r, by simp only [l66_0, z, L.n81, L.m81, hc, w, cond_true]; exact r1, by simp only [l68_0, z, L.n23, L.m23, hc, w, cond_true]; exact r2⟩
    | false =>
      obtain ⟨r, r1, r2⟩ := hi_run T h0 h1 k f f' (t + 1) best top (by omega) (by omega) (by omega) (by omega)
      exact ⟨r, by simp only [l66_0, z, L.n81, L.m81, hc, w, cond_true, cond_false]; exact r1, by simp only [l68_0, z, L.n23, L.m23, hc, w, cond_true, cond_false]; exact r2⟩
theorem high_ok (T : Tab M n d) (c : m126 M n d = 0) (q : n126 M n d = true) (S : Spn lo hi) (c2 : m116 lo hi = 0) : n66 M n d lo hi = true ∧ n68 M n d lo hi = true ∧ ∃ r, m66 M n d lo hi = (r, 0) ∧ m68 M n d lo hi = r := by
  obtain ⟨h0, le, h1, few⟩ := S
  obtain ⟨a1, a2⟩ := ab c q
  have L := level_ok T h0 (show lo ≤ 1000000 by omega)
  have w : IntKind.i64.wrap (lo + 1) = lo + 1 := wr (by omega) (by omega)
  obtain ⟨r, r1, r2⟩ := hi_run T h0 h1 (hi - lo).toNat (lo.toNat + (LV M n d lo).1.toNat + (lo + 1).toNat + M.toNat + n + lo.toNat + hi.toNat + M.toNat + n + 8) (lo.toNat + (LV M n d lo).1.toNat + (lo + 1).toNat + M.toNat + n + lo.toNat + hi.toNat + 8) (lo + 1) lo (LV M n d lo).1 (by omega) (by omega) (by omega) (by omega)
  have o1 : o66_0 M n d lo hi lo (LV M n d lo).1 (lo + 1) M n d m98 = some (r, M, n, d, m98) := r1
  have o2 : o68_0 M n d lo hi lo (LV M n d lo).1 (lo + 1) = some r := r2
  refine ⟨?_, ?_, r, ?_, ?_⟩
  · simp only [n66, a1, a2, m79b, c2, L.n81, L.m81, w, o1, decide_true, cond_true, cond_false, Option.isSome_some]; rfl
  · simp only [n68, L.n23, L.m23, w, o2, Option.isSome_some]; rfl
  · simp only [m66, a1, m79b, c2, L.m81, w, o1, decide_true, cond_true, cond_false, Option.getD_some]
  · simp only [m68, L.m23, w, o2, Option.getD_some]
theorem high_span {e : Int} (he : e ≠ 0) (c : m126 M n d = 0) (q : n126 M n d = true) (c2 : m116 lo hi = e) : n66 M n d lo hi = true ∧ m66 M n d lo hi = (0, e) := by
  obtain ⟨a1, a2⟩ := ab c q
  constructor
  · simp only [n66, a1, a2, m79b, c2, decide_eq_false he, decide_true, cond_true, cond_false]; rfl
  · simp only [m66, a1, m79b, c2, decide_eq_false he, decide_true, cond_true, cond_false]
theorem high_bad {e : Int} (he : e ≠ 0) (c : m126 M n d = e) (q : n126 M n d = true) : n66 M n d lo hi = true ∧ m66 M n d lo hi = (0, e) := by
  have a1 := ab' he c q
  constructor
  · simp only [n66, a1, m79a, c, decide_eq_false he, cond_true, cond_false]; rfl
  · simp only [m66, a1, m79a, c, decide_eq_false he, cond_true, cond_false]
/-- What the program's windows come to. -/
theorem win_ok (T : Tab M n d) (c : m126 M n d = 0) (q : n126 M n d = true) (S : Spn lo hi) (c2 : m116 lo hi = 0) (l0 : 0 ≤ l) (l1 : l ≤ 10000000) :
    n60 M n d l lo hi s = true ∧ ∃ k D, Rep k D (wl (hasW M n d l s) lo (hi - lo + 1).toNat) ∧ m60 M n d l lo hi s = if 60 < k then (0, noDat, 8) else (k, D, 0) := by
  obtain ⟨h0, le, h1, few⟩ := S
  obtain ⟨a1, a2⟩ := ab c q
  have lim : m114 l = true := m29_iff.2 ⟨l0, l1⟩
  obtain ⟨k, D, R, e⟩ := l117_run (s := s) T l0 l1 h0 h1 lo hi (hi - lo + 1).toNat 0 (lo.toNat + M.toNat + n + l.toNat + lo.toNat + hi.toNat + lo.toNat + hi.toNat + 0 + 0 + 8) 0 noDat (by omega) (by omega) (by omega) rep_nil
  rw [Nat.zero_add] at R
  rw [show lo + ((0 : Nat) : Int) = lo by omega] at e
  have o : o117c118_0 lo hi lo M n d m98 l lo hi s 0 0 noDat = some (M, n, d, m98, l, lo, hi, s, k, k, D) := e
  have g1 : n117c118 lo hi M n d m98 l lo hi s = true := by simp only [n117c118, o, Option.isSome_some]; rfl
  have g2 : m117c118 lo hi M n d m98 l lo hi s = (k, M, n, d, m98, l, lo, hi, s, k, D) := by simp only [m117c118, o, Option.getD_some]
  by_cases hk : 60 < k
  · have z : decide ((60 : Int) < (k : Int)) = true := decide_eq_true (by omega)
    refine ⟨?_, k, D, R, ?_⟩
    · simp only [n60, a1, a2, m79b, lim, c2, g1, g2, n106a, z, decide_true, cond_true, cond_false]; rfl
    · rw [if_pos hk]
      simp only [m60, a1, m79b, lim, c2, g2, n106a, m106a, z, decide_true, cond_true, cond_false]; rfl
  · have z : decide ((60 : Int) < (k : Int)) = false := decide_eq_false (by omega)
    refine ⟨?_, k, D, R, ?_⟩
    · simp only [n60, a1, a2, m79b, lim, c2, g1, g2, n106a, n106b, m106b, z, Nat.zero_add, Nat.le_refl, decide_true, cond_true, cond_false]; rfl
    · rw [if_neg hk]
      simp only [m60, a1, m79b, lim, c2, g2, n106a, m106b, z, decide_true, cond_true, cond_false]; rfl
theorem win_ref (T : Tab M n d) (S : Spn lo hi) (l0 : 0 ≤ l) (l1 : l ≤ 10000000) :
    n69 M n d l lo hi s = true ∧ ∃ k D, Rep k D (wl (hasW M n d l s) lo (hi - lo + 1).toNat) ∧ m69 M n d l lo hi s = (k, D) := by
  obtain ⟨h0, le, h1, few⟩ := S
  obtain ⟨K, hK⟩ : ∃ K, K = (hi - lo + 1).toNat := ⟨_, rfl⟩
  obtain ⟨S', hS', e⟩ := l69_run (s := s) T l0 l1 h0 h1 K 0 (0 + lo.toNat + M.toNat + n + l.toNat + lo.toNat + hi.toNat + 8) noDat (by omega) (by omega) (by omega) (fun q hq => absurd hq (Nat.not_lt_zero q))
  rw [show lo + ((0 : Nat) : Int) = lo by omega, show 0 + K = K by omega] at e
  rw [Nat.zero_add] at hS'
  have o : o69_0 M n d l lo hi s 0 lo noDat = some (K, K, S') := e
  obtain ⟨k, D, R, e2⟩ := l122_run (P := hasW M n d l s) (lo := lo) h0 (by omega) (by omega) hS' K 0 (lo.toNat + K + 0 + (0 : Int).toNat + 8) 0 noDat (by omega) (by omega) rep_nil
  have o2 : o122_0 lo K S' 0 0 noDat = some (k, k, D) := e2
  rw [← hK]
  refine ⟨?_, k, D, R, ?_⟩
  · simp only [n69, o, n122, m122, o2, Option.isSome_some, Option.getD_some, Nat.zero_add, Nat.le_refl, decide_true]; rfl
  · simp only [m69, o, m122, o2, Option.getD_some]
theorem win_bad {e : Int} (he : e ≠ 0) (c : m126 M n d = e) (q : n126 M n d = true) : n60 M n d l lo hi s = true ∧ m60 M n d l lo hi s = (0, noDat, e) := by
  have a1 := ab' he c q
  constructor
  · simp only [n60, a1, m79a, c, decide_eq_false he, cond_true, cond_false]; rfl
  · simp only [m60, a1, m79a, c, decide_eq_false he, cond_true, cond_false]
theorem win_lim (c : m126 M n d = 0) (q : n126 M n d = true) (h : m29 l 0 10000000 = false) : n60 M n d l lo hi s = true ∧ m60 M n d l lo hi s = (0, noDat, 2) := by
  obtain ⟨a1, a2⟩ := ab c q
  have lim : m114 l = false := h
  constructor
  · simp only [n60, a1, a2, m79b, lim, decide_true, cond_true, cond_false]; rfl
  · simp only [m60, a1, m79b, lim, decide_true, cond_true, cond_false]
theorem win_span {e : Int} (he : e ≠ 0) (c : m126 M n d = 0) (q : n126 M n d = true) (h : m29 l 0 10000000 = true) (c2 : m116 lo hi = e) : n60 M n d l lo hi s = true ∧ m60 M n d l lo hi s = (0, noDat, e) := by
  obtain ⟨a1, a2⟩ := ab c q
  have lim : m114 l = true := h
  constructor
  · simp only [n60, a1, a2, m79b, lim, c2, decide_eq_false he, decide_true, cond_true, cond_false]; rfl
  · simp only [m60, a1, m79b, lim, c2, decide_eq_false he, decide_true, cond_true, cond_false]
end
theorem lawSlackWindows (M : Int) (n : Nat) (d : Dat) (l lo hi : Int) (s : Bool) (hn : n ≤ 9223372036854775807) : n15 M n d l lo hi s = true ∧ m15 M n d l lo hi s = true := by
  cases hf : m18 M n d with
  | false =>
    constructor
    · simp only [n15, n17_val, e17, hf, cond_true, cond_false]; rfl
    · simp only [m15, e17, hf, cond_true, cond_false]
  | true =>
    cases hb : m58 lo hi with
    | false =>
      constructor
      · simp only [n15, n17_val, e17, hf, hb, cond_true, cond_false]; rfl
      · simp only [m15, e17, hf, hb, cond_true, cond_false]
    | true =>
      have h12 := m18_le hf
      have g20 := n20_t M d (show n ≤ 1000 by omega)
      obtain ⟨q1, q2, ⟨T, c1, c2⟩ | ⟨e, he, c1, c2⟩⟩ := tab_cases M n hn d
      · rcases span_cases lo hi with ⟨S, s1, s2⟩ | ⟨e, he, s1, s2⟩
        · obtain ⟨x1, x2, r, x3, x4⟩ := high_ok T c2 q2 S s2
          cases hl : m29 l 0 10000000 with
          | false =>
            obtain ⟨y1, y2⟩ := win_lim (l := l) (s := s) (lo := lo) (hi := hi) c2 q2 hl
            constructor
            · simp only [n15, n17_val, e17, hf, hb, g20, m20_eq, y1, x1, x2, q1, c1, s1, x3, x4, n59, m59, hl, f20, decide_true, cond_true, cond_false]; rfl
            · simp only [m15, e17, hf, hb, m20_eq, c1, s1, x3, x4, y2, m59, hl, f20, decide_true, cond_true, cond_false]; rfl
          | true =>
            have ⟨l0, l1⟩ := m29_iff.1 hl
            obtain ⟨y1, k, D, R, y2⟩ := win_ok (s := s) T c2 q2 S s2 l0 l1
            obtain ⟨z1, k', D', R', z2⟩ := win_ref (s := s) T S l0 l1
            obtain ⟨rfl, same⟩ := rep_same R R'
            by_cases hk : 60 < k
            · have z : decide ((60 : Int) < (k : Int)) = true := decide_eq_true (by omega)
              rw [if_pos hk] at y2
              constructor
              · simp only [n15, n17_val, e17, hf, hb, g20, m20_eq, y1, x1, x2, q1, c1, s1, x3, x4, n59, m59, hl, z1, z2, z, decide_true, cond_true, cond_false]; rfl
              · simp only [m15, e17, hf, hb, m20_eq, c1, s1, x3, x4, y2, m59, hl, z2, z, decide_true, cond_true, cond_false]; rfl
            · have z : decide ((60 : Int) < (k : Int)) = false := decide_eq_false (by omega)
              rw [if_neg hk] at y2
              obtain ⟨e1, e2⟩ := m46_same (by omega) same
              constructor
              · simp only [n15, n17_val, e17, hf, hb, g20, m20_eq, y1, y2, x1, x2, q1, c1, s1, x3, x4, n59, m59, hl, z1, z2, z, e1, decide_true, cond_true, cond_false]; rfl
              · simp only [m15, e17, hf, hb, m20_eq, c1, s1, x3, x4, y2, m59, hl, z2, z, e2, decide_true, cond_true, cond_false]
        · obtain ⟨x1, x2⟩ := high_span he c2 q2 s2
          cases hl : m29 l 0 10000000 with
          | false =>
            obtain ⟨y1, y2⟩ := win_lim (l := l) (s := s) (lo := lo) (hi := hi) c2 q2 hl
            constructor
            · simp only [n15, n17_val, e17, hf, hb, g20, m20_eq, y1, x1, x2, q1, c1, s1, n59, m59, hl, f20, decide_eq_false he, decide_true, cond_true, cond_false]; rfl
            · simp only [m15, e17, hf, hb, m20_eq, c1, s1, x2, y2, m59, hl, f20, decide_eq_false he, decide_true, cond_true, cond_false]; rfl
          | true =>
            obtain ⟨y1, y2⟩ := win_span (s := s) he c2 q2 hl s2
            constructor
            · simp only [n15, n17_val, e17, hf, hb, g20, m20_eq, y1, x1, x2, q1, c1, s1, n59, m59, hl, decide_eq_false he, decide_true, cond_true, cond_false]; rfl
            · simp only [m15, e17, hf, hb, m20_eq, c1, s1, x2, y2, m59, hl, decide_eq_false he, decide_true, cond_true, cond_false]; rfl
      · obtain ⟨x1, x2⟩ := high_bad (lo := lo) (hi := hi) he c2 q2
        obtain ⟨y1, y2⟩ := win_bad (l := l) (s := s) (lo := lo) (hi := hi) he c2 q2
        constructor
        · simp only [n15, n17_val, e17, hf, hb, g20, m20_eq, y1, x1, x2, q1, c1, n59, m59, decide_eq_false he, decide_true, cond_true, cond_false]; rfl
        · simp only [m15, e17, hf, hb, m20_eq, c1, x2, y2, m59, decide_eq_false he, decide_true, cond_true, cond_false]; rfl
end Go.Proofs.Ytlaogoojkfjgoaa
