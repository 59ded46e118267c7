/-
  The plain laws of 'SiteLevels', 'SiteSlack', 'SitePeriods': the laws' models are true, and their needs. Conditions: none.
-/
import Derived.Test.YtlaogoojkfjgoaaB1
import Derived.Test.YtlaogoojkfjgoaaB2
import Derived.Test.YtlaogoojkfjgoaaB3
import Derived.Test.YtlaogoojkfjgoaaB4
import Derived.Test.YtlaogoojkfjgoaaBFLevels
import Derived.Test.YtlaogoojkfjgoaaBPLoop
import Derived.Test.YtlaogoojkfjgoaaBPAng
import Derived.Test.YtlaogoojkfjgoaaBPCirc
import Derived.Test.YtlaogoojkfjgoaaBPRay
import Derived.Test.YtlaogoojkfjgoaaBPCos
import Derived.Test.YtlaogoojkfjgoaaBPTide
import Derived.Test.YtlaogoojkfjgoaaBE17
namespace Go.Proofs.Ytlaogoojkfjgoaa
open Go Go.Sy
set_option linter.unusedVariables false
set_option maxRecDepth 100000
theorem e17 : m17 = true := rfl
theorem l3_run {n : Nat} {d : Dat} (t1 t6 M b0 b1 : Int) (hn : n ≤ 10) (hw : ∀ i, i < n → Wav (d.ii i 0) (d.ii i 1) (d.ii i 2)) (hh : ∀ k, k ≤ n → 0 ≤ hs d k ∧ hs d k ≤ 100000 * (k : Int)) : ∀ (k i f : Nat), i + k = n → k < f →
    l3_0 t1 t6 M n d b0 b1 f (hs d i) (i : Int) = some (hs d n)
  | 0, i, f, hi, hf => by
    obtain ⟨f, rfl⟩ : ∃ f', f = f' + 1 := ⟨f - 1, by omega⟩
    obtain rfl : i = n := by omega
    simp only [l3_0, cdn, cond_false]
  | k + 1, i, f, hi, hf => by
    obtain ⟨f, rfl⟩ : ∃ f', f = f' + 1 := ⟨f - 1, by omega⟩
    have hlt : i < n := by omega
    obtain ⟨a, b⟩ := hh (i + 1) (by omega)
    have e : hs d (i + 1) = hs d i + d.ii i 0 := rfl
    simp only [l3_0, cdl hlt, cdd hlt, cond_true, Int.toNat_natCast]
    rw [← e, wr (n := hs d (i + 1)) (by omega) (by omega), wrS hlt (by omega)]
    exact l3_run t1 t6 M b0 b1 hn hw hh k (i + 1) f (by omega) (by omega)
theorem lawLevels (M : Int) (n : Nat) (d : Dat) (t : Int) (hn : n ≤ 9223372036854775807) : n3 M n d t = true ∧ m3 M n d t = true := by
  cases hf : m18 M n d with
  | false =>
    constructor
    · simp only [n3, n17_val, e17, hf, cond_true, cond_false]; rfl
    · simp only [m3, e17, hf, cond_true, cond_false]
  | true =>
    have h12 := m18_le hf
    have g20 := n20_t M d (show n ≤ 1000 by omega)
    obtain ⟨q1, q2, ⟨T, c1, c2⟩ | ⟨e, he, c1, c2⟩⟩ := tab_cases M n hn d
    · obtain ⟨g19, r19⟩ := m19_ok (t := t) T c2 q2
      cases ht : m22 t with
      | false =>
        rw [ht, cond_false] at r19
        constructor
        · simp only [n3, n17_val, e17, hf, g20, m20_eq, g19, q1, c1, ht, decide_true, cond_true, cond_false]; rfl
        · simp only [m3, e17, hf, m20_eq, r19, c1, ht, decide_true, cond_true, cond_false]
      | true =>
        have ⟨t0, t1⟩ := m22_iff.1 ht
        rw [ht, cond_true] at r19
        have L := level_ok T t0 t1
        have hh : ∀ k, k ≤ n → 0 ≤ hs d k ∧ hs d k ≤ 100000 * (k : Int) := fun k hk => by
          obtain ⟨a, b, _⟩ := lvl_bd T.w t0 t1 k hk; exact ⟨a, b⟩
        have r3 := l3_run t 0 M (LV M n d t).1 (LV M n d t).2 T.n10 T.w hh n 0 (t.toNat + (0 : Int).toNat + (0 : Int).toNat + (0 : Int).toNat + M.toNat + n + (LV M n d t).1.toNat + (LV M n d t).2.toNat + 8) (by omega) (by omega)
        have o3 : o3_0 t 0 M n d (LV M n d t).1 (LV M n d t).2 0 0 = some (hs d n) := r3
        have x1 := L.lo
        have x2 := L.le
        have x3 := L.hi
        have x4 := L.h0
        have x5 := L.h1
        have m0 := T.m0
        have m1 := T.m1
        constructor
        · simp only [n3, n17_val, e17, hf, g20, m20_eq, g19, q1, c1, ht, r19, o3, L.n23, Option.isSome_some, decide_true, cond_true, cond_false]; rfl
        · simp only [m3, e17, hf, m20_eq, r19, c1, ht, o3, L.m23, Option.getD_some, decide_true, cond_true, cond_false]
          rw [wr (n := M - hs d n) (by omega) (by omega), wr (n := M + hs d n) (by omega) (by omega), decide_eq_true x1, decide_eq_true x2, decide_eq_true x3]
          rfl
    · obtain ⟨g19, r19⟩ := m19_bad (t := t) he c2 q2
      constructor
      · simp only [n3, n17_val, e17, hf, g20, m20_eq, g19, q1, c1, decide_eq_false he, cond_true, cond_false]; rfl
      · simp only [m3, e17, hf, m20_eq, r19, c1, decide_eq_false he, decide_true, cond_true, cond_false]
end Go.Proofs.Ytlaogoojkfjgoaa
