/-
  The plain laws of 'SiteLevels', 'SiteSlack', 'SitePeriods': the laws' models are true, and their needs. Conditions: none.
-/
import Derived.Test.YtlaogoojkfjgoaaE1
import Derived.Test.YtlaogoojkfjgoaaE2
import Derived.Test.YtlaogoojkfjgoaaE3
import Derived.Test.YtlaogoojkfjgoaaE4
import Derived.Test.YtlaogoojkfjgoaaEFPeriods
import Derived.Test.YtlaogoojkfjgoaaEPLoop
import Derived.Test.YtlaogoojkfjgoaaEPAng
import Derived.Test.YtlaogoojkfjgoaaEPCirc
import Derived.Test.YtlaogoojkfjgoaaEPRay
import Derived.Test.YtlaogoojkfjgoaaEPCos
import Derived.Test.YtlaogoojkfjgoaaEPTide
import Derived.Test.YtlaogoojkfjgoaaEE17
namespace Go.Proofs.Ytlaogoojkfjgoaa
open Go Go.Sy
set_option linter.unusedVariables false
set_option linter.unusedSimpArgs false
set_option maxRecDepth 100000
theorem e17 : m17 = true := rfl
theorem m82_per {h p f t : Int} (w : Wav h p f) (t0 : 0 ≤ t) (t1 : t + p ≤ 1000000) : m82 h p f (t + p) = m82 h p f t := by
  have hp := w.p0
  have A := ang_ok w t0 (by omega)
  have B := ang_ok w (t := t + p) (by omega) t1
  have e : (f * p + 4096 * (t + p)) % (4096 * p) = (f * p + 4096 * t) % (4096 * p) := by
    rw [show f * p + 4096 * (t + p) = f * p + 4096 * t + 4096 * p by omega, Int.add_emod_right]
  rw [e] at B
  simp only [m82, A.m39, B.m39]
theorem lawPeriods (M h p f t : Int) (hp0 : -9223372036854775808 ≤ p) (hp1 : p ≤ 9223372036854775807) : n4 M h p f t = true ∧ m4 M h p f t = true := by
  obtain ⟨d, hd⟩ : ∃ d, d = datS [SV.int IntKind.i64 h, SV.int IntKind.i64 p, SV.int IntKind.i64 f] 3 := ⟨_, rfl⟩
  have g20 := n20_t M d (show 1 ≤ 1000 by omega)
  have i0 : d.ii 0 0 = h := by rw [hd]; rfl
  have i1 : d.ii 0 1 = p := by rw [hd]; rfl
  have i2 : d.ii 0 2 = f := by rw [hd]; rfl
  obtain ⟨q1, q2, ⟨T, c1, c2⟩ | ⟨e, he, c1, c2⟩⟩ := tab_cases M 1 (by omega) d
  · have w := T.w 0 (by omega)
    rw [i0, i1, i2] at w
    have w0 := w.p0
    have w1 := w.p1
    have r := fun t => m19_ok (t := t) T c2 q2
    cases ht : m22 t with
    | false =>
      constructor
      · simp only [n4, ← hd, n17_val, e17, q1, c1, ht, decide_true, cond_true, cond_false]; rfl
      · simp only [m4, ← hd, e17, c1, ht, decide_true, cond_true, cond_false]
    | true =>
      have ⟨t0, t1⟩ := m22_iff.1 ht
      have b1 : IntKind.i64.wrap (t + p) = t + p := wr (by omega) (by omega)
      cases ht2 : m22 (t + p) with
      | false =>
        constructor
        · simp only [n4, ← hd, n17_val, e17, q1, c1, ht, b1, ht2, decide_true, cond_true, cond_false]; rfl
        · simp only [m4, ← hd, e17, c1, ht, b1, ht2, decide_true, cond_true, cond_false]
      | true =>
        have ⟨u0, u1⟩ := m22_iff.1 ht2
        have r1 := r t
        have r2 := r (t + p)
        simp only [ht, ht2, cond_true] at r1 r2
        have eL : LV M 1 d (t + p) = LV M 1 d t := by
          simp only [LV, lvl, i0, i1, i2, m82_per w t0 u1]
        rw [eL] at r2
        constructor
        · simp only [n4, ← hd, n17_val, e17, g20, m20_eq, q1, c1, ht, b1, ht2, r1.1, r2.1, decide_true, cond_true, cond_false]; rfl
        · simp only [m4, ← hd, e17, m20_eq, c1, ht, b1, ht2, r1.2, r2.2, decide_true, cond_true, cond_false]
  · constructor
    · simp only [n4, ← hd, n17_val, e17, q1, c1, decide_eq_false he, cond_true, cond_false]; rfl
    · simp only [m4, ← hd, e17, c1, decide_eq_false he, cond_true, cond_false]
end Go.Proofs.Ytlaogoojkfjgoaa
