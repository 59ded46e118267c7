/-
  Windows of minutes as lists; right windows have no error; a run of one stop that is within a window. Conditions: none.
-/
import Derived.Test.YtbhldggbjjailaaA1
import Derived.Test.YtbhldggbjjailaaA2
import Derived.Test.YtbhldggbjjailaaA3
import Derived.Test.YtbhldggbjjailaaA4
import Derived.Test.YtbhldggbjjailaaA5
import Derived.Test.YtbhldggbjjailaaAFDiveWindows
import Derived.Test.YtbhldggbjjailaaAPApt
import Derived.Test.YtbhldggbjjailaaAPLoop
import Derived.Test.YtbhldggbjjailaaAPAng
import Derived.Test.YtbhldggbjjailaaAPCheckW
import Derived.Test.YtbhldggbjjailaaAPFits
import Derived.Test.YtbhldggbjjailaaAPCirc
import Derived.Test.YtbhldggbjjailaaAPRay
import Derived.Test.YtbhldggbjjailaaAPCos
import Derived.Test.YtbhldggbjjailaaAPTide
import Derived.Test.YtbhldggbjjailaaAPLevels
import Derived.Test.YtbhldggbjjailaaAPWin
import Derived.Test.YtbhldggbjjailaaAPMeet
import Derived.Test.YtbhldggbjjailaaAPRuns
import Derived.Test.YtbhldggbjjailaaAPSlackW
import Derived.Test.YtbhldggbjjailaaAPSurely
import Derived.Test.YtbhldggbjjailaaAPWinds
import Derived.Test.YtbhldggbjjailaaAPWinds2
import Derived.Test.YtbhldggbjjailaaAPWinds3
namespace Go.Proofs.Ytbhldggbjjailaa
open Go Go.Sy
set_option linter.unusedVariables false
set_option linter.unusedSimpArgs false
set_option maxRecDepth 100000
theorem wl_down (P : Int → Bool) (lo : Int) : ∀ k, (wl P lo k).Pairwise fun x y => y.2 + 1 < x.1
  | 0 => by simp [wl]
  | k + 1 => by
    have ih := wl_down P lo k
    have W := wl_ok P lo k
    simp only [wl]
    split
    · rename_i hp
      cases hL : wl P lo k with
      | nil => simp
      | cons w T =>
        obtain ⟨a, b⟩ := w
        rw [hL] at ih W
        have hb := (W.rng (a, b) (by simp)).2.2
        simp only at hb
        rw [List.pairwise_cons] at ih
        simp only
        split
        · exact List.pairwise_cons.2 ⟨fun y hy => ih.1 y hy, ih.2⟩
        · rename_i hne
          refine List.pairwise_cons.2 ⟨fun y hy => ?_, List.pairwise_cons.2 ih⟩
          rcases List.mem_cons.1 hy with rfl | hy
          · simp only; omega
          · have := W.head a b T rfl y hy
            simp only; omega
    · exact ih
theorem wl_apt (P : Int → Bool) (lo : Int) (k : Nat) : Apt (wl P lo k).reverse :=
  ⟨fun a ha => ((wl_ok P lo k).rng a (List.mem_reverse.1 ha)).2.1, List.pairwise_reverse.2 (wl_down P lo k)⟩
theorem wl_in (P : Int → Bool) (lo : Int) (k : Nat) (m : Int) : InL (wl P lo k).reverse m ↔ (lo ≤ m ∧ m < lo + (k : Int)) ∧ P m = true := by
  have W := wl_ok P lo k
  constructor
  · rintro ⟨a, ha, h1, h2⟩
    have ha := List.mem_reverse.1 ha
    obtain ⟨r1, r2, r3⟩ := W.rng a ha
    exact ⟨⟨by omega, by omega⟩, W.sat a ha m h1 h2⟩
  · rintro ⟨⟨h1, h2⟩, h3⟩
    obtain ⟨w, hw, g1, g2⟩ := W.cov m m h1 (Int.le_refl _) h2 fun x hx hy => by rw [show x = m by omega]; exact h3
    exact ⟨w, List.mem_reverse.2 hw, g1, g2⟩
theorem wl_wns {P : Int → Bool} {lo : Int} {K k : Nat} {D : Dat} (R : Rep k D (wl P lo K)) (h0 : 0 ≤ lo) (h1 : lo + (K : Int) ≤ 1000001) (hk : k ≤ 60) : Wns k D := by
  have e := rep_lst R
  refine apt_wns (by rw [e]; exact wl_apt P lo K) hk fun w hw => ?_
  rw [e] at hw
  obtain ⟨r1, r2, r3⟩ := (wl_ok P lo K).rng w (List.mem_reverse.1 hw)
  omega
theorem wns_zero {n : Nat} {d : Dat} (W : Wns n d) : n59 n d = true ∧ m59 n d = 0 := by
  have few := W.few
  obtain ⟨_, g1, g2, _⟩ := windows_cases (n := n) (d := d) (by omega)
  refine ⟨g1, ?_⟩
  have z : decide ((60 : Int) < (n : Int)) = false := decide_eq_false (by omega)
  rw [g2]
  simp only [m58, z, l58_all (show n ≤ 9223372036854775807 by omega), cond_false, Option.getD_some]
  rw [first_none (g := badW d) fun j _ hj => ?_]
  · rfl
  · have hj : j < n := by omega
    have a1 := W.lo j hj
    have a2 := W.le j hj
    have a3 := W.hi j hj
    have b1 : m39 (d.ii j 0) = true := m39_iff.2 ⟨a1, by omega⟩
    have b2 : m39 (d.ii j 1) = true := m39_iff.2 ⟨by omega, a3⟩
    have b3 : decide (d.ii j 1 < d.ii j 0) = false := decide_eq_false (by omega)
    simp only [badW, b1, b2, b3, cond_true, cond_false]
    by_cases h0 : 0 < j
    · have a4 := W.up (j - 1) (by omega)
      rw [show j - 1 + 1 = j by omega] at a4
      have a5 := W.hi (j - 1) (by omega)
      have a6 := W.lo (j - 1) (by omega)
      have a7 := W.le (j - 1) (by omega)
      have b4 : decide (d.ii j 0 ≤ IntKind.i64.wrap (d.ii (j - 1) 1 + 1)) = false := decide_eq_false (by rw [wr (by omega) (by omega)]; omega)
      simp only [decide_eq_true h0, b4, cond_true, cond_false]
    · simp only [decide_eq_false h0, cond_true, cond_false]
theorem hasW_true {M : Int} {n : Nat} {d : Dat} {l m : Int} : hasW M n d l true m = decide (slk M n d m l = 2) := by
  unfold hasW
  cases decide (slk M n d m l = 2) <;> cases decide (slk M n d m l = 1) <;> rfl
theorem mod8 {x : Int} (h0 : 0 ≤ x) (h1 : x ≤ 7) : n31 x 8 = true ∧ m31 x 8 = x := by
  have e : x.tmod 8 = x := Int.tmod_eq_of_lt h0 (by omega)
  refine ⟨rfl, ?_⟩
  simp only [m31, e, decide_eq_false (show ¬ x < 0 by omega), cond_false]
noncomputable abbrev qs : Dat := datS [SV.str ({ data := #[OfNat.ofNat 113, OfNat.ofNat 117, OfNat.ofNat 97, OfNat.ofNat 121] } : ByteArray), SV.str ({ data := #[OfNat.ofNat 115, OfNat.ofNat 105, OfNat.ofNat 116, OfNat.ofNat 101] } : ByteArray)] 1
noncomputable abbrev zs : Dat := datS [SV.ro [Kd.int IntKind.i64] 2 (datS [SV.int IntKind.i64 0, SV.int IntKind.i64 0] 1), SV.ro [Kd.int IntKind.i64] 2 (datS [SV.int IntKind.i64 0, SV.int IntKind.i64 0] 1)] 1
theorem chart_qs : n45 2 qs 2 zs = true ∧ m45 2 qs 2 zs = 0 := ⟨by kernel_rfl, by kernel_rfl⟩
theorem place_qs : m106 2 qs 2 zs 1 = true := by kernel_rfl
end Go.Proofs.Ytbhldggbjjailaa
