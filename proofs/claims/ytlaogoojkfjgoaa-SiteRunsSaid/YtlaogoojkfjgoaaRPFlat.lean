/-
  Small charts, and their copies. Conditions: none.
-/
import Derived.Test.YtlaogoojkfjgoaaR1
import Derived.Test.YtlaogoojkfjgoaaR2
import Derived.Test.YtlaogoojkfjgoaaR3
import Derived.Test.YtlaogoojkfjgoaaR4
import Derived.Test.YtlaogoojkfjgoaaRFRuns
import Derived.Test.YtlaogoojkfjgoaaRPLoop
import Derived.Test.YtlaogoojkfjgoaaRPAng
import Derived.Test.YtlaogoojkfjgoaaRPChart
namespace Go.Proofs.Ytlaogoojkfjgoaa
open Go Go.Sy
set_option linter.unusedVariables false
set_option linter.unusedSimpArgs false
set_option maxRecDepth 100000
attribute [local simp] brk
theorem flat_ok {n n' : Nat} (d d' : Dat) (hn : n ≤ 9223372036854775807) (hn' : n' ≤ 9223372036854775807) : n24 n d n' d' = true ∧ (m24 n d n' d' = true → n ≤ 14 ∧ n' ≤ 14 ∧ ∀ i, i < n' → d'.sn i 0 ≤ 14) := by
  have r1 : o24_0 n d n' d' 0 = some (first (fun i => cond (decide ((20 : Int) < ((d.ss i 0).size : Int))) (some (true, false, default)) none) (false, default, ()) n 0) := by
    refine loop_first (l := l24_0 n d n' d') hn (fun f i hi => ?_) (fun f => by simp only [l24_0, cdn]; rfl) n 0 _ (by omega) (by omega)
    simp only [l24_0, cdl hi, cdd hi, cond_true, Int.toNat_natCast]
    cases decide ((20 : Int) < ((d.ss i 0).size : Int)) <;> simp
  have r2 : o24_2 n d n' d' 0 = some (first (fun i => cond (decide ((14 : Int) < (d'.sn i 0 : Int))) (some (true, false, default)) none) (false, default, ()) n' 0) := by
    refine loop_first (l := l24_2 n d n' d') hn' (fun f i hi => ?_) (fun f => by simp only [l24_2, cdn]; rfl) n' 0 _ (by omega) (by omega)
    simp only [l24_2, cdl hi, cdd hi, cond_true, Int.toNat_natCast]
    cases decide ((14 : Int) < (d'.sn i 0 : Int)) <;> simp
  refine ⟨?_, fun h => ?_⟩
  · simp only [n24, r1, r2, Option.isSome_some]
    cases decide ((6 : Int) < (n : Int)) <;> cases decide ((n : Int) ≤ 12) <;> cases decide ((14 : Int) < (n : Int)) <;> cases decide ((14 : Int) < (n' : Int)) <;> cases ((some (first (fun i => cond (decide ((20 : Int) < ((d.ss i 0).size : Int))) (some (true, false, (default : Unit))) none) (false, default, ()) n 0)).getD default).1 <;> rfl
  · simp only [m24, r1, r2, Option.getD_some] at h
    have hn14 : n ≤ 14 := by
      apply Decidable.byContradiction
      intro k
      rw [decide_eq_true (show (14 : Int) < (n : Int) by omega)] at h
      revert h
      cases decide ((6 : Int) < (n : Int)) <;> cases decide ((n : Int) ≤ 12) <;> simp
    have hn14' : n' ≤ 14 := by
      apply Decidable.byContradiction
      intro k
      rw [decide_eq_true (show (14 : Int) < (n' : Int) by omega)] at h
      revert h
      cases decide ((6 : Int) < (n : Int)) <;> cases decide ((n : Int) ≤ 12) <;> cases decide ((14 : Int) < (n : Int)) <;> simp
    refine ⟨hn14, hn14', fun i hi => ?_⟩
    rw [decide_eq_false (show ¬ (14 : Int) < (n : Int) by omega), decide_eq_false (show ¬ (14 : Int) < (n' : Int) by omega)] at h
    apply Decidable.byContradiction
    intro k
    have bad : (first (fun i => cond (decide ((14 : Int) < (d'.sn i 0 : Int))) (some (true, false, (default : Unit))) none) (false, default, ()) n' 0) = (true, false, default) := by
      rcases first_cases (g := fun i => cond (decide ((14 : Int) < (d'.sn i 0 : Int))) (some (true, false, (default : Unit))) none) (e := (false, default, ())) n' 0 with ⟨j, b, _, _, h3, _, h5⟩ | ⟨h1, _⟩
      · rw [h5]
        revert h3
        cases decide ((14 : Int) < (d'.sn j 0 : Int)) <;> intro h3 <;> cases h3; rfl
      · have := h1 i (Nat.zero_le _) (by omega)
        simp only [decide_eq_true (show (14 : Int) < (d'.sn i 0 : Int) by omega), cond_true] at this
        cases this
    rw [bad] at h
    rcases first_cases (g := fun i => cond (decide ((20 : Int) < ((d.ss i 0).size : Int))) (some (true, false, (default : Unit))) none) (e := (false, default, ())) n 0 with ⟨j, b, _, _, h3, _, h5⟩ | ⟨_, h2⟩
    · rw [h5] at h
      have hb : b = (true, false, default) := by
        revert h3
        cases decide ((20 : Int) < ((d.ss j 0).size : Int)) <;> intro h3 <;> cases h3; rfl
      subst hb
      revert h
      cases decide ((6 : Int) < (n : Int)) <;> cases decide ((n : Int) ≤ 12) <;> simp
    · rw [h2] at h
      revert h
      cases decide ((6 : Int) < (n : Int)) <;> cases decide ((n : Int) ≤ 12) <;> simp
def Agree (n : Nat) (D d : Dat) : Prop := ∀ i, i < n → D.sn i 0 = d.sn i 0 ∧ D.sub i 0 = d.sub i 0
theorem agree_app {i : Nat} {D d : Dat} (h : Agree i D d) (sh : List Kd) : Agree (i + 1) (D.app i (datS [SV.ro sh (d.sn i 0) (d.sub i 0)] 1)) d := fun q hq => by
  by_cases hlt : q < i
  · obtain ⟨a, b⟩ := h q hlt
    have e : Nat.blt q i = true := blt_t hlt
    constructor
    · show cond (Nat.blt q i) _ _ = _; rw [e]; exact a
    · show (cond (Nat.blt q i) _ _ : Option Dat).getD noDat = _; rw [e]; exact b
  · obtain rfl : q = i := by omega
    have e : Nat.blt q q = false := blt_f (Nat.lt_irrefl q)
    constructor
    · show cond (Nat.blt q q) _ _ = _; rw [e, Nat.sub_self]; rfl
    · show (cond (Nat.blt q q) _ _ : Option Dat).getD noDat = _; rw [e, Nat.sub_self]; rfl
theorem m50_eq (n : Nat) (d : Dat) : m50 n d = (n, d) := by simp only [m50, Nat.zero_add]; rw [app_zero]
theorem n50_t {n : Nat} (d : Dat) (h : n ≤ 1000) : n50 n d = true := by
  simp only [n50, Nat.zero_add, decide_eq_true (show n ≤ 1073741824 by omega), decide_eq_true (Nat.le_refl n)]; rfl
theorem m42_eq (n : Nat) (d : Dat) : m42 n d = (n, d) := by simp only [m42, Nat.zero_add]; rw [app_zero]
theorem l89_run {n : Nat} {d : Dat} (hn : n ≤ 1000) (hr : ∀ i, i < n → d.sn i 0 ≤ 1000) : ∀ (k i f : Nat) (D : Dat), i + k = n → k < f → Agree i D d → ∃ D', Agree n D' d ∧ l89_0 n d f i (i : Int) D = some (n, n, D')
  | 0, i, f, D, hi, hf, h => by
    obtain ⟨f, rfl⟩ : ∃ g, f = g + 1 := ⟨f - 1, by omega⟩
    obtain rfl : i = n := by omega
    exact ⟨D, h, by simp only [l89_0, cdn, cond_false]⟩
  | k + 1, i, f, D, hi, hf, h => by
    obtain ⟨f, rfl⟩ : ∃ g, f = g + 1 := ⟨f - 1, by omega⟩
    have hlt : i < n := by omega
    obtain ⟨D', h1, h2⟩ := l89_run hn hr k (i + 1) f _ (by omega) (by omega) (agree_app h [Kd.int IntKind.i64])
    refine ⟨D', h1, ?_⟩
    simp only [l89_0, cdl hlt, cdd hlt, cond_true, Int.toNat_natCast, n50_t (d.sub i 0) (hr i hlt), m50_eq, decide_eq_true (show i + 1 ≤ 1073741824 by omega), wrS hlt (by omega)]
    exact h2
/-- A chart in memory of its own. -/
theorem copy_ok {n n' : Nat} {d d' : Dat} (hn : n ≤ 1000) (hn' : n' ≤ 1000) (hr : ∀ i, i < n' → d'.sn i 0 ≤ 1000) : n26 n d n' d' = true ∧ ∃ D, Agree n' D d' ∧ m26 n d n' d' = (n, d, n', D) := by
  obtain ⟨D, h1, h2⟩ := l89_run (d := d') hn' hr n' 0 (n' + 0 + (0 : Int).toNat + 8) noDat (by omega) (by omega) (fun i hi => absurd hi (Nat.not_lt_zero i))
  have o : o89_0 n' d' 0 0 noDat = some (n', n', D) := h2
  have a : n88 n d = true := by simp only [n88, Nat.zero_add, decide_eq_true (show n ≤ 1073741824 by omega), decide_eq_true (Nat.le_refl n)]; rfl
  have b : m88 n d = (n, d) := by simp only [m88, Nat.zero_add]; rw [app_zero]
  refine ⟨?_, D, h1, ?_⟩
  · simp only [n26, a, n89, o, Option.isSome_some, Option.getD_some, Nat.zero_add, decide_eq_true (Nat.le_refl n')]; rfl
  · simp only [m26, b, m89, o, Option.getD_some]
theorem mn_agree {n : Nat} {D d : Dat} (h : Agree n D d) {i : Nat} (hi : i < n) (k : Nat) : mn D i k = mn d i k := by
  unfold mn; rw [(h i hi).2]
theorem m27_congr {n n' : Nat} {d D d' : Dat} (hn : n ≤ 9223372036854775807) (h : Agree n' D d') : m27 n d n' D = m27 n d n' d' := by
  by_cases hr : n' = n
  · subst hr
    have a1 := l27a (n := n') (n' := n') (d' := d') (d := d) hn
    have a2 := l27a (n := n') (n' := n') (d' := D) (d := d) hn
    have b1 := l27b (n := n') (d := d) (d' := d') hn
    have b2 := l27b (n := n') (d := d) (d' := D) hn
    have c : first (badS n' D) (false, default, ()) n' 0 = first (badS n' d') (false, default, ()) n' 0 := first_congr fun j _ hj => by
      simp only [badS, (h j (by omega)).1]
    rw [c] at b2
    obtain ⟨_, ⟨s1, s2, _⟩ | ⟨s1, _⟩⟩ := shape_eq (d' := d') hn
    · have e1 := l27d (d := d) hn s1
      have e2 := l27d (d := d) (d' := D) hn (fun i hi => by rw [(h i hi).1]; exact s1 i hi)
      have rE : ∀ i, i < n' → rowE n' D i = rowE n' d' i := fun i hi => first_congr fun k _ hk => by
        simp only [badV, mn_agree h hi k]
      have c2 : first (fun i => cond (rowE n' D i).1 (some (true, (rowE n' D i).2.1, (default : Unit))) none) (false, default, ()) n' 0 = first (fun i => cond (rowE n' d' i).1 (some (true, (rowE n' d' i).2.1, (default : Unit))) none) (false, default, ()) n' 0 := first_congr fun j _ hj => by
        rw [rE j (by omega)]
      rw [c2] at e2
      simp only [m27, a1, a2, b1, b2, e1, e2]
    · rw [s1] at b1 b2
      simp only [m27, a1, a2, b1, b2, Option.getD_some, cond_true]
  · have z : decide ((n' : Int) = (n : Int)) = false := decide_eq_false (by omega)
    have a1 := l27a (n := n) (n' := n') (d' := d') (d := d) hn
    have a2 := l27a (n := n) (n' := n') (d' := D) (d := d) hn
    simp only [m27, a1, a2, z, cond_true, cond_false]
/-- A chart and its copy, in both texts. -/
theorem chart_both {n n' : Nat} {d d' : Dat} (hn : n ≤ 1000) (hn' : n' ≤ 1000) (hr : ∀ i, i < n' → d'.sn i 0 ≤ 1000) :
    n26 n d n' d' = true ∧ n27 n d n' d' = true ∧ ∃ D, Agree n' D d' ∧ m26 n d n' d' = (n, d, n', D) ∧ n28 n d n' D = true ∧ ((Cht n n' d' ∧ Cht n n' D ∧ m27 n d n' d' = 0 ∧ m28 n d n' D = 0) ∨ ∃ e, e ≠ 0 ∧ m27 n d n' d' = e ∧ m28 n d n' D = e) := by
  obtain ⟨a1, D, a2, a3⟩ := copy_ok (d := d) hn hn' hr
  obtain ⟨b1, b2, b3⟩ := chart_cases (n := n) (d := d) (n' := n') (d' := d') (by omega)
  obtain ⟨c1, c2, c3⟩ := chart_cases (n := n) (d := d) (n' := n') (d' := D) (by omega)
  have e := m27_congr (n := n) (d := d) (by omega) a2
  refine ⟨a1, b1, D, a2, a3, c2, ?_⟩
  rcases b3 with ⟨p1, p2, p3⟩ | ⟨x, hx, p2, p3⟩
  · rcases c3 with ⟨q1, q2, q3⟩ | ⟨y, hy, q2, q3⟩
    · exact .inl ⟨p1, q1, p2, q3⟩
    · rw [e, p2] at q2; exact absurd q2.symm hy
  · rcases c3 with ⟨q1, q2, q3⟩ | ⟨y, hy, q2, q3⟩
    · rw [e, p2] at q2; exact absurd q2 hx
    · rw [e, p2] at q2; subst q2; exact .inr ⟨x, hx, p2, q3⟩
end Go.Proofs.Ytlaogoojkfjgoaa
