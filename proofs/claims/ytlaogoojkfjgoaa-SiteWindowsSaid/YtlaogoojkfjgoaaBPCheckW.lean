/-
  Windows: program's and reference's check alike. Conditions: none.
-/
import Derived.Test.YtlaogoojkfjgoaaBPAng
namespace Go.Proofs.Ytlaogoojkfjgoaa
open Go Go.Sy
set_option linter.unusedVariables false
set_option linter.unusedSimpArgs false
set_option maxRecDepth 100000
attribute [local simp] brk
noncomputable def badW (d : Dat) (i : Nat) : Option (Bool × Int × Unit) :=
  cond (bif bif m22 (d.ii i 0) then false else true then true else bif m22 (d.ii i 1) then false else true) (some (true, 2, default))
    (cond (decide (d.ii i 1 < d.ii i 0)) (some (true, 9, default)) (cond (bif decide (0 < i) then decide (d.ii i 0 ≤ IntKind.i64.wrap (d.ii (i - 1) 1 + 1)) else false) (some (true, 13, default)) none))
section
variable {n : Nat} {d : Dat}
theorem l44_all (hn : n ≤ 9223372036854775807) : o44_0 n d 0 = some (first (badW d) (false, default, ()) n 0) := by
  refine loop_first (l := l44_0 n d) hn (fun f i hi => ?_) (fun f => by simp only [l44_0, cdn]; rfl) n 0 _ (by omega) (by omega)
  have w : IntKind.i64.wrap ((i : Int) - 1) = (i : Int) - 1 := wr (by omega) (by omega)
  have t : ((i : Int) - 1).toNat = i - 1 := by omega
  by_cases h0 : 0 < i
  · have z : decide ((0 : Int) < (i : Int)) = true := decide_eq_true (by omega)
    have z2 : decide (0 ≤ (i : Int) - 1 ∧ (i : Int) - 1 < (n : Int)) = true := decide_eq_true ⟨by omega, by omega⟩
    simp only [l44_0, cdl hi, cdd hi, cond_true, Int.toNat_natCast, badW, w, t, z, z2, decide_eq_true h0]
    cases m22 (d.ii i 0) <;> cases m22 (d.ii i 1) <;> cases decide (d.ii i 1 < d.ii i 0) <;> cases decide (d.ii i 0 ≤ IntKind.i64.wrap (d.ii (i - 1) 1 + 1)) <;> simp
  · have z : decide ((0 : Int) < (i : Int)) = false := decide_eq_false (by omega)
    simp only [l44_0, cdl hi, cdd hi, cond_true, Int.toNat_natCast, badW, w, t, z, decide_eq_false h0]
    cases m22 (d.ii i 0) <;> cases m22 (d.ii i 1) <;> cases decide (d.ii i 1 < d.ii i 0) <;> simp
theorem l45_all (hn : n ≤ 9223372036854775807) : o45_0 n d d (n : Int) 0 = some (first (badW d) (false, default, ()) n 0) := by
  refine loop_first (l := l45_0 n d d (n : Int)) hn (fun f i hi => ?_) (fun f => by simp only [l45_0, cdn]; rfl) n 0 _ (by omega) (by omega)
  have w : IntKind.i64.wrap ((i : Int) - 1) = (i : Int) - 1 := wr (by omega) (by omega)
  have t : ((i : Int) - 1).toNat = i - 1 := by omega
  by_cases h0 : 0 < i
  · have z : decide ((0 : Int) < (i : Int)) = true := decide_eq_true (by omega)
    have z2 : decide (0 ≤ (i : Int) - 1 ∧ (i : Int) - 1 < (n : Int)) = true := decide_eq_true ⟨by omega, by omega⟩
    simp only [l45_0, cdl hi, cdd hi, cond_true, Int.toNat_natCast, badW, w, t, z, z2, m80_m22, decide_eq_true h0]
    cases m22 (d.ii i 0) <;> cases m22 (d.ii i 1) <;> cases decide (d.ii i 1 < d.ii i 0) <;> cases decide (d.ii i 0 ≤ IntKind.i64.wrap (d.ii (i - 1) 1 + 1)) <;> simp
  · have z : decide ((0 : Int) < (i : Int)) = false := decide_eq_false (by omega)
    simp only [l45_0, cdl hi, cdd hi, cond_true, Int.toNat_natCast, badW, w, t, z, m80_m22, decide_eq_false h0]
    cases m22 (d.ii i 0) <;> cases m22 (d.ii i 1) <;> cases decide (d.ii i 1 < d.ii i 0) <;> simp
structure Wns (n : Nat) (d : Dat) : Prop where
  few : n ≤ 60
  lo : ∀ i, i < n → 0 ≤ d.ii i 0
  le : ∀ i, i < n → d.ii i 0 ≤ d.ii i 1
  hi : ∀ i, i < n → d.ii i 1 ≤ 1000000
  up : ∀ i, i + 1 < n → d.ii i 1 + 1 < d.ii (i + 1) 0
theorem badW_none {i : Nat} (h : badW d i = none) : 0 ≤ d.ii i 0 ∧ d.ii i 0 ≤ d.ii i 1 ∧ d.ii i 1 ≤ 1000000 ∧ (0 < i → IntKind.i64.wrap (d.ii (i - 1) 1 + 1) < d.ii i 0) := by
  simp only [badW] at h
  cases a : m22 (d.ii i 0) with
  | false => rw [a] at h; cases h
  | true =>
    cases b : m22 (d.ii i 1) with
    | false => rw [a, b] at h; cases h
    | true =>
      rw [a, b] at h
      by_cases c : d.ii i 1 < d.ii i 0
      · rw [decide_eq_true c] at h; cases h
      · rw [decide_eq_false c] at h
        have ⟨a0, a1⟩ := m22_iff.1 a
        have ⟨b0, b1⟩ := m22_iff.1 b
        refine ⟨a0, by omega, b1, fun hi => ?_⟩
        rw [decide_eq_true hi] at h
        by_cases e : d.ii i 0 ≤ IntKind.i64.wrap (d.ii (i - 1) 1 + 1)
        · rw [decide_eq_true e] at h; cases h
        · omega
theorem windows_cases (hn : n ≤ 9223372036854775807) : n44 n d = true ∧ n45 n d = true ∧ m45 n d = m44 n d ∧ ((Wns n d ∧ m44 n d = 0) ∨ m44 n d ≠ 0) := by
  by_cases h60 : 60 < n
  · have z : decide ((60 : Int) < (n : Int)) = true := decide_eq_true (by omega)
    refine ⟨by simp only [n44, z, cond_true], by simp only [n45, z, cond_true], by simp only [m44, m45, z, cond_true], .inr ?_⟩
    simp only [m44, z, cond_true]; decide
  · have z : decide ((60 : Int) < (n : Int)) = false := decide_eq_false (by omega)
    refine ⟨by simp only [n44, z, l44_all hn, cond_false]; rfl, by simp only [n45, z, l45_all hn, cond_false]; rfl, by simp only [m44, m45, z, l44_all hn, l45_all hn, cond_false], ?_⟩
    simp only [m44, z, l44_all hn, cond_false, Option.getD_some]
    rcases first_cases (g := badW d) (e := (false, default, ())) n 0 with ⟨j, b, _, _, h3, _, h5⟩ | ⟨h1, h2⟩
    · right
      rw [h5]
      simp only [badW] at h3
      revert h3
      cases (bif bif m22 (d.ii j 0) then false else true then true else bif m22 (d.ii j 1) then false else true) <;> cases decide (d.ii j 1 < d.ii j 0) <;> cases (bif decide (0 < j) then decide (d.ii j 0 ≤ IntKind.i64.wrap (d.ii (j - 1) 1 + 1)) else false) <;> intro h3 <;> cases h3 <;> simp
    · left
      have g := fun i (hi : i < n) => badW_none (h1 i (Nat.zero_le _) (by omega))
      refine ⟨⟨by omega, fun i hi => (g i hi).1, fun i hi => (g i hi).2.1, fun i hi => (g i hi).2.2.1, fun i hi => ?_⟩, by rw [h2]; rfl⟩
      have a := (g (i + 1) hi).2.2.2 (by omega)
      rw [Nat.add_sub_cancel] at a
      have b := g i (by omega)
      rw [wr (n := d.ii i 1 + 1) (by omega) (by omega)] at a
      exact a
end
end Go.Proofs.Ytlaogoojkfjgoaa
