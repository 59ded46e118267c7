/-
  Contracts of functions: models, equations by the kernel, contracts. Conditions: none.
-/
import Derived.Test.YtchhhoamnagbfaaDoorC1
import Derived.KernelRfl
namespace Go.Proofs.YtchhhoamnagbfaaDoor
open Go Go.Sy
set_option linter.unusedVariables false
set_option linter.unusedSimpArgs false
set_option maxRecDepth 100000
set_option maxHeartbeats 2000000
/-! ### iterator 32 -/
noncomputable def al102 (t m : Dat) (i j : Nat) : Bool := m84 (t.sn 0 0) (t.sub 0 0) (i : Int) (j : Int) (m.ii 0 0)
noncomputable def L2_32 (t m : Dat) (j : Nat) : Nat → List (Nat × Nat)
  | 0 => []
  | i + 1 => L2_32 t m j i ++ cond (al102 t m i j) [(i, j)] []
noncomputable def L1_32 (t m : Dat) : Nat → List (Nat × Nat)
  | 0 => []
  | j + 1 => L1_32 t m j ++ L2_32 t m j j
noncomputable def all32 (t m : Dat) : List (Nat × Nat) := L1_32 t m (t.sn 0 0)
noncomputable def N102 (t m : Dat) : Nat := (all32 t m).length
def rowAt32 : Option (Nat × Nat) → Nat → Int
  | some p, 0 => p.1
  | some p, 1 => p.2
  | _, _ => 0
noncomputable def Y102 (t m : Dat) : Dat := { noDat with ii := fun k c => rowAt32 (all32 t m)[k]? c }
noncomputable def ok102 (t m : Dat) : Bool := decide (t.sn 0 0 ≤ 1000000) && (List.range (t.sn 0 0)).all fun j => (List.range j).all fun i => n84 (t.sn 0 0) (t.sub 0 0) (i : Int) (j : Int) (m.ii 0 0)
theorem pre2_32 (t m : Dat) (j : Nat) : ∀ {k k' : Nat}, k ≤ k' → L2_32 t m j k <+: L2_32 t m j k' := fun {k k'} h => by
  induction k' with
  | zero =>
    obtain rfl : k = 0 := by omega
    exact List.prefix_refl _
  | succ n ih =>
    rcases Nat.lt_or_ge k (n + 1) with h1 | h1
    · exact (ih (by omega)).trans (List.prefix_append _ _)
    · obtain rfl : k = n + 1 := by omega
      exact List.prefix_refl _
theorem pre1_32 (t m : Dat) : ∀ {k k' : Nat}, k ≤ k' → L1_32 t m k <+: L1_32 t m k' := fun {k k'} h => by
  induction k' with
  | zero =>
    obtain rfl : k = 0 := by omega
    exact List.prefix_refl _
  | succ n ih =>
    rcases Nat.lt_or_ge k (n + 1) with h1 | h1
    · exact (ih (by omega)).trans (List.prefix_append _ _)
    · obtain rfl : k = n + 1 := by omega
      exact List.prefix_refl _
theorem pre_all32 {t m : Dat} {i j : Nat} (hj : j < t.sn 0 0) (hi : i ≤ j) : L1_32 t m j ++ L2_32 t m j i <+: all32 t m :=
  ((List.prefix_append_right_inj _).2 (pre2_32 t m j hi)).trans (pre1_32 t m (k := j + 1) (k' := t.sn 0 0) hj)
theorem ok102_at {t m : Dat} (h : ok102 t m = true) {i j : Nat} (hi : i < j) (hj : j < t.sn 0 0) : n84 (t.sn 0 0) (t.sub 0 0) (i : Int) (j : Int) (m.ii 0 0) = true := by
  simp only [ok102, Bool.and_eq_true, List.all_eq_true, List.mem_range] at h
  exact h.2 j hj i hi
theorem loop2_32 {t m : Dat} {l j : Nat} (hj : j < t.sn 0 0) (h : ok102 t m = true) (hn : t.sn 0 0 ≤ 1000000) : ∀ (r i f : Nat), i + r = j → r < f →
    l102_2 t m (j : Int) (j : Int) l (N102 t m) (Y102 t m) f (L1_32 t m j ++ L2_32 t m j i).length (i : Int) = some (L1_32 t m j ++ L2_32 t m j j).length
  | 0, i, f, hk, hf => by
    obtain ⟨f, rfl⟩ : ∃ f', f = f' + 1 := ⟨f - 1, by omega⟩
    obtain rfl : i = j := by omega
    simp only [l102_2, cdn, cond_false]
  | r + 1, i, f, hk, hf => by
    obtain ⟨f, rfl⟩ : ∃ f', f = f' + 1 := ⟨f - 1, by omega⟩
    have hi : i < j := by omega
    have ih := loop2_32 (l := l) hj h hn r (i + 1) f (by omega) (by omega)
    have hp := pre_all32 (t := t) (m := m) (i := i + 1) hj hi
    have a := ok102_at h hi hj
    simp only [L2_32] at ih hp
    cases hB : al102 t m i j with
    | false =>
      rw [hB] at ih
      simp only [cond_false, List.append_nil] at ih
      unfold al102 at hB
      simp only [l102_2, cdl hi, a, hB, cond_true, cond_false, wrS hi (by omega)]
      exact ih
    | true =>
      rw [hB] at ih hp
      simp only [cond_true] at ih hp
      have hlen : (L1_32 t m j ++ (L2_32 t m j i ++ [(i, j)])).length = (L1_32 t m j ++ L2_32 t m j i).length + 1 := by simp; omega
      rw [hlen] at ih
      generalize hq : (L1_32 t m j ++ L2_32 t m j i).length = q at ih ⊢
      have hat : (all32 t m)[q]? = some (i, j) := by
        obtain ⟨z, hz⟩ := hp
        rw [← hz, ← hq]
        rw [show L1_32 t m j ++ (L2_32 t m j i ++ [(i, j)]) ++ z = (L1_32 t m j ++ L2_32 t m j i) ++ ([(i, j)] ++ z) by simp]
        rw [List.getElem?_append_right (Nat.le_refl _), Nat.sub_self]
        rfl
      have hqN : q < N102 t m := (List.getElem?_eq_some_iff.1 hat).1
      have hY0 : (Y102 t m).ii q 0 = (i : Int) := by show rowAt32 (all32 t m)[q]? 0 = _; rw [hat]; rfl
      have hY1 : (Y102 t m).ii q 1 = (j : Int) := by show rowAt32 (all32 t m)[q]? 1 = _; rw [hat]; rfl
      unfold al102 at hB
      simp only [l102_2, cdl hi, a, hB, hY0, hY1, decide_eq_true hqN, decide_true, cond_true, wrS hi (by omega)]
      exact ih
theorem loop0_32 {t m : Dat} {l : Nat} (h : ok102 t m = true) (hn : t.sn 0 0 ≤ 1000000) : ∀ (r j f : Nat), j + r = t.sn 0 0 → r < f →
    l102_0 t m l (N102 t m) (Y102 t m) f (L1_32 t m j).length (j : Int) = some (N102 t m)
  | 0, j, f, hk, hf => by
    obtain ⟨f, rfl⟩ : ∃ f', f = f' + 1 := ⟨f - 1, by omega⟩
    obtain rfl : j = t.sn 0 0 := by omega
    simp only [l102_0, cdn, cond_false]
    rfl
  | r + 1, j, f, hk, hf => by
    obtain ⟨f, rfl⟩ : ∃ f', f = f' + 1 := ⟨f - 1, by omega⟩
    have hj : j < t.sn 0 0 := by omega
    have ih := loop0_32 (l := l) h hn r (j + 1) f (by omega) (by omega)
    have h2 := loop2_32 (l := l) hj h hn j 0 ((j : Int).toNat + (j : Int).toNat + (0 : Int).toNat + 8) (by omega) (by omega)
    have e : L1_32 t m j ++ L2_32 t m j 0 = L1_32 t m j := by simp [L2_32]
    rw [e] at h2
    have h2' : o102_2 t m (j : Int) (j : Int) l (N102 t m) (Y102 t m) (L1_32 t m j).length 0 = some (L1_32 t m j ++ L2_32 t m j j).length := h2
    simp only [l102_0, cdl hj, cond_true, h2', Option.isSome_some, Option.getD_some, wrS hj (by omega)]
    exact ih
theorem loop1_32 {t m : Dat} {l : Nat} (h : ok102 t m = true) (hn : t.sn 0 0 ≤ 1000000) (F : Nat) (hF : t.sn 0 0 < F) : l102_0 t m l (N102 t m) (Y102 t m) F 0 1 = some (N102 t m) := by
  rcases Nat.eq_zero_or_pos (t.sn 0 0) with h0 | h0
  · obtain ⟨f, rfl⟩ : ∃ f', F = f' + 1 := ⟨F - 1, by omega⟩
    have e : N102 t m = 0 := by simp [N102, all32, h0, L1_32]
    have z : decide ((1 : Int) < ((t.sn 0 0 : Nat) : Int)) = false := decide_eq_false (by omega)
    rw [l102_0, z, cond_false, e]
  · have := loop0_32 (l := l) h hn (t.sn 0 0 - 1) 1 F (by omega) (by omega)
    have e : (L1_32 t m 1).length = 0 := by simp [L1_32, L2_32]
    rw [e] at this
    exact this
theorem iter32 (t m : Dat) (h : ok102 t m = true) : SIter Tryd.prog 102 [.rp [.sl [.int .i64, .int .i64]] t 0 0, .rp [.int .i64] m 0 0] [] (N102 t m) (fun k => [.int .i64 ((Y102 t m).ii k 0), .int .i64 ((Y102 t m).ii k 1)]) :=
  it102 t m (N102 t m) (Y102 t m) fun l => by
    have hn : t.sn 0 0 ≤ 1000000 := by
      simp only [ok102, Bool.and_eq_true, decide_eq_true_eq] at h
      exact h.1
    have h0 := loop1_32 (t := t) (m := m) (l := l) h hn ((1 : Int).toNat + 8 + t.sn 0 0) (by omega)
    have h0' : o102_0 t m l (N102 t m) (Y102 t m) 0 1 = some (N102 t m) := h0
    simp only [n102, h0', Option.isSome_some, Option.getD_some, decide_true, Bool.and_self]

end Go.Proofs.YtchhhoamnagbfaaDoor
