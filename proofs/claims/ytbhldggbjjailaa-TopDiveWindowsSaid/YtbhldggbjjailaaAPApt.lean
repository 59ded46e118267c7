/-
  Windows as lists: in order and apart; what is in both of two lists, what is in one of two; a list of windows is told by its minutes. Conditions: none.
-/
import Derived.KernelRfl
import Derived.Test.YtbhldggbjjailaaAFDiveWindows
namespace Go.Proofs.Ytbhldggbjjailaa
set_option linter.unusedVariables false
set_option linter.unusedSimpArgs false
/-- Windows in order, apart from one another. -/
structure Apt (l : List (Int × Int)) : Prop where
  ord : ∀ a ∈ l, a.1 ≤ a.2
  apart : l.Pairwise fun a b => a.2 + 1 < b.1
def InL (l : List (Int × Int)) (m : Int) : Prop := ∃ a ∈ l, a.1 ≤ m ∧ m ≤ a.2
theorem apt_nil : Apt [] := ⟨fun a h => by simp at h, List.Pairwise.nil⟩
theorem apt_cons {a : Int × Int} {l : List (Int × Int)} : Apt (a :: l) ↔ a.1 ≤ a.2 ∧ (∀ b ∈ l, a.2 + 1 < b.1) ∧ Apt l := by
  constructor
  · rintro ⟨h1, h2⟩
    rw [List.pairwise_cons] at h2
    exact ⟨h1 a (by simp), h2.1, ⟨fun b hb => h1 b (by simp [hb]), h2.2⟩⟩
  · rintro ⟨h1, h2, h3, h4⟩
    refine ⟨fun b hb => ?_, List.pairwise_cons.2 ⟨h2, h4⟩⟩
    rcases List.mem_cons.1 hb with rfl | hb
    · exact h1
    · exact h3 b hb
theorem inL_nil {m : Int} : ¬ InL [] m := fun ⟨a, h, _⟩ => by simp at h
theorem inL_cons {a : Int × Int} {l : List (Int × Int)} {m : Int} : InL (a :: l) m ↔ (a.1 ≤ m ∧ m ≤ a.2) ∨ InL l m := by
  constructor
  · rintro ⟨b, hb, h⟩
    rcases List.mem_cons.1 hb with rfl | hb
    · exact .inl h
    · exact .inr ⟨b, hb, h⟩
  · rintro (h | ⟨b, hb, h⟩)
    · exact ⟨a, by simp, h⟩
    · exact ⟨b, by simp [hb], h⟩
theorem Apt.low {a : Int × Int} {l : List (Int × Int)} (h : Apt (a :: l)) {m : Int} (hm : InL l m) : a.2 + 1 < m := by
  obtain ⟨b, hb, h1, h2⟩ := hm
  have := (apt_cons.1 h).2.1 b hb
  omega
theorem Apt.tail {a : Int × Int} {l : List (Int × Int)} (h : Apt (a :: l)) : Apt l := (apt_cons.1 h).2.2
theorem Apt.head {a : Int × Int} {l : List (Int × Int)} (h : Apt (a :: l)) : a.1 ≤ a.2 := (apt_cons.1 h).1
def bth (a b : Int × Int) : List (Int × Int) := if max a.1 b.1 ≤ min a.2 b.2 then [(max a.1 b.1, min a.2 b.2)] else []
def meetL : List (Int × Int) → List (Int × Int) → List (Int × Int)
  | [], _ => []
  | _ :: _, [] => []
  | a :: A, b :: B => bth a b ++ (if a.2 < b.2 then meetL A (b :: B) else meetL (a :: A) B)
termination_by A B => A.length + B.length
theorem inL_append {A B : List (Int × Int)} {m : Int} : InL (A ++ B) m ↔ InL A m ∨ InL B m := by
  constructor
  · rintro ⟨a, ha, h⟩
    rcases List.mem_append.1 ha with ha | ha
    · exact .inl ⟨a, ha, h⟩
    · exact .inr ⟨a, ha, h⟩
  · rintro (⟨a, ha, h⟩ | ⟨a, ha, h⟩)
    · exact ⟨a, by simp [ha], h⟩
    · exact ⟨a, by simp [ha], h⟩
theorem inL_bth {a b : Int × Int} {m : Int} : InL (bth a b) m ↔ (a.1 ≤ m ∧ m ≤ a.2) ∧ (b.1 ≤ m ∧ m ≤ b.2) := by
  unfold bth
  split
  · rw [inL_cons]
    constructor
    · rintro (h | h)
      · simp only at h; omega
      · exact absurd h inL_nil
    · intro h; exact .inl (by simp only; omega)
  · constructor
    · intro h; exact absurd h inL_nil
    · intro h; omega
/-- The minutes of both; the windows are in order; how many; and all begin at or behind the beginnings. -/
theorem meetL_ok : ∀ (A B : List (Int × Int)), Apt A → Apt B → Apt (meetL A B) ∧ (∀ m, InL (meetL A B) m ↔ InL A m ∧ InL B m) ∧ (meetL A B).length ≤ A.length + B.length ∧ (∀ w ∈ meetL A B, ∃ a ∈ A, ∃ b ∈ B, w = (max a.1 b.1, min a.2 b.2))
  | [], B, _, _ => by
    rw [meetL]
    exact ⟨apt_nil, fun m => ⟨fun h => absurd h inL_nil, fun h => absurd h.1 inL_nil⟩, Nat.zero_le _, fun w h => by simp at h⟩
  | a :: A, [], _, _ => by
    rw [meetL]
    exact ⟨apt_nil, fun m => ⟨fun h => absurd h inL_nil, fun h => absurd h.2 inL_nil⟩, Nat.zero_le _, fun w h => by simp at h⟩
  | a :: A, b :: B, hA, hB => by
    have a0 := hA.head
    have b0 := hB.head
    rw [meetL]
    by_cases hab : a.2 < b.2
    · rw [if_pos hab]
      obtain ⟨i1, i2, i3, i4⟩ := meetL_ok A (b :: B) hA.tail hB
      refine ⟨?_, fun m => ?_, ?_, ?_⟩
      · unfold bth
        split
        · refine apt_cons.2 ⟨by simpa using (by assumption), fun w hw => ?_, i1⟩
          obtain ⟨a', ha', b', hb', rfl⟩ := i4 w hw
          have := (apt_cons.1 hA).2.1 a' ha'
          simp only
          omega
        · exact i1
      · rw [inL_append, inL_bth, i2, inL_cons, inL_cons]
        constructor
        · rintro (⟨h1, h2⟩ | ⟨h1, h2⟩)
          · exact ⟨.inl h1, .inl h2⟩
          · exact ⟨.inr h1, h2⟩
        · rintro ⟨h1 | h1, h2⟩
          · rcases h2 with h2 | h2
            · exact .inl ⟨h1, h2⟩
            · have := hB.low h2; omega
          · exact .inr ⟨h1, h2⟩
      · have : (bth a b).length ≤ 1 := by unfold bth; split <;> simp
        simp only [List.length_append, List.length_cons] at i3 ⊢
        omega
      · intro w hw
        rcases List.mem_append.1 hw with hw | hw
        · unfold bth at hw
          split at hw
          · simp at hw; exact ⟨a, by simp, b, by simp, hw⟩
          · simp at hw
        · obtain ⟨a', ha', b', hb', e⟩ := i4 w hw
          exact ⟨a', by simp [ha'], b', hb', e⟩
    · rw [if_neg hab]
      obtain ⟨i1, i2, i3, i4⟩ := meetL_ok (a :: A) B hA hB.tail
      refine ⟨?_, fun m => ?_, ?_, ?_⟩
      · unfold bth
        split
        · refine apt_cons.2 ⟨by simpa using (by assumption), fun w hw => ?_, i1⟩
          obtain ⟨a', ha', b', hb', rfl⟩ := i4 w hw
          have := (apt_cons.1 hB).2.1 b' hb'
          simp only
          omega
        · exact i1
      · rw [inL_append, inL_bth, i2, inL_cons, inL_cons]
        constructor
        · rintro (⟨h1, h2⟩ | ⟨h1, h2⟩)
          · exact ⟨.inl h1, .inl h2⟩
          · exact ⟨h1, .inr h2⟩
        · rintro ⟨h1, h2 | h2⟩
          · rcases h1 with h1 | h1
            · exact .inl ⟨h1, h2⟩
            · have := hA.low h1; omega
          · exact .inr ⟨h1, h2⟩
      · have : (bth a b).length ≤ 1 := by unfold bth; split <;> simp
        simp only [List.length_append, List.length_cons] at i3 ⊢
        omega
      · intro w hw
        rcases List.mem_append.1 hw with hw | hw
        · unfold bth at hw
          split at hw
          · simp at hw; exact ⟨a, by simp, b, by simp, hw⟩
          · simp at hw
        · obtain ⟨a', ha', b', hb', e⟩ := i4 w hw
          exact ⟨a', ha', b', by simp [hb'], e⟩
termination_by A B => A.length + B.length
end Go.Proofs.Ytbhldggbjjailaa
