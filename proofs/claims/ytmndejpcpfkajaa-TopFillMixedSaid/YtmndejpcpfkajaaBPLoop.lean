/-
 Loops over numbers, as functions of natural numbers. Conditions: none.
-/
import Derived.Test.YtmndejpcpfkajaaBSyV
namespace Go.Sy
open Go
theorem wrp {n : Int} (h0 : -9223372036854775808 ≤ n) (h1 : n ≤ 9223372036854775807) : IntKind.i64.wrap n = n := by
 simp [IntKind.wrap, IntKind.bits, IntKind.signed]; omega
theorem wrS {i n : Nat} (h : i < n) (hn : n ≤ 9223372036854775807) : IntKind.i64.wrap ((i : Int) + 1) = ((i + 1 : Nat) : Int) := by rw [wrp (by omega) (by omega)]; omega
def brk {β : Type} : Option β → Option β → Option β
 | some b, _ => some b
 | none, r => r
def brs {σ β : Type} : β ⊕ σ → (σ → Option β) → Option β
 | .inl b, _ => some b
 | .inr s, k => k s
def first {β : Type} (g : Nat → Option β) (e : β) : Nat → Nat → β
 | 0, _ => e
 | k + 1, i => match g i with | some b => b | none => first g e k (i + 1)
theorem loop_first {β : Type} {l : Nat → Int → Option β} {g : Nat → Option β} {e : β} {n : Nat} (hn : n ≤ 9223372036854775807)
  (step : ∀ f i, i < n → l (f + 1) (i : Int) = brk (g i) (l f (IntKind.i64.wrap ((i : Int) + 1)))) (stop : ∀ f, l (f + 1) (n : Int) = some e) :
  ∀ (k i f : Nat), i + k = n → k < f → l f (i : Int) = some (first g e k i)
 | 0, i, f, hi, hf => by
  obtain ⟨f, rfl⟩ : ∃ f', f = f' + 1 := ⟨f - 1, by omega⟩
  obtain rfl : i = n := by omega
  exact stop f
 | k + 1, i, f, hi, hf => by
  obtain ⟨f, rfl⟩ : ∃ f', f = f' + 1 := ⟨f - 1, by omega⟩
  rw [step f i (by omega), wrS (show i < n by omega) hn, first]
  cases g i with
  | some b => rfl
  | none => exact loop_first hn step stop k (i + 1) f (by omega) (by omega)
section
variable {β : Type} {g : Nat → Option β} {e : β}
theorem first_none : ∀ {k i : Nat}, (∀ j, i ≤ j → j < i + k → g j = none) → first g e k i = e
 | 0, _, _ => rfl
 | k + 1, i, h => by
  rw [first, h i (Nat.le_refl _) (by omega)]
  exact first_none fun j h1 h2 => h j (by omega) (by omega)
theorem first_some : ∀ {k i : Nat} {j : Nat} {b : β}, i ≤ j → j < i + k → g j = some b → (∀ j', i ≤ j' → j' < j → g j' = none) → first g e k i = b
 | 0, i, j, b, h1, h2, _, _ => by omega
 | k + 1, i, j, b, h1, h2, hg, h => by
  rw [first]
  by_cases hij : i = j
  ·subst hij; rw [hg]
  ·rw [h i (Nat.le_refl _) (by omega)]
   exact first_some (by omega) (by omega) hg fun j' a b => h j' (by omega) b
theorem first_cases (k i : Nat) : (∃ j b, i ≤ j ∧ j < i + k ∧ g j = some b ∧ (∀ j', i ≤ j' → j' < j → g j' = none) ∧ first g e k i = b) ∨ ((∀ j, i ≤ j → j < i + k → g j = none) ∧ first g e k i = e) := by
 induction k generalizing i with
 | zero => exact Or.inr ⟨fun j h1 h2 => by omega, rfl⟩
 | succ k ih =>
  rw [first]
  cases hg : g i with
  | some b => exact Or.inl ⟨i, b, Nat.le_refl _, by omega, hg, fun j' h1 h2 => by omega, rfl⟩
  | none =>
   rcases ih (i + 1) with ⟨j, b, h1, h2, h3, h4, h5⟩ | ⟨h1, h2⟩
   ·exact Or.inl ⟨j, b, by omega, by omega, h3, fun j' a c => by by_cases hj : j' = i; (subst hj; exact hg); exact h4 j' (by omega) c, h5⟩
   ·exact Or.inr ⟨fun j a c => by by_cases hj : j = i; (subst hj; exact hg); exact h1 j (by omega) (by omega), h2⟩
end
def runs {σ β : Type} (g : Nat → σ → β ⊕ σ) (e : σ → β) : Nat → Nat → σ → β
 | 0, _, s => e s
 | k + 1, i, s => match g i s with | .inl b => b | .inr s' => runs g e k (i + 1) s'
theorem loop_runs {σ β : Type} {l : Nat → Int → σ → Option β} {g : Nat → σ → β ⊕ σ} {e : σ → β} {n : Nat} (I : Nat → σ → Prop) (hn : n ≤ 9223372036854775807)
  (step : ∀ f i s, i < n → I i s → l (f + 1) (i : Int) s = brs (g i s) (l f (IntKind.i64.wrap ((i : Int) + 1))))
  (inv : ∀ i s s', i < n → I i s → g i s = .inr s' → I (i + 1) s') (stop : ∀ f s, I n s → l (f + 1) (n : Int) s = some (e s)) :
  ∀ (k i f : Nat) (s : σ), i + k = n → k < f → I i s → l f (i : Int) s = some (runs g e k i s)
 | 0, i, f, s, hi, hf, hI => by
  obtain ⟨f, rfl⟩ : ∃ f', f = f' + 1 := ⟨f - 1, by omega⟩
  obtain rfl : i = n := by omega
  exact stop f s hI
 | k + 1, i, f, s, hi, hf, hI => by
  obtain ⟨f, rfl⟩ : ∃ f', f = f' + 1 := ⟨f - 1, by omega⟩
  rw [step f i s (by omega) hI, wrS (show i < n by omega) hn, runs]
  cases hg : g i s with
  | inl b => rfl
  | inr s' => exact loop_runs I hn step inv stop k (i + 1) f s' (by omega) (by omega) (inv i s s' (by omega) hI hg)
theorem app_zero (d e : Dat) : d.app 0 e = e := by
 have h : ∀ q : Nat, Nat.blt q 0 = false := fun q => by cases q <;> rfl
 cases e
 simp [Dat.app, h]
theorem cdd {i n : Nat} (h : i < n) : decide ((0 : Int) ≤ (i : Int) ∧ (i : Int) < (n : Int)) = true := decide_eq_true ⟨by omega, by omega⟩
theorem cdl {i n : Nat} (h : i < n) : decide ((i : Int) < (n : Int)) = true := decide_eq_true (by omega)
theorem cdn (n : Nat) : decide ((n : Int) < (n : Int)) = false := decide_eq_false (by omega)
end Go.Sy
