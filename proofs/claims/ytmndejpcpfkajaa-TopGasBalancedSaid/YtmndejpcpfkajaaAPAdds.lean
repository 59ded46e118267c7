/-
  The plain law of 'MixAdds': the law's model is true, and its need. Conditions: none.
-/
import Derived.Test.YtmndejpcpfkajaaAFGasBalanced
import Derived.Test.YtmndejpcpfkajaaAPMatches
import Derived.Test.YtmndejpcpfkajaaAPPartials
import Derived.Test.YtmndejpcpfkajaaAPLoop
import Derived.Test.YtmndejpcpfkajaaAPFactors
import Derived.Test.YtmndejpcpfkajaaAPShares
import Derived.Test.YtmndejpcpfkajaaAPVessels
import Derived.Test.YtmndejpcpfkajaaAPFills
import Derived.Test.YtmndejpcpfkajaaAPRead
import Derived.Test.YtmndejpcpfkajaaAPRun
import Derived.Test.YtmndejpcpfkajaaAPShort
namespace Go.Proofs.Ytmndejpcpfkajaa
open Go Go.Sy
set_option linter.unusedVariables false
set_option maxRecDepth 100000
theorem runs_congr {σ β : Type} {g g' : Nat → σ → β ⊕ σ} {e : σ → β} : ∀ (k i : Nat) (s : σ), (∀ j t, i ≤ j → j < i + k → g j t = g' j t) → runs g e k i s = runs g' e k i s
  | 0, _, _, _ => rfl
  | k + 1, i, s, h => by
    rw [runs, runs, h i s (Nat.le_refl _) (by omega)]
    split
    · rfl
    · exact runs_congr k (i + 1) _ fun j t h1 h2 => h j t (by omega) (by omega)
/-- One round more. -/
theorem runs_more {σ β : Type} (g : Nat → σ → (β ⊕ σ) ⊕ σ) (hg : ∀ j t b, g j t = Sum.inl b → ∃ b', b = Sum.inl b') : ∀ (k i : Nat) (s s' : σ), runs g Sum.inr k i s = Sum.inr s' → runs g Sum.inr (k + 1) i s = (match g (i + k) s' with | .inl b => b | .inr t => Sum.inr t)
  | 0, i, s, s', h => by
    simp only [runs] at h
    cases h
    simp only [runs, Nat.add_zero]
    cases g i s <;> rfl
  | k + 1, i, s, s', h => by
    rw [runs] at h
    rw [runs]
    cases hgi : g i s with
    | inl b =>
      rw [hgi] at h
      obtain ⟨b', rfl⟩ := hg _ _ _ hgi
      cases h
    | inr t =>
      rw [hgi] at h
      have := runs_more g hg k (i + 1) t s' h
      rw [show i + 1 + k = i + (k + 1) by omega] at this
      exact this
def fi11 (x : Fi) : Dat := datS [SV.int .i64 x.k, SV.int .i64 x.dy, SV.str x.fr, SV.str x.to, SV.int .i64 x.ox, SV.int .i64 x.he, SV.int .i64 x.am, SV.bool x.pu] 8
theorem fiOf_app (d : Dat) (n : Nat) (x : Fi) : fiOf (d.app n (fi11 x)) n = x ∧ ∀ i, i < n → fiOf (d.app n (fi11 x)) i = fiOf d i := by
  constructor
  · simp only [fiOf, Dat.app, blt_f (Nat.lt_irrefl n), cond_false, Nat.sub_self]
    rfl
  · intro i hi
    simp only [fiOf, Dat.app, blt_t hi, cond_true]
theorem rdS_more {nv n : Nat} {dv d : Dat} {s : St} (x : Fi) (h : rdS nv dv n d = .inr s) : rdS nv dv (n + 1) (d.app n (fi11 x)) = if errF nv dv s x = 0 then .inr (nextF nv dv s x) else .inl (n, errF nv dv s x, s) := by
  obtain ⟨f1, f2⟩ := fiOf_app d n x
  have h' : runs (gS nv dv (d.app n (fi11 x))) Sum.inr n 0 s0 = Sum.inr s := by
    rw [← h]
    exact runs_congr n 0 s0 fun j t _ hj => by simp only [gS, f2 j (by omega)]
  have := runs_more (gS nv dv (d.app n (fi11 x))) (fun j t b hb => by
    unfold gS at hb
    split at hb
    · cases hb
    · cases hb; exact ⟨_, rfl⟩) n 0 s0 s h'
  unfold rdS
  rw [this]
  simp only [gS, Nat.zero_add, f1]
  by_cases he : errF nv dv s x = 0
  · rw [if_pos he, if_pos he]
  · rw [if_neg he, if_neg he]
end Go.Proofs.Ytmndejpcpfkajaa
