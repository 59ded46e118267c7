/-
  All fills one after the other: the program and the reference end alike. Conditions: none.
-/
import Derived.Test.YtmndejpcpfkajaaAFGasBalanced
import Derived.Test.YtmndejpcpfkajaaAPMatches
import Derived.Test.YtmndejpcpfkajaaAPPartials
import Derived.Test.YtmndejpcpfkajaaAPLoop
import Derived.Test.YtmndejpcpfkajaaAPFactors
import Derived.Test.YtmndejpcpfkajaaAPShares
import Derived.Test.YtmndejpcpfkajaaAPVessels
import Derived.Test.YtmndejpcpfkajaaAPFills
import Derived.Test.YtmndejpcpfkajaaAPRead
import Derived.Test.YtmndejpcpfkajaaA1
import Derived.Test.YtmndejpcpfkajaaA2
import Derived.Test.YtmndejpcpfkajaaA3
import Derived.Test.YtmndejpcpfkajaaA4
namespace Go.Proofs.Ytmndejpcpfkajaa
open Go Go.Sy
set_option linter.unusedVariables false
set_option maxRecDepth 100000
theorem runs_map {σ β γ : Type} (φ : β → γ) (g : Nat → σ → β ⊕ σ) (e : σ → β) : ∀ (k i : Nat) (s : σ), runs (fun i s => Sum.elim (fun b => Sum.inl (φ b)) Sum.inr (g i s)) (fun s => φ (e s)) k i s = φ (runs g e k i s)
  | 0, _, _ => rfl
  | k + 1, i, s => by
    rw [runs, runs]
    cases g i s with
    | inl b => rfl
    | inr s' => exact runs_map φ g e k (i + 1) s'
theorem runs_begin {σ β : Type} (g : Nat → σ → (β ⊕ σ) ⊕ σ) (hg : ∀ j t b, g j t = Sum.inl b → ∃ b', b = Sum.inl b') : ∀ (k m i : Nat) (s s' : σ), runs g Sum.inr (k + m) i s = Sum.inr s' → ∃ t, runs g Sum.inr k i s = Sum.inr t
  | 0, m, i, s, s', _ => ⟨s, rfl⟩
  | k + 1, m, i, s, s', h => by
    rw [show k + 1 + m = (k + m) + 1 by omega, runs] at h
    rw [runs]
    cases hgi : g i s with
    | inl b =>
      rw [hgi] at h
      obtain ⟨b', rfl⟩ := hg _ _ _ hgi
      cases h
    | inr t =>
      rw [hgi] at h
      exact runs_begin g hg k m (i + 1) t s' h
/-- The fill at a number. -/
def fiOf (d : Dat) (i : Nat) : Fi := ⟨d.ii i 0, d.ii i 1, d.ss i 2, d.ss i 3, d.ii i 4, d.ii i 5, d.ii i 6, d.bb i 7⟩
/-- The number of the first wrong fill with its error and the store before it, or the store behind all. -/
abbrev Rd := (Nat × Int × St) ⊕ St
open Classical in
noncomputable def gS (nv : Nat) (dv d : Dat) (i : Nat) (s : St) : Rd ⊕ St := if errF nv dv s (fiOf d i) = 0 then .inr (nextF nv dv s (fiOf d i)) else .inl (.inl (i, errF nv dv s (fiOf d i), s))
noncomputable def s0 : St := (datC [SV.int .i64 0, SV.int .i64 0, SV.int .i64 0], (0, 0, 0), (0, 0, 0), 0)
noncomputable def rdS (nv : Nat) (dv : Dat) (n : Nat) (d : Dat) : Rd := runs (gS nv dv d) .inr n 0 s0
noncomputable def phP (nv : Nat) (dv : Dat) : Rd → Bool × (Int × Int × Nat × Dat × Nat × Dat × Nat × Int × Int × Int × Int × Int × Int × Int) × (Nat × Dat × Nat × Dat × Nat × Int × Int × Int × Int × Int × Int × Int)
  | .inl (i, e, s) => (true, ((i : Int), e, nv, s.1, nv, dv, nv, s.2.1.1, s.2.1.2.1, s.2.1.2.2, s.2.2.1.1, s.2.2.1.2.1, s.2.2.1.2.2, s.2.2.2), default)
  | .inr s => (false, default, (nv, s.1, nv, dv, nv, s.2.1.1, s.2.1.2.1, s.2.1.2.2, s.2.2.1.1, s.2.2.1.2.1, s.2.2.1.2.2, s.2.2.2))
noncomputable def phR (nv : Nat) : Rd → Bool × (Int × Int × Nat × Int × Int × Int × Int × Int × Int × Int × Nat × Dat × Nat × Int × Int × Int × Int × Int × Int × Int) × (Nat × Dat × Nat × Int × Int × Int × Int × Int × Int × Int)
  | .inl (i, e, s) => (true, ((i : Int), e, nv, s.2.1.1, s.2.1.2.1, s.2.1.2.2, s.2.2.1.1, s.2.2.1.2.1, s.2.2.1.2.2, s.2.2.2, nv, s.1, nv, s.2.1.1, s.2.1.2.1, s.2.1.2.2, s.2.2.1.1, s.2.2.1.2.1, s.2.2.1.2.2, s.2.2.2), default)
  | .inr s => (false, default, (nv, s.1, nv, s.2.1.1, s.2.1.2.1, s.2.1.2.2, s.2.2.1.1, s.2.2.1.2.1, s.2.2.1.2.2, s.2.2.2))
theorem right0 (nv : Nat) (dv : Dat) (V : RightV nv dv) : RightS nv dv s0 0 ∧ Bal nv s0 := by
  have h : ∀ i, s0.1.ii i 0 = 0 ∧ s0.1.ii i 1 = 0 ∧ s0.1.ii i 2 = 0 := fun i => ⟨rfl, rfl, rfl⟩
  have t : ∀ c, c < 3 → ∀ n, tot s0.1 c n = 0 := by
    intro c hc n
    induction n with
    | zero => rfl
    | succ n ih =>
      simp only [tot, ih]
      obtain ⟨a, b, e⟩ := h n
      rcases (show c = 0 ∨ c = 1 ∨ c = 2 by omega) with rfl | rfl | rfl <;> omega
  refine ⟨⟨fun i hi => ?_, ⟨⟨Int.le_refl 0, Int.le_refl 0⟩, ⟨Int.le_refl 0, Int.le_refl 0⟩, Int.le_refl 0, Int.le_refl 0⟩, ⟨⟨Int.le_refl 0, Int.le_refl 0⟩, ⟨Int.le_refl 0, Int.le_refl 0⟩, Int.le_refl 0, Int.le_refl 0⟩⟩, ?_⟩
  · obtain ⟨a, b, e⟩ := h i
    have v := V.vol i hi
    have m := V.most i hi
    have p := mulb (show 0 ≤ dv.ii i 2 by omega) m.2 (show 0 ≤ dv.ii i 1 by omega) v.2
    refine ⟨by omega, by omega, by omega, ?_⟩
    unfold sm
    rw [a, b, e]
    omega
  · simp only [Bal, t 0 (by omega), t 1 (by omega), t 2 (by omega)]
    simp [s0]
theorem l79_step {nv n : Nat} {dv d : Dat} (hnv : nv ≤ 9223372036854775807) (V : RightV nv dv) (hn : n ≤ 1000) (f i : Nat) (s : St) (hi : i < n) (S : RightS nv dv s ((i : Int) * 1000000000)) :
    l79_0 n d (n : Int) (f + 1) (i : Int) nv s.1 nv dv nv s.2.1.1 s.2.1.2.1 s.2.1.2.2 s.2.2.1.1 s.2.2.1.2.1 s.2.2.1.2.2 s.2.2.2 = brs (Sum.elim (fun b => Sum.inl (phP nv dv b)) Sum.inr (gS nv dv d i s))
      fun s' => l79_0 n d (n : Int) f (IntKind.i64.wrap ((i : Int) + 1)) nv s'.1 nv dv nv s'.2.1.1 s'.2.1.2.1 s'.2.1.2.2 s'.2.2.1.1 s'.2.2.1.2.1 s'.2.2.1.2.2 s'.2.2.2 := by
  have st := step_all hnv V (by omega) (by omega) S (fiOf d i)
  have h1 : n86 nv dv nv nv s.1 s.2.1.1 s.2.1.2.1 s.2.1.2.2 s.2.2.1.1 s.2.2.1.2.1 s.2.2.1.2.2 s.2.2.2 (d.ii i 0) (d.ii i 1) (d.ss i 2) (d.ss i 3) (d.ii i 4) (d.ii i 5) (d.ii i 6) (d.bb i 7) = true := st.nP
  have h2 : m86 nv dv nv nv s.1 s.2.1.1 s.2.1.2.1 s.2.1.2.2 s.2.2.1.1 s.2.2.1.2.1 s.2.2.1.2.2 s.2.2.2 (d.ii i 0) (d.ii i 1) (d.ss i 2) (d.ss i 3) (d.ii i 4) (d.ii i 5) (d.ii i 6) (d.bb i 7) = _ := st.mP
  simp only [l79_0, cdl hi, cdd hi, cond_true, Int.toNat_natCast, Nat.zero_add, Nat.reduceAdd, h1, h2]
  by_cases he : errF nv dv s (fiOf d i) = 0
  · simp only [he, if_true, gS, Sum.elim_inr, brs, outP, decide_true, cond_true, cond_false]
  · simp only [he, if_false, gS, Sum.elim_inl, brs, outP, decide_false, cond_true, cond_false, phP]
theorem l59_step {nv n : Nat} {dv d : Dat} (hnv : nv ≤ 9223372036854775807) (V : RightV nv dv) (hn : n ≤ 1000) (f i : Nat) (s : St) (hi : i < n) (S : RightS nv dv s ((i : Int) * 1000000000)) :
    l59_0 nv dv n d 0 0 0 0 0 0 0 (f + 1) (i : Int) nv s.1 nv s.2.1.1 s.2.1.2.1 s.2.1.2.2 s.2.2.1.1 s.2.2.1.2.1 s.2.2.1.2.2 s.2.2.2 = brs (Sum.elim (fun b => Sum.inl (phR nv b)) Sum.inr (gS nv dv d i s))
      fun s' => l59_0 nv dv n d 0 0 0 0 0 0 0 f (IntKind.i64.wrap ((i : Int) + 1)) nv s'.1 nv s'.2.1.1 s'.2.1.2.1 s'.2.1.2.2 s'.2.2.1.1 s'.2.2.1.2.1 s'.2.2.1.2.2 s'.2.2.2 := by
  have st := step_all hnv V (by omega) (by omega) S (fiOf d i)
  have hal : (fiOf d i).al = m110 (d.ii i 0) (d.ii i 1) (d.ss i 2) (d.ss i 3) (d.ii i 4) (d.ii i 5) (d.ii i 6) (d.bb i 7) := rfl
  by_cases ha : m110 (d.ii i 0) (d.ii i 1) (d.ss i 2) (d.ss i 3) (d.ii i 4) (d.ii i 5) (d.ii i 6) (d.bb i 7) = 0
  · have h1 : n111 nv dv nv nv s.1 s.2.1.1 s.2.1.2.1 s.2.1.2.2 s.2.2.1.1 s.2.2.1.2.1 s.2.2.1.2.2 s.2.2.2 (d.ii i 0) (d.ii i 1) (d.ss i 2) (d.ss i 3) (d.ii i 4) (d.ii i 5) (d.ii i 6) (d.bb i 7) = true := st.nR ha
    have h2 : m111 nv dv nv nv s.1 s.2.1.1 s.2.1.2.1 s.2.1.2.2 s.2.2.1.1 s.2.2.1.2.1 s.2.2.1.2.2 s.2.2.2 (d.ii i 0) (d.ii i 1) (d.ss i 2) (d.ss i 3) (d.ii i 4) (d.ii i 5) (d.ii i 6) (d.bb i 7) = _ := st.mR ha
    simp only [l59_0, cdl hi, cdd hi, cond_true, Int.toNat_natCast, Nat.zero_add, Nat.reduceAdd, ha, decide_true, h1, h2]
    by_cases he : errF nv dv s (fiOf d i) = 0
    · simp only [he, if_true, gS, Sum.elim_inr, brs, outR, decide_true, cond_true, cond_false]
    · simp only [he, if_false, gS, Sum.elim_inl, brs, outR, decide_false, cond_true, cond_false, phR]
  · have he : errF nv dv s (fiOf d i) = m110 (d.ii i 0) (d.ii i 1) (d.ss i 2) (d.ss i 3) (d.ii i 4) (d.ii i 5) (d.ii i 6) (d.bb i 7) := st.al ha
    simp only [l59_0, cdl hi, cdd hi, cond_true, cond_false, Int.toNat_natCast, Nat.zero_add, Nat.reduceAdd, ha, decide_false, he, if_false, gS, Sum.elim_inl, brs, phR]
theorem inv_step {nv n : Nat} {dv d : Dat} (hnv : nv ≤ 9223372036854775807) (V : RightV nv dv) (hn : n ≤ 1000) {i : Nat} {s s' : St} (hi : i < n) (S : RightS nv dv s ((i : Int) * 1000000000)) (hg : gS nv dv d i s = .inr s') :
    RightS nv dv s' (((i + 1 : Nat) : Int) * 1000000000) ∧ (Bal nv s → Bal nv s') := by
  have st := step_all hnv V (by omega) (by omega) S (fiOf d i)
  unfold gS at hg
  split at hg
  · rename_i he
    cases hg
    have e : ((i + 1 : Nat) : Int) * 1000000000 = (i : Int) * 1000000000 + 1000000000 := by omega
    rw [e]
    exact ⟨st.right he, st.bal he⟩
  · cases hg
theorem o79_all {nv n : Nat} {dv d : Dat} (hnv : nv ≤ 9223372036854775807) (V : RightV nv dv) (hn : n ≤ 1000) :
    o79_0 n d (n : Int) 0 nv (datC [SV.int .i64 0, SV.int .i64 0, SV.int .i64 0]) nv dv nv 0 0 0 0 0 0 0 = some (phP nv dv (rdS nv dv n d)) := by
  have h := loop_runs (l := fun f t (s : St) => l79_0 n d (n : Int) f t nv s.1 nv dv nv s.2.1.1 s.2.1.2.1 s.2.1.2.2 s.2.2.1.1 s.2.2.1.2.1 s.2.2.1.2.2 s.2.2.2) (g := fun i s => Sum.elim (fun b => Sum.inl (phP nv dv b)) Sum.inr (gS nv dv d i s)) (e := fun s => phP nv dv (.inr s)) (n := n)
    (fun i s => RightS nv dv s ((i : Int) * 1000000000)) (by omega) (fun f i s hi S => l79_step hnv V hn f i s hi S)
    (fun i s s' hi S hg => by
      cases hg' : gS nv dv d i s with
      | inl b => rw [hg'] at hg; cases hg
      | inr t => rw [hg'] at hg; cases hg; exact (inv_step hnv V hn hi S hg').1) (fun f s S => by simp only [l79_0, cdn, cond_false, phP]) n 0 (n + (n : Int).toNat + (0 : Int).toNat + nv + nv + nv + (0 : Int).toNat + (0 : Int).toNat + (0 : Int).toNat + (0 : Int).toNat + (0 : Int).toNat + (0 : Int).toNat + (0 : Int).toNat + 8) s0 (by omega) (by omega) (right0 nv dv V).1
  rw [runs_map (phP nv dv) (gS nv dv d) Sum.inr n 0 s0] at h
  exact h
theorem o59_all {nv n : Nat} {dv d : Dat} (hnv : nv ≤ 9223372036854775807) (V : RightV nv dv) (hn : n ≤ 1000) :
    o59_0 nv dv n d 0 0 0 0 0 0 0 0 nv (datC [SV.int .i64 0, SV.int .i64 0, SV.int .i64 0]) nv 0 0 0 0 0 0 0 = some (phR nv (rdS nv dv n d)) := by
  have h := loop_runs (l := fun f t (s : St) => l59_0 nv dv n d 0 0 0 0 0 0 0 f t nv s.1 nv s.2.1.1 s.2.1.2.1 s.2.1.2.2 s.2.2.1.1 s.2.2.1.2.1 s.2.2.1.2.2 s.2.2.2) (g := fun i s => Sum.elim (fun b => Sum.inl (phR nv b)) Sum.inr (gS nv dv d i s)) (e := fun s => phR nv (.inr s)) (n := n)
    (fun i s => RightS nv dv s ((i : Int) * 1000000000)) (by omega) (fun f i s hi S => l59_step hnv V hn f i s hi S)
    (fun i s s' hi S hg => by
      cases hg' : gS nv dv d i s with
      | inl b => rw [hg'] at hg; cases hg
      | inr t => rw [hg'] at hg; cases hg; exact (inv_step hnv V hn hi S hg').1) (fun f s S => by simp only [l59_0, cdn, cond_false, phR]) n 0 (nv + n + (0 : Int).toNat + (0 : Int).toNat + (0 : Int).toNat + (0 : Int).toNat + (0 : Int).toNat + (0 : Int).toNat + (0 : Int).toNat + (0 : Int).toNat + nv + nv + (0 : Int).toNat + (0 : Int).toNat + (0 : Int).toNat + (0 : Int).toNat + (0 : Int).toNat + (0 : Int).toNat + (0 : Int).toNat + 8) s0 (by omega) (by omega) (right0 nv dv V).1
  rw [runs_map (phR nv) (gS nv dv d) Sum.inr n 0 s0] at h
  exact h
/-- What holds behind fills. -/
theorem rdS_right {nv n : Nat} {dv d : Dat} (hnv : nv ≤ 9223372036854775807) (V : RightV nv dv) (hn : n ≤ 1000) :
    (∀ i e s, rdS nv dv n d = .inl (i, e, s) → e ≠ 0 ∧ i < n) ∧ ∀ s, rdS nv dv n d = .inr s → RightS nv dv s ((n : Int) * 1000000000) ∧ Bal nv s := by
  have h := runs_inv (g := gS nv dv d) (e := Sum.inr) (R := fun i s => RightS nv dv s ((i : Int) * 1000000000) ∧ Bal nv s) (Q := fun b => (∀ i e s, b = .inl (i, e, s) → e ≠ 0 ∧ i < n) ∧ ∀ s, b = .inr s → RightS nv dv s ((n : Int) * 1000000000) ∧ Bal nv s) (n := n)
    (fun i s hi S => by
      cases hg : gS nv dv d i s with
      | inr s' =>
        have a := inv_step hnv V hn hi S.1 hg
        exact Or.inr ⟨s', rfl, a.1, a.2 S.2⟩
      | inl b =>
        refine Or.inl ⟨b, rfl, ?_⟩
        unfold gS at hg
        split at hg
        · cases hg
        · rename_i he
          cases hg
          exact ⟨fun i' e' s' e => by cases e; exact ⟨he, hi⟩, fun s' e => by cases e⟩)
    (fun s S => ⟨fun i e s' h => by simp at h, fun s' h => by cases h; exact S⟩) n 0 s0 (by omega) (right0 nv dv V)
  exact h
/-- Beginnings of right fills are right. -/
theorem rdS_begin {nv n m : Nat} {dv d : Dat} (hm : m ≤ n) {s : St} (h : rdS nv dv n d = .inr s) : ∃ s', rdS nv dv m d = .inr s' := by
  obtain ⟨k, rfl⟩ : ∃ k, n = m + k := ⟨n - m, by omega⟩
  unfold rdS at h ⊢
  exact runs_begin (gS nv dv d) (fun j t b hb => by
    unfold gS at hb
    split at hb
    · cases hb
    · cases hb; exact ⟨_, rfl⟩) m k 0 s0 s h
/-- The number and the error. -/
noncomputable def rdE (nv : Nat) (dv : Dat) (n : Nat) (d : Dat) : Int × Int :=
  if m51 nv dv ≠ 0 then (0, m51 nv dv) else if 200 < n then (0, 8) else match rdS nv dv n d with
  | .inl (i, e, _) => ((i : Int), e)
  | .inr _ => (0, 0)
theorem m79a_eq (nv : Nat) (dv : Dat) (n : Nat) (d : Dat) : m79a nv dv n d = cond (bif decide (m50 nv dv = 0) then false else true) (0, m50 nv dv) (cond (decide ((200 : Int) < (n : Int))) (0, 8) (((o79_0 n d (n : Int) 0 ((nv : Int).toNat) (datC [SV.int .i64 0, SV.int .i64 0, SV.int .i64 0]) nv dv ((nv : Int).toNat) 0 0 0 0 0 0 0).getD default).2.1.1, ((o79_0 n d (n : Int) 0 ((nv : Int).toNat) (datC [SV.int .i64 0, SV.int .i64 0, SV.int .i64 0]) nv dv ((nv : Int).toNat) 0 0 0 0 0 0 0).getD default).2.1.2.1)) := by kernel_rfl
theorem m79b_eq (nv : Nat) (dv : Dat) (n : Nat) (d : Dat) (z : _) (hz : (o79_0 n d (n : Int) 0 ((nv : Int).toNat) (datC [SV.int .i64 0, SV.int .i64 0, SV.int .i64 0]) nv dv ((nv : Int).toNat) 0 0 0 0 0 0 0).getD default = z) :
    m79b nv dv n d = (0, 0, z.2.2.2.2.1, z.2.2.2.2.2.1, z.2.2.2.2.2.2.1, z.2.2.2.2.2.2.2.1, z.2.2.2.2.2.2.2.2.1, z.2.2.2.2.2.2.2.2.2.1, z.2.2.2.2.2.2.2.2.2.2.1, z.2.2.2.2.2.2.2.2.2.2.2.1, z.2.2.2.2.2.2.2.2.2.2.2.2.1, z.2.2.2.2.2.2.2.2.2.2.2.2.2, z.2.2.1, z.2.2.2.1) := by
  subst hz
  kernel_rfl
theorem m59_eq (nv : Nat) (dv : Dat) (n : Nat) (d : Dat) (z : _) (hz : (o59_0 nv dv n d 0 0 0 0 0 0 0 0 ((nv : Int).toNat) (datC [SV.int .i64 0, SV.int .i64 0, SV.int .i64 0]) ((nv : Int).toNat) 0 0 0 0 0 0 0).getD default = z) :
    m59 nv dv n d = cond (decide ((200 : Int) < (n : Int))) ((nv : Int).toNat, datC [SV.int .i64 0, SV.int .i64 0, SV.int .i64 0], 0, 0, 0, 0, 0, 0, 0, 0, 8) (cond z.1 (z.2.1.2.2.1, z.2.1.2.2.2.2.2.2.2.2.2.2.2.1, z.2.1.2.2.2.1, z.2.1.2.2.2.2.1, z.2.1.2.2.2.2.2.1, z.2.1.2.2.2.2.2.2.1, z.2.1.2.2.2.2.2.2.2.1, z.2.1.2.2.2.2.2.2.2.2.1, z.2.1.2.2.2.2.2.2.2.2.2.1, z.2.1.1, z.2.1.2.1)
      (z.2.2.2.2.1, z.2.2.2.1, z.2.2.2.2.2.1, z.2.2.2.2.2.2.1, z.2.2.2.2.2.2.2.1, z.2.2.2.2.2.2.2.2.1, z.2.2.2.2.2.2.2.2.2.1, z.2.2.2.2.2.2.2.2.2.2.1, z.2.2.2.2.2.2.2.2.2.2.2, 0, 0)) := by
  subst hz
  kernel_rfl
theorem n59_eq (nv : Nat) (dv : Dat) (n : Nat) (d : Dat) (z : _) (hz : o59_0 nv dv n d 0 0 0 0 0 0 0 0 ((nv : Int).toNat) (datC [SV.int .i64 0, SV.int .i64 0, SV.int .i64 0]) ((nv : Int).toNat) 0 0 0 0 0 0 0 = z) :
    n59 nv dv n d = (decide (0 ≤ (nv : Int) ∧ (nv : Int) ≤ (nv : Int) ∧ (nv : Int) ≤ 1073741824) && (cond (decide ((200 : Int) < (n : Int))) (decide (0 + (nv : Int).toNat ≤ (nv : Int).toNat) && true) (z.isSome && (cond (z.getD default).1 (decide (0 + (z.getD default).2.1.2.2.1 ≤ (z.getD default).2.1.2.2.2.2.2.2.2.2.2.2.1) && true) (decide (0 + (z.getD default).2.2.2.2.1 ≤ (z.getD default).2.2.1) && true))))) := by
  subst hz
  kernel_rfl
end Go.Proofs.Ytmndejpcpfkajaa
