/-
  The plain law of 'SiteFits': the law's model is true, and its need. Conditions: none.
-/
import Derived.Test.YtbhldggbjjailaaA1
import Derived.Test.YtbhldggbjjailaaA2
import Derived.Test.YtbhldggbjjailaaA3
import Derived.Test.YtbhldggbjjailaaA4
import Derived.Test.YtbhldggbjjailaaA5
import Derived.Test.YtbhldggbjjailaaAFDiveWindows
import Derived.Test.YtbhldggbjjailaaAPApt
import Derived.Test.YtbhldggbjjailaaAPLoop
import Derived.Test.YtbhldggbjjailaaAPAng
import Derived.Test.YtbhldggbjjailaaAPCheckW
namespace Go.Proofs.Ytbhldggbjjailaa
open Go Go.Sy
set_option linter.unusedVariables false
set_option linter.unusedSimpArgs false
set_option maxRecDepth 100000
attribute [local simp] brk
section
variable {n : Nat} {d : Dat} {a : Int}
def keep (d : Dat) (a : Int) (i : Nat) : Bool := decide (a ≤ d.ii i 1 - d.ii i 0 + 1)
def ks (d : Dat) (a : Int) (i : Nat) : List Nat := (List.range i).filter (keep d a)
theorem ks_t {i : Nat} (h : keep d a i = true) : ks d a (i + 1) = ks d a i ++ [i] := by
  simp [ks, List.range_succ, List.filter_append, h]
theorem ks_f {i : Nat} (h : keep d a i = false) : ks d a (i + 1) = ks d a i := by
  simp [ks, List.range_succ, List.filter_append, h]
theorem ks_len (i : Nat) : (ks d a i).length ≤ i := by
  have := List.length_filter_le (keep d a) (List.range i)
  simpa [ks] using this
/-- Data that hold the first of the windows that are kept. -/
def HasK (d : Dat) (a : Int) (i : Nat) (D : Dat) : Prop := ∀ j x : Nat, (ks d a i)[j]? = some x → D.ii j 0 = d.ii x 0 ∧ D.ii j 1 = d.ii x 1
theorem wlen (W : Wns n d) {i : Nat} (h : i < n) : IntKind.i64.wrap (IntKind.i64.wrap (d.ii i 1 - d.ii i 0) + 1) = d.ii i 1 - d.ii i 0 + 1 := by
  have := W.lo i h; have := W.le i h; have := W.hi i h
  rw [wr (show -9223372036854775808 ≤ d.ii i 1 - d.ii i 0 by omega) (by omega), wr (by omega) (by omega)]
theorem m98_keep (W : Wns n d) {i : Nat} (h : i < n) {B : Dat} (h0 : B.ii i 0 = d.ii i 0) (h1 : B.ii i 1 = d.ii i 1) : m98 (B.ii i 0) (B.ii i 1) (datC [SV.int IntKind.i64 a]) = !(keep d a i) := by
  rw [h0, h1]
  show decide (IntKind.i64.wrap (IntKind.i64.wrap (d.ii i 1 - d.ii i 0) + 1) < a) = !(keep d a i)
  rw [wlen W h]
  unfold keep
  by_cases hh : a ≤ d.ii i 1 - d.ii i 0 + 1
  · rw [decide_eq_true hh, decide_eq_false (by omega)]; rfl
  · rw [decide_eq_false hh, decide_eq_true (by omega)]; rfl
theorem idx_all (W : Wns n d) (a : Int) : o133c98_0 n d (datC [SV.int IntKind.i64 a]) (n : Int) 0 = some (first (fun i => cond (keep d a i) none (some (true, (i : Int), default))) (false, default, ()) n 0) := by
  have few := W.few
  refine loop_first (n := n) (l := l133c98_0 n d (datC [SV.int IntKind.i64 a]) (n : Int)) (by omega) (fun f i hi => ?_) (fun f => by simp only [l133c98_0, cdn]; rfl) n 0 _ (by omega) (by omega)
  simp only [l133c98_0, cdl hi, cdd hi, cond_true, Int.toNat_natCast, m98_keep W hi rfl rfl]
  cases keep d a i <;> simp
theorem del_run (W : Wns n d) : ∀ (k i f : Nat) (D : Dat), i + k = n → k < f → (ks d a i).length < i → HasK d a i D → (∀ q, i ≤ q → D.ii q 0 = d.ii q 0 ∧ D.ii q 1 = d.ii q 1) →
    ∃ D', HasK d a n D' ∧ l96c98_0 n (datC [SV.int IntKind.i64 a]) n f ((ks d a i).length : Int) (i : Int) D = some (((ks d a n).length : Int), D')
  | 0, i, f, D, hi, hf, hl, h, h2 => by
    obtain ⟨f, rfl⟩ : ∃ g, f = g + 1 := ⟨f - 1, by omega⟩
    obtain rfl : i = n := by omega
    exact ⟨D, h, by simp only [l96c98_0, cdn, cond_false]⟩
  | k + 1, i, f, D, hi, hf, hl, h, h2 => by
    obtain ⟨f, rfl⟩ : ∃ g, f = g + 1 := ⟨f - 1, by omega⟩
    have hlt : i < n := by omega
    have few := W.few
    obtain ⟨p0, p1⟩ := h2 i (Nat.le_refl _)
    have em := m98_keep (a := a) W hlt p0 p1
    have zi : decide (i < n) = true := decide_eq_true hlt
    have hL : (ks d a i).length < n := by omega
    cases hk : keep d a i with
    | true =>
      rw [hk] at em
      have wl : IntKind.i64.wrap (((ks d a i).length : Int) + 1) = (((ks d a i).length + 1 : Nat) : Int) := wrS hL (by omega)
      have e : l96c98_0 n (datC [SV.int IntKind.i64 a]) n (f + 1) ((ks d a i).length : Int) (i : Int) D = l96c98_0 n (datC [SV.int IntKind.i64 a]) n f ((ks d a (i + 1)).length : Int) ((i + 1 : Nat) : Int) (D.upd (ks d a i).length 0 [SV.int IntKind.i64 (D.ii i 0), SV.int IntKind.i64 (D.ii i 1)]) := by
        simp only [l96c98_0, cdl hlt, cdd hlt, cdd hL, Int.toNat_natCast, em, zi, decide_eq_true hL, wl, wrS hlt (by omega), ks_t hk, List.length_append, List.length_singleton, Bool.not_true, cond_true, cond_false]
      rw [e]
      refine del_run W k (i + 1) f _ (by omega) (by omega) (by rw [ks_t hk]; simp; omega) (fun j x hx => ?_) (fun q hq => ?_)
      · rw [ks_t hk, List.getElem?_append] at hx
        by_cases hj : j < (ks d a i).length
        · rw [if_pos hj] at hx
          obtain ⟨p, q⟩ := h j x hx
          have hne : j ≠ (ks d a i).length := by omega
          simp [Dat.upd, hne, p, q]
        · rw [if_neg hj] at hx
          have hj2 : j = (ks d a i).length := by
            have := (List.getElem?_eq_some_iff.1 hx).1
            simp at this; omega
          subst hj2
          simp at hx; subst hx
          simp [Dat.upd, p0, p1]
      · obtain ⟨x, y⟩ := h2 q (by omega)
        have hne : q ≠ (ks d a i).length := by omega
        simp [Dat.upd, hne, x, y]
    | false =>
      rw [hk] at em
      have e : l96c98_0 n (datC [SV.int IntKind.i64 a]) n (f + 1) ((ks d a i).length : Int) (i : Int) D = l96c98_0 n (datC [SV.int IntKind.i64 a]) n f ((ks d a (i + 1)).length : Int) ((i + 1 : Nat) : Int) D := by
        simp only [l96c98_0, cdl hlt, cdd hlt, Int.toNat_natCast, em, zi, wrS hlt (by omega), ks_f hk, Bool.not_false, cond_true, cond_false]
      rw [e]
      exact del_run W k (i + 1) f D (by omega) (by omega) (by rw [ks_f hk]; omega) (by unfold HasK; rw [ks_f hk]; exact h) (fun q hq => h2 q (by omega))
theorem ks_all : ∀ i, (∀ j, j < i → keep d a j = true) → ks d a i = List.range i
  | 0, _ => rfl
  | i + 1, h => by rw [ks_t (h i (by omega)), ks_all i fun j hj => h j (by omega), List.range_succ]
theorem del_ok (W : Wns n d) (a : Int) : n96c98 n n d (datC [SV.int IntKind.i64 a]) = true ∧ ∃ D c, HasK d a n D ∧ (ks d a n).length ≤ c ∧ m96c98 n n d (datC [SV.int IntKind.i64 a]) = ((ks d a n).length, c, D) := by
  have few := W.few
  have o := idx_all W a
  have s0 : d.shift 0 = d := rfl
  rcases first_cases (g := fun i => cond (keep d a i) none (some (true, (i : Int), (default : Unit)))) (e := (false, default, ())) n 0 with ⟨j, b, _, hj, h3, h4, h5⟩ | ⟨h1, h2⟩
  · have hkj : keep d a j = false := by
      cases hk : keep d a j with
      | false => rfl
      | true => simp only [hk, cond_true] at h3; cases h3
    have hb : b = (true, (j : Int), default) := by simp only [hkj, cond_false] at h3; exact (Option.some.inj h3).symm
    subst hb
    rw [h5] at o
    have em : m133c98 n d (datC [SV.int IntKind.i64 a]) = (j : Int) := by simp only [m133c98, o, Option.getD_some, cond_true]
    have en : n133c98 n d (datC [SV.int IntKind.i64 a]) = true := by simp only [n133c98, o]; rfl
    have hjn : j < n := by omega
    have kj : ks d a j = List.range j := ks_all j fun t ht => by
      have := h4 t (Nat.zero_le _) ht
      cases hk : keep d a t with
      | true => rfl
      | false => simp only [hk, cond_false] at this; cases this
    have kj1 : ks d a (j + 1) = List.range j := by rw [ks_f hkj, kj]
    have wj : IntKind.i64.wrap ((j : Int) + 1) = ((j + 1 : Nat) : Int) := wrS hjn (by omega)
    obtain ⟨D, h, e⟩ := del_run (a := a) W (n - (j + 1)) (j + 1) (n + (j : Int).toNat + ((j + 1 : Nat) : Int).toNat + n + 8) d (by omega) (by omega) (by rw [kj1]; simp) (fun t x hx => by
      rw [kj1] at hx
      have h9 := List.getElem?_eq_some_iff.1 hx
      simp at h9
      obtain ⟨_, rfl⟩ := h9
      exact ⟨rfl, rfl⟩) (fun q _ => ⟨rfl, rfl⟩)
    rw [kj1, List.length_range] at e
    have o2 : o96c98_0 n (datC [SV.int IntKind.i64 a]) n (j : Int) ((j + 1 : Nat) : Int) d = some (((ks d a n).length : Int), D) := e
    have hl := ks_len (d := d) (a := a) n
    have zj : decide ((j : Int) = -1) = false := decide_eq_false (by omega)
    have z1 : decide (0 ≤ ((ks d a n).length : Int) ∧ ((ks d a n).length : Int) ≤ (n : Int) ∧ (n : Int) ≤ (n : Int)) = true := decide_eq_true ⟨by omega, by omega, by omega⟩
    have z2 : decide ((0 : Int) ≤ (0 : Int) ∧ (0 : Int) ≤ ((ks d a n).length : Int) ∧ ((ks d a n).length : Int) ≤ (n : Int)) = true := decide_eq_true ⟨by omega, by omega, by omega⟩
    have z3 : decide ((((ks d a n).length : Int)).toNat + ((n : Int) - ((ks d a n).length : Int)).toNat ≤ n) = true := decide_eq_true (by omega)
    refine ⟨?_, D, (ks d a n).length, h, Nat.le_refl _, ?_⟩
    · simp only [n96c98, s0, em, en, wj, o2, zj, z1, z2, z3, Nat.zero_add, decide_eq_true (Nat.le_refl n), Option.isSome_some, Option.getD_some, cond_false]; rfl
    · simp only [m96c98, em, wj, o2, zj, Option.getD_some, Int.toNat_natCast, cond_false]
  · rw [h2] at o
    have em : m133c98 n d (datC [SV.int IntKind.i64 a]) = -1 := by simp only [m133c98, o, Option.getD_some, cond_false]
    have en : n133c98 n d (datC [SV.int IntKind.i64 a]) = true := by simp only [n133c98, o]; rfl
    have kn : ks d a n = List.range n := ks_all n fun t ht => by
      have := h1 t (Nat.zero_le _) (by omega)
      cases hk : keep d a t with
      | true => rfl
      | false => simp only [hk, cond_false] at this; cases this
    refine ⟨?_, d, n, fun t x hx => ?_, by rw [kn]; simp, ?_⟩
    · simp only [n96c98, em, en, Nat.zero_add, decide_eq_true (Nat.le_refl n), decide_true, cond_true]; rfl
    · rw [kn] at hx
      have h9 := List.getElem?_eq_some_iff.1 hx
      simp at h9
      obtain ⟨_, rfl⟩ := h9
      exact ⟨rfl, rfl⟩
    · simp only [m96c98, em, decide_true, cond_true, kn, List.length_range]
end
end Go.Proofs.Ytbhldggbjjailaa
