/-
  The plain law of 'SiteFits': the law's model is true, and its need. Conditions: none.
-/
import Derived.Test.YtlaogoojkfjgoaaU1
import Derived.Test.YtlaogoojkfjgoaaU2
import Derived.Test.YtlaogoojkfjgoaaU3
import Derived.Test.YtlaogoojkfjgoaaUFFits
import Derived.Test.YtlaogoojkfjgoaaUPLoop
import Derived.Test.YtlaogoojkfjgoaaUPAng
import Derived.Test.YtlaogoojkfjgoaaUPCheckW
import Derived.Test.YtlaogoojkfjgoaaUPFlat
import Derived.Test.YtlaogoojkfjgoaaUE17
namespace Go.Proofs.Ytlaogoojkfjgoaa
open Go Go.Sy
set_option linter.unusedVariables false
set_option linter.unusedSimpArgs false
set_option maxRecDepth 100000
attribute [local simp] brk
theorem e17v : m17 = true := rfl
section
variable {n : Nat} {d : Dat} {a : Int}
def keep (d : Dat) (a : Int) (i : Nat) : Bool := decide (a ≤ d.ii i 1 - d.ii i 0 + 1)
def ks (d : Dat) (a : Int) (i : Nat) : List Nat := (List.range i).filter (keep d a)
theorem ks_t {i : Nat} (h : keep d a i = true) : ks d a (i + 1) = ks d a i ++ [i] := by
  simp [ks, List.range_succ, List.filter_append, h]
theorem ks_f {i : Nat} (h : keep d a i = false) : ks d a (i + 1) = ks d a i := by
  simp [ks, List.range_succ, List.filter_append, h]
theorem ks_len (i : Nat) : (ks d a i).length ≤ i := by
  have := List.length_filter_le (keep d a) (List.range i)
  simpa [ks] using this
/-- Data that hold the first of the windows that are kept. -/
def HasK (d : Dat) (a : Int) (i : Nat) (D : Dat) : Prop := ∀ j x : Nat, (ks d a i)[j]? = some x → D.ii j 0 = d.ii x 0 ∧ D.ii j 1 = d.ii x 1
theorem wlen (W : Wns n d) {i : Nat} (h : i < n) : IntKind.i64.wrap (IntKind.i64.wrap (d.ii i 1 - d.ii i 0) + 1) = d.ii i 1 - d.ii i 0 + 1 := by
  have := W.lo i h; have := W.le i h; have := W.hi i h
  rw [wr (show -9223372036854775808 ≤ d.ii i 1 - d.ii i 0 by omega) (by omega), wr (by omega) (by omega)]
theorem ref_run (W : Wns n d) : ∀ (k i f : Nat) (D : Dat), i + k = n → k < f → HasK d a i D → ∃ D', HasK d a n D' ∧ l64_0 n d a f (ks d a i).length (i : Int) D = some ((ks d a n).length, (ks d a n).length, D')
  | 0, i, f, D, hi, hf, h => by
    obtain ⟨f, rfl⟩ : ∃ g, f = g + 1 := ⟨f - 1, by omega⟩
    obtain rfl : i = n := by omega
    exact ⟨D, h, by simp only [l64_0, cdn, cond_false]⟩
  | k + 1, i, f, D, hi, hf, h => by
    obtain ⟨f, rfl⟩ : ∃ g, f = g + 1 := ⟨f - 1, by omega⟩
    have hlt : i < n := by omega
    have few := W.few
    have hl := ks_len (d := d) (a := a) i
    cases hk : keep d a i with
    | true =>
      have hk' : decide (a ≤ d.ii i 1 - d.ii i 0 + 1) = true := hk
      have e : l64_0 n d a (f + 1) (ks d a i).length (i : Int) D = l64_0 n d a f (ks d a (i + 1)).length ((i + 1 : Nat) : Int) (D.app (ks d a i).length (datS [SV.int IntKind.i64 (d.ii i 0), SV.int IntKind.i64 (d.ii i 1)] 2)) := by
        simp only [l64_0, cdl hlt, cdd hlt, Int.toNat_natCast, wlen W hlt, hk', wrS hlt (by omega), decide_eq_true (show (ks d a i).length + 1 ≤ 1073741824 by omega), ks_t hk, List.length_append, List.length_singleton, cond_true]
      rw [e]
      refine ref_run W k (i + 1) f _ (by omega) (by omega) fun j x hx => ?_
      rw [ks_t hk, List.getElem?_append] at hx
      by_cases hj : j < (ks d a i).length
      · rw [if_pos hj] at hx
        obtain ⟨p, q⟩ := h j x hx
        constructor
        · show cond (Nat.blt j _) _ _ = _; rw [blt_t hj]; exact p
        · show cond (Nat.blt j _) _ _ = _; rw [blt_t hj]; exact q
      · rw [if_neg hj] at hx
        have hj2 : j = (ks d a i).length := by
          have := (List.getElem?_eq_some_iff.1 hx).1
          simp at this; omega
        subst hj2
        simp at hx; subst hx
        constructor
        · show cond (Nat.blt _ _) _ _ = _; rw [blt_f (Nat.lt_irrefl _), Nat.sub_self]; rfl
        · show cond (Nat.blt _ _) _ _ = _; rw [blt_f (Nat.lt_irrefl _), Nat.sub_self]; rfl
    | false =>
      have hk' : decide (a ≤ d.ii i 1 - d.ii i 0 + 1) = false := hk
      have e : l64_0 n d a (f + 1) (ks d a i).length (i : Int) D = l64_0 n d a f (ks d a (i + 1)).length ((i + 1 : Nat) : Int) D := by
        simp only [l64_0, cdl hlt, cdd hlt, Int.toNat_natCast, wlen W hlt, hk', wrS hlt (by omega), ks_f hk, cond_true, cond_false]
      rw [e]
      exact ref_run W k (i + 1) f D (by omega) (by omega) (by unfold HasK; rw [ks_f hk]; exact h)
theorem ref_ok (W : Wns n d) (a : Int) : n64 n d a = true ∧ ∃ D, HasK d a n D ∧ m64 n d a = ((ks d a n).length, D) := by
  obtain ⟨D, h, e⟩ := ref_run (a := a) W n 0 (n + a.toNat + 0 + (0 : Int).toNat + 8) noDat (by omega) (by omega) (fun j x hx => by simp [ks] at hx)
  have o : o64_0 n d a 0 0 noDat = some ((ks d a n).length, (ks d a n).length, D) := e
  exact ⟨by simp only [n64, o, Nat.zero_add, Option.isSome_some, Option.getD_some, decide_eq_true (Nat.le_refl _)]; rfl, D, h, by simp only [m64, o, Option.getD_some]⟩
theorem m121_keep (W : Wns n d) {i : Nat} (h : i < n) {B : Dat} (h0 : B.ii i 0 = d.ii i 0) (h1 : B.ii i 1 = d.ii i 1) : m121 (B.ii i 0) (B.ii i 1) (datC [SV.int IntKind.i64 a]) = !(keep d a i) := by
  rw [h0, h1]
  show decide (IntKind.i64.wrap (IntKind.i64.wrap (d.ii i 1 - d.ii i 0) + 1) < a) = !(keep d a i)
  rw [wlen W h]
  unfold keep
  by_cases hh : a ≤ d.ii i 1 - d.ii i 0 + 1
  · rw [decide_eq_true hh, decide_eq_false (by omega)]; rfl
  · rw [decide_eq_false hh, decide_eq_true (by omega)]; rfl
theorem idx_all (W : Wns n d) (a : Int) : o140c121_0 n d (datC [SV.int IntKind.i64 a]) (n : Int) 0 = some (first (fun i => cond (keep d a i) none (some (true, (i : Int), default))) (false, default, ()) n 0) := by
  have few := W.few
  refine loop_first (n := n) (l := l140c121_0 n d (datC [SV.int IntKind.i64 a]) (n : Int)) (by omega) (fun f i hi => ?_) (fun f => by simp only [l140c121_0, cdn]; rfl) n 0 _ (by omega) (by omega)
  simp only [l140c121_0, cdl hi, cdd hi, cond_true, Int.toNat_natCast, m121_keep W hi rfl rfl]
  cases keep d a i <;> simp
theorem del_run (W : Wns n d) : ∀ (k i f : Nat) (D : Dat), i + k = n → k < f → (ks d a i).length < i → HasK d a i D → (∀ q, i ≤ q → D.ii q 0 = d.ii q 0 ∧ D.ii q 1 = d.ii q 1) →
    ∃ D', HasK d a n D' ∧ l119c121_0 n (datC [SV.int IntKind.i64 a]) n f ((ks d a i).length : Int) (i : Int) D = some (((ks d a n).length : Int), D')
  | 0, i, f, D, hi, hf, hl, h, h2 => by
    obtain ⟨f, rfl⟩ : ∃ g, f = g + 1 := ⟨f - 1, by omega⟩
    obtain rfl : i = n := by omega
    exact ⟨D, h, by simp only [l119c121_0, cdn, cond_false]⟩
  | k + 1, i, f, D, hi, hf, hl, h, h2 => by
    obtain ⟨f, rfl⟩ : ∃ g, f = g + 1 := ⟨f - 1, by omega⟩
    have hlt : i < n := by omega
    have few := W.few
    obtain ⟨p0, p1⟩ := h2 i (Nat.le_refl _)
    have em := m121_keep (a := a) W hlt p0 p1
    have zi : decide (i < n) = true := decide_eq_true hlt
    have hL : (ks d a i).length < n := by omega
    cases hk : keep d a i with
    | true =>
      rw [hk] at em
      have wl : IntKind.i64.wrap (((ks d a i).length : Int) + 1) = (((ks d a i).length + 1 : Nat) : Int) := wrS hL (by omega)
      have e : l119c121_0 n (datC [SV.int IntKind.i64 a]) n (f + 1) ((ks d a i).length : Int) (i : Int) D = l119c121_0 n (datC [SV.int IntKind.i64 a]) n f ((ks d a (i + 1)).length : Int) ((i + 1 : Nat) : Int) (D.upd (ks d a i).length 0 [SV.int IntKind.i64 (D.ii i 0), SV.int IntKind.i64 (D.ii i 1)]) := by
        simp only [l119c121_0, cdl hlt, cdd hlt, cdd hL, Int.toNat_natCast, em, zi, decide_eq_true hL, wl, wrS hlt (by omega), ks_t hk, List.length_append, List.length_singleton, Bool.not_true, cond_true, cond_false]
      rw [e]
      refine del_run W k (i + 1) f _ (by omega) (by omega) (by rw [ks_t hk]; simp; omega) (fun j x hx => ?_) (fun q hq => ?_)
      · rw [ks_t hk, List.getElem?_append] at hx
        by_cases hj : j < (ks d a i).length
        · rw [if_pos hj] at hx
          obtain ⟨p, q⟩ := h j x hx
          have hne : j ≠ (ks d a i).length := by omega
          simp [Dat.upd, hne, p, q]
        · rw [if_neg hj] at hx
          have hj2 : j = (ks d a i).length := by
            have := (List.getElem?_eq_some_iff.1 hx).1
            simp at this; omega
          subst hj2
          simp at hx; subst hx
          simp [Dat.upd, p0, p1]
      · obtain ⟨x, y⟩ := h2 q (by omega)
        have hne : q ≠ (ks d a i).length := by omega
        simp [Dat.upd, hne, x, y]
    | false =>
      rw [hk] at em
      have e : l119c121_0 n (datC [SV.int IntKind.i64 a]) n (f + 1) ((ks d a i).length : Int) (i : Int) D = l119c121_0 n (datC [SV.int IntKind.i64 a]) n f ((ks d a (i + 1)).length : Int) ((i + 1 : Nat) : Int) D := by
        simp only [l119c121_0, cdl hlt, cdd hlt, Int.toNat_natCast, em, zi, wrS hlt (by omega), ks_f hk, Bool.not_false, cond_true, cond_false]
      rw [e]
      exact del_run W k (i + 1) f D (by omega) (by omega) (by rw [ks_f hk]; omega) (by unfold HasK; rw [ks_f hk]; exact h) (fun q hq => h2 q (by omega))
theorem ks_all : ∀ i, (∀ j, j < i → keep d a j = true) → ks d a i = List.range i
  | 0, _ => rfl
  | i + 1, h => by rw [ks_t (h i (by omega)), ks_all i fun j hj => h j (by omega), List.range_succ]
theorem del_ok (W : Wns n d) (a : Int) : n119c121 n n d (datC [SV.int IntKind.i64 a]) = true ∧ ∃ D c, HasK d a n D ∧ (ks d a n).length ≤ c ∧ m119c121 n n d (datC [SV.int IntKind.i64 a]) = ((ks d a n).length, c, D) := by
  have few := W.few
  have o := idx_all W a
  have s0 : d.shift 0 = d := rfl
  rcases first_cases (g := fun i => cond (keep d a i) none (some (true, (i : Int), (default : Unit)))) (e := (false, default, ())) n 0 with ⟨j, b, _, hj, h3, h4, h5⟩ | ⟨h1, h2⟩
  · have hkj : keep d a j = false := by
      cases hk : keep d a j with
      | false => rfl
      | true => simp only [hk, cond_true] at h3; cases h3
    have hb : b = (true, (j : Int), default) := by simp only [hkj, cond_false] at h3; exact (Option.some.inj h3).symm
    subst hb
    rw [h5] at o
    have em : m140c121 n d (datC [SV.int IntKind.i64 a]) = (j : Int) := by simp only [m140c121, o, Option.getD_some, cond_true]
    have en : n140c121 n d (datC [SV.int IntKind.i64 a]) = true := by simp only [n140c121, o]; rfl
    have hjn : j < n := by omega
    have kj : ks d a j = List.range j := ks_all j fun t ht => by
      have := h4 t (Nat.zero_le _) ht
      cases hk : keep d a t with
      | true => rfl
      | false => simp only [hk, cond_false] at this; cases this
    have kj1 : ks d a (j + 1) = List.range j := by rw [ks_f hkj, kj]
    have wj : IntKind.i64.wrap ((j : Int) + 1) = ((j + 1 : Nat) : Int) := wrS hjn (by omega)
    obtain ⟨D, h, e⟩ := del_run (a := a) W (n - (j + 1)) (j + 1) (n + (j : Int).toNat + ((j + 1 : Nat) : Int).toNat + n + 8) d (by omega) (by omega) (by rw [kj1]; simp) (fun t x hx => by
      rw [kj1] at hx
      have h9 := List.getElem?_eq_some_iff.1 hx
      simp at h9
      obtain ⟨_, rfl⟩ := h9
      exact ⟨rfl, rfl⟩) (fun q _ => ⟨rfl, rfl⟩)
    rw [kj1, List.length_range] at e
    have o2 : o119c121_0 n (datC [SV.int IntKind.i64 a]) n (j : Int) ((j + 1 : Nat) : Int) d = some (((ks d a n).length : Int), D) := e
    have hl := ks_len (d := d) (a := a) n
    have zj : decide ((j : Int) = -1) = false := decide_eq_false (by omega)
    have z1 : decide (0 ≤ ((ks d a n).length : Int) ∧ ((ks d a n).length : Int) ≤ (n : Int) ∧ (n : Int) ≤ (n : Int)) = true := decide_eq_true ⟨by omega, by omega, by omega⟩
    have z2 : decide ((0 : Int) ≤ (0 : Int) ∧ (0 : Int) ≤ ((ks d a n).length : Int) ∧ ((ks d a n).length : Int) ≤ (n : Int)) = true := decide_eq_true ⟨by omega, by omega, by omega⟩
    have z3 : decide ((((ks d a n).length : Int)).toNat + ((n : Int) - ((ks d a n).length : Int)).toNat ≤ n) = true := decide_eq_true (by omega)
    refine ⟨?_, D, (ks d a n).length, h, Nat.le_refl _, ?_⟩
    · simp only [n119c121, s0, em, en, wj, o2, zj, z1, z2, z3, Nat.zero_add, decide_eq_true (Nat.le_refl n), Option.isSome_some, Option.getD_some, cond_false]; rfl
    · simp only [m119c121, em, wj, o2, zj, Option.getD_some, Int.toNat_natCast, cond_false]
  · rw [h2] at o
    have em : m140c121 n d (datC [SV.int IntKind.i64 a]) = -1 := by simp only [m140c121, o, Option.getD_some, cond_false]
    have en : n140c121 n d (datC [SV.int IntKind.i64 a]) = true := by simp only [n140c121, o]; rfl
    have kn : ks d a n = List.range n := ks_all n fun t ht => by
      have := h1 t (Nat.zero_le _) (by omega)
      cases hk : keep d a t with
      | true => rfl
      | false => simp only [hk, cond_false] at this; cases this
    refine ⟨?_, d, n, fun t x hx => ?_, by rw [kn]; simp, ?_⟩
    · simp only [n119c121, em, en, Nat.zero_add, decide_eq_true (Nat.le_refl n), decide_true, cond_true]; rfl
    · rw [kn] at hx
      have h9 := List.getElem?_eq_some_iff.1 hx
      simp at h9
      obtain ⟨_, rfl⟩ := h9
      exact ⟨rfl, rfl⟩
    · simp only [m119c121, em, decide_true, cond_true, kn, List.length_range]
theorem same_ok {m : Nat} (hm : m ≤ 1000) {D E : Dat} (h : ∀ i, i < m → D.ii i 0 = E.ii i 0 ∧ D.ii i 1 = E.ii i 1) : n46 m D m E = true ∧ m46 m D m E = true := by
  have o : o46_0 m D m E 0 = some (first (fun _ => none) (false, default, ()) m 0) := by
    refine loop_first (n := m) (l := l46_0 m D m E) (by omega) (fun f i hi => ?_) (fun f => by simp only [l46_0, cdn]; rfl) m 0 _ (by omega) (by omega)
    obtain ⟨x, y⟩ := h i hi
    simp only [l46_0, cdl hi, cdd hi, cond_true, Int.toNat_natCast, x, y, decide_true, cond_false]
    simp
  rw [first_none fun _ _ _ => rfl] at o
  exact ⟨by simp only [n46, o, decide_true, cond_true, cond_false]; rfl, by simp only [m46, o, decide_true, cond_true, cond_false, Option.getD_some]⟩
theorem imax_comm (x y : Int) : imax x y = imax y x := by unfold imax; split <;> split <;> omega
theorem fit_ok (W : Wns n d) (b a : Int) (hb : 0 ≤ b ∧ b ≤ 1000000) (ha : 1 ≤ a ∧ a ≤ 1000000) : (o63_0 b a n d (n : Int) 0).isSome = true ∧ n65 n d b a = true ∧ ((m65 n d b a = -1 ∧ ((o63_0 b a n d (n : Int) 0).getD default).1 = false) ∨ (0 ≤ m65 n d b a ∧ ((o63_0 b a n d (n : Int) 0).getD default) = (true, (m65 n d b a, 0), default))) := by
  have few := W.few
  have o1 : o63_0 b a n d (n : Int) 0 = some (first (fun i => cond (decide (imax b (d.ii i 0) + a - 1 ≤ d.ii i 1)) (some (true, (imax b (d.ii i 0), 0), default)) none) (false, default, ()) n 0) := by
    refine loop_first (n := n) (l := l63_0 b a n d (n : Int)) (by omega) (fun f i hi => ?_) (fun f => by simp only [l63_0, cdn]; rfl) n 0 _ (by omega) (by omega)
    have := W.lo i hi; have := W.le i hi; have := W.hi i hi
    have r : 0 ≤ imax b (d.ii i 0) ∧ imax b (d.ii i 0) ≤ 1000000 := by unfold imax; split <;> omega
    have w : IntKind.i64.wrap (IntKind.i64.wrap (imax b (d.ii i 0) + a) - 1) = imax b (d.ii i 0) + a - 1 := by rw [wr (show -9223372036854775808 ≤ imax b (d.ii i 0) + a by omega) (by omega), wr (by omega) (by omega)]
    simp only [l63_0, cdl hi, cdd hi, cond_true, Int.toNat_natCast, imax_comm (d.ii i 0) b, w]
    cases decide (imax b (d.ii i 0) + a - 1 ≤ d.ii i 1) <;> simp
  have o2 : o65_0 n d b a 0 = some (first (fun i => cond (decide (imax b (d.ii i 0) + a - 1 ≤ d.ii i 1)) (some (true, imax b (d.ii i 0), default)) none) (false, default, ()) n 0) := by
    refine loop_first (n := n) (l := l65_0 n d b a) (by omega) (fun f i hi => ?_) (fun f => by simp only [l65_0, cdn]; rfl) n 0 _ (by omega) (by omega)
    have := W.lo i hi; have := W.le i hi; have := W.hi i hi
    have r : 0 ≤ imax b (d.ii i 0) ∧ imax b (d.ii i 0) ≤ 1000000 := by unfold imax; split <;> omega
    have w : IntKind.i64.wrap (IntKind.i64.wrap (imax b (d.ii i 0) + a) - 1) = imax b (d.ii i 0) + a - 1 := by rw [wr (show -9223372036854775808 ≤ imax b (d.ii i 0) + a by omega) (by omega), wr (by omega) (by omega)]
    simp only [l65_0, cdl hi, cdd hi, cond_true, Int.toNat_natCast, w]
    cases decide (imax b (d.ii i 0) + a - 1 ≤ d.ii i 1) <;> simp
  refine ⟨by rw [o1]; rfl, by simp only [n65, o2]; rfl, ?_⟩
  rcases first_cases (g := fun i => cond (decide (imax b (d.ii i 0) + a - 1 ≤ d.ii i 1)) (some (true, (imax b (d.ii i 0), (0 : Int)), (default : Unit))) none) (e := (false, default, ())) n 0 with ⟨j, v, _, hj, h3, h4, h5⟩ | ⟨h1, h2⟩
  · have hjn : j < n := by omega
    have := W.lo j hjn
    have hc : decide (imax b (d.ii j 0) + a - 1 ≤ d.ii j 1) = true := by
      cases hh : decide (imax b (d.ii j 0) + a - 1 ≤ d.ii j 1) with
      | true => rfl
      | false => simp only [hh, cond_false] at h3; cases h3
    simp only [hc, cond_true] at h3
    have hv := (Option.some.inj h3).symm
    subst hv
    have e2 : first (fun i => cond (decide (imax b (d.ii i 0) + a - 1 ≤ d.ii i 1)) (some (true, imax b (d.ii i 0), (default : Unit))) none) (false, default, ()) n 0 = (true, imax b (d.ii j 0), default) := first_some (Nat.zero_le _) (by omega) (by simp only [hc, cond_true]) fun t _ ht => by
      have := h4 t (Nat.zero_le _) ht
      cases hh : decide (imax b (d.ii t 0) + a - 1 ≤ d.ii t 1) with
      | true => simp only [hh, cond_true] at this; cases this
      | false => rfl
    rw [e2] at o2
    rw [h5] at o1
    have em : m65 n d b a = imax b (d.ii j 0) := by simp only [m65, o2, Option.getD_some, cond_true]
    refine .inr ⟨?_, ?_⟩
    · rw [em]; unfold imax; split <;> omega
    · rw [o1, em]; rfl
  · have e2 : first (fun i => cond (decide (imax b (d.ii i 0) + a - 1 ≤ d.ii i 1)) (some (true, imax b (d.ii i 0), (default : Unit))) none) (false, default, ()) n 0 = (false, default, ()) := first_none fun t _ ht => by
      have := h1 t (Nat.zero_le _) ht
      cases hh : decide (imax b (d.ii t 0) + a - 1 ≤ d.ii t 1) with
      | true => simp only [hh, cond_true] at this; cases this
      | false => rfl
    rw [e2] at o2
    rw [h2] at o1
    exact .inl ⟨by simp only [m65, o2, Option.getD_some, cond_false], by rw [o1]; rfl⟩
end
theorem n42_t {n : Nat} (d : Dat) (h : n ≤ 1000) : n42 n d = true := by
  simp only [n42, Nat.zero_add, decide_eq_true (show n ≤ 1073741824 by omega), decide_eq_true (Nat.le_refl n)]; rfl
theorem lawFits (n : Nat) (d : Dat) (b a : Int) (hn : n ≤ 9223372036854775807) : n14 n d b a = true ∧ m14 n d b a = true := by
  cases hs : m40 n d with
  | false =>
    constructor
    · simp only [n14, n17_val, e17v, hs, cond_true, cond_false]; rfl
    · simp only [m14, e17v, hs, cond_true, cond_false]
  | true =>
    have hn62 : n ≤ 62 := by
      apply Decidable.byContradiction
      intro h
      simp only [m40, decide_eq_false (show ¬ (n : Int) ≤ 12 by omega), decide_eq_false (show ¬ (n : Int) ≤ 62 by omega), cond_false] at hs
      cases hh : decide ((60 : Int) < (n : Int)) <;> rw [hh] at hs <;> cases hs
    have c42 := n42_t d (show n ≤ 1000 by omega)
    have z30 : decide (n ≤ 1073741824) = true := decide_eq_true (by omega)
    have z00 : decide (((0 : Nat) : Int) = 0) = true := rfl
    obtain ⟨w1, w2, w3, w4⟩ := windows_cases (n := n) (d := d) hn
    rcases w4 with ⟨W, w4⟩ | w4
    · rw [w4] at w3
      have few := W.few
      have mm : m96 a 1 1000000 = m29 a 1 1000000 := m96_m29 a 1 1000000
      have mb : m80 b = m22 b := m80_m22 b
      by_cases ha : 1 ≤ a ∧ a ≤ 1000000
      · have za : m29 a 1 1000000 = true := m29_iff.2 ha
        obtain ⟨r1, D, r2, r3⟩ := ref_ok W a
        obtain ⟨q1, E, c, q2, q3, q4⟩ := del_ok W a
        obtain ⟨s1, s2⟩ := same_ok (m := (ks d a n).length) (by have := ks_len (d := d) (a := a) n; omega) (D := E) (E := D) (fun i hi => by
          have hx : (ks d a n)[i]? = some (ks d a n)[i] := List.getElem?_eq_getElem hi
          obtain ⟨x1, x2⟩ := q2 i _ hx
          obtain ⟨y1, y2⟩ := r2 i _ hx
          exact ⟨x1.trans y1.symm, x2.trans y2.symm⟩)
        have e62 : m62 n d a = ((ks d a n).length, E, 0) := by simp only [m62, w3, mm, za, q4, decide_true, cond_true, cond_false]
        have f62 : n62 n d a = true := by simp only [n62, w2, w3, mm, za, z30, q1, q4, Nat.zero_add, decide_eq_true q3, decide_true, cond_true, cond_false]; rfl
        by_cases hb : 0 ≤ b ∧ b ≤ 1000000
        · have zb : m22 b = true := m22_iff.2 hb
          obtain ⟨p1, p2, p3⟩ := fit_ok W b a hb ha
          have f63 : n63 n d b a = true := by simp only [n63, w2, w3, mm, mb, za, zb, p1, decide_true, cond_true, cond_false]; rfl
          constructor
          · simp only [n14, n17_val, e17v, hs, m42_eq, c42, w1, w4, za, zb, e62, f62, f63, r1, r3, s1, s2, p2, z00, decide_true, cond_true, cond_false]; rfl
          · rcases p3 with ⟨t1, t2⟩ | ⟨t1, t2⟩
            · have e63 : m63 n d b a = (0, 12) := by simp only [m63, w3, mm, mb, za, zb, t2, decide_true, cond_true, cond_false]
              simp only [m14, e17v, hs, m42_eq, w4, za, zb, e62, r3, s2, e63, t1, z00, decide_true, cond_true, cond_false]; rfl
            · have e63 : m63 n d b a = (m65 n d b a, 0) := by simp only [m63, w3, mm, mb, za, zb, t2, decide_true, cond_true, cond_false]
              simp only [m14, e17v, hs, m42_eq, w4, za, zb, e62, r3, s2, e63, decide_eq_false (show ¬ m65 n d b a < 0 by omega), z00, decide_true, cond_true, cond_false]
        · have zb : m22 b = false := by
            cases hh : m22 b with
            | false => rfl
            | true => exact absurd (m22_iff.1 hh) hb
          have f63 : n63 n d b a = true := by simp only [n63, w2, w3, mm, mb, za, zb, decide_true, cond_true, cond_false]; rfl
          have e63 : m63 n d b a = (0, 2) := by simp only [m63, w3, mm, mb, za, zb, decide_true, cond_true, cond_false]
          constructor
          · simp only [n14, n17_val, e17v, hs, m42_eq, c42, w1, w4, za, zb, e62, f62, f63, r1, r3, s1, s2, z00, decide_true, cond_true, cond_false]; rfl
          · simp only [m14, e17v, hs, m42_eq, w4, za, zb, e62, r3, s2, e63, z00, decide_true, cond_true, cond_false]
      · have za : m29 a 1 1000000 = false := m29_f ha
        have e62 : m62 n d a = (0, noDat, 2) := by simp only [m62, w3, mm, za, decide_true, cond_true, cond_false]
        have f62 : n62 n d a = true := by simp only [n62, w2, w3, mm, za, decide_true, cond_true, cond_false]; rfl
        have z2 : decide ((2 : Int) = 0) = false := rfl
        have e63 : m63 n d b a = (0, 2) := by
          simp only [m63, w3, mm, mb, za, decide_true, cond_true, cond_false]
          cases m22 b <;> rfl
        have f63 : n63 n d b a = true := by
          simp only [n63, w2, w3, mm, mb, za, decide_true, cond_true, cond_false]
          cases m22 b <;> rfl
        constructor
        · simp only [n14, n17_val, e17v, hs, m42_eq, c42, w1, w4, za, e62, f62, f63, z00, z2, decide_true, cond_true, cond_false]
          cases m22 b <;> rfl
        · simp only [m14, e17v, hs, m42_eq, w4, za, e62, e63, z00, z2, decide_true, cond_true, cond_false]
          cases m22 b <;> rfl
    · have z0 : decide (m44 n d = 0) = false := decide_eq_false w4
      have e62 : m62 n d a = (0, noDat, m44 n d) := by simp only [m62, w3, z0, cond_true, cond_false]
      have f62 : n62 n d a = true := by simp only [n62, w2, w3, z0, cond_true, cond_false]; rfl
      have e63 : m63 n d b a = (0, m44 n d) := by simp only [m63, w3, z0, cond_true, cond_false]
      have f63 : n63 n d b a = true := by simp only [n63, w2, w3, z0, cond_true, cond_false]; rfl
      constructor
      · simp only [n14, n17_val, e17v, hs, m42_eq, c42, w1, z0, e62, f62, f63, z00, decide_true, cond_true, cond_false]; rfl
      · simp only [m14, e17v, hs, m42_eq, z0, e62, e63, z00, decide_true, cond_true, cond_false]
end Go.Proofs.Ytlaogoojkfjgoaa
