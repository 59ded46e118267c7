/-
  The law of parts: a plan cut at a second, and put together again: plain law. Conditions: none.
-/
import Derived.Test.YtchhhoamnagbfaaDoorJFParts
import Derived.KernelRfl
namespace Go.Proofs.YtchhhoamnagbfaaDoor
open Go Go.Sy
set_option linter.unusedVariables false
set_option linter.unusedSimpArgs false
set_option maxRecDepth 100000
attribute [local simp] brk
theorem wr {n : Int} (h0 : -9223372036854775808 ≤ n) (h1 : n ≤ 9223372036854775807) : IntKind.i64.wrap n = n := wrp h0 h1
theorem m52_iff {x a b : Int} : m52 x a b = true ↔ a ≤ x ∧ x ≤ b := by
  simp only [m52]
  by_cases h1 : a ≤ x <;> by_cases h2 : x ≤ b <;> simp [h1, h2]
theorem m52_no {x a b : Int} (h : ¬ (a ≤ x ∧ x ≤ b)) : m52 x a b = false := by
  cases hh : m52 x a b with
  | true => exact (h (m52_iff.1 hh)).elim
  | false => rfl
theorem mulb {x y A B : Int} (hx0 : 0 ≤ x) (hx : x ≤ A) (hy0 : 0 ≤ y) (hy : y ≤ B) : 0 ≤ x * y ∧ x * y ≤ A * B :=
  ⟨Int.mul_nonneg hx0 hy0, Int.le_trans (Int.mul_le_mul_of_nonneg_right hx hy0) (Int.mul_le_mul_of_nonneg_left hy (by omega))⟩
structure Trk (n : Nat) (d : Dat) : Prop where
  two : 2 ≤ n
  few : n ≤ 200
  sec : ∀ i, i < n → 0 ≤ d.ii i 0 ∧ d.ii i 0 ≤ 1000001
  dep : ∀ i, i < n → 0 ≤ d.ii i 1 ∧ d.ii i 1 ≤ 30000
  up : ∀ i, i + 1 < n → d.ii i 0 < d.ii (i + 1) 0
theorem Trk.lt {n : Nat} {d : Dat} (T : Trk n d) : ∀ {i j : Nat}, i < j → j < n → d.ii i 0 < d.ii j 0
  | i, 0, h, _ => absurd h (Nat.not_lt_zero _)
  | i, j + 1, h, hj => by
    have a := T.up j hj
    by_cases e : i = j
    · subst e; exact a
    · have := T.lt (show i < j by omega) (by omega); omega
theorem Trk.le {n : Nat} {d : Dat} (T : Trk n d) {i j : Nat} (h : i ≤ j) (hj : j < n) : d.ii i 0 ≤ d.ii j 0 := by
  by_cases e : i = j
  · subst e; exact Int.le_refl _
  · exact Int.le_of_lt (T.lt (by omega) hj)
theorem leg_ok {n : Nat} {d : Dat} (T : Trk n d) {x : Int} (hx : x ≤ d.ii (n - 1) 0) : n79 n d x = true ∧ ∃ r : Nat, 1 ≤ r ∧ r < n ∧ x ≤ d.ii r 0 ∧ (∀ j, 1 ≤ j → j < r → d.ii j 0 < x) ∧ m79 n d x = (r : Int) := by
  have two := T.two; have few := T.few
  have o : o100c101_0 (n - 1) (d.shift 1) (datC [SV.int IntKind.i64 x]) ((n - 1 : Nat) : Int) 0 = some (first (fun i => cond (decide (x ≤ d.ii (1 + i) 0)) (some (true, (i : Int), default)) none) (false, default, ()) (n - 1) 0) := by
    refine loop_first (n := n - 1) (l := l100c101_0 (n - 1) (d.shift 1) (datC [SV.int IntKind.i64 x]) ((n - 1 : Nat) : Int)) (by omega) (fun f i hi => ?_) (fun f => by simp only [l100c101_0, cdn]; rfl) (n - 1) 0 _ (by omega) (by omega)
    have e : m101 ((d.shift 1).ii i 0) ((d.shift 1).ii i 1) (datC [SV.int IntKind.i64 x]) = decide (x ≤ d.ii (1 + i) 0) := by rw [shift_ii]; rfl
    simp only [l100c101_0, cdl hi, cdd hi, cond_true, Int.toNat_natCast, e]
    cases decide (x ≤ d.ii (1 + i) 0) <;> simp
  have e1 : (((n : Int)) - 1).toNat = n - 1 := by omega
  have z : decide ((0 : Int) ≤ (1 : Int) ∧ (1 : Int) ≤ (n : Int) ∧ (n : Int) ≤ (n : Int)) = true := decide_eq_true ⟨by omega, by omega, by omega⟩
  refine ⟨by simp only [n79, z, e1, n100c101, o]; rfl, ?_⟩
  rcases first_cases (g := fun i : Nat => cond (decide (x ≤ d.ii (1 + i) 0)) (some (true, (i : Int), (default : Unit))) none) (e := (false, default, ())) (n - 1) 0 with ⟨j, b, _, hj, h3, h4, h5⟩ | ⟨h1, _⟩
  · have hc : x ≤ d.ii (1 + j) 0 := by
      apply Decidable.byContradiction
      intro hh
      simp only [decide_eq_false hh, cond_false] at h3; cases h3
    simp only [decide_eq_true hc, cond_true] at h3
    refine ⟨1 + j, by omega, by omega, hc, fun k k1 k2 => ?_, ?_⟩
    · have := h4 (k - 1) (Nat.zero_le _) (by omega)
      rw [show 1 + (k - 1) = k by omega] at this
      apply Decidable.byContradiction
      intro hh
      simp only [decide_eq_true (show x ≤ d.ii k 0 by omega), cond_true] at this; cases this
    · simp only [m79, e1, m100c101, o, h5, ← Option.some.inj h3, Option.getD_some, cond_true]
      rw [wr (by omega) (by omega)]; omega
  · have := h1 (n - 2) (Nat.zero_le _) (by omega)
    rw [show 1 + (n - 2) = n - 1 by omega] at this
    simp only [decide_eq_true hx, cond_true] at this; cases this
def At (n : Nat) (d : Dat) (x num den : Int) : Prop :=
  (∃ k, k < n ∧ x = d.ii k 0 ∧ num = d.ii k 1 ∧ den = 1) ∨ ∃ r, r + 1 < n ∧ d.ii r 0 < x ∧ x < d.ii (r + 1) 0 ∧ num = d.ii r 1 * (d.ii (r + 1) 0 - x) + d.ii (r + 1) 1 * (x - d.ii r 0) ∧ den = d.ii (r + 1) 0 - d.ii r 0
theorem At.bnd {n : Nat} {d : Dat} (T : Trk n d) {x num den : Int} (h : At n d x num den) : (1 ≤ den ∧ den ≤ 1000001) ∧ 0 ≤ num ∧ num ≤ 30000 * den := by
  rcases h with ⟨k, hk, _, rfl, rfl⟩ | ⟨r, hr, h1, h2, rfl, rfl⟩
  · have := T.dep k hk; omega
  · have a := T.dep r (by omega); have b := T.dep (r + 1) hr
    have s1 := T.sec r (by omega); have s2 := T.sec (r + 1) hr
    have u := mulb a.1 a.2 (show 0 ≤ d.ii (r + 1) 0 - x by omega) (Int.le_refl _)
    have v := mulb b.1 b.2 (show 0 ≤ x - d.ii r 0 by omega) (Int.le_refl _)
    omega
theorem at_ok {n : Nat} {d : Dat} (T : Trk n d) {x : Int} (h0 : d.ii 0 0 ≤ x) (hx : x ≤ d.ii (n - 1) 0) : n53 n d x = true ∧ At n d x (m53 n d x).1 (m53 n d x).2 := by
  have two := T.two; have few := T.few
  obtain ⟨n36t, r, r1, rn, hr, hb, e⟩ := leg_ok T hx
  have z0 : decide ((r : Int) = 0) = false := decide_eq_false (by omega)
  have zz : decide ((0 : Int) ≤ (0 : Int) ∧ (0 : Int) < (n : Int)) = true := decide_eq_true ⟨by omega, by omega⟩
  have t1 : IntKind.i64.wrap ((r : Int) - 1) = (r : Int) - 1 := wr (by omega) (by omega)
  have t2 : ((r : Int) - 1).toNat = r - 1 := by omega
  have z1 : decide (0 ≤ (r : Int) - 1 ∧ (r : Int) - 1 < (n : Int)) = true := decide_eq_true ⟨by omega, by omega⟩
  have z2 : decide (0 ≤ (r : Int) ∧ (r : Int) < (n : Int)) = true := decide_eq_true ⟨by omega, by omega⟩
  constructor
  · simp only [n53, n36t, e, z0, zz, t1, z1, z2, cond_true, cond_false]
    cases decide (x = d.ii 0 0) <;> rfl
  · by_cases hx0 : x = d.ii 0 0
    · have : m53 n d x = (d.ii 0 1, 1) := by simp only [m53, e, z0, decide_eq_true hx0, cond_true, cond_false]
      rw [this]
      exact .inl ⟨0, by omega, hx0, rfl, rfl⟩
    · by_cases hxr : x = d.ii r 0
      · have : m53 n d x = (d.ii r 1, 1) := by simp only [m53, e, z0, decide_eq_false hx0, Int.toNat_natCast, decide_eq_true hxr, cond_true, cond_false]
        rw [this]
        exact .inl ⟨r, rn, hxr, rfl, rfl⟩
      · have s0 : d.ii (r - 1) 0 < x := by
          by_cases h : r = 1
          · subst h
            have : (1 : Nat) - 1 = 0 := rfl
            rw [this]; omega
          · exact hb (r - 1) (by omega) (by omega)
        have a := T.dep (r - 1) (by omega); have b := T.dep r rn
        have q1 := T.sec (r - 1) (by omega); have q2 := T.sec r rn
        have w1 : IntKind.i64.wrap (d.ii r 0 - x) = d.ii r 0 - x := wr (by omega) (by omega)
        have w2 : IntKind.i64.wrap (x - d.ii (r - 1) 0) = x - d.ii (r - 1) 0 := wr (by omega) (by omega)
        have w3 : IntKind.i64.wrap (d.ii r 0 - d.ii (r - 1) 0) = d.ii r 0 - d.ii (r - 1) 0 := wr (by omega) (by omega)
        have p1 := mulb a.1 a.2 (show 0 ≤ d.ii r 0 - x by omega) (show d.ii r 0 - x ≤ 1000001 by omega)
        have p2 := mulb b.1 b.2 (show 0 ≤ x - d.ii (r - 1) 0 by omega) (show x - d.ii (r - 1) 0 ≤ 1000001 by omega)
        have : m53 n d x = (d.ii (r - 1) 1 * (d.ii r 0 - x) + d.ii r 1 * (x - d.ii (r - 1) 0), d.ii r 0 - d.ii (r - 1) 0) := by
          simp only [m53, e, z0, decide_eq_false hx0, Int.toNat_natCast, decide_eq_false hxr, t1, t2, w1, w2, w3, cond_true, cond_false]
          rw [wr (n := d.ii (r - 1) 1 * (d.ii r 0 - x)) (by omega) (by omega), wr (n := d.ii r 1 * (x - d.ii (r - 1) 0)) (by omega) (by omega), wr (by omega) (by omega)]
        rw [this]
        refine .inr ⟨r - 1, by omega, s0, ?_, ?_, ?_⟩ <;> rw [show r - 1 + 1 = r by omega]
        omega
theorem At.at_point {n : Nat} {d : Dat} (T : Trk n d) {k : Nat} (hk : k < n) {num den : Int} (h : At n d (d.ii k 0) num den) : num = d.ii k 1 ∧ den = 1 := by
  rcases h with ⟨j, hj, e, h1, h2⟩ | ⟨r, hr, h1, h2, _⟩
  · have : j = k := by
      rcases Nat.lt_trichotomy j k with h | h | h
      · have := T.lt h hk; omega
      · exact h
      · have := T.lt h hj; omega
    subst this; exact ⟨h1, h2⟩
  · exfalso
    by_cases h : k ≤ r
    · have := T.le h (by omega); omega
    · have := T.le (show r + 1 ≤ k by omega) hk; omega
end Go.Proofs.YtchhhoamnagbfaaDoor
namespace Go.Proofs.YtchhhoamnagbfaaDoor
open Go Go.Sy
set_option linter.unusedVariables false
set_option linter.unusedSimpArgs false
set_option maxRecDepth 100000
attribute [local simp] brk
section
variable {n m : Nat} {d e : Dat}
end
structure Idx (n c : Nat) (D : Dat) : Prop where
  pos : 0 < c
  at_ : ∀ q, q < c → 0 ≤ D.ii q 0 ∧ D.ii q 0 < (n : Int)
  up : ∀ q, q + 1 < c → D.ii q 0 < D.ii (q + 1) 0
  first : D.ii 0 0 = 0
  last : D.ii (c - 1) 0 = (n : Int) - 1
def K (D : Dat) (q : Nat) : Nat := (D.ii q 0).toNat
section
variable {n c : Nat} {D : Dat} (I : Idx n c D)
include I
theorem Idx.k {q : Nat} (hq : q < c) : K D q < n ∧ ((K D q : Nat) : Int) = D.ii q 0 := by
  have := I.at_ q hq
  unfold K; omega
theorem Idx.ge : ∀ q, q < c → (q : Int) ≤ D.ii q 0
  | 0, _ => by rw [I.first]; exact Int.le_refl _
  | q + 1, h => by have := I.up q h; have := Idx.ge q (by omega); omega
theorem Idx.le : c ≤ n := by
  have h1 := I.ge (c - 1) (by have := I.pos; omega)
  rw [I.last] at h1
  have := I.pos
  omega
end
end Go.Proofs.YtchhhoamnagbfaaDoor
namespace Go.Proofs.YtchhhoamnagbfaaDoor
open Go Go.Sy
theorem n10_t : n10 = true := by kernel_rfl
theorem m10_t : m10 = true := by kernel_rfl
end Go.Proofs.YtchhhoamnagbfaaDoor
namespace Go.Proofs.YtchhhoamnagbfaaDoor
open Go Go.Sy
set_option linter.unusedVariables false
set_option linter.unusedSimpArgs false
set_option maxRecDepth 100000
theorem app_nil0 (e d : Dat) : e.app 0 d = d := by
  have h : ∀ q : Nat, Nat.blt q 0 = false := fun q => rfl
  cases d
  simp only [Dat.app, h, cond_false, Nat.sub_zero]
def RAt (n : Nat) (d : Dat) (x num den : Int) : Prop := ∃ r, 1 ≤ r ∧ r < n ∧ d.ii (r - 1) 0 ≤ x ∧ x ≤ d.ii r 0 ∧ num = d.ii (r - 1) 1 * (d.ii r 0 - d.ii (r - 1) 0) + (d.ii r 1 - d.ii (r - 1) 1) * (x - d.ii (r - 1) 0) ∧ den = d.ii r 0 - d.ii (r - 1) 0
theorem RAt.bnd {n : Nat} {d : Dat} (T : Trk n d) {x num den : Int} (h : RAt n d x num den) : (1 ≤ den ∧ den ≤ 1000001) ∧ 0 ≤ num ∧ num ≤ 30000030000 := by
  obtain ⟨r, r1, rn, s1, s2, rfl, rfl⟩ := h
  have up := T.lt (show r - 1 < r by omega) rn
  have q1 := T.sec (r - 1) (by omega); have q2 := T.sec r rn
  have a := T.dep (r - 1) (by omega); have b := T.dep r rn
  have p1 := mulb a.1 a.2 (show 0 ≤ d.ii r 0 - x by omega) (Int.le_refl _)
  have p2 := mulb b.1 b.2 (show 0 ≤ x - d.ii (r - 1) 0 by omega) (Int.le_refl _)
  have e : d.ii (r - 1) 1 * (d.ii r 0 - d.ii (r - 1) 0) + (d.ii r 1 - d.ii (r - 1) 1) * (x - d.ii (r - 1) 0) = d.ii (r - 1) 1 * (d.ii r 0 - x) + d.ii r 1 * (x - d.ii (r - 1) 0) := by
    rw [Int.sub_mul, Int.mul_sub, Int.mul_sub, Int.mul_sub, Int.mul_sub]; omega
  rw [e]
  omega
end Go.Proofs.YtchhhoamnagbfaaDoor
namespace Go.Proofs.YtchhhoamnagbfaaDoor
open Go Go.Sy
set_option linter.unusedVariables false
set_option linter.unusedSimpArgs false
set_option maxRecDepth 100000
attribute [local simp] brk
noncomputable def badC (s : ByteArray) (i : Nat) : Option (Bool × Bool × Unit) :=
  cond (bif (bif (bif (bif decide (97 ≤ byteAt s i) then decide (byteAt s i ≤ 122) else false) then true else (bif decide (65 ≤ byteAt s i) then decide (byteAt s i ≤ 90) else false)) then false else true) then (bif decide (i = 0) then true else (bif (bif decide (byteAt s i = 45) then false else true) then (bif decide (byteAt s i < 48) then true else decide (57 < byteAt s i)) else false)) else false) (some (true, false, default)) none
theorem l64_all (s : ByteArray) (hs : s.size ≤ 9223372036854775807) : o64_0 s 0 = some (first (badC s) (false, default, ()) s.size 0) :=
  loop_first (l := l64_0 s) hs (fun f i hi => by
    have e : decide ((i : Int) = 0) = decide (i = 0) := by by_cases h : i = 0 <;> simp [h]
    simp only [l64_0, cdl hi, cdd hi, cond_true, Int.toNat_natCast, e, badC]
    generalize (bif bif bif bif decide (97 ≤ byteAt s i) then decide (byteAt s i ≤ 122) else false then true else bif decide (65 ≤ byteAt s i) then decide (byteAt s i ≤ 90) else false then false else true then bif decide (i = 0) then true else bif bif decide (byteAt s i = 45) then false else true then bif decide (byteAt s i < 48) then true else decide (57 < byteAt s i) else false else false) = c
    cases c <;> rfl) (fun f => by simp only [l64_0, cdn]; rfl) s.size 0 _ (by omega) (by omega)
theorem l57_all (s : ByteArray) (hs : s.size ≤ 9223372036854775807) : o57_0 s (s.size : Int) 0 = some (first (badC s) (false, default, ()) s.size 0) :=
  loop_first (l := l57_0 s (s.size : Int)) hs (fun f i hi => by
    have e : decide ((i : Int) = 0) = decide (i = 0) := by by_cases h : i = 0 <;> simp [h]
    simp only [l57_0, cdl hi, cdd hi, cond_true, Int.toNat_natCast, e, badC, Bool.cond_self]
    generalize decide (97 ≤ byteAt s i) = c1
    generalize decide (byteAt s i ≤ 122) = c2
    generalize decide (65 ≤ byteAt s i) = c3
    generalize decide (byteAt s i ≤ 90) = c4
    generalize decide (i = 0) = c5
    generalize decide (byteAt s i = 45) = c6
    generalize decide (byteAt s i < 48) = c7
    generalize decide (57 < byteAt s i) = c8
    cases c1 <;> cases c2 <;> cases c3 <;> cases c4 <;> cases c5 <;> cases c6 <;> cases c7 <;> cases c8 <;> rfl) (fun f => by simp only [l57_0, cdn]; rfl) s.size 0 _ (by omega) (by omega)
theorem names (s : ByteArray) (hs : s.size ≤ 9223372036854775807) : n57 s = true ∧ n64 s = true ∧ m57 s = m64 s := by
  simp only [n57, n64, m57, m64, l57_all s hs, l64_all s hs, Option.getD_some]
  have hb : (first (badC s) (false, default, ()) s.size 0).1 = true → (first (badC s) (false, default, ()) s.size 0).2.1 = false := by
    rcases first_cases (g := badC s) (e := (false, (default : Bool), ())) s.size 0 with ⟨j, b, _, _, hg, _, hb⟩ | ⟨_, hb⟩
    · intro _
      have : first (badC s) (false, default, ()) s.size 0 = b := hb
      rw [this]
      unfold badC at hg
      generalize (bif bif bif bif decide (97 ≤ byteAt s j) then decide (byteAt s j ≤ 122) else false then true else bif decide (65 ≤ byteAt s j) then decide (byteAt s j ≤ 90) else false then false else true then bif decide (j = 0) then true else bif bif decide (byteAt s j = 45) then false else true then bif decide (byteAt s j < 48) then true else decide (57 < byteAt s j) else false else false) = c at hg
      cases c <;> simp at hg
      rw [← hg]
    · intro h
      have : first (badC s) (false, default, ()) s.size 0 = (false, default, ()) := hb
      rw [this] at h
      cases h
  have e0 : decide (s = { data := #[] }) = decide ((s.size : Int) < 1) := by
    apply decide_eq_decide.2
    constructor
    · intro h; subst h; decide
    · intro h
      have : s.size = 0 := by omega
      obtain ⟨d⟩ := s
      have : d.size = 0 := this
      rw [Array.size_eq_zero_iff] at this
      rw [this]
  rw [e0]
  generalize first (badC s) (false, default, ()) s.size 0 = r at *
  obtain ⟨r1, r2, r3⟩ := r
  simp only at hb ⊢
  refine ⟨rfl, ?_, ?_⟩
  · cases decide ((s.size : Int) < 1) <;> cases decide (12 < (s.size : Int)) <;> rfl
  · have e1 : decide ((s.size : Int) ≤ 12) = !decide (12 < (s.size : Int)) := by
      by_cases h : 12 < (s.size : Int)
      · have : ¬ (s.size : Int) ≤ 12 := by omega
        simp [h, this]
      · have : (s.size : Int) ≤ 12 := by omega
        simp [h, this]
    rw [e1]
    cases r1
    · cases decide ((s.size : Int) < 1) <;> cases decide (12 < (s.size : Int)) <;> rfl
    · have := hb rfl
      subst this
      cases decide ((s.size : Int) < 1) <;> cases decide (12 < (s.size : Int)) <;> rfl
theorem gas_ok (a b : Int) : m58 a b = m65 a b ∧ n58 a b = true := by
  have h : ∀ x y : Int, o93_0 2 (datS [SV.int IntKind.i64 x, SV.int IntKind.i64 y] 1) (↑(2 : Nat) : Int) 0 = cond (bif decide (x = 0) then false else true) (some (true, x, default)) (cond (bif decide (y = 0) then false else true) (some (true, y, default)) (some (false, default, ()))) := fun x y => by kernel_rfl
  have e : ∀ x, m94 x 0 1000 = cond (m16 x 0 1000) 0 2 := fun x => by
    have : m111 x 0 1000 = m16 x 0 1000 := rfl
    simp only [m94, this]; cases m16 x 0 1000 <;> rfl
  constructor
  · simp only [m58, m93, h, m65, e]
    cases m16 a 0 1000 <;> cases m16 b 0 1000 <;> simp
  · simp only [n58, n93, h, e]
    cases m16 a 0 1000 <;> cases m16 b 0 1000 <;> simp
noncomputable def badGas (g : Dat) (i : Nat) : Option (Bool × (Int × Int) × Unit) := cond (bif decide (m65 (g.ii i 0) (g.ii i 1) = 0) then false else true) (some (true, (0, m65 (g.ii i 0) (g.ii i 1)), default)) none
theorem l19g_all {ng : Nat} (h : ng ≤ 9223372036854775807) (a : ByteArray) (b : Int) (g : Dat) (L : Nat) (e : Dat) : o19_1 ng g (ng : Int) a b g L e 0 = some (first (badGas g) (false, default, ()) ng 0) :=
  loop_first (l := l19_1 ng g (ng : Int) a b g L e) h (fun f i hi => by
    simp only [l19_1, cdl hi, cdd hi, cond_true, Int.toNat_natCast, badGas, (gas_ok _ _).1, (gas_ok _ _).2]
    cases decide (m65 (g.ii i 0) (g.ii i 1) = 0) <;> rfl) (fun f => by simp only [l19_1, cdn]; rfl) ng 0 _ (by omega) (by omega)
theorem l25g_all {ng : Nat} (h : ng ≤ 9223372036854775807) (a : ByteArray) (b : Int) (g : Dat) (L : Nat) (e : Dat) : o25_0 a b ng g L e 0 = some (first (badGas g) (false, default, ()) ng 0) :=
  loop_first (l := l25_0 a b ng g L e) h (fun f i hi => by
    simp only [l25_0, cdl hi, cdd hi, cond_true, Int.toNat_natCast, badGas]
    cases decide (m65 (g.ii i 0) (g.ii i 1) = 0) <;> rfl) (fun f => by simp only [l25_0, cdn]; rfl) ng 0 _ (by omega) (by omega)
theorem badGas_none {g : Dat} {i : Nat} : badGas g i = none ↔ m65 (g.ii i 0) (g.ii i 1) = 0 := by
  simp only [badGas]
  by_cases h : m65 (g.ii i 0) (g.ii i 1) = 0 <;> simp [h]
def sm (e : Dat) : Nat → Int
  | 0 => 0
  | i + 1 => sm e i + e.ii i 0
def dp (e : Dat) : Nat → Int
  | 0 => 0
  | i + 1 => e.ii i 1
def LegOk (ng : Nat) (e : Dat) (j : Nat) : Prop := (1 ≤ e.ii j 0 ∧ e.ii j 0 ≤ 1000000) ∧ (0 ≤ e.ii j 1 ∧ e.ii j 1 ≤ 30000) ∧ (0 ≤ e.ii j 2 ∧ e.ii j 2 < (ng : Int))
theorem no_or {x y : Bool} : (bif (bif x then false else true) then true else (bif y then false else true)) = false ↔ x = true ∧ y = true := by cases x <;> cases y <;> simp
theorem no_not {x : Bool} : (bif x then false else true) = false ↔ x = true := by cases x <;> simp
theorem leg_run {ng : Nat} (hng : ng ≤ 9223372036854775807) {L : Nat} (hL : L ≤ 9223372036854775807) (a : ByteArray) (b : Int) (g e : Dat) : ∀ (k i f f' : Nat) (s : Int), i + k = L → k < f → k < f' →
    ∃ r : Bool × (Int × Int) × Unit, l19_3 L e (L : Int) a b ng g e f s (i : Int) = some r ∧ l25_2 a b ng g L e f' s (i : Int) = some r ∧ (r.1 = true → r.2.1.2 ≠ 0) ∧
      (s = sm e i → 0 ≤ s ∧ s ≤ 1000000 → (r.1 = false ↔ ∀ j, i ≤ j → j < L → LegOk ng e j ∧ sm e (j + 1) ≤ 1000000))
  | 0, i, f, f', s, hi, hf, hf' => by
    obtain ⟨f, rfl⟩ : ∃ f0, f = f0 + 1 := ⟨f - 1, by omega⟩
    obtain ⟨f', rfl⟩ : ∃ f0, f' = f0 + 1 := ⟨f' - 1, by omega⟩
    obtain rfl : i = L := by omega
    refine ⟨(false, default, ()), by simp only [l19_3, cdn]; rfl, by simp only [l25_2, cdn]; rfl, fun h => (by cases h), fun _ _ => ⟨fun _ j h1 h2 => by omega, fun _ => rfl⟩⟩
  | k + 1, i, f, f', s, hi, hf, hf' => by
    obtain ⟨f, rfl⟩ : ∃ f0, f = f0 + 1 := ⟨f - 1, by omega⟩
    obtain ⟨f', rfl⟩ : ∃ f0, f' = f0 + 1 := ⟨f' - 1, by omega⟩
    have hlt : i < L := by omega
    have w : IntKind.i64.wrap ((ng : Int) - 1) = (ng : Int) - 1 := wr (by omega) (by omega)
    have h16 : ∀ x y z, m16 x y z = m52 x y z := fun _ _ _ => rfl
    cases h1 : (bif (bif m52 (e.ii i 0) 1 1000000 then false else true) then true else (bif m52 (e.ii i 1) 0 30000 then false else true)) with
    | true =>
      refine ⟨(true, ((i : Int), 2), default), by simp only [l19_3, cdl hlt, cdd hlt, Int.toNat_natCast, h1, cond_true], by simp only [l25_2, cdl hlt, cdd hlt, Int.toNat_natCast, h16, h1, cond_true], fun _ => (by simp), fun _ _ => ⟨fun h => (by cases h), fun h => ?_⟩⟩
      obtain ⟨⟨A, B, _⟩, _⟩ := h i (Nat.le_refl _) hlt
      rw [no_or.2 ⟨m52_iff.2 A, m52_iff.2 B⟩] at h1; cases h1
    | false =>
      obtain ⟨p1, p2⟩ := no_or.1 h1
      have p1 := m52_iff.1 p1; have p2 := m52_iff.1 p2
      cases h2 : (bif m52 (e.ii i 2) 0 ((ng : Int) - 1) then false else true) with
      | true =>
        refine ⟨(true, ((i : Int), 6), default), by simp only [l19_3, cdl hlt, cdd hlt, Int.toNat_natCast, h1, w, h2, cond_true, cond_false], by simp only [l25_2, cdl hlt, cdd hlt, Int.toNat_natCast, h16, h1, w, h2, cond_true, cond_false], fun _ => (by simp), fun _ _ => ⟨fun h => (by cases h), fun h => ?_⟩⟩
        obtain ⟨⟨_, _, A⟩, _⟩ := h i (Nat.le_refl _) hlt
        rw [no_not.2 (m52_iff.2 ⟨A.1, by omega⟩)] at h2; cases h2
      | false =>
        have p3 := m52_iff.1 (no_not.1 h2)
        by_cases h3 : 1000000 < IntKind.i64.wrap (s + e.ii i 0)
        · refine ⟨(true, ((i : Int), 8), default), by simp only [l19_3, cdl hlt, cdd hlt, Int.toNat_natCast, h1, w, h2, decide_eq_true h3, cond_true, cond_false], by simp only [l25_2, cdl hlt, cdd hlt, Int.toNat_natCast, h16, h1, w, h2, decide_eq_true h3, cond_true, cond_false], fun _ => (by simp), fun hs hb => ⟨fun h => (by cases h), fun h => ?_⟩⟩
          have := (h i (Nat.le_refl _) hlt).2
          rw [wr (by omega) (by omega), hs] at h3
          simp only [sm] at this; omega
        · obtain ⟨r, g1, g2, g3, g4⟩ := leg_run hng hL a b g e k (i + 1) f f' (IntKind.i64.wrap (s + e.ii i 0)) (by omega) (by omega) (by omega)
          refine ⟨r, by simp only [l19_3, cdl hlt, cdd hlt, Int.toNat_natCast, h1, w, h2, decide_eq_false h3, cond_true, cond_false, wrS hlt hL]; exact g1, by simp only [l25_2, cdl hlt, cdd hlt, Int.toNat_natCast, h16, h1, w, h2, decide_eq_false h3, cond_true, cond_false, wrS hlt hL]; exact g2, g3, fun hs hb => ?_⟩
          have ws : IntKind.i64.wrap (s + e.ii i 0) = s + e.ii i 0 := wr (by omega) (by omega)
          rw [ws] at h3 g4
          refine (g4 (by rw [hs]; rfl) ⟨by omega, by omega⟩).trans ⟨fun h j a c => ?_, fun h j a c => h j (by omega) c⟩
          by_cases hj : j = i
          · subst hj
            exact ⟨⟨p1, p2, p3.1, by omega⟩, by simp only [sm]; omega⟩
          · exact h j (by omega) c
structure Pln (a : ByteArray) (b : Int) (ng : Nat) (g : Dat) (L : Nat) (e : Dat) : Prop where
  name : m64 a = true
  air : 400 ≤ b ∧ b ≤ 1100
  some : 1 ≤ ng
  few : ng ≤ 8
  gas : ∀ i, i < ng → m65 (g.ii i 0) (g.ii i 1) = 0
  legs : L ≤ 60
  leg : ∀ j, j < L → LegOk ng e j
  sum : ∀ j, j ≤ L → sm e j ≤ 1000000
theorem plan_ok (a : ByteArray) (b : Int) (ng : Nat) (g : Dat) (L : Nat) (e : Dat) (ha : a.size ≤ 9223372036854775807) (hg : ng ≤ 9223372036854775807) (hL : L ≤ 9223372036854775807) :
    n19 a b ng g L e = true ∧ n25 a b ng g L e = true ∧ m19 a b ng g L e = m25 a b ng g L e ∧ ((m25 a b ng g L e).2 = 0 → Pln a b ng g L e) ∧ (Pln a b ng g L e → m25 a b ng g L e = (0, 0)) := by
  obtain ⟨a1, a2, a3⟩ := names a ha
  have h16 : ∀ x y z, m16 x y z = m52 x y z := fun _ _ _ => rfl
  obtain ⟨r, r1, r2, r3, r4⟩ : ∃ r : Bool × (Int × Int) × Unit, o19_3 L e (L : Int) a b ng g e 0 0 = some r ∧ o25_2 a b ng g L e 0 0 = some r ∧ (r.1 = true → r.2.1.2 ≠ 0) ∧ (r.1 = false ↔ ∀ j, j < L → LegOk ng e j ∧ sm e (j + 1) ≤ 1000000) := by
    obtain ⟨r, g1, g2, g3, g4⟩ := leg_run hg hL a b g e L 0 (Int.toNat 0 + L + (L : Int).toNat + Int.toNat 0 + a.size + b.toNat + ng + 8) (Int.toNat 0 + Int.toNat 0 + a.size + b.toNat + ng + L + 8) 0 (by omega) (by omega) (by omega)
    exact ⟨r, g1, g2, g3, (g4 rfl ⟨by decide, by decide⟩).trans ⟨fun h j c => h j (Nat.zero_le _) c, fun h j _ c => h j c⟩⟩
  simp only [n19, n25, m19, m25, a1, a2, a3, h16, l19g_all hg, l25g_all hg, r1, r2, Option.getD_some, Option.isSome_some, Bool.true_and, Bool.and_true]
  cases h1 : m64 a with
  | false => exact ⟨by simp only [cond_true, cond_false], by simp only [cond_true, cond_false], by trivial, fun h => absurd h (by simp only [cond_true, cond_false]; decide), fun P => by rw [P.name] at h1; cases h1⟩
  | true =>
  simp only [cond_true, cond_false]
  cases h2 : m52 b 400 1100 with
  | false => exact ⟨by simp only [cond_true, cond_false], by simp only [cond_true, cond_false], by trivial, fun h => absurd h (by simp only [cond_true, cond_false]; decide), fun P => by rw [m52_iff.2 P.air] at h2; cases h2⟩
  | true =>
  simp only [cond_true, cond_false]
  by_cases h3 : (ng : Int) = 0
  · simp only [decide_eq_true h3, cond_true]
    exact ⟨trivial, trivial, by trivial, fun h => absurd h (by decide), fun P => absurd P.some (by omega)⟩
  simp only [decide_eq_false h3, cond_false]
  by_cases h4 : 8 < (ng : Int)
  · simp only [decide_eq_true h4, cond_true]
    exact ⟨trivial, trivial, by trivial, fun h => absurd h (by decide), fun P => absurd P.few (by omega)⟩
  simp only [decide_eq_false h4, cond_false]
  have hc := first_cases (g := badGas g) (e := (false, default, ())) ng 0
  cases h5 : (first (badGas g) (false, default, ()) ng 0).1 with
  | true =>
    rcases hc with ⟨j, c, _, hj, hg', _, hc⟩ | ⟨_, hc⟩
    · simp only [cond_true]
      refine ⟨trivial, trivial, by trivial, fun h => ?_, fun P => ?_⟩
      · exfalso
        rw [hc] at h
        simp only [badGas] at hg'
        by_cases hz : m65 (g.ii j 0) (g.ii j 1) = 0
        · rw [decide_eq_true hz] at hg'; cases hg'
        · rw [decide_eq_false hz] at hg'; simp only [cond_true, cond_false, Option.some.injEq] at hg'
          rw [← hg'] at h; exact hz h
      · rw [badGas_none.2 (P.gas j (by omega))] at hg'; cases hg'
    · rw [hc] at h5; cases h5
  | false =>
  have hgas : ∀ i, i < ng → m65 (g.ii i 0) (g.ii i 1) = 0 := by
    rcases hc with ⟨j, c, _, hj, hg', _, hc⟩ | ⟨hn, _⟩
    · exfalso
      simp only [badGas] at hg'
      by_cases hz : m65 (g.ii j 0) (g.ii j 1) = 0
      · rw [decide_eq_true hz] at hg'; cases hg'
      · rw [decide_eq_false hz] at hg'; simp only [cond_true, cond_false, Option.some.injEq] at hg'
        rw [hc, ← hg'] at h5; cases h5
    · exact fun i hi => badGas_none.1 (hn i (Nat.zero_le _) (by omega))
  simp only [cond_false]
  by_cases h6 : (60 : Int) < (L : Int)
  · simp only [decide_eq_true h6, cond_true]
    exact ⟨trivial, trivial, by trivial, fun h => absurd h (by decide), fun P => absurd P.legs (by omega)⟩
  simp only [decide_eq_false h6, cond_false]
  refine ⟨trivial, trivial, by trivial, fun h => ?_, fun P => ?_⟩
  · cases h7 : r.1 with
    | true => rw [h7] at h; exact absurd h (r3 h7)
    | false =>
      have := r4.1 h7
      refine ⟨rfl.trans h1, m52_iff.1 h2, by omega, by omega, hgas, by omega, fun j hj => (this j hj).1, fun j hj => ?_⟩
      cases j with
      | zero => simp only [sm]; decide
      | succ j => exact (this j (by omega)).2
  · have h7 : r.1 = false := r4.2 fun j hj => ⟨P.leg j hj, P.sum (j + 1) (by omega)⟩
    rw [h7]; rfl
theorem one_plan (a : ByteArray) (b : Int) (ng : Nat) (g : Dat) (L : Nat) (e : Dat) (ha : a.size ≤ 9223372036854775807) (hg : ng ≤ 9223372036854775807) (hL : L ≤ 9223372036854775807) :
    n60 1 (datS [SV.str a, SV.int IntKind.i64 b, SV.ro [Kd.int IntKind.i64, Kd.int IntKind.i64] ng g, SV.ro [Kd.int IntKind.i64, Kd.int IntKind.i64, Kd.int IntKind.i64] L e] 4) = true ∧
    m60 1 (datS [SV.str a, SV.int IntKind.i64 b, SV.ro [Kd.int IntKind.i64, Kd.int IntKind.i64] ng g, SV.ro [Kd.int IntKind.i64, Kd.int IntKind.i64, Kd.int IntKind.i64] L e] 4) = (m25 a b ng g L e).2 := by
  have h : o60_0 1 (datS [SV.str a, SV.int IntKind.i64 b, SV.ro [Kd.int IntKind.i64, Kd.int IntKind.i64] ng g, SV.ro [Kd.int IntKind.i64, Kd.int IntKind.i64, Kd.int IntKind.i64] L e] 4) (↑(1 : Nat) : Int) 0 = cond (n19 a b ng g L e) (cond (bif decide ((m19 a b ng g L e).snd = 0) then false else true) (some (true, (m19 a b ng g L e).snd, default)) (some (false, default, ()))) none := by kernel_rfl
  obtain ⟨h1, h2, h3, _⟩ := plan_ok a b ng g L e ha hg hL
  rw [h1, h3] at h
  simp only [n60, m60, h, cond_true]
  by_cases hz : (m25 a b ng g L e).2 = 0
  · rw [decide_eq_true hz, hz]; exact ⟨rfl, rfl⟩
  · rw [decide_eq_false hz]; exact ⟨rfl, rfl⟩
theorem app_lt {d e : Dat} {n q c : Nat} (h : q < n) : (d.app n e).ii q c = d.ii q c := by
  simp only [Dat.app, blt_t h, cond_true]
theorem app_eq {d e : Dat} {n c : Nat} : (d.app n e).ii n c = e.ii 0 c := by
  have : Nat.blt n n = false := Bool.eq_false_iff.2 fun h => Nat.lt_irrefl _ (Nat.le_of_ble_eq_true h)
  simp only [Dat.app, this, cond_false, Nat.sub_self]
section
variable {a : ByteArray} {b : Int} {ng : Nat} {g : Dat} {L : Nat} {e : Dat}
theorem Pln.leg0 (P : Pln a b ng g L e) {j : Nat} (h : j < L) : 1 ≤ e.ii j 0 ∧ e.ii j 0 ≤ 1000000 := (P.leg j h).1
theorem Pln.nonneg (P : Pln a b ng g L e) : ∀ {j : Nat}, j ≤ L → 0 ≤ sm e j
  | 0, _ => Int.le_refl _
  | j + 1, h => by
    have := P.nonneg (j := j) (by omega); have := P.leg0 (show j < L by omega)
    simp only [sm]; omega
theorem Pln.dep (P : Pln a b ng g L e) {j : Nat} (h : j ≤ L) : 0 ≤ dp e j ∧ dp e j ≤ 30000 := by
  cases j with
  | zero => simp only [dp]; decide
  | succ j => exact (P.leg j (by omega)).2.1
def PtsOf (e : Dat) (n : Nat) (D : Dat) : Prop := ∀ q, q < n → D.ii q 0 = sm e q ∧ D.ii q 1 = dp e q
theorem ptsOf_one (e : Dat) : PtsOf e 1 (datS [SV.int IntKind.i64 0, SV.int IntKind.i64 0] 2) := fun q hq => by
  obtain rfl : q = 0 := by omega
  exact ⟨rfl, rfl⟩
theorem ptsOf_app {D : Dat} {i : Nat} (h : PtsOf e (i + 1) D) (x : Int) (hx : x = sm e (i + 1)) : PtsOf e (i + 1 + 1) (D.app (i + 1) (datS [SV.int IntKind.i64 x, SV.int IntKind.i64 (e.ii i 1)] 2)) := fun q hq => by
  by_cases hh : q < i + 1
  · rw [app_lt hh, app_lt hh]; exact h q hh
  · obtain rfl : q = i + 1 := by omega
    rw [app_eq, app_eq]
    exact ⟨hx, rfl⟩
theorem pts_run (P : Pln a b ng g L e) : ∀ (k i f : Nat) (D : Dat), i + k = L → k < f → PtsOf e (i + 1) D → ∃ D', l61_0 L e (L : Int) a b ng g e f (i + 1) (i : Int) D = some (L + 1, L + 1, D') ∧ PtsOf e (L + 1) D'
  | 0, i, f, D, hi, hf, hD => by
    obtain ⟨f, rfl⟩ : ∃ f0, f = f0 + 1 := ⟨f - 1, by omega⟩
    obtain rfl : i = L := by omega
    exact ⟨D, by simp only [l61_0, cdn]; rfl, hD⟩
  | k + 1, i, f, D, hi, hf, hD => by
    obtain ⟨f, rfl⟩ : ∃ f0, f = f0 + 1 := ⟨f - 1, by omega⟩
    have hlt : i < L := by omega
    have hL := P.legs
    have w : IntKind.i64.wrap (((i + 1 : Nat) : Int) - 1) = (i : Int) := by rw [wr (by omega) (by omega)]; omega
    have c1 : decide (0 ≤ (i : Int) ∧ (i : Int) < ((i + 1 : Nat) : Int)) = true := decide_eq_true ⟨by omega, by omega⟩
    have c2 : decide (i < i + 1) = true := decide_eq_true (by omega)
    have c3 : decide (i + 1 + 1 ≤ 1073741824) = true := decide_eq_true (by omega)
    have s0 := P.nonneg (show i ≤ L by omega); have s1 := P.sum (i + 1) (by omega); have l0 := P.leg0 hlt
    have h0 := (hD i (by omega)).1
    have ws : IntKind.i64.wrap (D.ii i 0 + e.ii i 0) = sm e (i + 1) := by
      rw [h0]; simp only [sm] at s1 ⊢; exact wr (by omega) (by omega)
    obtain ⟨D', g1, g2⟩ := pts_run P k (i + 1) f _ (by omega) (by omega) (ptsOf_app hD _ rfl)
    refine ⟨D', ?_, g2⟩
    simp only [l61_0, cdl hlt, cdd hlt, w, c1, c2, c3, Int.toNat_natCast, ws, cond_true, wrS hlt (by omega)]
    exact g1
theorem track_ok (P : Pln a b ng g L e) : n61 a b ng g L e = true ∧ ∃ D, m61 a b ng g L e = (L + 1, D) ∧ PtsOf e (L + 1) D := by
  have hL := P.legs
  obtain ⟨D, g1, g2⟩ := pts_run P L 0 (1 + L + (L : Int).toNat + Int.toNat 0 + a.size + b.toNat + ng + 8) _ (by omega) (by omega) (ptsOf_one e)
  have h : o61_0 L e (L : Int) a b ng g e 1 0 (datS [SV.int IntKind.i64 0, SV.int IntKind.i64 0] 2) = some (L + 1, L + 1, D) := g1
  refine ⟨by simp only [n61, h, Option.getD_some, Option.isSome_some, Nat.zero_add, Nat.le_refl, decide_true]; rfl, D, by simp only [m61, h, Option.getD_some], g2⟩
theorem end_ok (P : Pln a b ng g L e) {D : Dat} (hD : PtsOf e (L + 1) D) : n62 (L + 1) D = true ∧ m62 (L + 1) D = sm e L := by
  have hL := P.legs
  have w : IntKind.i64.wrap (((L + 1 : Nat) : Int) - 1) = (L : Int) := by rw [wr (by omega) (by omega)]; omega
  refine ⟨by simp only [n62, w, decide_eq_true (show 0 ≤ (L : Int) ∧ (L : Int) < ((L + 1 : Nat) : Int) by omega)]; rfl, ?_⟩
  simp only [m62, w, Int.toNat_natCast]
  exact (hD L (by omega)).1
end
end Go.Proofs.YtchhhoamnagbfaaDoor
namespace Go.Proofs.YtchhhoamnagbfaaDoor
open Go Go.Sy
set_option linter.unusedVariables false
set_option linter.unusedSimpArgs false
set_option maxRecDepth 100000
theorem round_ne {X W : Int} (hW : W ≠ 0) : n54 X W = true ∧ n56 X W = true := by
  simp only [n54, n56, n91, n92, decide_eq_false hW]; exact ⟨rfl, rfl⟩
section
variable {a : ByteArray} {b : Int} {ng : Nat} {g : Dat} {L : Nat} {e : Dat}
theorem Pln.small (P : Pln a b ng g L e) : a.size ≤ 12 := by
  have h := P.name
  simp only [m64] at h
  by_cases hs : 12 < (a.size : Int)
  · rw [decide_eq_true hs] at h
    revert h; cases decide ((a.size : Int) < 1) <;> intro h <;> cases h
  · omega
end
end Go.Proofs.YtchhhoamnagbfaaDoor
namespace Go.Proofs.YtchhhoamnagbfaaDoor
open Go Go.Sy
set_option linter.unusedVariables false
set_option linter.unusedSimpArgs false
set_option maxRecDepth 100000
theorem few_bnd {a : ByteArray} {b : Int} {ng : Nat} {g : Dat} {L : Nat} {e : Dat} (hs : m18 a b ng g L e = true) : a.size ≤ 20 ∧ ng ≤ 10 ∧ L ≤ 62 := by
  simp only [m18] at hs
  by_cases h1 : (a.size : Int) ≤ 20
  · by_cases h2 : (ng : Int) ≤ 10
    · by_cases h3 : (L : Int) ≤ 10
      · omega
      · by_cases h4 : (60 : Int) < (L : Int)
        · have : decide ((L : Int) ≤ 62) = true := by simpa [h1, h2, h3, h4] using hs
          have := of_decide_eq_true this; omega
        · simp [h1, h2, h3, h4] at hs
    · simp [h1, h2] at hs
  · simp [h1] at hs
theorem copies_ok {a : ByteArray} {b : Int} {ng : Nat} {g : Dat} {L : Nat} {e : Dat} (hg : ng ≤ 1073741824) (hL : L ≤ 1073741824) : n20 a b ng g L e = true ∧ m20 a b ng g L e = (a, b, ng, g, L, e) := by
  have n59t : n59 ng g = true := by simp only [n59, Nat.zero_add, decide_eq_true hg, Nat.le_refl, decide_true]; rfl
  have n36t : n36 L e = true := by simp only [n36, Nat.zero_add, decide_eq_true hL, Nat.le_refl, decide_true]; rfl
  exact ⟨by simp only [n20, n59t, n36t]; rfl, by simp only [m20, m59, m36, Nat.zero_add, app_nil0]⟩
theorem two_plans (a : ByteArray) (b : Int) (ng : Nat) (g : Dat) (L : Nat) (e : Dat) (a' : ByteArray) (b' : Int) (ng' : Nat) (g' : Dat) (L' : Nat) (e' : Dat) (ha : a.size ≤ 9223372036854775807) (hg : ng ≤ 9223372036854775807) (hL : L ≤ 9223372036854775807) (ha' : a'.size ≤ 9223372036854775807) (hg' : ng' ≤ 9223372036854775807) (hL' : L' ≤ 9223372036854775807) :
    n60 2 (datS [SV.str a, SV.int IntKind.i64 b, SV.ro [Kd.int IntKind.i64, Kd.int IntKind.i64] ng g, SV.ro [Kd.int IntKind.i64, Kd.int IntKind.i64, Kd.int IntKind.i64] L e, SV.str a', SV.int IntKind.i64 b', SV.ro [Kd.int IntKind.i64, Kd.int IntKind.i64] ng' g', SV.ro [Kd.int IntKind.i64, Kd.int IntKind.i64, Kd.int IntKind.i64] L' e'] 4) = true ∧
    m60 2 (datS [SV.str a, SV.int IntKind.i64 b, SV.ro [Kd.int IntKind.i64, Kd.int IntKind.i64] ng g, SV.ro [Kd.int IntKind.i64, Kd.int IntKind.i64, Kd.int IntKind.i64] L e, SV.str a', SV.int IntKind.i64 b', SV.ro [Kd.int IntKind.i64, Kd.int IntKind.i64] ng' g', SV.ro [Kd.int IntKind.i64, Kd.int IntKind.i64, Kd.int IntKind.i64] L' e'] 4) = cond (decide ((m25 a b ng g L e).2 = 0)) (m25 a' b' ng' g' L' e').2 (m25 a b ng g L e).2 := by
  have h : o60_0 2 (datS [SV.str a, SV.int IntKind.i64 b, SV.ro [Kd.int IntKind.i64, Kd.int IntKind.i64] ng g, SV.ro [Kd.int IntKind.i64, Kd.int IntKind.i64, Kd.int IntKind.i64] L e, SV.str a', SV.int IntKind.i64 b', SV.ro [Kd.int IntKind.i64, Kd.int IntKind.i64] ng' g', SV.ro [Kd.int IntKind.i64, Kd.int IntKind.i64, Kd.int IntKind.i64] L' e'] 4) (↑(2 : Nat) : Int) 0 = cond (n19 a b ng g L e) (cond (bif decide ((m19 a b ng g L e).snd = 0) then false else true) (some (true, (m19 a b ng g L e).snd, default)) (cond (n19 a' b' ng' g' L' e') (cond (bif decide ((m19 a' b' ng' g' L' e').snd = 0) then false else true) (some (true, (m19 a' b' ng' g' L' e').snd, default)) (some (false, default, ()))) none)) none := by kernel_rfl
  obtain ⟨h1, h2, h3, _⟩ := plan_ok a b ng g L e ha hg hL
  obtain ⟨k1, k2, k3, _⟩ := plan_ok a' b' ng' g' L' e' ha' hg' hL'
  rw [h1, h3, k1, k3] at h
  simp only [n60, m60, h, cond_true]
  by_cases hz : (m25 a b ng g L e).2 = 0
  · by_cases kz : (m25 a' b' ng' g' L' e').2 = 0
    · rw [decide_eq_true hz, decide_eq_true kz, kz]; exact ⟨rfl, rfl⟩
    · rw [decide_eq_true hz, decide_eq_false kz]; exact ⟨rfl, rfl⟩
  · rw [decide_eq_false hz]; exact ⟨rfl, rfl⟩
theorem concat_ok {L L' : Nat} {e e' : Dat} (h : L + L' ≤ 1073741824) :
    n72 2 (datS [SV.ro [Kd.int IntKind.i64, Kd.int IntKind.i64, Kd.int IntKind.i64] L e, SV.ro [Kd.int IntKind.i64, Kd.int IntKind.i64, Kd.int IntKind.i64] L' e'] 1) = true ∧
    m72 2 (datS [SV.ro [Kd.int IntKind.i64, Kd.int IntKind.i64, Kd.int IntKind.i64] L e, SV.ro [Kd.int IntKind.i64, Kd.int IntKind.i64, Kd.int IntKind.i64] L' e'] 1) = (L + L', e.app L e') := by
  have h0 : o72_0 2 (datS [SV.ro [Kd.int IntKind.i64, Kd.int IntKind.i64, Kd.int IntKind.i64] L e, SV.ro [Kd.int IntKind.i64, Kd.int IntKind.i64, Kd.int IntKind.i64] L' e'] 1) (datS [SV.ro [Kd.int IntKind.i64, Kd.int IntKind.i64, Kd.int IntKind.i64] L e, SV.ro [Kd.int IntKind.i64, Kd.int IntKind.i64, Kd.int IntKind.i64] L' e'] 1) (↑(2 : Nat) : Int) 0 0 = cond (decide (IntKind.i64.wrap (0 + (L : Int)) < 0)) none (cond (decide (IntKind.i64.wrap (IntKind.i64.wrap (0 + (L : Int)) + (L' : Int)) < 0)) none (some (IntKind.i64.wrap (IntKind.i64.wrap (0 + (L : Int)) + (L' : Int))))) := by kernel_rfl
  have h2 : o72_2 2 (datS [SV.ro [Kd.int IntKind.i64, Kd.int IntKind.i64, Kd.int IntKind.i64] L e, SV.ro [Kd.int IntKind.i64, Kd.int IntKind.i64, Kd.int IntKind.i64] L' e'] 1) (↑(2 : Nat) : Int) 0 0 noDat = cond (decide (0 + L ≤ 1073741824)) (cond (decide (0 + L + L' ≤ 1073741824)) (some (0 + L + L', 0 + L + L', (noDat.app 0 e).app (0 + L) e')) none) none := by kernel_rfl
  have w1 : IntKind.i64.wrap (0 + (L : Int)) = (L : Int) := by rw [wr (by omega) (by omega)]; omega
  have w2 : IntKind.i64.wrap ((L : Int) + (L' : Int)) = ((L + L' : Nat) : Int) := by rw [wr (by omega) (by omega)]; omega
  rw [w1, w2, decide_eq_false (show ¬ (L : Int) < 0 by omega), decide_eq_false (show ¬ ((L + L' : Nat) : Int) < 0 by omega)] at h0
  rw [Nat.zero_add, app_nil0, decide_eq_true (show L ≤ 1073741824 by omega), decide_eq_true h] at h2
  have n97t : n97 ((L + L' : Nat) : Int) = true := decide_eq_true (by omega)
  constructor
  · simp only [n72, h0, h2, cond_true, cond_false, Option.getD_some, Option.isSome_some, n97t, Nat.zero_add, Nat.le_refl, decide_true, Bool.and_self]
  · simp only [m72, h2, cond_true, Option.getD_some]
theorem extended_ok {a : ByteArray} {b : Int} {ng : Nat} {g : Dat} {L : Nat} {e : Dat} {L' : Nat} {e' : Dat} (ha : a.size ≤ 9223372036854775807) (hg : ng ≤ 1073741824) (hL : L + L' ≤ 1073741824) :
    n35 a b ng g L e L' e' = true ∧ m35 a b ng g L e L' e' = cond (decide ((m25 a b ng g L e).2 = 0)) (cond (decide ((m25 a b ng g (L + L') (e.app L e')).2 = 0)) (a, b, ng, g, L + L', e.app L e', 0) (({ data := #[] } : ByteArray), 0, 0, noDat, 0, noDat, (m25 a b ng g (L + L') (e.app L e')).2)) (({ data := #[] } : ByteArray), 0, 0, noDat, 0, noDat, (m25 a b ng g L e).2) := by
  obtain ⟨c1, c2⟩ := concat_ok (e := e) (e' := e') hL
  obtain ⟨t1, t2⟩ := two_plans a b ng g L e a b ng g (L + L') (e.app L e') ha (by omega) (by omega) ha (by omega) (by omega)
  constructor
  · simp only [n35, c1, c2, t1, decide_eq_true hg, Bool.and_self]
  · simp only [m35, c2, t2]
    by_cases hz : (m25 a b ng g L e).2 = 0
    · rw [decide_eq_true hz]
      by_cases kz : (m25 a b ng g (L + L') (e.app L e')).2 = 0
      · simp only [kz, decide_true, cond_true, cond_false]
      · simp only [decide_eq_false kz, cond_true, cond_false]
    · simp only [decide_eq_false hz, cond_true, cond_false]
end Go.Proofs.YtchhhoamnagbfaaDoor
namespace Go.Proofs.YtchhhoamnagbfaaDoor
open Go Go.Sy
set_option linter.unusedVariables false
set_option linter.unusedSimpArgs false
set_option maxRecDepth 100000
attribute [local simp] brk
noncomputable def hasG (D : Dat) (x y : Int) (i : Nat) : Option (Bool × Int × Unit) := cond (bif decide (D.ii i 0 = x) then decide (D.ii i 1 = y) else false) (some (true, (i : Int), default)) none
noncomputable def fndG (n : Nat) (D : Dat) (x y : Int) : Int := cond (first (hasG D x y) (false, default, ()) n 0).1 (first (hasG D x y) (false, default, ()) n 0).2.1 (-1)
theorem m98_fnd {n : Nat} (hn : n ≤ 9223372036854775807) (D : Dat) (x y : Int) : n98 n D x y = true ∧ m98 n D x y = fndG n D x y := by
  have h : o98_0 n D (n : Int) x y 0 = some (first (hasG D x y) (false, default, ()) n 0) := loop_first (n := n) (l := l98_0 n D (n : Int) x y) hn (fun f i hi => by
    have e0 : decide (x = D.ii i 0) = decide (D.ii i 0 = x) := decide_eq_decide.2 eq_comm
    have e1 : decide (y = D.ii i 1) = decide (D.ii i 1 = y) := decide_eq_decide.2 eq_comm
    simp only [l98_0, cdl hi, cdd hi, cond_true, Int.toNat_natCast, hasG, e0, e1]
    cases decide (D.ii i 0 = x) <;> cases decide (D.ii i 1 = y) <;> rfl) (fun f => by simp only [l98_0, cdn]; rfl) n 0 _ (by omega) (by omega)
  simp only [n98, m98, h, fndG]
  exact ⟨rfl, rfl⟩
theorem hasG_some {D : Dat} {x y : Int} {i : Nat} (h : D.ii i 0 = x ∧ D.ii i 1 = y) : hasG D x y i = some (true, (i : Int), default) := by
  simp only [hasG, h.1, h.2, decide_true, cond_true]
theorem hasG_none {D : Dat} {x y : Int} {i : Nat} (h : ¬ (D.ii i 0 = x ∧ D.ii i 1 = y)) : hasG D x y i = none := by
  unfold hasG
  by_cases h0 : D.ii i 0 = x
  · rw [decide_eq_true h0, decide_eq_false (fun h1 => h ⟨h0, h1⟩)]; rfl
  · rw [decide_eq_false h0]; rfl
theorem fnd_at {n : Nat} {D : Dat} {x y : Int} {q : Nat} (hq : q < n) (h : D.ii q 0 = x ∧ D.ii q 1 = y) (h' : ∀ q', q' < q → ¬ (D.ii q' 0 = x ∧ D.ii q' 1 = y)) : fndG n D x y = (q : Int) := by
  have : first (hasG D x y) (false, default, ()) n 0 = (true, (q : Int), default) := first_some (j := q) (Nat.zero_le _) (by omega) (hasG_some h) fun j _ hj => hasG_none (h' j hj)
  simp only [fndG, this, cond_true]
theorem fnd_no {n : Nat} {D : Dat} {x y : Int} (h : ∀ q, q < n → ¬ (D.ii q 0 = x ∧ D.ii q 1 = y)) : fndG n D x y = -1 := by
  have : first (hasG D x y) (false, default, ()) n 0 = (false, default, ()) := first_none fun j _ hj => hasG_none (h j (by omega))
  simp only [fndG, this, cond_false]
theorem fnd_spec (n : Nat) (D : Dat) (x y : Int) : (fndG n D x y = -1 ∧ ∀ q, q < n → ¬ (D.ii q 0 = x ∧ D.ii q 1 = y)) ∨ ∃ q : Nat, q < n ∧ fndG n D x y = (q : Int) ∧ (D.ii q 0 = x ∧ D.ii q 1 = y) ∧ ∀ q', q' < q → ¬ (D.ii q' 0 = x ∧ D.ii q' 1 = y) := by
  by_cases h : ∃ q, q < n ∧ (D.ii q 0 = x ∧ D.ii q 1 = y)
  · obtain ⟨q0, h1, h2⟩ := h
    have : ∀ k, k ≤ n → (∀ q', q' < k → ¬ (D.ii q' 0 = x ∧ D.ii q' 1 = y)) ∨ ∃ q, q < k ∧ (D.ii q 0 = x ∧ D.ii q 1 = y) ∧ ∀ q', q' < q → ¬ (D.ii q' 0 = x ∧ D.ii q' 1 = y) := by
      intro k
      induction k with
      | zero => exact fun _ => .inl fun q' hq' => by omega
      | succ k ih =>
        intro hk
        rcases ih (by omega) with h | ⟨q, a, b, c⟩
        · by_cases hh : D.ii k 0 = x ∧ D.ii k 1 = y
          · exact .inr ⟨k, by omega, hh, h⟩
          · exact .inl fun q' hq' => by
              by_cases e : q' = k
              · subst e; exact hh
              · exact h q' (by omega)
        · exact .inr ⟨q, by omega, b, c⟩
    rcases this n (Nat.le_refl _) with h | ⟨q, a, b, c⟩
    · exact absurd h2 (h q0 h1)
    · exact .inr ⟨q, a, fnd_at a b c, b, c⟩
  · exact .inl ⟨fnd_no fun q hq hh => h ⟨q, hq, hh⟩, fun q hq hh => h ⟨q, hq, hh⟩⟩
def gx (g e : Dat) (i : Nat) : Int := g.ii (e.ii i 2).toNat 0
def gy (g e : Dat) (i : Nat) : Int := g.ii (e.ii i 2).toNat 1
noncomputable def gst (g e : Dat) : Nat → Nat × Dat
  | 0 => (0, noDat)
  | i + 1 => if fndG (gst g e i).1 (gst g e i).2 (gx g e i) (gy g e i) < 0 then ((gst g e i).1 + 1, (gst g e i).2.app (gst g e i).1 (datS [SV.int IntKind.i64 (gx g e i), SV.int IntKind.i64 (gy g e i)] 2)) else gst g e i
noncomputable def gk (g e : Dat) (i : Nat) : Int := fndG (gst g e (i + 1)).1 (gst g e (i + 1)).2 (gx g e i) (gy g e i)
structure GI (ng : Nat) (g e : Dat) (i : Nat) (s : Nat × Dat) : Prop where
  le : s.1 ≤ i
  gin : ∀ q, q < s.1 → ∃ r, r < ng ∧ s.2.ii q 0 = g.ii r 0 ∧ s.2.ii q 1 = g.ii r 1
  dist : ∀ q' q, q' < q → q < s.1 → ¬ (s.2.ii q' 0 = s.2.ii q 0 ∧ s.2.ii q' 1 = s.2.ii q 1)
  has : ∀ r, r < i → ∃ q, q < s.1 ∧ s.2.ii q 0 = gx g e r ∧ s.2.ii q 1 = gy g e r
section
variable {ng : Nat} {g e : Dat} {L : Nat}
theorem gst_same {i : Nat} (h : ¬ fndG (gst g e i).1 (gst g e i).2 (gx g e i) (gy g e i) < 0) : gst g e (i + 1) = gst g e i := by rw [gst, if_neg h]
theorem gst_more {i : Nat} (h : fndG (gst g e i).1 (gst g e i).2 (gx g e i) (gy g e i) < 0) : gst g e (i + 1) = ((gst g e i).1 + 1, (gst g e i).2.app (gst g e i).1 (datS [SV.int IntKind.i64 (gx g e i), SV.int IntKind.i64 (gy g e i)] 2)) := by rw [gst, if_pos h]
theorem gst_mono1 (i : Nat) : (gst g e i).1 ≤ (gst g e (i + 1)).1 ∧ ∀ q, q < (gst g e i).1 → ∀ c, (gst g e (i + 1)).2.ii q c = (gst g e i).2.ii q c := by
  by_cases h : fndG (gst g e i).1 (gst g e i).2 (gx g e i) (gy g e i) < 0
  · rw [gst_more h]
    exact ⟨Nat.le_succ _, fun q hq c => app_lt hq⟩
  · rw [gst_same h]; exact ⟨Nat.le_refl _, fun _ _ _ => rfl⟩
theorem gst_mono {i : Nat} : ∀ {j : Nat}, i ≤ j → (gst g e i).1 ≤ (gst g e j).1 ∧ ∀ q, q < (gst g e i).1 → ∀ c, (gst g e j).2.ii q c = (gst g e i).2.ii q c
  | 0, h => by
    obtain rfl : i = 0 := by omega
    exact ⟨Nat.le_refl _, fun _ _ _ => rfl⟩
  | j + 1, h => by
    by_cases hij : i = j + 1
    · subst hij; exact ⟨Nat.le_refl _, fun _ _ _ => rfl⟩
    · obtain ⟨a, b⟩ := gst_mono (i := i) (j := j) (by omega)
      obtain ⟨c, d⟩ := gst_mono1 (g := g) (e := e) j
      exact ⟨Nat.le_trans a c, fun q hq k => (d q (by omega) k).trans (b q hq k)⟩
theorem gst_ok (hl : ∀ j, j < L → LegOk ng e j) : ∀ i, i ≤ L → GI ng g e i (gst g e i)
  | 0, _ => ⟨Nat.le_refl _, fun q hq => absurd hq (Nat.not_lt_zero _), fun q' q h hq => absurd hq (Nat.not_lt_zero _), fun r hr => absurd hr (Nat.not_lt_zero _)⟩
  | i + 1, h => by
    have I := gst_ok hl i (by omega)
    have lo := hl i (by omega)
    have hr : (e.ii i 2).toNat < ng := by have := lo.2.2; omega
    rcases fnd_spec (gst g e i).1 (gst g e i).2 (gx g e i) (gy g e i) with ⟨f1, f2⟩ | ⟨q0, f0, f1, f2, f3⟩
    · rw [gst_more (by rw [f1]; decide)]
      generalize gst g e i = s at *
      have at_ : ∀ q, q < s.1 + 1 → ((s.2.app s.1 (datS [SV.int IntKind.i64 (gx g e i), SV.int IntKind.i64 (gy g e i)] 2)).ii q 0 = if q < s.1 then s.2.ii q 0 else gx g e i) ∧ ((s.2.app s.1 (datS [SV.int IntKind.i64 (gx g e i), SV.int IntKind.i64 (gy g e i)] 2)).ii q 1 = if q < s.1 then s.2.ii q 1 else gy g e i) := fun q hq => by
        by_cases hh : q < s.1
        · rw [app_lt hh, app_lt hh, if_pos hh, if_pos hh]; exact ⟨rfl, rfl⟩
        · obtain rfl : q = s.1 := by omega
          rw [app_eq, app_eq, if_neg hh, if_neg hh]; exact ⟨rfl, rfl⟩
      refine ⟨Nat.succ_le_succ I.le, fun q hq => ?_, fun q' q h1 hq => ?_, fun r hr' => ?_⟩
      · rw [(at_ q hq).1, (at_ q hq).2]
        by_cases hh : q < s.1
        · rw [if_pos hh, if_pos hh]; exact I.gin q hh
        · rw [if_neg hh, if_neg hh]; exact ⟨_, hr, rfl, rfl⟩
      · have hq' : q < s.1 + 1 := hq
        rw [(at_ q hq').1, (at_ q hq').2, (at_ q' (by omega)).1, (at_ q' (by omega)).2, if_pos (show q' < s.1 by omega), if_pos (show q' < s.1 by omega)]
        by_cases hh : q < s.1
        · rw [if_pos hh, if_pos hh]; exact I.dist q' q h1 hh
        · rw [if_neg hh, if_neg hh]; exact f2 q' (by omega)
      · by_cases hri : r < i
        · obtain ⟨q, a, b, c⟩ := I.has r hri
          refine ⟨q, Nat.lt_succ_of_lt a, ?_, ?_⟩
          · rw [(at_ q (by omega)).1, if_pos a]; exact b
          · rw [(at_ q (by omega)).2, if_pos a]; exact c
        · obtain rfl : r = i := by omega
          refine ⟨s.1, Nat.lt_succ_self _, ?_, ?_⟩
          · rw [(at_ s.1 (by omega)).1, if_neg (Nat.lt_irrefl _)]
          · rw [(at_ s.1 (by omega)).2, if_neg (Nat.lt_irrefl _)]
    · rw [gst_same (by rw [f1]; omega)]
      refine ⟨Nat.le_succ_of_le I.le, I.gin, I.dist, fun r hr' => ?_⟩
      by_cases hri : r < i
      · exact I.has r hri
      · obtain rfl : r = i := by omega
        exact ⟨q0, f0, f2.1, f2.2⟩
theorem gk_spec (hl : ∀ j, j < L → LegOk ng e j) {i : Nat} (hi : i < L) : ∃ q : Nat, gk g e i = (q : Int) ∧ q < (gst g e (i + 1)).1 ∧ (gst g e (i + 1)).2.ii q 0 = gx g e i ∧ (gst g e (i + 1)).2.ii q 1 = gy g e i ∧
    (∀ j, i + 1 ≤ j → j ≤ L → fndG (gst g e j).1 (gst g e j).2 (gx g e i) (gy g e i) = (q : Int)) ∧ (q < (gst g e i).1 ∨ (q = (gst g e i).1 ∧ (gst g e (i + 1)).1 = (gst g e i).1 + 1)) := by
  have I := gst_ok (g := g) hl (i + 1) (by omega)
  rcases fnd_spec (gst g e (i + 1)).1 (gst g e (i + 1)).2 (gx g e i) (gy g e i) with ⟨f1, f2⟩ | ⟨q, f0, f1, f2, f3⟩
  · obtain ⟨q, a, b, c⟩ := I.has i (Nat.lt_succ_self _)
    exact absurd ⟨b, c⟩ (f2 q a)
  · refine ⟨q, f1, f0, f2.1, f2.2, fun j h1 h2 => ?_, ?_⟩
    · obtain ⟨m1, m2⟩ := gst_mono (g := g) (e := e) h1
      refine fnd_at (by omega) ⟨by rw [m2 q f0]; exact f2.1, by rw [m2 q f0]; exact f2.2⟩ fun q' hq' hh => f3 q' hq' ?_
      rw [m2 q' (by omega), m2 q' (by omega)] at hh; exact hh
    · rcases fnd_spec (gst g e i).1 (gst g e i).2 (gx g e i) (gy g e i) with ⟨k1, k2⟩ | ⟨p, k0, k1, k2, k3⟩
      · have e1 := gst_more (g := g) (e := e) (i := i) (by rw [k1]; decide)
        rw [e1] at f0 f2 ⊢
        by_cases hh : q < (gst g e i).1
        · exact .inl hh
        · have f0 : q < (gst g e i).1 + 1 := f0
          exact .inr ⟨by omega, rfl⟩
      · have e1 := gst_same (g := g) (e := e) (i := i) (by rw [k1]; omega)
        rw [e1] at f0; exact .inl f0
theorem gk_step (hl : ∀ j, j < L → LegOk ng e j) {i : Nat} (hi : i < L) : (fndG (gst g e i).1 (gst g e i).2 (gx g e i) (gy g e i) < 0 ∧ gk g e i = ((gst g e i).1 : Int)) ∨ (¬ fndG (gst g e i).1 (gst g e i).2 (gx g e i) (gy g e i) < 0 ∧ gk g e i = fndG (gst g e i).1 (gst g e i).2 (gx g e i) (gy g e i)) := by
  rcases fnd_spec (gst g e i).1 (gst g e i).2 (gx g e i) (gy g e i) with ⟨k1, k2⟩ | ⟨p, k0, k1, k2, k3⟩
  · left
    have e1 := gst_more (g := g) (e := e) (i := i) (by rw [k1]; decide)
    refine ⟨by rw [k1]; decide, ?_⟩
    rw [gk, e1]
    refine fnd_at (Nat.lt_succ_self _) ⟨by rw [app_eq]; rfl, by rw [app_eq]; rfl⟩ fun q' hq' => ?_
    rw [app_lt hq', app_lt hq']; exact k2 q' hq'
  · right
    have e1 := gst_same (g := g) (e := e) (i := i) (by rw [k1]; omega)
    exact ⟨by rw [k1]; omega, by rw [gk, e1]⟩
end
theorem pigeon : ∀ (n c : Nat) (f : Nat → Nat), (∀ q, q < c → f q < n) → (∀ q' q, q' < q → q < c → f q' ≠ f q) → c ≤ n
  | 0, c, f, h1, h2 => by
    apply Decidable.byContradiction
    intro h
    have := h1 0 (by omega)
    omega
  | n + 1, c, f, h1, h2 => by
    by_cases hz : ∃ p, p < c ∧ f p = n
    · obtain ⟨p, hp, hpn⟩ := hz
      have := pigeon n (c - 1) (fun q => if q < p then f q else f (q + 1)) (fun q hq => by
        by_cases hh : q < p
        · have a := h1 q (by omega); have b := h2 q p hh hp
          rw [if_pos hh]; omega
        · have a := h1 (q + 1) (by omega); have b := h2 p (q + 1) (by omega) (by omega)
          rw [if_neg hh]; omega) fun q' q h hq => by
        by_cases a : q' < p
        · by_cases b : q < p
          · simp only [if_pos a, if_pos b]; exact h2 q' q h (by omega)
          · simp only [if_pos a, if_neg b]; exact h2 q' (q + 1) (by omega) (by omega)
        · simp only [if_neg a, if_neg (show ¬ q < p by omega)]; exact h2 (q' + 1) (q + 1) (by omega) (by omega)
      omega
    · have := pigeon n c f (fun q hq => by
        have a := h1 q hq
        have : f q ≠ n := fun hh => hz ⟨q, hq, hh⟩
        omega) h2
      omega
theorem GI.few {ng : Nat} {g e : Dat} {i : Nat} {s : Nat × Dat} (I : GI ng g e i s) : s.1 ≤ ng := by
  have h : ∀ q, ∃ r, q < s.1 → (r < ng ∧ s.2.ii q 0 = g.ii r 0 ∧ s.2.ii q 1 = g.ii r 1) := fun q => by
    by_cases hq : q < s.1
    · obtain ⟨r, hr⟩ := I.gin q hq; exact ⟨r, fun _ => hr⟩
    · exact ⟨0, fun h => absurd h hq⟩
  obtain ⟨f, hf⟩ := Classical.axiomOfChoice h
  exact pigeon ng s.1 f (fun q hq => (hf q hq).1) fun q' q h hq hh => by
    have a := (hf q' (by omega)).2; have b := (hf q hq).2
    rw [hh] at a
    exact I.dist q' q h hq ⟨a.1.trans b.1.symm, a.2.trans b.2.symm⟩
theorem sm_congr {o o' : Dat} : ∀ {n : Nat}, (∀ q, q < n → o.ii q 0 = o'.ii q 0) → sm o n = sm o' n
  | 0, _ => rfl
  | n + 1, h => by simp only [sm]; rw [sm_congr (n := n) fun q hq => h q (by omega), h n (by omega)]
theorem dp_congr {o o' : Dat} {n : Nat} (h : ∀ q, q < n → o.ii q 1 = o'.ii q 1) : dp o n = dp o' n := by
  cases n with
  | zero => rfl
  | succ n => exact h n (by omega)
theorem upd3 (o : Dat) (k q : Nat) (a b c : Int) : ((o.upd k 0 [SV.int IntKind.i64 a, SV.int IntKind.i64 b, SV.int IntKind.i64 c]).ii q 0 = if q = k then a else o.ii q 0) ∧ ((o.upd k 0 [SV.int IntKind.i64 a, SV.int IntKind.i64 b, SV.int IntKind.i64 c]).ii q 1 = if q = k then b else o.ii q 1) ∧ ((o.upd k 0 [SV.int IntKind.i64 a, SV.int IntKind.i64 b, SV.int IntKind.i64 c]).ii q 2 = if q = k then c else o.ii q 2) := by
  by_cases h : q = k <;> simp [Dat.upd, h]
theorem app3 (o : Dat) (n q : Nat) (hq : q < n + 1) (a b c : Int) : ((o.app n (datS [SV.int IntKind.i64 a, SV.int IntKind.i64 b, SV.int IntKind.i64 c] 3)).ii q 0 = if q = n then a else o.ii q 0) ∧ ((o.app n (datS [SV.int IntKind.i64 a, SV.int IntKind.i64 b, SV.int IntKind.i64 c] 3)).ii q 1 = if q = n then b else o.ii q 1) ∧ ((o.app n (datS [SV.int IntKind.i64 a, SV.int IntKind.i64 b, SV.int IntKind.i64 c] 3)).ii q 2 = if q = n then c else o.ii q 2) := by
  by_cases h : q = n
  · subst h; rw [app_eq, app_eq, app_eq, if_pos rfl, if_pos rfl, if_pos rfl]; exact ⟨rfl, rfl, rfl⟩
  · have : q < n := by omega
    rw [app_lt this, app_lt this, app_lt this, if_neg h, if_neg h, if_neg h]; exact ⟨rfl, rfl, rfl⟩
def Mrg (s : Nat × Dat) (S B K : Int) : Prop := 0 < s.1 ∧ s.2.ii (s.1 - 1) 2 = K ∧ (dp s.2 s.1 - dp s.2 (s.1 - 1)) * S = (B - dp s.2 s.1) * s.2.ii (s.1 - 1) 0
instance (s : Nat × Dat) (S B K : Int) : Decidable (Mrg s S B K) := by unfold Mrg; infer_instance
noncomputable def stepL (s : Nat × Dat) (S B K : Int) : Nat × Dat :=
  if Mrg s S B K then (s.1, s.2.upd (s.1 - 1) 0 [SV.int IntKind.i64 (s.2.ii (s.1 - 1) 0 + S), SV.int IntKind.i64 B, SV.int IntKind.i64 K]) else (s.1 + 1, s.2.app s.1 (datS [SV.int IntKind.i64 S, SV.int IntKind.i64 B, SV.int IntKind.i64 K] 3))
noncomputable def lst (g e : Dat) : Nat → Nat × Dat
  | 0 => (0, noDat)
  | i + 1 => stepL (lst g e i) (e.ii i 0) (e.ii i 1) (gk g e i)
def Ag (n : Nat) (o o' : Dat) : Prop := ∀ q, q < n → o.ii q 0 = o'.ii q 0 ∧ o.ii q 1 = o'.ii q 1 ∧ o.ii q 2 = o'.ii q 2
theorem Ag.sm {n : Nat} {o o' : Dat} (h : Ag n o o') {q : Nat} (hq : q ≤ n) : sm o q = sm o' q := sm_congr fun k hk => (h k (by omega)).1
theorem Ag.dp {n : Nat} {o o' : Dat} (h : Ag n o o') {q : Nat} (hq : q ≤ n) : dp o q = dp o' q := dp_congr fun k hk => (h k (by omega)).2.1
theorem step_app {s : Nat × Dat} {S B K : Int} (h : ¬ Mrg s S B K) : (stepL s S B K).1 = s.1 + 1 ∧ (∀ q, q < s.1 → ∀ c, (stepL s S B K).2.ii q c = s.2.ii q c) ∧ (stepL s S B K).2.ii s.1 0 = S ∧ (stepL s S B K).2.ii s.1 1 = B ∧ (stepL s S B K).2.ii s.1 2 = K := by
  unfold stepL
  rw [if_neg h]
  refine ⟨rfl, fun q hq c => app_lt hq, ?_, ?_, ?_⟩ <;> (simp only [app_eq]; rfl)
theorem step_mrg {s : Nat × Dat} {S B K : Int} (h : Mrg s S B K) : (stepL s S B K).1 = s.1 ∧ (∀ q, q + 1 < s.1 → ∀ c, (stepL s S B K).2.ii q c = s.2.ii q c) ∧ (stepL s S B K).2.ii (s.1 - 1) 0 = s.2.ii (s.1 - 1) 0 + S ∧ (stepL s S B K).2.ii (s.1 - 1) 1 = B ∧ (stepL s S B K).2.ii (s.1 - 1) 2 = K := by
  unfold stepL
  rw [if_pos h]
  have u := upd3 s.2 (s.1 - 1) (s.1 - 1) (s.2.ii (s.1 - 1) 0 + S) B K
  refine ⟨rfl, fun q hq c => ?_, ?_, ?_, ?_⟩
  · have : ¬ q = s.1 - 1 := by omega
    simp only [Dat.upd, if_neg this]
  · rw [u.1, if_pos rfl]
  · rw [u.2.1, if_pos rfl]
  · rw [u.2.2, if_pos rfl]
theorem line_more {A B S T h t : Int} (hS : 0 < S) (m : A * T = B * S) (k : h * S = A * t) : h * (S + T) = (A + B) * t := by
  have : (h * (S + T)) * S = ((A + B) * t) * S := by
    have e1 : (h * (S + T)) * S = (h * S) * (S + T) := by ac_rfl
    rw [e1, k, Int.add_mul A B t, Int.add_mul (A * t) (B * t) S, Int.mul_add]
    have e2 : A * t * T = (A * T) * t := by ac_rfl
    have e3 : B * t * S = (B * S) * t := by ac_rfl
    rw [e2, e3, m]
  exact Int.eq_of_mul_eq_mul_right (by omega) this
theorem line_back {A B S T A0 S0 : Int} (hS : 0 < S) (hT : 0 < T) (m : A * T = B * S) (k : A0 * (S + T) = (A + B) * S0) : A0 * S = A * S0 := by
  have : (A0 * S) * (S + T) = (A * S0) * (S + T) := by
    have e1 : (A0 * S) * (S + T) = (A0 * (S + T)) * S := by ac_rfl
    rw [e1, k, Int.add_mul A B S0, Int.add_mul (A * S0) (B * S0) S, Int.mul_add]
    have e2 : A * S0 * T = (A * T) * S0 := by ac_rfl
    have e3 : B * S0 * S = (B * S) * S0 := by ac_rfl
    rw [e2, e3, m]
  exact Int.eq_of_mul_eq_mul_right (by omega) this
end Go.Proofs.YtchhhoamnagbfaaDoor
namespace Go.Proofs.YtchhhoamnagbfaaDoor
open Go Go.Sy
set_option linter.unusedVariables false
set_option linter.unusedSimpArgs false
set_option maxRecDepth 100000
structure NI (g e : Dat) (i : Nat) (s : Nat × Dat) : Prop where
  cnt : s.1 ≤ i
  pos : 0 < i → 0 < s.1
  sum : sm s.2 s.1 = sm e i
  fin : dp s.2 s.1 = dp e i
  ok : ∀ q, q < s.1 → 1 ≤ s.2.ii q 0 ∧ (0 ≤ s.2.ii q 1 ∧ s.2.ii q 1 ≤ 30000) ∧ 0 ≤ s.2.ii q 2 ∧ s.2.ii q 2 < ((gst g e i).1 : Int)
  used : ∀ v : Nat, v < (gst g e i).1 → ∃ q, q < s.1 ∧ s.2.ii q 2 = (v : Int)
  ord : ∀ q, q < s.1 → ∀ v : Nat, (v : Int) < s.2.ii q 2 → ∃ q', q' < q ∧ s.2.ii q' 2 = (v : Int)
  adj : ∀ q, q + 1 < s.1 → ¬ (s.2.ii q 2 = s.2.ii (q + 1) 2 ∧ (dp s.2 (q + 1) - dp s.2 q) * s.2.ii (q + 1) 0 = (dp s.2 (q + 2) - dp s.2 (q + 1)) * s.2.ii q 0)
  cov : ∀ r, r < i → ∃ q, q < s.1 ∧ s.2.ii q 2 = gk g e r ∧ sm s.2 q ≤ sm e r ∧ sm e (r + 1) ≤ sm s.2 (q + 1) ∧ (dp e r - dp s.2 q) * s.2.ii q 0 = (s.2.ii q 1 - dp s.2 q) * (sm e r - sm s.2 q) ∧ (dp e (r + 1) - dp s.2 q) * s.2.ii q 0 = (s.2.ii q 1 - dp s.2 q) * (sm e (r + 1) - sm s.2 q)
theorem sm_eq {o o' : Dat} {n : Nat} (h : ∀ q, q < n → ∀ c, o'.ii q c = o.ii q c) {q : Nat} (hq : q ≤ n) : sm o' q = sm o q := sm_congr fun k hk => h k (by omega) 0
theorem dp_eq {o o' : Dat} {n : Nat} (h : ∀ q, q < n → ∀ c, o'.ii q c = o.ii q c) {q : Nat} (hq : q ≤ n) : dp o' q = dp o q := dp_congr fun k hk => h k (by omega) 1
theorem ni_step {ng : Nat} {g e : Dat} {L : Nat} (hl : ∀ j, j < L → LegOk ng e j) {i : Nat} (hi : i < L) {s : Nat × Dat} (I : NI g e i s) : NI g e (i + 1) (stepL s (e.ii i 0) (e.ii i 1) (gk g e i)) := by
  obtain ⟨⟨l1, l2⟩, ⟨l3, l4⟩, l5, l6⟩ := hl i hi
  obtain ⟨k, k1, k2, k3, k4, k5, k6⟩ := gk_spec (g := g) hl hi
  have cm : (gst g e i).1 ≤ (gst g e (i + 1)).1 := (gst_mono1 i).1
  have cs : (gst g e (i + 1)).1 = (gst g e i).1 ∨ ((gst g e (i + 1)).1 = (gst g e i).1 + 1 ∧ k = (gst g e i).1) := by
    rcases gk_step (g := g) hl hi with ⟨a, b⟩ | ⟨a, b⟩
    · have := gst_more a
      right
      exact ⟨by rw [this], by rw [k1] at b; omega⟩
    · left; rw [gst_same a]
  by_cases hm : Mrg s (e.ii i 0) (e.ii i 1) (gk g e i)
  · obtain ⟨m0, m1, m2⟩ := hm
    obtain ⟨u1, u2, u3, u4, u5⟩ := step_mrg ⟨m0, m1, m2⟩
    generalize stepL s (e.ii i 0) (e.ii i 1) (gk g e i) = s' at *
    obtain ⟨n, o⟩ := s
    obtain ⟨n', o'⟩ := s'
    simp only at *
    obtain ⟨n, rfl⟩ : ∃ p, n = p + 1 := ⟨n - 1, by omega⟩
    simp only [Nat.add_sub_cancel] at *
    subst u1
    have hsame : (gst g e (i + 1)).1 = (gst g e i).1 := by
      rcases cs with h | ⟨h, h'⟩
      · exact h
      · have := (I.ok n (by omega)).2.2.2
        simp only at this
        rw [m1, k1] at this; omega
    have u2' : ∀ q, q < n → ∀ c, o'.ii q c = o.ii q c := fun q hq c => u2 q (by omega) c
    have s1 : ∀ {q}, q ≤ n → sm o' q = sm o q := fun hq => sm_eq u2' hq
    have d1 : ∀ {q}, q ≤ n → dp o' q = dp o q := fun hq => dp_eq u2' hq
    have S0 := (I.ok n (by omega)).1
    simp only at S0
    have sn : sm o' (n + 1) = sm o (n + 1) + e.ii i 0 := by simp only [sm]; rw [s1 (Nat.le_refl _), u3]; omega
    have dn : dp o' (n + 1) = e.ii i 1 := u4
    have don : dp o (n + 1) = o.ii n 1 := rfl
    have hsum := I.sum; have hfin := I.fin
    simp only at hsum hfin
    have m2 : (dp o (n + 1) - dp o n) * e.ii i 0 = (e.ii i 1 - dp o (n + 1)) * o.ii n 0 := m2
    have asm : sm o (n + 1) = sm o n + o.ii n 0 := rfl
    have esm : sm e (i + 1) = sm e i + e.ii i 0 := rfl
    have edp : dp e (i + 1) = e.ii i 1 := rfl
    refine ⟨Nat.le_succ_of_le I.cnt, fun _ => Nat.succ_pos n, ?_, ?_, fun q hq => ?_, fun v hv => ?_, fun q hq v hv => ?_, fun q hq => ?_, fun r hr => ?_⟩
    · show sm o' (n + 1) = _; rw [sn, hsum]; rfl
    · show dp o' (n + 1) = _; rw [dn]; rfl
    · show 1 ≤ o'.ii q 0 ∧ _
      rw [hsame]
      by_cases h : q = n
      · subst h
        have ok := (I.ok q (by omega)).2.2
        simp only at ok
        rw [u3, u4, u5, k1]
        rw [m1, k1] at ok
        exact ⟨by omega, ⟨l3, l4⟩, ok.1, ok.2⟩
      · have hq : q < n + 1 := hq
        rw [u2' q (by omega), u2' q (by omega), u2' q (by omega)]
        exact I.ok q hq
    · rw [hsame] at hv
      obtain ⟨q, a, b⟩ := I.used v hv
      refine ⟨q, a, ?_⟩
      show o'.ii q 2 = _
      have a : q < n + 1 := a
      have b : o.ii q 2 = (v : Int) := b
      by_cases h : q = n
      · subst h; rw [u5, ← m1]; exact b
      · rw [u2' q (by omega)]; exact b
    · have hq : q < n + 1 := hq
      have hv : (v : Int) < o'.ii q 2 := hv
      have e2 : o'.ii q 2 = o.ii q 2 := by
        by_cases h : q = n
        · subst h; rw [u5, ← m1]
        · exact u2' q (by omega) 2
      rw [e2] at hv
      obtain ⟨q', a, b⟩ := I.ord q hq v hv
      exact ⟨q', a, by show o'.ii q' 2 = _; rw [u2' q' (by omega)]; exact b⟩
    · have hq : q + 1 < n + 1 := hq
      show ¬ (o'.ii q 2 = o'.ii (q + 1) 2 ∧ (dp o' (q + 1) - dp o' q) * o'.ii (q + 1) 0 = (dp o' (q + 2) - dp o' (q + 1)) * o'.ii q 0)
      have old := I.adj q hq
      simp only at old
      rw [u2' q (by omega), u2' q (by omega), d1 (show q + 1 ≤ n by omega), d1 (show q ≤ n by omega)]
      by_cases h : q + 1 = n
      · rw [h] at old ⊢
        rw [show q + 2 = n + 1 by omega] at old ⊢
        rw [u5, u3, dn]
        rw [m1] at old
        rintro ⟨x1, x2⟩
        refine old ⟨x1, ?_⟩
        refine line_back (T := e.ii i 0) (B := e.ii i 1 - dp o (n + 1)) (by omega) (by omega) m2 ?_
        rw [x2]
        congr 1; omega
      · rw [u2' (q + 1) (by omega), u2' (q + 1) (by omega), d1 (show q + 2 ≤ n by omega)]
        exact old
    · by_cases hri : r < i
      · obtain ⟨q, c1, c2, c3, c4, c5, c6⟩ := I.cov r hri
        simp only at c1 c2 c3 c4 c5 c6
        by_cases h : q = n
        · subst h
          refine ⟨q, c1, ?_, ?_, ?_, ?_, ?_⟩
          · show o'.ii q 2 = _; rw [u5, ← m1]; exact c2
          · show sm o' q ≤ _; rw [s1 (Nat.le_refl _)]; exact c3
          · show _ ≤ sm o' (q + 1); rw [sn]; omega
          · show (_ - dp o' q) * o'.ii q 0 = (o'.ii q 1 - dp o' q) * (_ - sm o' q)
            rw [u3, u4, d1 (Nat.le_refl _), s1 (Nat.le_refl _)]
            have := line_more (T := e.ii i 0) (B := e.ii i 1 - dp o (q + 1)) (by omega) m2 (h := dp e r - dp o q) (t := sm e r - sm o q) c5
            rw [this]; congr 1; omega
          · show (_ - dp o' q) * o'.ii q 0 = (o'.ii q 1 - dp o' q) * (_ - sm o' q)
            rw [u3, u4, d1 (Nat.le_refl _), s1 (Nat.le_refl _)]
            have := line_more (T := e.ii i 0) (B := e.ii i 1 - dp o (q + 1)) (by omega) m2 (h := dp e (r + 1) - dp o q) (t := sm e (r + 1) - sm o q) c6
            rw [this]; congr 1; omega
        · refine ⟨q, c1, ?_, ?_, ?_, ?_, ?_⟩
          · show o'.ii q 2 = _; rw [u2' q (by omega)]; exact c2
          · show sm o' q ≤ _; rw [s1 (by omega)]; exact c3
          · show _ ≤ sm o' (q + 1); rw [s1 (by omega)]; exact c4
          · show (_ - dp o' q) * o'.ii q 0 = (o'.ii q 1 - dp o' q) * (_ - sm o' q)
            rw [u2' q (by omega), u2' q (by omega), d1 (by omega), s1 (by omega)]; exact c5
          · show (_ - dp o' q) * o'.ii q 0 = (o'.ii q 1 - dp o' q) * (_ - sm o' q)
            rw [u2' q (by omega), u2' q (by omega), d1 (by omega), s1 (by omega)]; exact c6
      · obtain rfl : r = i := by omega
        refine ⟨n, Nat.lt_succ_self n, u5, ?_, ?_, ?_, ?_⟩
        · show sm o' n ≤ _; rw [s1 (Nat.le_refl _)]; omega
        · show _ ≤ sm o' (n + 1); rw [sn]; omega
        · show (_ - dp o' n) * o'.ii n 0 = (o'.ii n 1 - dp o' n) * (_ - sm o' n)
          rw [u3, u4, d1 (Nat.le_refl _), s1 (Nat.le_refl _)]
          have := line_more (T := e.ii r 0) (B := e.ii r 1 - dp o (n + 1)) (by omega) m2 (h := dp e r - dp o n) (t := sm e r - sm o n) (by rw [← hfin, ← hsum, asm, show sm o n + o.ii n 0 - sm o n = o.ii n 0 by omega])
          rw [this]; congr 1; omega
        · show (_ - dp o' n) * o'.ii n 0 = (o'.ii n 1 - dp o' n) * (_ - sm o' n)
          rw [u3, u4, d1 (Nat.le_refl _), s1 (Nat.le_refl _), edp]
          congr 1; omega
  · obtain ⟨u1, u2, u3, u4, u5⟩ := step_app hm
    generalize stepL s (e.ii i 0) (e.ii i 1) (gk g e i) = s' at *
    obtain ⟨n, o⟩ := s
    obtain ⟨n', o'⟩ := s'
    simp only at *
    subst u1
    have s1 : ∀ {q}, q ≤ n → sm o' q = sm o q := fun hq => sm_eq u2 hq
    have d1 : ∀ {q}, q ≤ n → dp o' q = dp o q := fun hq => dp_eq u2 hq
    have sn : sm o' (n + 1) = sm o n + e.ii i 0 := by simp only [sm]; rw [s1 (Nat.le_refl _), u3]
    have dn : dp o' (n + 1) = e.ii i 1 := u4
    have hsum := I.sum; have hfin := I.fin
    simp only at hsum hfin
    have esm : sm e (i + 1) = sm e i + e.ii i 0 := rfl
    have edp : dp e (i + 1) = e.ii i 1 := rfl
    refine ⟨Nat.succ_le_succ I.cnt, fun _ => Nat.succ_pos n, ?_, ?_, fun q hq => ?_, fun v hv => ?_, fun q hq v hv => ?_, fun q hq => ?_, fun r hr => ?_⟩
    · show sm o' (n + 1) = _; rw [sn, hsum]; rfl
    · show dp o' (n + 1) = _; rw [dn]; rfl
    · show 1 ≤ o'.ii q 0 ∧ _
      have hq : q < n + 1 := hq
      by_cases h : q = n
      · subst h; rw [u3, u4, u5, k1]; exact ⟨l1, ⟨l3, l4⟩, by omega, by omega⟩
      · rw [u2 q (by omega), u2 q (by omega), u2 q (by omega)]
        have := I.ok q (show q < n by omega)
        simp only at this
        exact ⟨this.1, this.2.1, this.2.2.1, by omega⟩
    · by_cases hv' : v < (gst g e i).1
      · obtain ⟨q, a, b⟩ := I.used v hv'
        exact ⟨q, Nat.lt_succ_of_lt a, by show o'.ii q 2 = _; rw [u2 q a]; exact b⟩
      · refine ⟨n, Nat.lt_succ_self n, ?_⟩
        show o'.ii n 2 = _
        rw [u5, k1]
        omega
    · have hq : q < n + 1 := hq
      have hv : (v : Int) < o'.ii q 2 := hv
      by_cases h : q = n
      · subst h
        rw [u5, k1] at hv
        obtain ⟨q', a, b⟩ := I.used v (by omega)
        exact ⟨q', a, by show o'.ii q' 2 = _; rw [u2 q' a]; exact b⟩
      · rw [u2 q (by omega)] at hv
        obtain ⟨q', a, b⟩ := I.ord q (show q < n by omega) v hv
        exact ⟨q', a, by show o'.ii q' 2 = _; rw [u2 q' (by omega)]; exact b⟩
    · have hq : q + 1 < n + 1 := hq
      show ¬ (o'.ii q 2 = o'.ii (q + 1) 2 ∧ (dp o' (q + 1) - dp o' q) * o'.ii (q + 1) 0 = (dp o' (q + 2) - dp o' (q + 1)) * o'.ii q 0)
      rw [u2 q (by omega), u2 q (by omega), d1 (show q + 1 ≤ n by omega), d1 (show q ≤ n by omega)]
      by_cases h : q + 1 = n
      · rw [show q + 2 = n + 1 by omega, dn, h, u3, u5]
        rintro ⟨x1, x2⟩
        refine hm ⟨show 0 < n by omega, ?_, ?_⟩
        · show o.ii (n - 1) 2 = _; rw [show n - 1 = q by omega]; exact x1
        · show (dp o n - dp o (n - 1)) * _ = (_ - dp o n) * o.ii (n - 1) 0
          rw [show n - 1 = q by omega]; exact x2
      · rw [u2 (q + 1) (by omega), u2 (q + 1) (by omega), d1 (show q + 2 ≤ n by omega)]
        exact I.adj q (show q + 1 < n by omega)
    · by_cases hri : r < i
      · obtain ⟨q, c1, c2, c3, c4, c5, c6⟩ := I.cov r hri
        simp only at c1 c2 c3 c4 c5 c6
        refine ⟨q, Nat.lt_succ_of_lt c1, ?_, ?_, ?_, ?_, ?_⟩
        · show o'.ii q 2 = _; rw [u2 q c1]; exact c2
        · show sm o' q ≤ _; rw [s1 (by omega)]; exact c3
        · show _ ≤ sm o' (q + 1); rw [s1 (by omega)]; exact c4
        · show (_ - dp o' q) * o'.ii q 0 = (o'.ii q 1 - dp o' q) * (_ - sm o' q)
          rw [u2 q c1, u2 q c1, d1 (by omega), s1 (by omega)]; exact c5
        · show (_ - dp o' q) * o'.ii q 0 = (o'.ii q 1 - dp o' q) * (_ - sm o' q)
          rw [u2 q c1, u2 q c1, d1 (by omega), s1 (by omega)]; exact c6
      · obtain rfl : r = i := by omega
        refine ⟨n, Nat.lt_succ_self n, u5, ?_, ?_, ?_, ?_⟩
        · show sm o' n ≤ _; rw [s1 (Nat.le_refl _)]; omega
        · show _ ≤ sm o' (n + 1); rw [sn]; omega
        · show (_ - dp o' n) * o'.ii n 0 = (o'.ii n 1 - dp o' n) * (_ - sm o' n)
          rw [u3, u4, d1 (Nat.le_refl _), s1 (Nat.le_refl _), hfin, hsum, Int.sub_self, Int.sub_self, Int.zero_mul, Int.mul_zero]
        · show (_ - dp o' n) * o'.ii n 0 = (o'.ii n 1 - dp o' n) * (_ - sm o' n)
          rw [u3, u4, d1 (Nat.le_refl _), s1 (Nat.le_refl _), edp]
          congr 1; omega
theorem ni_all {ng : Nat} {g e : Dat} {L : Nat} (hl : ∀ j, j < L → LegOk ng e j) : ∀ i, i ≤ L → NI g e i (lst g e i)
  | 0, _ => ⟨Nat.le_refl _, fun h => absurd h (Nat.lt_irrefl _), rfl, rfl, fun q hq => absurd hq (Nat.not_lt_zero _), fun v hv => absurd hv (Nat.not_lt_zero _), fun q hq => absurd hq (Nat.not_lt_zero _), fun q hq => absurd hq (Nat.not_lt_zero _), fun r hr => absurd hr (Nat.not_lt_zero _)⟩
  | i + 1, h => ni_step hl (show i < L by omega) (ni_all hl i (by omega))
end Go.Proofs.YtchhhoamnagbfaaDoor
namespace Go.Proofs.YtchhhoamnagbfaaDoor
open Go Go.Sy
set_option linter.unusedVariables false
set_option linter.unusedSimpArgs false
set_option maxRecDepth 100000
section
variable {a : ByteArray} {b : Int} {ng : Nat} {g : Dat} {L : Nat} {e : Dat}
def Tk (n : Nat) (o t : Dat) : Prop := ∀ q, q < n + 1 → t.ii q 0 = sm o q ∧ t.ii q 1 = dp o q
theorem upd1 (o : Dat) (k q : Nat) (a b : Int) : (((o.upd k 0 [SV.int IntKind.i64 a]).upd k 1 [SV.int IntKind.i64 b]).ii q 0 = if q = k then a else o.ii q 0) ∧ (((o.upd k 0 [SV.int IntKind.i64 a]).upd k 1 [SV.int IntKind.i64 b]).ii q 1 = if q = k then b else o.ii q 1) ∧ (((o.upd k 0 [SV.int IntKind.i64 a]).upd k 1 [SV.int IntKind.i64 b]).ii q 2 = o.ii q 2) := by
  by_cases h : q = k <;> simp [Dat.upd, h]
theorem upd2 (o : Dat) (k q : Nat) (a b : Int) : ((o.upd k 0 [SV.int IntKind.i64 a, SV.int IntKind.i64 b]).ii q 0 = if q = k then a else o.ii q 0) ∧ ((o.upd k 0 [SV.int IntKind.i64 a, SV.int IntKind.i64 b]).ii q 1 = if q = k then b else o.ii q 1) := by
  by_cases h : q = k <;> simp [Dat.upd, h]
theorem app2 (o : Dat) (n q : Nat) (hq : q < n + 1) (a b : Int) : ((o.app n (datS [SV.int IntKind.i64 a, SV.int IntKind.i64 b] 2)).ii q 0 = if q = n then a else o.ii q 0) ∧ ((o.app n (datS [SV.int IntKind.i64 a, SV.int IntKind.i64 b] 2)).ii q 1 = if q = n then b else o.ii q 1) := by
  by_cases h : q = n
  · subst h; rw [app_eq, app_eq, if_pos rfl, if_pos rfl]; exact ⟨rfl, rfl⟩
  · have : q < n := by omega
    rw [app_lt this, app_lt this, if_neg h, if_neg h]; exact ⟨rfl, rfl⟩
theorem ag_mrg {s : Nat × Dat} {S B K : Int} (h : Mrg s S B K) {o o' : Dat} (hA : Ag s.1 o s.2) (h1 : ∀ q, q < s.1 → o'.ii q 0 = (if q = s.1 - 1 then o.ii (s.1 - 1) 0 + S else o.ii q 0) ∧ o'.ii q 1 = (if q = s.1 - 1 then B else o.ii q 1) ∧ (q = s.1 - 1 → o'.ii q 2 = K) ∧ (q ≠ s.1 - 1 → o'.ii q 2 = o.ii q 2)) : Ag s.1 o' (stepL s S B K).2 := fun q hq => by
  obtain ⟨u1, u2, u3, u4, u5⟩ := step_mrg h
  obtain ⟨p0, p1, p2, p3⟩ := h1 q hq
  by_cases hh : q = s.1 - 1
  · subst hh
    rw [p0, p1, p2 rfl, if_pos rfl, if_pos rfl, u3, u4, u5, (hA _ hq).1]; exact ⟨rfl, rfl, rfl⟩
  · rw [p0, p1, p3 hh, if_neg hh, if_neg hh, u2 q (by omega), u2 q (by omega), u2 q (by omega)]
    exact hA q hq
theorem ag_app {s : Nat × Dat} {S B K : Int} (h : ¬ Mrg s S B K) {o : Dat} (hA : Ag s.1 o s.2) : Ag (s.1 + 1) (o.app s.1 (datS [SV.int IntKind.i64 S, SV.int IntKind.i64 B, SV.int IntKind.i64 K] 3)) (stepL s S B K).2 := fun q hq => by
  obtain ⟨u1, u2, u3, u4, u5⟩ := step_app h
  obtain ⟨p0, p1, p2⟩ := app3 o s.1 q hq S B K
  rw [p0, p1, p2]
  by_cases hh : q = s.1
  · subst hh
    rw [if_pos rfl, if_pos rfl, if_pos rfl, u3, u4, u5]; exact ⟨rfl, rfl, rfl⟩
  · rw [if_neg hh, if_neg hh, if_neg hh, u2 q (by omega), u2 q (by omega), u2 q (by omega)]
    exact hA q (by omega)
theorem tk_mrg {s : Nat × Dat} {S B K : Int} (h : Mrg s S B K) {t : Dat} (ht : Tk s.1 s.2 t) (x : Int) (hx : x = sm s.2 s.1 + S) : Tk s.1 (stepL s S B K).2 (t.upd s.1 0 [SV.int IntKind.i64 x, SV.int IntKind.i64 B]) := fun q hq => by
  obtain ⟨u1, u2, u3, u4, u5⟩ := step_mrg h
  obtain ⟨m0, _⟩ := h
  obtain ⟨p0, p1⟩ := upd2 t s.1 q x B
  rw [p0, p1]
  have u2' : ∀ q, q < s.1 - 1 → ∀ c, (stepL s S B K).2.ii q c = s.2.ii q c := fun q hq c => u2 q (by omega) c
  by_cases hh : q = s.1
  · subst hh
    rw [if_pos rfl, if_pos rfl, hx]
    obtain ⟨n, hn⟩ : ∃ n, s.1 = n + 1 := ⟨s.1 - 1, by omega⟩
    rw [hn] at u3 u4 ⊢
    rw [Nat.add_sub_cancel] at u3 u4
    rw [hn, Nat.add_sub_cancel] at u2'
    constructor
    · simp only [sm]; rw [sm_eq u2' (Nat.le_refl _), u3]; omega
    · exact u4.symm
  · rw [if_neg hh, if_neg hh, sm_eq u2' (by omega), dp_eq u2' (by omega)]
    exact ht q hq
theorem tk_app {s : Nat × Dat} {S B K : Int} (h : ¬ Mrg s S B K) {t : Dat} (ht : Tk s.1 s.2 t) (x : Int) (hx : x = sm s.2 s.1 + S) : Tk (s.1 + 1) (stepL s S B K).2 (t.app (s.1 + 1) (datS [SV.int IntKind.i64 x, SV.int IntKind.i64 B] 2)) := fun q hq => by
  obtain ⟨u1, u2, u3, u4, u5⟩ := step_app h
  obtain ⟨p0, p1⟩ := app2 t (s.1 + 1) q hq x B
  rw [p0, p1]
  by_cases hh : q = s.1 + 1
  · subst hh
    rw [if_pos rfl, if_pos rfl, hx]
    constructor
    · simp only [sm]; rw [sm_eq u2 (Nat.le_refl _), u3]
    · exact u4.symm
  · rw [if_neg hh, if_neg hh, sm_eq u2 (by omega), dp_eq u2 (by omega)]
    exact ht q (by omega)
theorem lst_next (g e : Dat) (i : Nat) : lst g e (i + 1) = stepL (lst g e i) (e.ii i 0) (e.ii i 1) (gk g e i) := rfl
theorem ni_bnd (P : Pln a b ng g L e) {i : Nat} (hi : i ≤ L) {s : Nat × Dat} (I : NI g e i s) : ∀ {q : Nat}, q ≤ s.1 → (0 ≤ sm s.2 q ∧ sm s.2 q ≤ 1000000) ∧ (0 ≤ dp s.2 q ∧ dp s.2 q ≤ 30000) := by
  have nn : ∀ q, q ≤ s.1 → 0 ≤ sm s.2 q := fun q => by
    induction q with
    | zero => exact fun _ => Int.le_refl _
    | succ q ih => intro h; have := ih (by omega); have := (I.ok q (by omega)).1; simp only [sm]; omega
  have mono : ∀ k q, q + k = s.1 → sm s.2 q ≤ sm s.2 s.1 := fun k => by
    induction k with
    | zero => intro q h; rw [show q = s.1 by omega]; exact Int.le_refl _
    | succ k ih =>
      intro q h
      have a := ih (q + 1) (by omega)
      have b := (I.ok q (by omega)).1
      simp only [sm] at a; omega
  have tot := P.sum i hi
  rw [← I.sum] at tot
  intro q hq
  have := mono (s.1 - q) q (by omega)
  refine ⟨⟨nn q hq, by omega⟩, ?_⟩
  cases q with
  | zero => exact ⟨by simp only [dp]; decide, by simp only [dp]; decide⟩
  | succ q => exact (I.ok q (by omega)).2.1
theorem prod_bnd {x y : Int} (hx : -30000 ≤ x ∧ x ≤ 30000) (hy : 0 ≤ y ∧ y ≤ 1000000) : IntKind.i64.wrap (x * y) = x * y := by
  by_cases h : 0 ≤ x
  · have := mulb h hx.2 hy.1 hy.2
    exact wr (by omega) (by omega)
  · have := mulb (show 0 ≤ -x by omega) (show -x ≤ 30000 by omega) hy.1 hy.2
    rw [Int.neg_mul] at this
    exact wr (by omega) (by omega)
theorem norm_run (P : Pln a b ng g L e) (p1 : ByteArray) (p2 : Int) : ∀ (k i f : Nat) (t o : Dat), i + k = L → k < f → Ag (lst g e i).1 o (lst g e i).2 → Tk (lst g e i).1 (lst g e i).2 t →
    ∃ t' o', l73_0 L e (L : Int) a b ng g e p1 p2 a b f ((lst g e i).1 + 1) (i : Int) (gst g e i).1 (lst g e i).1 t (gst g e i).2 o = some ((gst g e L).1, (lst g e L).1, (lst g e L).1 + 1, t', (gst g e L).1, (gst g e L).2, (lst g e L).1, o') ∧ Ag (lst g e L).1 o' (lst g e L).2
  | 0, i, f, t, o, hi, hf, hA, hT => by
    obtain ⟨f, rfl⟩ : ∃ f0, f = f0 + 1 := ⟨f - 1, by omega⟩
    obtain rfl : i = L := by omega
    exact ⟨t, o, by simp only [l73_0, cdn]; rfl, hA⟩
  | k + 1, i, f, t, o, hi, hf, hA, hT => by
    obtain ⟨f, rfl⟩ : ∃ f0, f = f0 + 1 := ⟨f - 1, by omega⟩
    have hlt : i < L := by omega
    have hL := P.legs
    have hl : ∀ j, j < L → LegOk ng e j := P.leg
    have I := ni_all (g := g) hl i (by omega)
    have G := gst_ok (g := g) hl i (by omega)
    obtain ⟨⟨l1, l2⟩, ⟨l3, l4⟩, l5, l6⟩ := hl i hlt
    have cn : (lst g e i).1 ≤ 60 := by have := I.cnt; omega
    have cg : (gst g e i).1 ≤ 60 := by have := G.le; omega
    obtain ⟨f98, m98e⟩ := m98_fnd (n := (gst g e i).1) (by omega) (gst g e i).2 (gx g e i) (gy g e i)
    have zg : decide (0 ≤ e.ii i 2 ∧ e.ii i 2 < (ng : Int)) = true := decide_eq_true ⟨l5, l6⟩
    have hb := fun {q} (hq : q ≤ (lst g e i).1) => ni_bnd P (show i ≤ L by omega) I hq
    have tot : sm (lst g e i).2 (lst g e i).1 + e.ii i 0 ≤ 1000000 := by
      have := P.sum (i + 1) (by omega); rw [I.sum]; exact this
    have wn : IntKind.i64.wrap ((((lst g e i).1 + 1 : Nat) : Int) - 1) = ((lst g e i).1 : Int) := by rw [wr (by omega) (by omega)]; omega
    have n62t : n62 ((lst g e i).1 + 1) t = true := by simp only [n62, wn, decide_eq_true (show 0 ≤ ((lst g e i).1 : Int) ∧ ((lst g e i).1 : Int) < (((lst g e i).1 + 1 : Nat) : Int) by omega)]; rfl
    have m62e : m62 ((lst g e i).1 + 1) t = sm (lst g e i).2 (lst g e i).1 := by simp only [m62, wn, Int.toNat_natCast]; exact (hT _ (by omega)).1
    have we : IntKind.i64.wrap (sm (lst g e i).2 (lst g e i).1 + e.ii i 0) = sm (lst g e i).2 (lst g e i).1 + e.ii i 0 := by
      have := hb (Nat.le_refl _); exact wr (by omega) (by omega)
    have z8 : decide ((lst g e i).1 + 1 ≤ 1073741824) = true := decide_eq_true (by omega)
    have z9 : decide ((lst g e i).1 + 1 + 1 ≤ 1073741824) = true := decide_eq_true (by omega)
    have z7 : decide ((gst g e i).1 + 1 ≤ 1073741824) = true := decide_eq_true (by omega)
    have x1 : (gst g e i).2.app (gst g e i).1 (datS [SV.int IntKind.i64 (g.ii (e.ii i 2).toNat 0), SV.int IntKind.i64 (g.ii (e.ii i 2).toNat 1)] 2) = (gst g e i).2.app (gst g e i).1 (datS [SV.int IntKind.i64 (gx g e i), SV.int IntKind.i64 (gy g e i)] 2) := rfl
    have m98e' : m98 (gst g e i).1 (gst g e i).2 (g.ii (e.ii i 2).toNat 0) (g.ii (e.ii i 2).toNat 1) = fndG (gst g e i).1 (gst g e i).2 (gx g e i) (gy g e i) := m98e
    have f98' : n98 (gst g e i).1 (gst g e i).2 (g.ii (e.ii i 2).toNat 0) (g.ii (e.ii i 2).toNat 1) = true := f98
    have mrgB : 0 < (lst g e i).1 → (m99 (t.ii ((lst g e i).1 - 1) 0) (t.ii ((lst g e i).1 - 1) 1) (t.ii (lst g e i).1 0) (t.ii (lst g e i).1 1) (sm (lst g e i).2 (lst g e i).1 + e.ii i 0) (e.ii i 1) = decide ((dp (lst g e i).2 (lst g e i).1 - dp (lst g e i).2 ((lst g e i).1 - 1)) * e.ii i 0 = (e.ii i 1 - dp (lst g e i).2 (lst g e i).1) * (lst g e i).2.ii ((lst g e i).1 - 1) 0)) := fun h0 => by
      have b0 := hb (show (lst g e i).1 - 1 ≤ (lst g e i).1 by omega)
      have b1 := hb (Nat.le_refl (lst g e i).1)
      have t0 := hT ((lst g e i).1 - 1) (by omega); have t1 := hT (lst g e i).1 (by omega)
      have so : sm (lst g e i).2 (lst g e i).1 = sm (lst g e i).2 ((lst g e i).1 - 1) + (lst g e i).2.ii ((lst g e i).1 - 1) 0 := by
        obtain ⟨n, hn⟩ : ∃ n, (lst g e i).1 = n + 1 := ⟨(lst g e i).1 - 1, by omega⟩
        rw [hn]; rfl
      have ok := (I.ok ((lst g e i).1 - 1) (by omega)).1
      have sub1 : sm (lst g e i).2 (lst g e i).1 - sm (lst g e i).2 ((lst g e i).1 - 1) = (lst g e i).2.ii ((lst g e i).1 - 1) 0 := by omega
      have sub2 : sm (lst g e i).2 (lst g e i).1 + e.ii i 0 - sm (lst g e i).2 (lst g e i).1 = e.ii i 0 := by omega
      simp only [m99, t0.1, t0.2, t1.1, t1.2]
      rw [sub1, sub2, wr (n := e.ii i 0) (by omega) (by omega), wr (n := (lst g e i).2.ii ((lst g e i).1 - 1) 0) (by omega) (by omega), wr (n := dp (lst g e i).2 (lst g e i).1 - dp (lst g e i).2 ((lst g e i).1 - 1)) (by omega) (by omega), wr (n := e.ii i 1 - dp (lst g e i).2 (lst g e i).1) (by omega) (by omega), prod_bnd (by omega) (by omega), prod_bnd (by omega) (by omega)]
    have last2 : 0 < (lst g e i).1 → o.ii ((lst g e i).1 - 1) 2 = (lst g e i).2.ii ((lst g e i).1 - 1) 2 := fun h => (hA _ (by omega)).2.2
    have last0 : 0 < (lst g e i).1 → o.ii ((lst g e i).1 - 1) 0 = (lst g e i).2.ii ((lst g e i).1 - 1) 0 := fun h => (hA _ (by omega)).1
    have next := lst_next g e i
    generalize hs : lst g e i = s at *
    have A1 : 0 < s.1 → IntKind.i64.wrap ((s.1 : Int) - 1) = (s.1 : Int) - 1 := fun h => wr (by omega) (by omega)
    have A2 : ((s.1 : Int) - 1).toNat = s.1 - 1 := by omega
    have A3 : 0 < s.1 → decide (0 ≤ (s.1 : Int) - 1 ∧ (s.1 : Int) - 1 < (s.1 : Int)) = true := fun h => decide_eq_true ⟨by omega, by omega⟩
    have A4 : 0 < s.1 → decide (s.1 - 1 < s.1) = true := fun h => decide_eq_true (by omega)
    have A5 : 0 < s.1 → decide (0 ≤ (s.1 : Int) - 1 ∧ (s.1 : Int) - 1 < ((s.1 + 1 : Nat) : Int)) = true := fun h => decide_eq_true ⟨by omega, by omega⟩
    have A6 : decide (s.1 - 1 < s.1 + 1) = true := decide_eq_true (by omega)
    have A7 : decide (0 ≤ (s.1 : Int) ∧ (s.1 : Int) < ((s.1 + 1 : Nat) : Int)) = true := decide_eq_true ⟨by omega, by omega⟩
    have A8 : decide (s.1 < s.1 + 1) = true := decide_eq_true (by omega)
    have A9 : 0 < s.1 → decide ((0 : Int) < (s.1 : Int)) = true := fun h => decide_eq_true (by omega)
    rcases gk_step (g := g) hl hlt with ⟨g1, g2⟩ | ⟨g1, g2⟩
    · have gn := gst_more g1
      have ih := fun t' o' => norm_run P p1 p2 k (i + 1) f t' o' (by omega) (by omega)
      rw [next, gn] at ih
      by_cases hm : Mrg s (e.ii i 0) (e.ii i 1) (gk g e i)
      · have h0 := hm.1
        obtain ⟨u1, _⟩ := step_mrg hm
        have q2 : o.ii (s.1 - 1) 2 = ((gst g e i).1 : Int) := by rw [last2 h0, hm.2.1, g2]
        have w0 : IntKind.i64.wrap (o.ii (s.1 - 1) 0 + e.ii i 0) = o.ii (s.1 - 1) 0 + e.ii i 0 := by
          have := hb (Nat.le_refl s.1); have ok := (I.ok (s.1 - 1) (by omega)).1
          have so : sm s.2 s.1 = sm s.2 (s.1 - 1) + s.2.ii (s.1 - 1) 0 := by
            obtain ⟨n, hn⟩ : ∃ n, s.1 = n + 1 := ⟨s.1 - 1, by omega⟩
            rw [hn]; rfl
          have := hb (show s.1 - 1 ≤ s.1 by omega)
          rw [last0 h0]; exact wr (by omega) (by omega)
        have hag : Ag s.1 ((o.upd (s.1 - 1) 0 [SV.int IntKind.i64 (o.ii (s.1 - 1) 0 + e.ii i 0)]).upd (s.1 - 1) 1 [SV.int IntKind.i64 (e.ii i 1)]) (stepL s (e.ii i 0) (e.ii i 1) (gk g e i)).2 := ag_mrg hm hA fun q hq => by
          obtain ⟨v0, v1, v2⟩ := upd1 o (s.1 - 1) q (o.ii (s.1 - 1) 0 + e.ii i 0) (e.ii i 1)
          exact ⟨v0, v1, fun hh => by rw [v2, hh, q2, g2], fun _ => v2⟩
        obtain ⟨t', o', r1, r2⟩ := ih (t.upd s.1 0 [SV.int IntKind.i64 (sm s.2 s.1 + e.ii i 0), SV.int IntKind.i64 (e.ii i 1)]) ((o.upd (s.1 - 1) 0 [SV.int IntKind.i64 (o.ii (s.1 - 1) 0 + e.ii i 0)]).upd (s.1 - 1) 1 [SV.int IntKind.i64 (e.ii i 1)]) (by rw [u1]; exact hag) (by rw [u1]; exact tk_mrg hm hT _ rfl)
        refine ⟨t', o', ?_, r2⟩
        rw [u1] at r1
        simp only [l73_0, cdl hlt, cdd hlt, Int.toNat_natCast, Nat.zero_add, Nat.le_refl, decide_true, zg, f98', m98e', decide_eq_true g1, z7, n62t, m62e, we, A1 h0, A2, A3 h0, A4 h0, A5 h0, A6, A7, A8, A9 h0, q2, mrgB h0, decide_eq_true hm.2.2, w0, x1, cond_true, cond_false, Bool.cond_self, wrS hlt (by omega)]
        exact r1
      · obtain ⟨u1, _⟩ := step_app hm
        obtain ⟨t', o', r1, r2⟩ := ih (t.app (s.1 + 1) (datS [SV.int IntKind.i64 (sm s.2 s.1 + e.ii i 0), SV.int IntKind.i64 (e.ii i 1)] 2)) (o.app s.1 (datS [SV.int IntKind.i64 (e.ii i 0), SV.int IntKind.i64 (e.ii i 1), SV.int IntKind.i64 ((gst g e i).1 : Int)] 3)) (by rw [u1]; have := ag_app hm hA; rw [g2] at this ⊢; exact this) (by rw [u1]; exact tk_app hm hT _ rfl)
        refine ⟨t', o', ?_, r2⟩
        rw [u1] at r1
        by_cases h0 : 0 < s.1
        · have nm : (bif (bif decide ((0 : Int) < (s.1 : Int)) then decide (o.ii (s.1 - 1) 2 = ((gst g e i).1 : Int)) else false) then decide ((dp s.2 s.1 - dp s.2 (s.1 - 1)) * e.ii i 0 = (e.ii i 1 - dp s.2 s.1) * s.2.ii (s.1 - 1) 0) else false) = false := by
            rw [A9 h0]
            by_cases c1 : o.ii (s.1 - 1) 2 = ((gst g e i).1 : Int)
            · rw [decide_eq_true c1]
              exact decide_eq_false fun c2 => hm ⟨h0, by rw [← last2 h0, c1, g2], c2⟩
            · rw [decide_eq_false c1]; rfl
          simp only [l73_0, cdl hlt, cdd hlt, Int.toNat_natCast, Nat.zero_add, Nat.le_refl, decide_true, zg, f98', m98e', decide_eq_true g1, z7, z8, z9, n62t, m62e, we, A1 h0, A2, A3 h0, A4 h0, A5 h0, A6, A7, A8, mrgB h0, nm, x1, cond_true, cond_false, Bool.cond_self, wrS hlt (by omega)]
          exact r1
        · have h0' : decide ((0 : Int) < (s.1 : Int)) = false := decide_eq_false (by omega)
          simp only [l73_0, cdl hlt, cdd hlt, Int.toNat_natCast, Nat.zero_add, Nat.le_refl, decide_true, zg, f98', m98e', decide_eq_true g1, z7, z8, z9, n62t, m62e, we, A7, A8, h0', x1, cond_true, cond_false, Bool.cond_self, wrS hlt (by omega)]
          exact r1
    · have gn := gst_same g1
      have ih := fun t' o' => norm_run P p1 p2 k (i + 1) f t' o' (by omega) (by omega)
      rw [next, gn] at ih
      by_cases hm : Mrg s (e.ii i 0) (e.ii i 1) (gk g e i)
      · have h0 := hm.1
        obtain ⟨u1, _⟩ := step_mrg hm
        have q2 : o.ii (s.1 - 1) 2 = fndG (gst g e i).1 (gst g e i).2 (gx g e i) (gy g e i) := by rw [last2 h0, hm.2.1, g2]
        have w0 : IntKind.i64.wrap (o.ii (s.1 - 1) 0 + e.ii i 0) = o.ii (s.1 - 1) 0 + e.ii i 0 := by
          have := hb (Nat.le_refl s.1); have ok := (I.ok (s.1 - 1) (by omega)).1
          have so : sm s.2 s.1 = sm s.2 (s.1 - 1) + s.2.ii (s.1 - 1) 0 := by
            obtain ⟨n, hn⟩ : ∃ n, s.1 = n + 1 := ⟨s.1 - 1, by omega⟩
            rw [hn]; rfl
          have := hb (show s.1 - 1 ≤ s.1 by omega)
          rw [last0 h0]; exact wr (by omega) (by omega)
        have hag : Ag s.1 ((o.upd (s.1 - 1) 0 [SV.int IntKind.i64 (o.ii (s.1 - 1) 0 + e.ii i 0)]).upd (s.1 - 1) 1 [SV.int IntKind.i64 (e.ii i 1)]) (stepL s (e.ii i 0) (e.ii i 1) (gk g e i)).2 := ag_mrg hm hA fun q hq => by
          obtain ⟨v0, v1, v2⟩ := upd1 o (s.1 - 1) q (o.ii (s.1 - 1) 0 + e.ii i 0) (e.ii i 1)
          exact ⟨v0, v1, fun hh => by rw [v2, hh, q2, g2], fun _ => v2⟩
        obtain ⟨t', o', r1, r2⟩ := ih (t.upd s.1 0 [SV.int IntKind.i64 (sm s.2 s.1 + e.ii i 0), SV.int IntKind.i64 (e.ii i 1)]) ((o.upd (s.1 - 1) 0 [SV.int IntKind.i64 (o.ii (s.1 - 1) 0 + e.ii i 0)]).upd (s.1 - 1) 1 [SV.int IntKind.i64 (e.ii i 1)]) (by rw [u1]; exact hag) (by rw [u1]; exact tk_mrg hm hT _ rfl)
        refine ⟨t', o', ?_, r2⟩
        rw [u1] at r1
        simp only [l73_0, cdl hlt, cdd hlt, Int.toNat_natCast, Nat.zero_add, Nat.le_refl, decide_true, zg, f98', m98e', decide_eq_false g1, z7, n62t, m62e, we, A1 h0, A2, A3 h0, A4 h0, A5 h0, A6, A7, A8, A9 h0, q2, mrgB h0, decide_eq_true hm.2.2, w0, x1, cond_true, cond_false, Bool.cond_self, wrS hlt (by omega)]
        exact r1
      · obtain ⟨u1, _⟩ := step_app hm
        obtain ⟨t', o', r1, r2⟩ := ih (t.app (s.1 + 1) (datS [SV.int IntKind.i64 (sm s.2 s.1 + e.ii i 0), SV.int IntKind.i64 (e.ii i 1)] 2)) (o.app s.1 (datS [SV.int IntKind.i64 (e.ii i 0), SV.int IntKind.i64 (e.ii i 1), SV.int IntKind.i64 (fndG (gst g e i).1 (gst g e i).2 (gx g e i) (gy g e i))] 3)) (by rw [u1]; have := ag_app hm hA; rw [g2] at this ⊢; exact this) (by rw [u1]; exact tk_app hm hT _ rfl)
        refine ⟨t', o', ?_, r2⟩
        rw [u1] at r1
        by_cases h0 : 0 < s.1
        · have nm : (bif (bif decide ((0 : Int) < (s.1 : Int)) then decide (o.ii (s.1 - 1) 2 = fndG (gst g e i).1 (gst g e i).2 (gx g e i) (gy g e i)) else false) then decide ((dp s.2 s.1 - dp s.2 (s.1 - 1)) * e.ii i 0 = (e.ii i 1 - dp s.2 s.1) * s.2.ii (s.1 - 1) 0) else false) = false := by
            rw [A9 h0]
            by_cases c1 : o.ii (s.1 - 1) 2 = fndG (gst g e i).1 (gst g e i).2 (gx g e i) (gy g e i)
            · rw [decide_eq_true c1]
              exact decide_eq_false fun c2 => hm ⟨h0, by rw [← last2 h0, c1, g2], c2⟩
            · rw [decide_eq_false c1]; rfl
          simp only [l73_0, cdl hlt, cdd hlt, Int.toNat_natCast, Nat.zero_add, Nat.le_refl, decide_true, zg, f98', m98e', decide_eq_false g1, z7, z8, z9, n62t, m62e, we, A1 h0, A2, A3 h0, A4 h0, A5 h0, A6, A7, A8, mrgB h0, nm, x1, cond_true, cond_false, Bool.cond_self, wrS hlt (by omega)]
          exact r1
        · have h0' : decide ((0 : Int) < (s.1 : Int)) = false := decide_eq_false (by omega)
          simp only [l73_0, cdl hlt, cdd hlt, Int.toNat_natCast, Nat.zero_add, Nat.le_refl, decide_true, zg, f98', m98e', decide_eq_false g1, z7, z8, z9, n62t, m62e, we, A7, A8, h0', x1, cond_true, cond_false, Bool.cond_self, wrS hlt (by omega)]
          exact r1
end
end Go.Proofs.YtchhhoamnagbfaaDoor
namespace Go.Proofs.YtchhhoamnagbfaaDoor
open Go Go.Sy
set_option linter.unusedVariables false
set_option linter.unusedSimpArgs false
set_option maxRecDepth 100000
section
variable {a : ByteArray} {b : Int} {ng : Nat} {g : Dat} {L : Nat} {e : Dat}
def IsNf (a : ByteArray) (b : Int) (g : Dat) (L : Nat) (e : Dat) (r : ByteArray × Int × Nat × Dat × Nat × Dat) : Prop :=
  r.1 = a ∧ r.2.1 = b ∧ r.2.2.1 = (if L = 0 then 1 else (gst g e L).1) ∧ (∀ q, q < r.2.2.1 → r.2.2.2.1.ii q 0 = (if L = 0 then g.ii 0 0 else (gst g e L).2.ii q 0) ∧ r.2.2.2.1.ii q 1 = (if L = 0 then g.ii 0 1 else (gst g e L).2.ii q 1)) ∧ r.2.2.2.2.1 = (lst g e L).1 ∧ Ag (lst g e L).1 r.2.2.2.2.2 (lst g e L).2
theorem normal_ok (P : Pln a b ng g L e) : n73 a b ng g L e = true ∧ IsNf a b g L e (m73 a b ng g L e) := by
  have hL := P.legs; have big := P.small; have hfew := P.few; have hsome := P.some
  obtain ⟨t', o', r1, r2⟩ := norm_run P (({ data := #[] } : ByteArray)) 0 L 0 (1 + L + (L : Int).toNat + Int.toNat 0 + a.size + b.toNat + ng + (({ data := #[] } : ByteArray)).size + Int.toNat 0 + a.size + b.toNat + 0 + 0 + 8) (datS [SV.int IntKind.i64 0, SV.int IntKind.i64 0] 2) noDat (by omega) (by omega) (fun q hq => absurd hq (Nat.not_lt_zero _)) (fun q hq => by
    obtain rfl : q = 0 := by have : q < 0 + 1 := hq; omega
    exact ⟨rfl, rfl⟩)
  have h : o73_0 L e (L : Int) a b ng g e (({ data := #[] } : ByteArray)) 0 a b 1 0 0 0 (datS [SV.int IntKind.i64 0, SV.int IntKind.i64 0] 2) noDat noDat = some ((gst g e L).1, (lst g e L).1, (lst g e L).1 + 1, t', (gst g e L).1, (gst g e L).2, (lst g e L).1, o') := r1
  have z0 : decide ((0 : Int) ≤ (0 : Int) ∧ (0 : Int) < (ng : Int)) = true := decide_eq_true (by omega)
  by_cases h0 : L = 0
  · subst h0
    have hn : (lst g e 0).1 = 0 := rfl
    have z1 : decide (((0 : Nat) : Int) = 0) = true := rfl
    refine ⟨by simp only [n73, h, hn, z0, z1, Option.getD_some, Option.isSome_some, cond_true, Nat.le_refl, Nat.zero_add, decide_true, Bool.and_self], ?_⟩
    simp only [m73, h, hn, z1, Option.getD_some, cond_true]
    refine ⟨rfl, rfl, rfl, fun q hq => ?_, rfl, r2⟩
    obtain rfl : q = 0 := by have : q < 1 := hq; omega
    exact ⟨rfl, rfl⟩
  · have I := ni_all (g := g) P.leg L (Nat.le_refl _)
    have hp := I.pos (by omega)
    have z1 : decide (((lst g e L).1 : Int) = 0) = false := decide_eq_false (by omega)
    refine ⟨by simp only [n73, h, z1, Option.getD_some, Option.isSome_some, cond_false, Nat.le_refl, Nat.zero_add, decide_true, Bool.and_self], ?_⟩
    simp only [m73, h, z1, Option.getD_some, cond_false]
    exact ⟨rfl, rfl, (if_neg h0).symm, fun q hq => by simp only [if_neg h0]; exact ⟨trivial, trivial⟩, rfl, r2⟩
end
end Go.Proofs.YtchhhoamnagbfaaDoor
namespace Go.Proofs.YtchhhoamnagbfaaDoor
open Go Go.Sy
set_option linter.unusedVariables false
set_option linter.unusedSimpArgs false
set_option maxRecDepth 100000
def On (L : Nat) (e : Dat) (s : Int) (r : Nat) : Prop := r < L ∧ sm e r < s ∧ s ≤ sm e (r + 1)
def Ln (e : Dat) (r : Nat) (s : Int) : Int := dp e r * (sm e (r + 1) - s) + dp e (r + 1) * (s - sm e r)
section
variable {a : ByteArray} {b : Int} {ng : Nat} {g : Dat} {L : Nat} {e : Dat}
theorem Pln.lt (P : Pln a b ng g L e) : ∀ {i j : Nat}, i < j → j ≤ L → sm e i < sm e j
  | i, 0, h, _ => absurd h (Nat.not_lt_zero _)
  | i, j + 1, h, hj => by
    have l := P.leg0 (show j < L by omega)
    have s : sm e (j + 1) = sm e j + e.ii j 0 := rfl
    by_cases hh : i = j
    · subst hh; omega
    · have := P.lt (i := i) (j := j) (by omega) (by omega); omega
theorem Pln.le (P : Pln a b ng g L e) {i j : Nat} (h : i ≤ j) (hj : j ≤ L) : sm e i ≤ sm e j := by
  by_cases hh : i = j
  · subst hh; exact Int.le_refl _
  · exact Int.le_of_lt (P.lt (by omega) hj)
theorem On.one (P : Pln a b ng g L e) {s : Int} {r r' : Nat} (h : On L e s r) (h' : On L e s r') : r = r' := by
  rcases Nat.lt_trichotomy r r' with c | c | c
  · have := P.le (show r + 1 ≤ r' by omega) (by have := h'.1; omega); have := h.2.2; have := h'.2.1; omega
  · exact c
  · have := P.le (show r' + 1 ≤ r by omega) (by have := h.1; omega); have := h'.2.2; have := h.2.1; omega
end
section
variable {a : ByteArray} {b : Int} {ng : Nat} {g : Dat} {L : Nat} {e : Dat} {a' : ByteArray} {b' : Int} {ng' : Nat} {g' : Dat} {L' : Nat} {e' : Dat}
end
end Go.Proofs.YtchhhoamnagbfaaDoor
namespace Go.Proofs.YtchhhoamnagbfaaDoor
open Go Go.Sy
set_option linter.unusedVariables false
set_option linter.unusedSimpArgs false
set_option maxRecDepth 100000
section
variable {a : ByteArray} {b : Int} {ng : Nat} {g : Dat} {L : Nat} {e : Dat}
theorem pln_trk (P : Pln a b ng g L e) {D : Dat} (hD : PtsOf e (L + 1) D) (h : 0 < L) : Trk (L + 1) D := by
  have hL := P.legs
  refine ⟨by omega, by omega, fun i hi => ?_, fun i hi => ?_, fun i hi => ?_⟩
  · rw [(hD i hi).1]; have := P.nonneg (show i ≤ L by omega); have := P.sum i (by omega); omega
  · rw [(hD i hi).2]; exact P.dep (by omega)
  · rw [(hD i (by omega)).1, (hD (i + 1) hi).1]; exact P.lt (by omega) (by omega)
theorem plan_at (P : Pln a b ng g L e) {D : Dat} (hD : PtsOf e (L + 1) D) {s : Int} (h0 : 0 ≤ s) (h1 : s ≤ sm e L) : n53 (L + 1) D s = true ∧ (1 ≤ (m53 (L + 1) D s).2 ∧ (m53 (L + 1) D s).2 ≤ 1000001) ∧ (0 ≤ (m53 (L + 1) D s).1 ∧ (m53 (L + 1) D s).1 ≤ 30000030000) ∧ (s = 0 → m53 (L + 1) D s = (0, 1)) ∧
    (0 < s → ∃ r, On L e s r ∧ n79 (L + 1) D s = true ∧ m79 (L + 1) D s = ((r + 1 : Nat) : Int) ∧ (m53 (L + 1) D s).1 * e.ii r 0 = Ln e r s * (m53 (L + 1) D s).2) := by
  by_cases hL0 : L = 0
  · subst hL0
    have hs : s = 0 := by have : sm e 0 = 0 := rfl; omega
    subst hs
    have d0 := hD 0 (by decide)
    have z : D.ii 0 0 = 0 := d0.1
    have z1 : D.ii 0 1 = 0 := d0.2
    have o79 : o100c101_0 (((0 + 1 : Nat) : Int) - 1).toNat (D.shift 1) (datC [SV.int IntKind.i64 0]) ((((((0 + 1 : Nat) : Int) - 1).toNat : Nat) : Int)) 0 = some (false, default, ()) := by kernel_rfl
    have m79e : m79 (0 + 1) D 0 = 0 := by
      simp only [m79, m100c101, o79, Option.getD_some, cond_false]; decide
    have n79e : n79 (0 + 1) D 0 = true := by
      simp only [n79, n100c101, o79, Option.isSome_some]; rfl
    have e53 : m53 (0 + 1) D 0 = (0, 1) := by simp only [m53, m79e, z, z1, decide_true, cond_true]
    refine ⟨by simp only [n53, n79e, m79e, z, decide_true, cond_true, cond_false, Bool.cond_self]; rfl, by rw [e53]; exact ⟨by decide, by decide⟩, by rw [e53]; exact ⟨by decide, by decide⟩, fun _ => e53, fun h => absurd h (Int.lt_irrefl _)⟩
  · have T := pln_trk P hD (by omega)
    have hL := P.legs
    have z0 : D.ii 0 0 = 0 := (hD 0 (by omega)).1
    have zL : D.ii (L + 1 - 1) 0 = sm e L := (hD L (by omega)).1
    obtain ⟨a1, a2⟩ := at_ok T (x := s) (by rw [z0]; exact h0) (by rw [zL]; exact h1)
    have bd := a2.bnd T
    refine ⟨a1, bd.1, ⟨bd.2.1, by omega⟩, fun hs => ?_, fun hs => ?_⟩
    · subst hs
      have := a2
      rw [← z0] at this
      obtain ⟨u1, u2⟩ := this.at_point T (k := 0) (by omega)
      have d1 : D.ii 0 1 = 0 := (hD 0 (by omega)).2
      rw [z0] at u1 u2
      rw [d1] at u1
      exact Prod.ext u1 u2
    · obtain ⟨l1, r, r1, r2, r3, r4, r5⟩ := leg_ok T (x := s) (by rw [zL]; exact h1)
      have on : On L e s (r - 1) := by
        refine ⟨by omega, ?_, ?_⟩
        · by_cases hr : r = 1
          · subst hr; exact hs
          · have := r4 (r - 1) (by omega) (by omega)
            rw [(hD (r - 1) (by omega)).1] at this; exact this
        · rw [show r - 1 + 1 = r by omega, ← (hD r r2).1]; exact r3
      refine ⟨r - 1, on, l1, by rw [r5]; congr 1; omega, ?_⟩
      have es : sm e (r - 1 + 1) = sm e (r - 1) + e.ii (r - 1) 0 := rfl
      unfold Ln
      rcases a2 with ⟨k, hk, q1, q2, q3⟩ | ⟨k, hk, q1, q2, q3, q4⟩
      · rw [(hD k hk).1] at q1
        have hkr : k = r - 1 + 1 := by
          obtain ⟨o1, o2, o3⟩ := on
          rcases Nat.lt_trichotomy k (r - 1 + 1) with c | c | c
          · have := P.le (show k ≤ r - 1 by omega) (by omega); omega
          · exact c
          · have := P.lt (show r - 1 + 1 < k by omega) (by omega); omega
        rw [q2, q3, (hD k hk).2, Int.mul_one, q1, hkr, Int.sub_self, Int.mul_zero, Int.zero_add, show sm e (r - 1 + 1) - sm e (r - 1) = e.ii (r - 1) 0 by omega]
      · rw [(hD k (by omega)).1] at q1
        rw [(hD (k + 1) hk).1] at q2
        have onk : On L e s k := ⟨by omega, q1, Int.le_of_lt q2⟩
        obtain rfl := onk.one P on
        rw [q3, q4, (hD (r - 1) (by omega)).1, (hD (r - 1 + 1) hk).1, (hD (r - 1) (by omega)).2, (hD (r - 1 + 1) hk).2, show sm e (r - 1 + 1) - sm e (r - 1) = e.ii (r - 1) 0 by omega]
theorem followed_ok (ha : a.size ≤ 9223372036854775807) (hg : ng ≤ 9223372036854775807) (hL : L ≤ 9223372036854775807) (s : Int) : n78 a b ng g L e s = true ∧
    (((m25 a b ng g L e).2 ≠ 0 ∧ m78 a b ng g L e s = (0, noDat, (m25 a b ng g L e).2)) ∨ (Pln a b ng g L e ∧ ¬ (0 ≤ s ∧ s ≤ sm e L) ∧ m78 a b ng g L e s = (0, noDat, 2)) ∨ (Pln a b ng g L e ∧ (0 ≤ s ∧ s ≤ sm e L) ∧ ∃ D, PtsOf e (L + 1) D ∧ m78 a b ng g L e s = (L + 1, D, 0))) := by
  obtain ⟨o1, o2⟩ := one_plan a b ng g L e ha hg hL
  obtain ⟨p1, p2, p3, p4, p5⟩ := plan_ok a b ng g L e ha hg hL
  by_cases hz : (m25 a b ng g L e).2 = 0
  · have P := p4 hz
    rw [hz] at o2
    obtain ⟨t1, D, t2, t3⟩ := track_ok P
    obtain ⟨e1, e2⟩ := end_ok P t3
    refine ⟨by simp only [n78, o1, o2, t1, t2, e1, decide_true, cond_true, cond_false, Bool.and_self], .inr ?_⟩
    by_cases hs : 0 ≤ s ∧ s ≤ sm e L
    · exact .inr ⟨P, hs, D, t3, by simp only [m78, o2, t2, e2, m52_iff.2 hs, decide_true, cond_true, cond_false]⟩
    · exact .inl ⟨P, hs, by simp only [m78, o2, t2, e2, m52_no hs, decide_true, cond_true, cond_false]⟩
  · refine ⟨by simp only [n78, o1, o2, decide_eq_false hz, cond_true, cond_false, Bool.and_self], .inl ⟨hz, by simp only [m78, o2, decide_eq_false hz, cond_true, cond_false]⟩⟩
theorem whole_iff {X W : Int} (hX : 0 ≤ X ∧ X ≤ 30000030000) (hW : 1 ≤ W ∧ W ≤ 1000001) : n54 X W = true ∧ ((m54 X W).1 = (m54 X W).2 → (m54 X W).1 * W = X) ∧ (∀ d, d * W = X → m54 X W = (d, d)) := by
  have q0 := Int.ediv_nonneg hX.1 (show 0 ≤ W by omega)
  have q1 := Int.ediv_le_self W hX.1
  have q2 := Int.ediv_nonneg (show 0 ≤ X + W - 1 by omega) (show 0 ≤ W by omega)
  have q3 := Int.ediv_le_self W (show 0 ≤ X + W - 1 by omega)
  have e54 : m54 X W = (X / W, (X + W - 1) / W) := by
    simp only [m54]
    rw [wr (n := X + W) (by omega) (by omega), wr (n := X + W - 1) (by omega) (by omega), Int.tdiv_eq_ediv_of_nonneg hX.1, Int.tdiv_eq_ediv_of_nonneg (by omega), wr (n := X / W) (by omega) (by omega), wr (n := (X + W - 1) / W) (by omega) (by omega)]
  have a1 := Int.mul_ediv_add_emod X W
  have a2 := Int.emod_nonneg X (show W ≠ 0 by omega)
  have a3 := Int.mul_ediv_add_emod (X + W - 1) W
  have a4 := Int.emod_lt_of_pos (X + W - 1) (show 0 < W by omega)
  refine ⟨(round_ne (by omega)).1, fun h => ?_, fun d hd => ?_⟩
  · rw [e54] at h ⊢
    simp only at h ⊢
    rw [← h] at a3
    rw [Int.mul_comm]; omega
  · rw [e54]
    have d1 : X / W = d := by rw [← hd]; exact Int.mul_ediv_cancel d (by omega)
    have d2 : (X + W - 1) / W = d := by
      refine ((Int.ediv_emod_unique (r := W - 1) (show 0 < W by omega)).2 ⟨?_, by omega, by omega⟩).1
      rw [← hd, Int.mul_comm W d]; omega
    rw [d1, d2]
theorem frac_cancel {X W Y T d : Int} (hW : 0 < W) (hT : 0 < T) (h : X * T = Y * W) : d * W = X ↔ d * T = Y := by
  constructor
  · intro k
    have : (d * T) * W = Y * W := by rw [← h, ← k]; ac_rfl
    exact Int.eq_of_mul_eq_mul_right (by omega) this
  · intro k
    have : (d * W) * T = X * T := by rw [h, ← k]; ac_rfl
    exact Int.eq_of_mul_eq_mul_right (by omega) this
theorem before_ok (ha : a.size ≤ 9223372036854775807) (hg : ng ≤ 1073741824) (hL : L ≤ 1073741824) (s : Int) : n43 a b ng g L e s = true ∧
    (((m25 a b ng g L e).2 ≠ 0 ∧ m43 a b ng g L e s = (({ data := #[] } : ByteArray), 0, 0, noDat, 0, noDat, (m25 a b ng g L e).2)) ∨
     (Pln a b ng g L e ∧ ¬ (0 ≤ s ∧ s ≤ sm e L) ∧ m43 a b ng g L e s = (({ data := #[] } : ByteArray), 0, 0, noDat, 0, noDat, 2)) ∨
     (Pln a b ng g L e ∧ s = 0 ∧ m43 a b ng g L e s = (a, b, ng, g, 0, noDat, 0)) ∨
     (Pln a b ng g L e ∧ 0 < s ∧ ∃ r, On L e s r ∧ (((¬ ∃ d, d * e.ii r 0 = Ln e r s) ∧ m43 a b ng g L e s = (({ data := #[] } : ByteArray), 0, 0, noDat, 0, noDat, 3)) ∨
       ∃ d, d * e.ii r 0 = Ln e r s ∧ m43 a b ng g L e s = (a, b, ng, g, r + 1, (e.upd r 0 [SV.int IntKind.i64 (s - sm e r)]).upd r 1 [SV.int IntKind.i64 d], 0)))) := by
  obtain ⟨f1, f2⟩ := followed_ok (a := a) (b := b) (ng := ng) (g := g) (L := L) (e := e) ha (by omega) (by omega) s
  have zg : decide (ng ≤ 1073741824) = true := decide_eq_true hg
  rcases f2 with ⟨h1, h2⟩ | ⟨P, h1, h2⟩ | ⟨P, h1, D, hD, h2⟩
  · exact ⟨by simp only [n43, f1, h2, decide_eq_false h1, cond_true, cond_false, Bool.and_self], .inl ⟨h1, by simp only [m43, h2, decide_eq_false h1, cond_true, cond_false]⟩⟩
  · have z2 : decide ((2 : Int) = 0) = false := rfl
    exact ⟨by simp only [n43, f1, h2, z2, cond_true, cond_false, Bool.and_self], .inr (.inl ⟨P, h1, by simp only [m43, h2, z2, cond_true, cond_false]⟩)⟩
  · obtain ⟨a1, a2, a3, a4, a5⟩ := plan_at P hD h1.1 h1.2
    obtain ⟨w1, w2, w3⟩ := whole_iff a3 a2
    have z0 : decide ((0 : Int) = 0) = true := rfl
    by_cases hs : s = 0
    · have e53 := a4 hs
      subst hs
      have e54 : m54 0 1 = (0, 0) := by have := w3; rw [e53] at this; exact this 0 rfl
      rw [e53] at w1
      have z5 : decide ((0 : Int) < 0) = false := rfl
      exact ⟨by simp only [n43, f1, h2, a1, e53, w1, e54, z0, z5, zg, Nat.zero_add, Nat.le_refl, decide_true, cond_true, cond_false, Bool.and_self], .inr (.inr (.inl ⟨P, rfl, by simp only [m43, h2, e53, e54, z0, z5, decide_true, cond_true, cond_false]⟩))⟩
    · obtain ⟨r, on, l1, l2, l3⟩ := a5 (by omega)
      have lr := P.leg0 on.1
      have ci := fun d => frac_cancel (d := d) (show 0 < (m53 (L + 1) D s).2 by omega) (show 0 < e.ii r 0 by omega) l3
      have z5 : decide ((0 : Int) < s) = true := decide_eq_true (by omega)
      have hLL := P.legs
      have hr := on.1
      have v1 : IntKind.i64.wrap (((r + 1 : Nat) : Int) - 1) = (r : Int) := by rw [wr (by omega) (by omega)]; omega
      have v2 : (((r + 1 : Nat) : Int) - 0).toNat = r + 1 := by omega
      have v3 : D.ii r 0 = sm e r := (hD r (by omega)).1
      have nn := P.nonneg (show r ≤ L by omega); have tt := P.sum L (Nat.le_refl _); have tr := P.sum r (by omega)
      have v4 : IntKind.i64.wrap (s - sm e r) = s - sm e r := wr (by omega) (by omega)
      have x1 : decide ((0 : Int) ≤ (0 : Int) ∧ (0 : Int) ≤ ((r + 1 : Nat) : Int) ∧ ((r + 1 : Nat) : Int) ≤ (L : Int)) = true := decide_eq_true ⟨by omega, by omega, by omega⟩
      have x2 : decide (r + 1 ≤ 1073741824) = true := decide_eq_true (by omega)
      have x3 : decide (0 ≤ (r : Int) ∧ (r : Int) < ((L + 1 : Nat) : Int)) = true := decide_eq_true ⟨by omega, by omega⟩
      have x4 : decide (0 ≤ (r : Int) ∧ (r : Int) < ((r + 1 : Nat) : Int)) = true := decide_eq_true ⟨by omega, by omega⟩
      have x5 : decide (r < r + 1) = true := decide_eq_true (by omega)
      by_cases hd : (m54 (m53 (L + 1) D s).1 (m53 (L + 1) D s).2).1 = (m54 (m53 (L + 1) D s).1 (m53 (L + 1) D s).2).2
      · have k := w2 hd
        have kd := (ci _).1 k
        refine ⟨by simp only [n43, f1, h2, a1, w1, decide_eq_true hd, z0, z5, zg, l1, l2, v1, v2, Int.toNat_natCast, x1, x2, x3, x4, x5, Nat.zero_add, Nat.le_refl, decide_true, cond_true, cond_false, Bool.and_self], .inr (.inr (.inr ⟨P, by omega, r, on, .inr ⟨_, kd, ?_⟩⟩))⟩
        simp only [m43, h2, decide_eq_true hd, z0, z5, l2, v1, v2, v3, v4, Int.toNat_natCast, decide_true, cond_true, cond_false]
      · refine ⟨by simp only [n43, f1, h2, a1, w1, decide_eq_false hd, z0, decide_true, cond_true, cond_false, Bool.and_self], .inr (.inr (.inr ⟨P, by omega, r, on, .inl ⟨fun ⟨d, hh⟩ => hd ?_, ?_⟩⟩))⟩
        · rw [w3 d ((ci d).2 hh)]
        · simp only [m43, h2, decide_eq_false hd, z0, decide_true, cond_true, cond_false]
end
end Go.Proofs.YtchhhoamnagbfaaDoor
namespace Go.Proofs.YtchhhoamnagbfaaDoor
open Go Go.Sy
set_option linter.unusedVariables false
set_option linter.unusedSimpArgs false
set_option maxRecDepth 100000
theorem gases_same {n : Nat} (hn : n ≤ 9223372036854775807) {D E : Dat} (h : ∀ q, q < n → D.ii q 0 = E.ii q 0 ∧ D.ii q 1 = E.ii q 1) : n75 n D n E = true ∧ m75 n D n E = true := by
  have hl : o75_0 n D n E (n : Int) 0 = some (first (fun _ => none) (false, default, ()) n 0) := loop_first (n := n) (l := l75_0 n D n E (n : Int)) hn (fun f i hi => by
    have q := h i hi
    simp only [l75_0, cdl hi, cdd hi, cond_true, cond_false, Int.toNat_natCast, q.1, q.2, decide_true]; rfl) (fun f => by simp only [l75_0, cdn]; rfl) n 0 _ (by omega) (by omega)
  have hf : first (fun _ : Nat => (none : Option (Bool × Bool × Unit))) (false, default, ()) n 0 = (false, default, ()) := first_none fun _ _ _ => rfl
  rw [hf] at hl
  simp only [n75, m75, hl, decide_true]
  exact ⟨rfl, rfl⟩
theorem legs_same {n : Nat} (hn : n ≤ 9223372036854775807) {D E : Dat} (h : Ag n D E) : n76 n D n E = true ∧ m76 n D n E = true := by
  have hl : o76_0 n D n E (n : Int) 0 = some (first (fun _ => none) (false, default, ()) n 0) := loop_first (n := n) (l := l76_0 n D n E (n : Int)) hn (fun f i hi => by
    have q := h i hi
    simp only [l76_0, cdl hi, cdd hi, cond_true, cond_false, Int.toNat_natCast, q.1, q.2.1, q.2.2, decide_true]; rfl) (fun f => by simp only [l76_0, cdn]; rfl) n 0 _ (by omega) (by omega)
  have hf : first (fun _ : Nat => (none : Option (Bool × Bool × Unit))) (false, default, ()) n 0 = (false, default, ()) := first_none fun _ _ _ => rfl
  rw [hf] at hl
  simp only [n76, m76, hl, decide_true]
  exact ⟨rfl, rfl⟩
section
variable {a : ByteArray} {b : Int} {ng : Nat} {g : Dat} {L : Nat} {e : Dat} {c : Nat} {G : Dat} {n : Nat} {o : Dat}
theorem nf_alike {r r' : ByteArray × Int × Nat × Dat × Nat × Dat} (h : IsNf a b g L e r) (h' : IsNf a b g L e r') : r.1 = r'.1 ∧ r.2.1 = r'.2.1 ∧ r.2.2.1 = r'.2.2.1 ∧ (∀ q, q < r.2.2.1 → r.2.2.2.1.ii q 0 = r'.2.2.2.1.ii q 0 ∧ r.2.2.2.1.ii q 1 = r'.2.2.2.1.ii q 1) ∧ r.2.2.2.2.1 = r'.2.2.2.2.1 ∧ Ag r.2.2.2.2.1 r.2.2.2.2.2 r'.2.2.2.2.2 := by
  obtain ⟨a1, a2, a3, a4, a5, a6⟩ := h
  obtain ⟨b1, b2, b3, b4, b5, b6⟩ := h'
  refine ⟨a1.trans b1.symm, a2.trans b2.symm, a3.trans b3.symm, fun q hq => ?_, a5.trans b5.symm, fun q hq => ?_⟩
  · have x := a4 q hq; have y := b4 q (by rw [b3, ← a3]; exact hq)
    exact ⟨x.1.trans y.1.symm, x.2.trans y.2.symm⟩
  · have x := a6 q (by rw [← a5]; exact hq); have y := b6 q (by rw [← a5]; exact hq)
    exact ⟨x.1.trans y.1.symm, x.2.1.trans y.2.1.symm, x.2.2.trans y.2.2.symm⟩
end
end Go.Proofs.YtchhhoamnagbfaaDoor
namespace Go.Proofs.YtchhhoamnagbfaaDoor
open Go Go.Sy
set_option linter.unusedVariables false
set_option linter.unusedSimpArgs false
set_option maxRecDepth 100000
theorem app_ge {d e : Dat} {n q c : Nat} (h : n ≤ q) : (d.app n e).ii q c = e.ii (q - n) c := by
  have : Nat.blt q n = false := Bool.eq_false_iff.2 fun x => Nat.lt_irrefl _ (Nat.lt_of_lt_of_le (Nat.le_of_ble_eq_true x) h)
  simp only [Dat.app, this, cond_false]
theorem gst_congr {g e e' : Dat} : ∀ {i : Nat}, (∀ j, j < i → e.ii j 2 = e'.ii j 2) → gst g e i = gst g e' i
  | 0, _ => rfl
  | i + 1, h => by
    have x : gx g e i = gx g e' i := by unfold gx; rw [h i (Nat.lt_succ_self i)]
    have y : gy g e i = gy g e' i := by unfold gy; rw [h i (Nat.lt_succ_self i)]
    rw [gst, gst, gst_congr (i := i) fun j hj => h j (by omega), x, y]
theorem gk_congr {g e e' : Dat} {i : Nat} (h : ∀ j, j < i + 1 → e.ii j 2 = e'.ii j 2) : gk g e i = gk g e' i := by
  unfold gk gx gy
  rw [gst_congr h, h i (Nat.lt_succ_self i)]
theorem lst_congr {g e e' : Dat} : ∀ {i : Nat}, Ag i e e' → lst g e i = lst g e' i
  | 0, _ => rfl
  | i + 1, h => by
    rw [lst_next, lst_next, lst_congr (i := i) fun j hj => h j (by omega), (h i (Nat.lt_succ_self i)).1, (h i (Nat.lt_succ_self i)).2.1, gk_congr fun j hj => (h j hj).2.2]
theorem pln_congr {a : ByteArray} {b : Int} {ng : Nat} {g : Dat} {L : Nat} {e e' : Dat} (P : Pln a b ng g L e) (h : Ag L e e') : Pln a b ng g L e' :=
  ⟨P.name, P.air, P.some, P.few, P.gas, P.legs, fun j hj => by have := P.leg j hj; unfold LegOk at this ⊢; rw [← (h j hj).1, ← (h j hj).2.1, ← (h j hj).2.2]; exact this, fun j hj => by rw [← Ag.sm h hj]; exact P.sum j hj⟩
theorem nf_congr {a : ByteArray} {b : Int} {g : Dat} {L : Nat} {e w : Dat} (h : Ag L w e) {r} (k : IsNf a b g L w r) : IsNf a b g L e r := by
  unfold IsNf at k ⊢
  rw [← lst_congr h, ← gst_congr fun j hj => (h j hj).2.2]; exact k
theorem mrg_iff {s s' : Nat × Dat} (h1 : s.1 = s'.1) (h2 : Ag s.1 s.2 s'.2) {S B K : Int} (m : Mrg s S B K) : Mrg s' S B K := by
  obtain ⟨m0, m1, m2⟩ := m
  obtain ⟨x0, x1, x2⟩ := h2 (s.1 - 1) (by omega)
  refine ⟨by omega, by rw [← h1, ← x2]; exact m1, ?_⟩
  rw [← h1, ← Ag.dp h2 (Nat.le_refl _), ← Ag.dp h2 (by omega), ← x0]; exact m2
theorem ag_symm {n : Nat} {o o' : Dat} (h : Ag n o o') : Ag n o' o := fun q hq => ⟨(h q hq).1.symm, (h q hq).2.1.symm, (h q hq).2.2.symm⟩
theorem step_ag {s s' : Nat × Dat} (h1 : s.1 = s'.1) (h2 : Ag s.1 s.2 s'.2) (S B K : Int) : (stepL s S B K).1 = (stepL s' S B K).1 ∧ Ag (stepL s S B K).1 (stepL s S B K).2 (stepL s' S B K).2 := by
  by_cases m : Mrg s S B K
  · have m' := mrg_iff h1 h2 m
    obtain ⟨u1, u2, u3, u4, u5⟩ := step_mrg m
    obtain ⟨v1, v2, v3, v4, v5⟩ := step_mrg m'
    refine ⟨by rw [u1, v1, h1], fun q hq => ?_⟩
    rw [u1] at hq
    by_cases hh : q = s.1 - 1
    · subst hh
      rw [← h1] at v3 v4 v5
      rw [u3, u4, u5, v3, v4, v5, (h2 _ hq).1]; exact ⟨rfl, rfl, rfl⟩
    · rw [u2 q (by omega), u2 q (by omega), u2 q (by omega), v2 q (by omega), v2 q (by omega), v2 q (by omega)]
      exact h2 q hq
  · have m' : ¬ Mrg s' S B K := fun x => m (mrg_iff h1.symm (by rw [← h1]; exact ag_symm h2) x)
    obtain ⟨u1, u2, u3, u4, u5⟩ := step_app m
    obtain ⟨v1, v2, v3, v4, v5⟩ := step_app m'
    refine ⟨by rw [u1, v1, h1], fun q hq => ?_⟩
    rw [u1] at hq
    by_cases hh : q = s.1
    · subst hh
      rw [← h1] at v3 v4 v5
      rw [u3, u4, u5, v3, v4, v5]; exact ⟨rfl, rfl, rfl⟩
    · rw [u2 q (by omega), u2 q (by omega), u2 q (by omega), v2 q (by omega), v2 q (by omega), v2 q (by omega)]
      exact h2 q (by omega)
theorem step_split {s : Nat × Dat} {T1 T2 d B K : Int} (h1 : 0 < T1) (h2 : 0 < T2) (hd : (d - dp s.2 s.1) * T2 = (B - d) * T1) : (stepL (stepL s T1 d K) T2 B K).1 = (stepL s (T1 + T2) B K).1 ∧ Ag (stepL s (T1 + T2) B K).1 (stepL (stepL s T1 d K) T2 B K).2 (stepL s (T1 + T2) B K).2 := by
  have hd' : (d - dp s.2 s.1) * (T1 + T2) = (B - dp s.2 s.1) * T1 := by
    rw [Int.mul_add, hd, ← Int.add_mul]; congr 1; omega
  by_cases m : Mrg s T1 d K
  · obtain ⟨m0, m1, m2⟩ := m
    have mm : Mrg s (T1 + T2) B K := by
      refine ⟨m0, m1, ?_⟩
      have : ((dp s.2 s.1 - dp s.2 (s.1 - 1)) * (T1 + T2)) * T1 = ((B - dp s.2 s.1) * s.2.ii (s.1 - 1) 0) * T1 := by
        have e1 : ((dp s.2 s.1 - dp s.2 (s.1 - 1)) * (T1 + T2)) * T1 = ((dp s.2 s.1 - dp s.2 (s.1 - 1)) * T1) * (T1 + T2) := by ac_rfl
        have e2 : ((B - dp s.2 s.1) * s.2.ii (s.1 - 1) 0) * T1 = ((B - dp s.2 s.1) * T1) * s.2.ii (s.1 - 1) 0 := by ac_rfl
        rw [e1, e2, m2, ← hd']; ac_rfl
      exact Int.eq_of_mul_eq_mul_right (by omega) this
    obtain ⟨u1, u2, u3, u4, u5⟩ := step_mrg (show Mrg s T1 d K from ⟨m0, m1, m2⟩)
    obtain ⟨v1, v2, v3, v4, v5⟩ := step_mrg mm
    generalize stepL s T1 d K = t at *
    generalize stepL s (T1 + T2) B K = z at *
    have u2' : ∀ q, q < s.1 - 1 → ∀ c, t.2.ii q c = s.2.ii q c := fun q hq c => u2 q (by omega) c
    have dt : dp t.2 t.1 = d := by
      rw [u1]
      obtain ⟨n, hn⟩ : ∃ n, s.1 = n + 1 := ⟨s.1 - 1, by omega⟩
      rw [hn] at u4 ⊢; exact u4
    have dt' : dp t.2 (t.1 - 1) = dp s.2 (s.1 - 1) := by rw [u1]; exact dp_eq u2' (Nat.le_refl _)
    have m3 : Mrg t T2 B K := by
      refine ⟨by omega, by rw [u1]; exact u5, ?_⟩
      rw [dt, dt', u1, u3]
      have f : (dp s.2 s.1 - dp s.2 (s.1 - 1)) * T2 = (B - d) * s.2.ii (s.1 - 1) 0 := by
        have : ((dp s.2 s.1 - dp s.2 (s.1 - 1)) * T2) * T1 = ((B - d) * s.2.ii (s.1 - 1) 0) * T1 := by
          have e1 : ((dp s.2 s.1 - dp s.2 (s.1 - 1)) * T2) * T1 = ((dp s.2 s.1 - dp s.2 (s.1 - 1)) * T1) * T2 := by ac_rfl
          have e2 : ((B - d) * s.2.ii (s.1 - 1) 0) * T1 = ((B - d) * T1) * s.2.ii (s.1 - 1) 0 := by ac_rfl
          rw [e1, e2, m2, ← hd]; ac_rfl
        exact Int.eq_of_mul_eq_mul_right (by omega) this
      rw [Int.mul_add, ← f, ← hd, ← Int.add_mul]; congr 1; omega
    obtain ⟨x1, x2, x3, x4, x5⟩ := step_mrg m3
    refine ⟨by rw [x1, u1, v1], fun q hq => ?_⟩
    rw [v1] at hq
    by_cases hh : q = s.1 - 1
    · subst hh
      rw [u1] at x3 x4 x5
      rw [x3, x4, x5, v3, v4, v5, u3]; exact ⟨by omega, rfl, rfl⟩
    · rw [x2 q (by omega), x2 q (by omega), x2 q (by omega), u2 q (by omega), u2 q (by omega), u2 q (by omega), v2 q (by omega), v2 q (by omega), v2 q (by omega)]
      exact ⟨rfl, rfl, rfl⟩
  · have mm : ¬ Mrg s (T1 + T2) B K := fun ⟨m0, m1, m2⟩ => m ⟨m0, m1, by
      have : ((dp s.2 s.1 - dp s.2 (s.1 - 1)) * T1) * (T1 + T2) = ((d - dp s.2 s.1) * s.2.ii (s.1 - 1) 0) * (T1 + T2) := by
        have e1 : ((dp s.2 s.1 - dp s.2 (s.1 - 1)) * T1) * (T1 + T2) = ((dp s.2 s.1 - dp s.2 (s.1 - 1)) * (T1 + T2)) * T1 := by ac_rfl
        have e2 : ((d - dp s.2 s.1) * s.2.ii (s.1 - 1) 0) * (T1 + T2) = ((d - dp s.2 s.1) * (T1 + T2)) * s.2.ii (s.1 - 1) 0 := by ac_rfl
        rw [e1, e2, m2, hd']; ac_rfl
      exact Int.eq_of_mul_eq_mul_right (by omega) this⟩
    obtain ⟨u1, u2, u3, u4, u5⟩ := step_app m
    obtain ⟨v1, v2, v3, v4, v5⟩ := step_app mm
    generalize stepL s T1 d K = t at *
    generalize stepL s (T1 + T2) B K = z at *
    have dt : dp t.2 t.1 = d := by rw [u1]; exact u4
    have dt' : dp t.2 (t.1 - 1) = dp s.2 s.1 := by rw [u1, Nat.add_sub_cancel]; exact dp_eq u2 (Nat.le_refl _)
    have m3 : Mrg t T2 B K := by
      refine ⟨by omega, by rw [u1, Nat.add_sub_cancel]; exact u5, ?_⟩
      rw [dt, dt', u1, Nat.add_sub_cancel, u3]; exact hd
    obtain ⟨x1, x2, x3, x4, x5⟩ := step_mrg m3
    refine ⟨by rw [x1, u1, v1], fun q hq => ?_⟩
    rw [v1] at hq
    rw [u1, Nat.add_sub_cancel] at x3 x4 x5
    by_cases hh : q = s.1
    · subst hh
      rw [x3, x4, x5, v3, v4, v5, u3]; exact ⟨rfl, rfl, rfl⟩
    · rw [x2 q (by omega), x2 q (by omega), x2 q (by omega), u2 q (by omega), u2 q (by omega), u2 q (by omega), v2 q (by omega), v2 q (by omega), v2 q (by omega)]
      exact ⟨rfl, rfl, rfl⟩
structure Cut (L : Nat) (e : Dat) (r : Nat) (T1 T2 d : Int) (w : Dat) : Prop where
  lt : r < L
  p1 : 0 < T1
  p2 : 0 < T2
  sum : T1 + T2 = e.ii r 0
  line : (d - dp e r) * T2 = (e.ii r 1 - d) * T1
  old : ∀ q, q < r → w.ii q 0 = e.ii q 0 ∧ w.ii q 1 = e.ii q 1 ∧ w.ii q 2 = e.ii q 2
  fst : w.ii r 0 = T1 ∧ w.ii r 1 = d ∧ w.ii r 2 = e.ii r 2
  snd : w.ii (r + 1) 0 = T2 ∧ w.ii (r + 1) 1 = e.ii r 1 ∧ w.ii (r + 1) 2 = e.ii r 2
  new : ∀ q, r < q → q < L → w.ii (q + 1) 0 = e.ii q 0 ∧ w.ii (q + 1) 1 = e.ii q 1 ∧ w.ii (q + 1) 2 = e.ii q 2
section
variable {a : ByteArray} {b : Int} {ng : Nat} {g : Dat} {L : Nat} {e : Dat} {r : Nat} {T1 T2 d : Int} {w : Dat}
theorem Cut.sm0 (C : Cut L e r T1 T2 d w) {q : Nat} (h : q ≤ r) : sm w q = sm e q := sm_congr fun k hk => (C.old k (by omega)).1
theorem Cut.sm1 (C : Cut L e r T1 T2 d w) : sm w (r + 1) = sm e r + T1 := by simp only [sm]; rw [C.sm0 (Nat.le_refl _), C.fst.1]
theorem Cut.sm2 (C : Cut L e r T1 T2 d w) : ∀ {q : Nat}, r < q → q ≤ L → sm w (q + 1) = sm e q
  | 0, h, _ => absurd h (Nat.not_lt_zero _)
  | q + 1, h, hq => by
    by_cases hh : q = r
    · subst hh
      have s := C.sum
      show sm w (q + 1) + w.ii (q + 1) 0 = sm e q + e.ii q 0
      rw [C.sm1, C.snd.1]; omega
    · show sm w (q + 1) + w.ii (q + 1) 0 = sm e q + e.ii q 0
      rw [C.sm2 (q := q) (by omega) (by omega), (C.new q (by omega) (by omega)).1]
theorem Cut.pln (P : Pln a b ng g L e) (C : Cut L e r T1 T2 d w) (hd : 0 ≤ d ∧ d ≤ 30000) (h : L + 1 ≤ 60) : Pln a b ng g (L + 1) w := by
  have s := C.sum; have p1 := C.p1; have p2 := C.p2
  have lr := P.leg r C.lt
  refine ⟨P.name, P.air, P.some, P.few, P.gas, h, fun j hj => ?_, fun j hj => ?_⟩
  · obtain ⟨l1, l2, l3⟩ := lr
    rcases Nat.lt_trichotomy j r with c | c | c
    · have := P.leg j (by have := C.lt; omega)
      unfold LegOk at this ⊢
      rw [(C.old j c).1, (C.old j c).2.1, (C.old j c).2.2]; exact this
    · subst c
      unfold LegOk
      rw [C.fst.1, C.fst.2.1, C.fst.2.2]; exact ⟨by omega, hd, l3⟩
    · by_cases hh : j = r + 1
      · subst hh
        unfold LegOk
        rw [C.snd.1, C.snd.2.1, C.snd.2.2]; exact ⟨by omega, l2, l3⟩
      · obtain ⟨q, rfl⟩ : ∃ q, j = q + 1 := ⟨j - 1, by omega⟩
        have := P.leg q (by omega)
        unfold LegOk at this ⊢
        have n := C.new q (by omega) (by omega)
        rw [n.1, n.2.1, n.2.2]; exact this
  · by_cases c : j ≤ r
    · rw [C.sm0 c]; exact P.sum j (by have := C.lt; omega)
    · by_cases hh : j = r + 1
      · subst hh
        have t := P.sum (r + 1) (by have := C.lt; omega)
        have e1 : sm e (r + 1) = sm e r + e.ii r 0 := rfl
        rw [C.sm1]; omega
      · obtain ⟨q, rfl⟩ : ∃ q, j = q + 1 := ⟨j - 1, by omega⟩
        rw [C.sm2 (by omega) (by omega)]; exact P.sum q (by omega)
theorem Cut.gst (P : Pln a b ng g L e) (C : Cut L e r T1 T2 d w) : ∀ {i : Nat}, r < i → i ≤ L → gst g w (i + 1) = Go.Proofs.YtchhhoamnagbfaaDoor.gst g e i
  | 0, h, _ => absurd h (Nat.not_lt_zero _)
  | i + 1, h, hi => by
    by_cases hh : i = r
    · subst hh
      have e1 : Go.Proofs.YtchhhoamnagbfaaDoor.gst g w (i + 1) = Go.Proofs.YtchhhoamnagbfaaDoor.gst g e (i + 1) := gst_congr fun j hj => by
        by_cases c : j = i
        · subst c; exact C.fst.2.2
        · exact (C.old j (by omega)).2.2
      obtain ⟨kq, _, _, _, _, k5, _⟩ := gk_spec (g := g) P.leg C.lt
      have x : gx g w (i + 1) = gx g e i := by unfold gx; rw [C.snd.2.2]
      have y : gy g w (i + 1) = gy g e i := by unfold gy; rw [C.snd.2.2]
      rw [gst_same (by rw [e1, x, y, k5 (i + 1) (Nat.le_refl _) hi]; omega), e1]
    · have x : gx g w (i + 1) = gx g e i := by unfold gx; rw [(C.new i (by omega) (by omega)).2.2]
      have y : gy g w (i + 1) = gy g e i := by unfold gy; rw [(C.new i (by omega) (by omega)).2.2]
      rw [Go.Proofs.YtchhhoamnagbfaaDoor.gst, Cut.gst P C (i := i) (by omega) (by omega), x, y, Go.Proofs.YtchhhoamnagbfaaDoor.gst]
theorem Cut.lst (P : Pln a b ng g L e) (C : Cut L e r T1 T2 d w) : ∀ {i : Nat}, r < i → i ≤ L → (lst g w (i + 1)).1 = (Go.Proofs.YtchhhoamnagbfaaDoor.lst g e i).1 ∧ Ag (Go.Proofs.YtchhhoamnagbfaaDoor.lst g e i).1 (lst g w (i + 1)).2 (Go.Proofs.YtchhhoamnagbfaaDoor.lst g e i).2
  | 0, h, _ => absurd h (Nat.not_lt_zero _)
  | i + 1, h, hi => by
    by_cases hh : i = r
    · subst hh
      have l0 : Go.Proofs.YtchhhoamnagbfaaDoor.lst g w i = Go.Proofs.YtchhhoamnagbfaaDoor.lst g e i := lst_congr fun j hj => C.old j hj
      have g1 : gk g w i = gk g e i := gk_congr fun j hj => by
        by_cases c : j = i
        · subst c; exact C.fst.2.2
        · exact (C.old j (by omega)).2.2
      have g2 : gk g w (i + 1) = gk g e i := by
        have x : gx g w (i + 1) = gx g e i := by unfold gx; rw [C.snd.2.2]
        have y : gy g w (i + 1) = gy g e i := by unfold gy; rw [C.snd.2.2]
        unfold gk
        rw [Cut.gst P C (i := i + 1) (by omega) hi, x, y]
      have I := ni_all (g := g) P.leg i (by have := C.lt; omega)
      have s := step_split (s := Go.Proofs.YtchhhoamnagbfaaDoor.lst g e i) (K := gk g e i) C.p1 C.p2 (by rw [I.fin]; exact C.line)
      rw [lst_next g w (i + 1), lst_next g w i, l0, g1, g2, C.fst.1, C.fst.2.1, C.snd.1, C.snd.2.1, lst_next g e i, ← C.sum]
      exact ⟨s.1, s.2⟩
    · obtain ⟨h1, h2⟩ := Cut.lst P C (i := i) (by omega) (by omega)
      have n := C.new i (by omega) (by omega)
      have g2 : gk g w (i + 1) = gk g e i := by
        have x : gx g w (i + 1) = gx g e i := by unfold gx; rw [n.2.2]
        have y : gy g w (i + 1) = gy g e i := by unfold gy; rw [n.2.2]
        unfold gk
        rw [Cut.gst P C (i := i + 1) (by omega) hi, x, y]
      have s := step_ag h1 (by rw [h1]; exact h2) (e.ii i 0) (e.ii i 1) (gk g e i)
      rw [lst_next g w (i + 1), lst_next g e i, n.1, n.2.1, g2]
      exact ⟨s.1, by rw [← s.1]; exact s.2⟩
theorem Cut.nf (P : Pln a b ng g L e) (C : Cut L e r T1 T2 d w) {R} (k : IsNf a b g (L + 1) w R) : IsNf a b g L e R := by
  have hL : ¬ L = 0 := by have := C.lt; omega
  obtain ⟨k1, k2, k3, k4, k5, k6⟩ := k
  obtain ⟨l1, l2⟩ := Cut.lst (g := g) P C (i := L) C.lt (Nat.le_refl _)
  simp only [if_neg (Nat.succ_ne_zero L), Cut.gst P C (i := L) C.lt (Nat.le_refl _)] at k3 k4
  refine ⟨k1, k2, by rw [if_neg hL]; exact k3, fun q hq => by simp only [if_neg hL]; exact k4 q hq, by rw [← l1]; exact k5, fun q hq => ?_⟩
  have x := k6 q (by rw [l1]; exact hq); have y := l2 q hq
  exact ⟨x.1.trans y.1, x.2.1.trans y.2.1, x.2.2.trans y.2.2⟩
def Rest (L : Nat) (e : Dat) (s : Int) (m k : Nat) (o : Dat) : Prop := ∀ q, q < k → o.ii q 0 = (if q = 0 then sm e (m + 1) - s else e.ii (m + q) 0) ∧ o.ii q 1 = e.ii (m + q) 1 ∧ o.ii q 2 = e.ii (m + q) 2
theorem rest_run (P : Pln a b ng g L e) {s : Int} (hs : 0 ≤ s ∧ s ≤ sm e L) {m : Nat} (hm : m ≤ L) (h0 : sm e m ≤ s) (h1 : m < L → s < sm e (m + 1)) (p0 : ByteArray) (p1 : Int) (p2 : Nat) (p3 : Dat) (p4 : Nat) (p5 : Dat) : ∀ (k i f : Nat) (o : Dat), i + k = L → k < f → Rest L e s m (i - m) o →
    ∃ o', l8_0 s a b ng g L e p0 p1 p2 p3 p4 p5 f (i - m) (sm e i) (i : Int) o = some (L - m, L - m, o') ∧ Rest L e s m (L - m) o'
  | 0, i, f, o, hi, hf, hR => by
    obtain ⟨f, rfl⟩ : ∃ f0, f = f0 + 1 := ⟨f - 1, by omega⟩
    obtain rfl : i = L := by omega
    exact ⟨o, by simp only [l8_0, cdn]; rfl, hR⟩
  | k + 1, i, f, o, hi, hf, hR => by
    obtain ⟨f, rfl⟩ : ∃ f0, f = f0 + 1 := ⟨f - 1, by omega⟩
    have hlt : i < L := by omega
    have hL := P.legs
    have n0 := P.nonneg (show i ≤ L by omega); have t1 := P.sum (i + 1) (by omega); have l0 := P.leg0 hlt
    have tL := P.sum L (Nat.le_refl _)
    have es : sm e (i + 1) = sm e i + e.ii i 0 := rfl
    have ws : IntKind.i64.wrap (sm e i + e.ii i 0) = sm e (i + 1) := by rw [← es]; exact wr (by omega) (by omega)
    by_cases hc : s < sm e (i + 1)
    · have him : m ≤ i := by
        apply Decidable.byContradiction
        intro hh
        have := P.le (show i + 1 ≤ m by omega) hm; omega
      have w2 : IntKind.i64.wrap (sm e (i + 1) - s) = sm e (i + 1) - s := wr (by omega) (by omega)
      have z3 : decide (i - m + 1 ≤ 1073741824) = true := decide_eq_true (by omega)
      have mn : imin (e.ii i 0) (sm e (i + 1) - s) = (if i - m = 0 then sm e (m + 1) - s else e.ii (m + (i - m)) 0) := by
        by_cases hz : i - m = 0
        · rw [if_pos hz]
          obtain rfl : i = m := by omega
          unfold imin; split <;> omega
        · rw [if_neg hz, show m + (i - m) = i by omega]
          have := P.le (show m + 1 ≤ i by omega) (by omega)
          have := h1 (by omega)
          unfold imin; split <;> omega
      obtain ⟨o', r1, r2⟩ := rest_run P hs hm h0 h1 p0 p1 p2 p3 p4 p5 k (i + 1) f (o.app (i - m) (datS [SV.int IntKind.i64 (imin (e.ii i 0) (sm e (i + 1) - s)), SV.int IntKind.i64 (e.ii i 1), SV.int IntKind.i64 (e.ii i 2)] 3)) (by omega) (by omega) (fun q hq => by
        rw [show i + 1 - m = i - m + 1 by omega] at hq
        obtain ⟨v0, v1, v2⟩ := app3 o (i - m) q hq (imin (e.ii i 0) (sm e (i + 1) - s)) (e.ii i 1) (e.ii i 2)
        rw [v0, v1, v2]
        by_cases hqi : q = i - m
        · rw [if_pos hqi, if_pos hqi, if_pos hqi, mn, hqi, show m + (i - m) = i by omega]; exact ⟨rfl, rfl, rfl⟩
        · rw [if_neg hqi, if_neg hqi, if_neg hqi]; exact hR q (by omega))
      refine ⟨o', ?_, r2⟩
      rw [show i + 1 - m = i - m + 1 by omega] at r1
      simp only [l8_0, cdl hlt, cdd hlt, Int.toNat_natCast, ws, w2, decide_eq_true hc, z3, cond_true, wrS hlt (by omega)]
      exact r1
    · have him : i < m := by
        apply Decidable.byContradiction
        intro hh
        have := h1 (by omega)
        have := P.le (show m + 1 ≤ i + 1 by omega) (by omega); omega
      obtain ⟨o', r1, r2⟩ := rest_run P hs hm h0 h1 p0 p1 p2 p3 p4 p5 k (i + 1) f o (by omega) (by omega) (fun q hq => by omega)
      refine ⟨o', ?_, r2⟩
      rw [show i + 1 - m = i - m by omega] at r1
      simp only [l8_0, cdl hlt, cdd hlt, Int.toNat_natCast, ws, decide_eq_false hc, cond_true, cond_false, wrS hlt (by omega)]
      exact r1
theorem rest_ok (P : Pln a b ng g L e) {s : Int} (hs : 0 ≤ s ∧ s ≤ sm e L) {m : Nat} (hm : m ≤ L) (h0 : sm e m ≤ s) (h1 : m < L → s < sm e (m + 1)) (p0 : ByteArray) (p1 : Int) (p2 : Nat) (p3 : Dat) (p4 : Nat) (p5 : Dat) : ∃ o, o8_0 s a b ng g L e p0 p1 p2 p3 p4 p5 0 0 0 noDat = some (L - m, L - m, o) ∧ Rest L e s m (L - m) o := by
  have := rest_run P hs hm h0 h1 p0 p1 p2 p3 p4 p5 L 0 (s.toNat + 0 + Int.toNat 0 + Int.toNat 0 + a.size + b.toNat + ng + L + p0.size + p1.toNat + p2 + p4 + 8) noDat (by omega) (by omega) (fun q hq => by omega)
  rw [Nat.zero_sub] at this
  exact this
theorem many_legs (P : Pln a b ng g L e) {L' : Nat} {e' : Dat} (h : 60 < L') : (m25 a b ng g L' e').2 = 8 := by
  have h16 : ∀ x y z, m16 x y z = m52 x y z := fun _ _ _ => rfl
  have hf := P.few; have hs := P.some
  have hn : first (badGas g) (false, default, ()) ng 0 = (false, default, ()) := first_none fun j _ hj => badGas_none.2 (P.gas j (by omega))
  simp only [m25, P.name, h16, m52_iff.2 P.air, l25g_all (show ng ≤ 9223372036854775807 by omega), hn, decide_eq_false (show ¬ (ng : Int) = 0 by omega), decide_eq_false (show ¬ 8 < (ng : Int) by omega), decide_eq_true (show (60 : Int) < (L' : Int) by omega), Option.getD_some, cond_true, cond_false]
end
theorem same_ok {a : ByteArray} {b : Int} {ng : Nat} {g : Dat} {L L' : Nat} {e w : Dat} (P : Pln a b ng g L e) (W : Pln a b ng g L' w) (h : ∀ R, IsNf a b g L' w R → IsNf a b g L e R) : n41 a b ng g L' w a b ng g L e = true ∧ m41 a b ng g L' w a b ng g L e = (true, 0) := by
  have ha := P.small; have hg := P.few; have hL := P.legs; have hL' := W.legs
  obtain ⟨x1, x2⟩ := normal_ok W
  obtain ⟨y1, y2⟩ := normal_ok P
  obtain ⟨t1, t2⟩ := two_plans a b ng g L' w a b ng g L e (by omega) (by omega) (by omega) (by omega) (by omega) (by omega)
  have q1 := (plan_ok a b ng g L' w (by omega) (by omega) (by omega)).2.2.2.2 W
  have q2 := (plan_ok a b ng g L e (by omega) (by omega) (by omega)).2.2.2.2 P
  rw [q1, q2] at t2
  have t2 : _ = (0 : Int) := t2
  obtain ⟨⟨xa, xb, c, G, n, o⟩, hx⟩ : ∃ r, m73 a b ng g L' w = r := ⟨_, rfl⟩
  obtain ⟨⟨ya, yb, c', G', n', o'⟩, hy⟩ : ∃ r, m73 a b ng g L e = r := ⟨_, rfl⟩
  rw [hx] at x2
  rw [hy] at y2
  obtain ⟨e1, e2, e3, e4, e5, e6⟩ := nf_alike (h _ x2) y2
  simp only at e1 e2 e3 e4 e5 e6
  subst e1 e2 e3 e5
  have bn : n ≤ 60 := by
    have I := ni_all (g := g) W.leg L' (Nat.le_refl _)
    have := x2.2.2.2.2.1
    simp only at this
    have := I.cnt; omega
  have bc : c ≤ 60 := by
    have S := gst_ok (g := g) W.leg L' (Nat.le_refl _)
    have h := x2.2.2.1
    simp only at h
    split at h
    · omega
    · have := S.le; omega
  obtain ⟨g1, g2⟩ := gases_same (n := c) (by omega) e4
  obtain ⟨l1, l2⟩ := legs_same (n := n) (by omega) e6
  exact ⟨by simp only [n41, t1, t2, hx, hy, x1, y1, g1, g2, l1, decide_true, cond_true, cond_false, Bool.and_self, Bool.cond_self], by simp only [m41, t2, hx, hy, g2, l2, decide_true, cond_true, cond_false]⟩
theorem parts_join {a : ByteArray} {b : Int} {ng : Nat} {g : Dat} {L : Nat} {e : Dat} {s : Int} (P : Pln a b ng g L e) (hs : m18 a b ng g L e = true) {hl : Nat} {hd : Dat} (H : Pln a b ng g hl hd) (hle : hl ≤ L) (hsum : sm hd hl = s)
    (h43 : n43 a b ng g L e s = true) (m43e : m43 a b ng g L e s = (a, b, ng, g, hl, hd, 0)) {k : Nat} {o : Dat} (hk : k ≤ 62) (ho' : o8_0 s a b ng g L e a b ng g hl hd 0 0 0 noDat = some (k, k, o))
    (hw : (60 < hl + k ∧ L = 60) ∨ ∃ W : Pln a b ng g (hl + k) (hd.app hl o), ∀ R, IsNf a b g (hl + k) (hd.app hl o) R → IsNf a b g L e R) : n8 a b ng g L e s = true ∧ m8 a b ng g L e s = true := by
  obtain ⟨b1, b2, b3⟩ := few_bnd hs
  have hHl := H.legs
  obtain ⟨c1, c2⟩ := copies_ok (a := a) (b := b) (ng := ng) (g := g) (L := L) (e := e) (by omega) (by omega)
  obtain ⟨d1, d2⟩ := copies_ok (a := a) (b := b) (ng := ng) (g := g) (L := hl) (e := hd) (by omega) (by omega)
  obtain ⟨o1, o2⟩ := one_plan a b ng g hl hd (by omega) (by omega) (by omega)
  have qH := (plan_ok a b ng g hl hd (by omega) (by omega) (by omega)).2.2.2.2 H
  rw [qH] at o2
  have o2 : _ = (0 : Int) := o2
  obtain ⟨t1, D, t2, t3⟩ := track_ok H
  obtain ⟨v1, v2⟩ := end_ok H t3
  have n21t : n21 a b ng g hl hd = true := by simp only [n21, o1, o2, t1, t2, v1, decide_true, cond_true, cond_false, Bool.and_self]
  have m21e : m21 a b ng g hl hd = (s, 0) := by simp only [m21, o2, t2, v2, hsum, decide_true, cond_true, cond_false]
  have n36t : n36r k o = true := by simp only [n36r, Nat.zero_add, decide_eq_true (show k ≤ 1073741824 by omega)]; rfl
  have m36e : m36r k o = (k, k, o) := by simp only [m36r, Nat.zero_add, app_nil0]
  obtain ⟨x1, x2⟩ := extended_ok (a := a) (b := b) (ng := ng) (g := g) (L := hl) (e := hd) (L' := k) (e' := o) (by omega) (by omega) (by omega)
  rw [qH] at x2
  have z3 : decide ((L : Int) < (hl : Int)) = false := decide_eq_false (by omega)
  have dss : decide (s = s) = true := decide_eq_true rfl
  rcases hw with ⟨w1, w2⟩ | ⟨W, w⟩
  · have m8e := many_legs P (e' := hd.app hl o) w1
    simp only [m8e, decide_true, cond_true] at x2
    have z8 : decide ((8 : Int) = 0) = false := rfl
    simp only [z8, cond_false] at x2
    have z6 : decide ((L : Int) = 60) = true := decide_eq_true (by omega)
    exact ⟨by simp only [n8, v8, t8_0, t8_1, t8_2, t8_3, t8_4, t8_5, t8_6, t8_7, t8_8, t8_9, t8_10, t8_11, t8_12, t8_13, t8_14, t8_15, t8_16, t8_17, t8_18, t8_19, t8_20, t8_21, t8_22, n10_t, m10_t, hs, c1, c2, h43, m43e, z3, d1, d2, n21t, m21e, ho', Option.isSome_some, Option.getD_some, Nat.zero_add, Nat.le_refl, n36t, m36e, x1, x2, z8, dss, decide_true, cond_true, cond_false, Bool.and_self], by simp only [m8, w8, t8_0, t8_1, t8_2, t8_3, t8_4, t8_5, t8_6, t8_7, t8_8, t8_9, t8_10, t8_11, t8_12, t8_13, t8_14, t8_15, t8_16, t8_17, t8_18, t8_19, t8_20, t8_21, t8_22, m10_t, hs, c2, m43e, z3, d2, m21e, ho', Option.getD_some, m36e, x2, z8, z6, dss, decide_true, cond_true, cond_false]⟩
  · have qW := (plan_ok a b ng g (hl + k) (hd.app hl o) (by omega) (by omega) (by omega)).2.2.2.2 W
    simp only [qW, decide_true, cond_true] at x2
    obtain ⟨s1, s2⟩ := same_ok P W w
    exact ⟨by simp only [n8, v8, t8_0, t8_1, t8_2, t8_3, t8_4, t8_5, t8_6, t8_7, t8_8, t8_9, t8_10, t8_11, t8_12, t8_13, t8_14, t8_15, t8_16, t8_17, t8_18, t8_19, t8_20, t8_21, t8_22, t8_23, t8_24, t8_25, t8_26, t8_27, t8_28, n10_t, m10_t, hs, c1, c2, h43, m43e, z3, d1, d2, n21t, m21e, ho', Option.isSome_some, Option.getD_some, Nat.zero_add, Nat.le_refl, n36t, m36e, x1, x2, s1, dss, decide_true, cond_true, cond_false, Bool.and_self], by simp only [m8, w8, t8_0, t8_1, t8_2, t8_3, t8_4, t8_5, t8_6, t8_7, t8_8, t8_9, t8_10, t8_11, t8_12, t8_13, t8_14, t8_15, t8_16, t8_17, t8_18, t8_19, t8_20, t8_21, t8_22, t8_23, t8_24, t8_25, t8_26, t8_27, t8_28, m10_t, hs, c2, m43e, z3, d2, m21e, ho', Option.getD_some, m36e, x2, s2, dss, decide_true, cond_true, cond_false]⟩
theorem parts_none {a : ByteArray} {b : Int} {ng : Nat} {g : Dat} {L : Nat} {e : Dat} {s x : Int} (hs : m18 a b ng g L e = true) (hx : x ≠ 0) (h43 : n43 a b ng g L e s = true) (m43e : m43 a b ng g L e s = (({ data := #[] } : ByteArray), 0, 0, noDat, 0, noDat, x)) : n8 a b ng g L e s = true ∧ m8 a b ng g L e s = true := by
  obtain ⟨b1, b2, b3⟩ := few_bnd hs
  obtain ⟨c1, c2⟩ := copies_ok (a := a) (b := b) (ng := ng) (g := g) (L := L) (e := e) (by omega) (by omega)
  have w00 : IntKind.i64.wrap (((0 : Nat) : Int) + ((0 : Nat) : Int)) = 0 := wr (by decide) (by decide)
  have n0 : m37 (({ data := #[] } : ByteArray)) 0 0 noDat 0 noDat = true := by simp only [m37, w00, decide_true, cond_true]
  exact ⟨by simp only [n8, v8, t8_0, t8_1, t8_2, t8_3, t8_4, t8_5, t8_6, n10_t, m10_t, hs, c1, c2, h43, m43e, decide_eq_false hx, cond_true, cond_false, Bool.and_self], by simp only [m8, w8, t8_0, t8_1, t8_2, t8_3, t8_4, t8_5, t8_6, t8_7, t8_8, t8_9, t8_10, t8_11, t8_12, m10_t, hs, c2, m43e, n0, decide_eq_false hx, cond_true, cond_false]⟩
theorem parts_ok (a : ByteArray) (b : Int) (ng : Nat) (g : Dat) (L : Nat) (e : Dat) (s : Int) : n8 a b ng g L e s = true ∧ m8 a b ng g L e s = true := by
  cases hs : m18 a b ng g L e with
  | false => exact ⟨by simp only [n8, v8, n10_t, m10_t, hs, cond_true, cond_false, Bool.and_true], by simp only [m8, w8, m10_t, hs, cond_true, cond_false]⟩
  | true =>
  obtain ⟨b1, b2, b3⟩ := few_bnd hs
  obtain ⟨h43, hh⟩ := before_ok (a := a) (b := b) (ng := ng) (g := g) (L := L) (e := e) (by omega) (by omega) (by omega) s
  rcases hh with ⟨h1, h2⟩ | ⟨P, h1, h2⟩ | ⟨P, rfl, h2⟩ | ⟨P, h0, r, on, ⟨h1, h2⟩ | ⟨d, hd, h2⟩⟩
  · exact parts_none hs h1 h43 h2
  · exact parts_none hs (by decide) h43 h2
  · -- the whole plan is left
    have nn := P.nonneg (Nat.le_refl L)
    have H : Pln a b ng g 0 noDat := ⟨P.name, P.air, P.some, P.few, P.gas, by decide, fun j hj => absurd hj (Nat.not_lt_zero _), fun j hj => by rw [show j = 0 by omega]; simp only [sm]; decide⟩
    obtain ⟨o, k1, k2⟩ := rest_ok P (s := 0) ⟨Int.le_refl _, nn⟩ (m := 0) (Nat.zero_le _) (Int.le_refl _) (fun h => by have := P.leg0 h; simp only [sm]; omega) a b ng g 0 noDat
    have ag : Ag L e o := fun q hq => by
      obtain ⟨x0, x1, x2⟩ := k2 q (by omega)
      rw [Nat.zero_add] at x0 x1 x2
      refine ⟨?_, x1.symm, x2.symm⟩
      rw [x0]
      by_cases hz : q = 0
      · subst hz; rw [if_pos rfl]; simp only [sm]; omega
      · rw [if_neg hz, Nat.zero_add]
    refine parts_join P hs H (Nat.zero_le _) rfl h43 h2 (k := L - 0) (by have := P.legs; omega) k1 (.inr ?_)
    rw [Nat.zero_add, Nat.sub_zero, app_nil0]
    exact ⟨pln_congr P ag, fun R hR => nf_congr (ag_symm ag) hR⟩
  · exact parts_none hs (by decide) h43 h2
  · obtain ⟨r1, r2, r3⟩ := on
    have es : sm e (r + 1) = sm e r + e.ii r 0 := rfl
    have lr := P.leg r r1
    have lr0 : 1 ≤ e.ii r 0 ∧ e.ii r 0 ≤ 1000000 := lr.1
    have nr := P.nonneg (show r ≤ L by omega); have tr := P.sum (r + 1) (by omega)
    have z0 := P.dep (show r ≤ L by omega); have z1 := P.dep (show r + 1 ≤ L by omega)
    have ed : dp e (r + 1) = e.ii r 1 := rfl
    unfold Ln at hd
    have q0 := mulb z0.1 z0.2 (show 0 ≤ sm e (r + 1) - s by omega) (Int.le_refl _)
    have q1 := mulb z1.1 z1.2 (show 0 ≤ s - sm e r by omega) (Int.le_refl _)
    have db : 0 ≤ d ∧ d ≤ 30000 := by
      constructor
      · exact Int.le_of_mul_le_mul_right (show 0 * e.ii r 0 ≤ d * e.ii r 0 by rw [hd]; omega) (by omega)
      · exact Int.le_of_mul_le_mul_right (show d * e.ii r 0 ≤ 30000 * e.ii r 0 by rw [hd]; omega) (by omega)
    have u := fun q => upd1 e r q (s - sm e r) d
    generalize hh : (e.upd r 0 [SV.int IntKind.i64 (s - sm e r)]).upd r 1 [SV.int IntKind.i64 d] = hd' at *
    have uo : ∀ q, q < r → hd'.ii q 0 = e.ii q 0 ∧ hd'.ii q 1 = e.ii q 1 ∧ hd'.ii q 2 = e.ii q 2 := fun q hq => by
      obtain ⟨x0, x1, x2⟩ := u q
      rw [if_neg (show ¬ q = r by omega)] at x0 x1
      exact ⟨x0, x1, x2⟩
    have ur : hd'.ii r 0 = s - sm e r ∧ hd'.ii r 1 = d ∧ hd'.ii r 2 = e.ii r 2 := by
      obtain ⟨x0, x1, x2⟩ := u r
      rw [if_pos rfl] at x0 x1
      exact ⟨x0, x1, x2⟩
    have sh : ∀ q, q ≤ r → sm hd' q = sm e q := fun q hq => sm_congr fun k hk => (uo k (by omega)).1
    have shr : sm hd' (r + 1) = s := by simp only [sm]; rw [sh r (Nat.le_refl _), ur.1]; omega
    have hLL := P.legs
    have H : Pln a b ng g (r + 1) hd' := by
      refine ⟨P.name, P.air, P.some, P.few, P.gas, by omega, fun j hj => ?_, fun j hj => ?_⟩
      · by_cases c : j = r
        · subst c
          unfold LegOk
          rw [ur.1, ur.2.1, ur.2.2]
          exact ⟨by omega, db, lr.2.2⟩
        · have := P.leg j (by omega)
          have v := uo j (by omega)
          unfold LegOk at this ⊢
          rw [v.1, v.2.1, v.2.2]; exact this
      · by_cases c : j = r + 1
        · subst c; rw [shr]; omega
        · rw [sh j (by omega)]; exact P.sum j (by omega)
    by_cases hc : s = sm e (r + 1)
    · obtain ⟨o, k1, k2⟩ := rest_ok P (s := s) ⟨by omega, by rw [hc]; exact P.le (by omega) (Nat.le_refl _)⟩ (m := r + 1) (by omega) (by omega) (fun h => by
        have := P.leg0 h
        have e2 : sm e (r + 1 + 1) = sm e (r + 1) + e.ii (r + 1) 0 := rfl
        omega) a b ng g (r + 1) hd'
      have dd : d = e.ii r 1 := by
        rw [hc, Int.sub_self, Int.mul_zero, Int.zero_add, show sm e (r + 1) - sm e r = e.ii r 0 by omega, ed] at hd
        exact Int.eq_of_mul_eq_mul_right (by omega) hd
      have ag : Ag L e (hd'.app (r + 1) o) := fun q hq => by
        by_cases c : q < r + 1
        · rw [app_lt c, app_lt c, app_lt c]
          by_cases c2 : q = r
          · subst c2; rw [ur.1, ur.2.1, ur.2.2]; exact ⟨by omega, dd.symm, rfl⟩
          · obtain ⟨x0, x1, x2⟩ := uo q (by omega); exact ⟨x0.symm, x1.symm, x2.symm⟩
        · rw [app_ge (by omega), app_ge (by omega), app_ge (by omega)]
          obtain ⟨x0, x1, x2⟩ := k2 (q - (r + 1)) (by omega)
          rw [show r + 1 + (q - (r + 1)) = q by omega] at x0 x1 x2
          refine ⟨?_, x1.symm, x2.symm⟩
          rw [x0]
          by_cases hz : q - (r + 1) = 0
          · rw [if_pos hz]
            obtain rfl : q = r + 1 := by omega
            have e2 : sm e (r + 1 + 1) = sm e (r + 1) + e.ii (r + 1) 0 := rfl
            omega
          · rw [if_neg hz]
      refine parts_join P hs H r1 shr h43 h2 (k := L - (r + 1)) (by omega) k1 (.inr ?_)
      rw [show r + 1 + (L - (r + 1)) = L by omega]
      exact ⟨pln_congr P ag, fun R hR => nf_congr (ag_symm ag) hR⟩
    · obtain ⟨o, k1, k2⟩ := rest_ok P (s := s) ⟨by omega, by have := P.le (show r + 1 ≤ L by omega) (Nat.le_refl _); omega⟩ (m := r) (by omega) (by omega) (fun h => by omega) a b ng g (r + 1) hd'
      have C : Cut L e r (s - sm e r) (sm e (r + 1) - s) d (hd'.app (r + 1) o) := by
        refine ⟨r1, by omega, by omega, by omega, ?_, fun q hq => ?_, ?_, ?_, fun q c1 c2 => ?_⟩
        · rw [ed] at hd
          have x1 : d * e.ii r 0 = d * (s - sm e r) + d * (sm e (r + 1) - s) := by rw [← Int.mul_add]; congr 1; omega
          rw [Int.sub_mul, Int.sub_mul]; omega
        · rw [app_lt (by omega), app_lt (by omega), app_lt (by omega)]; exact uo q hq
        · rw [app_lt (by omega), app_lt (by omega), app_lt (by omega)]; exact ur
        · obtain ⟨x0, x1, x2⟩ := k2 0 (by omega)
          rw [if_pos rfl] at x0
          rw [app_eq, app_eq, app_eq]
          exact ⟨x0, x1, x2⟩
        · obtain ⟨x0, x1, x2⟩ := k2 (q - r) (by omega)
          rw [if_neg (by omega)] at x0
          rw [app_ge (by omega), app_ge (by omega), app_ge (by omega), show q + 1 - (r + 1) = q - r by omega, x0, x1, x2, show r + (q - r) = q by omega]
          exact ⟨rfl, rfl, rfl⟩
      refine parts_join P hs H r1 shr h43 h2 (k := L - r) (by omega) k1 ?_
      rw [show r + 1 + (L - r) = L + 1 by omega]
      by_cases big : 60 < L + 1
      · exact .inl ⟨big, by omega⟩
      · exact .inr ⟨C.pln P db (by omega), fun R hR => C.nf P hR⟩
end Go.Proofs.YtchhhoamnagbfaaDoor
