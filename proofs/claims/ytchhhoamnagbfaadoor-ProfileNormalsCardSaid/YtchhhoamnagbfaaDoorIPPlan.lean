/-
  Plans: the check, the points, the ends: plain law. Conditions: none.
-/
import Derived.KernelRfl
import Derived.Test.YtchhhoamnagbfaaDoorIPDepths
namespace Go.Proofs.YtchhhoamnagbfaaDoor
open Go Go.Sy
set_option linter.unusedVariables false
set_option linter.unusedSimpArgs false
set_option maxRecDepth 100000
attribute [local simp] brk
noncomputable def badC (s : ByteArray) (i : Nat) : Option (Bool × Bool × Unit) :=
  cond (bif (bif (bif (bif decide (97 ≤ byteAt s i) then decide (byteAt s i ≤ 122) else false) then true else (bif decide (65 ≤ byteAt s i) then decide (byteAt s i ≤ 90) else false)) then false else true) then (bif decide (i = 0) then true else (bif (bif decide (byteAt s i = 45) then false else true) then (bif decide (byteAt s i < 48) then true else decide (57 < byteAt s i)) else false)) else false) (some (true, false, default)) none
theorem l64_all (s : ByteArray) (hs : s.size ≤ 9223372036854775807) : o64_0 s 0 = some (first (badC s) (false, default, ()) s.size 0) :=
  loop_first (l := l64_0 s) hs (fun f i hi => by
    have e : decide ((i : Int) = 0) = decide (i = 0) := by by_cases h : i = 0 <;> simp [h]
    simp only [l64_0, cdl hi, cdd hi, cond_true, Int.toNat_natCast, e, badC]
    generalize (bif bif bif bif decide (97 ≤ byteAt s i) then decide (byteAt s i ≤ 122) else false then true else bif decide (65 ≤ byteAt s i) then decide (byteAt s i ≤ 90) else false then false else true then bif decide (i = 0) then true else bif bif decide (byteAt s i = 45) then false else true then bif decide (byteAt s i < 48) then true else decide (57 < byteAt s i) else false else false) = c
    cases c <;> rfl) (fun f => by simp only [l64_0, cdn]; rfl) s.size 0 _ (by omega) (by omega)
theorem l57_all (s : ByteArray) (hs : s.size ≤ 9223372036854775807) : o57_0 s (s.size : Int) 0 = some (first (badC s) (false, default, ()) s.size 0) :=
  loop_first (l := l57_0 s (s.size : Int)) hs (fun f i hi => by
    have e : decide ((i : Int) = 0) = decide (i = 0) := by by_cases h : i = 0 <;> simp [h]
    simp only [l57_0, cdl hi, cdd hi, cond_true, Int.toNat_natCast, e, badC, Bool.cond_self]
    generalize decide (97 ≤ byteAt s i) = c1
    generalize decide (byteAt s i ≤ 122) = c2
    generalize decide (65 ≤ byteAt s i) = c3
    generalize decide (byteAt s i ≤ 90) = c4
    generalize decide (i = 0) = c5
    generalize decide (byteAt s i = 45) = c6
    generalize decide (byteAt s i < 48) = c7
    generalize decide (57 < byteAt s i) = c8
    cases c1 <;> cases c2 <;> cases c3 <;> cases c4 <;> cases c5 <;> cases c6 <;> cases c7 <;> cases c8 <;> rfl) (fun f => by simp only [l57_0, cdn]; rfl) s.size 0 _ (by omega) (by omega)
theorem names (s : ByteArray) (hs : s.size ≤ 9223372036854775807) : n57 s = true ∧ n64 s = true ∧ m57 s = m64 s := by
  simp only [n57, n64, m57, m64, l57_all s hs, l64_all s hs, Option.getD_some]
  have hb : (first (badC s) (false, default, ()) s.size 0).1 = true → (first (badC s) (false, default, ()) s.size 0).2.1 = false := by
    rcases first_cases (g := badC s) (e := (false, (default : Bool), ())) s.size 0 with ⟨j, b, _, _, hg, _, hb⟩ | ⟨_, hb⟩
    · intro _
      have : first (badC s) (false, default, ()) s.size 0 = b := hb
      rw [this]
      unfold badC at hg
      generalize (bif bif bif bif decide (97 ≤ byteAt s j) then decide (byteAt s j ≤ 122) else false then true else bif decide (65 ≤ byteAt s j) then decide (byteAt s j ≤ 90) else false then false else true then bif decide (j = 0) then true else bif bif decide (byteAt s j = 45) then false else true then bif decide (byteAt s j < 48) then true else decide (57 < byteAt s j) else false else false) = c at hg
      cases c <;> simp at hg
      rw [← hg]
    · intro h
      have : first (badC s) (false, default, ()) s.size 0 = (false, default, ()) := hb
      rw [this] at h
      cases h
  have e0 : decide (s = { data := #[] }) = decide ((s.size : Int) < 1) := by
    apply decide_eq_decide.2
    constructor
    · intro h; subst h; decide
    · intro h
      have : s.size = 0 := by omega
      obtain ⟨d⟩ := s
      have : d.size = 0 := this
      rw [Array.size_eq_zero_iff] at this
      rw [this]
  rw [e0]
  generalize first (badC s) (false, default, ()) s.size 0 = r at *
  obtain ⟨r1, r2, r3⟩ := r
  simp only at hb ⊢
  refine ⟨rfl, ?_, ?_⟩
  · cases decide ((s.size : Int) < 1) <;> cases decide (12 < (s.size : Int)) <;> rfl
  · have e1 : decide ((s.size : Int) ≤ 12) = !decide (12 < (s.size : Int)) := by
      by_cases h : 12 < (s.size : Int)
      · have : ¬ (s.size : Int) ≤ 12 := by omega
        simp [h, this]
      · have : (s.size : Int) ≤ 12 := by omega
        simp [h, this]
    rw [e1]
    cases r1
    · cases decide ((s.size : Int) < 1) <;> cases decide (12 < (s.size : Int)) <;> rfl
    · have := hb rfl
      subst this
      cases decide ((s.size : Int) < 1) <;> cases decide (12 < (s.size : Int)) <;> rfl
theorem gas_ok (a b : Int) : m58 a b = m65 a b ∧ n58 a b = true := by
  have h : ∀ x y : Int, o93_0 2 (datS [SV.int IntKind.i64 x, SV.int IntKind.i64 y] 1) (↑(2 : Nat) : Int) 0 = cond (bif decide (x = 0) then false else true) (some (true, x, default)) (cond (bif decide (y = 0) then false else true) (some (true, y, default)) (some (false, default, ()))) := fun x y => by kernel_rfl
  have e : ∀ x, m94 x 0 1000 = cond (m16 x 0 1000) 0 2 := fun x => by
    have : m111 x 0 1000 = m16 x 0 1000 := rfl
    simp only [m94, this]; cases m16 x 0 1000 <;> rfl
  constructor
  · simp only [m58, m93, h, m65, e]
    cases m16 a 0 1000 <;> cases m16 b 0 1000 <;> simp
  · simp only [n58, n93, h, e]
    cases m16 a 0 1000 <;> cases m16 b 0 1000 <;> simp
noncomputable def badGas (g : Dat) (i : Nat) : Option (Bool × (Int × Int) × Unit) := cond (bif decide (m65 (g.ii i 0) (g.ii i 1) = 0) then false else true) (some (true, (0, m65 (g.ii i 0) (g.ii i 1)), default)) none
theorem l19g_all {ng : Nat} (h : ng ≤ 9223372036854775807) (a : ByteArray) (b : Int) (g : Dat) (L : Nat) (e : Dat) : o19_1 ng g (ng : Int) a b g L e 0 = some (first (badGas g) (false, default, ()) ng 0) :=
  loop_first (l := l19_1 ng g (ng : Int) a b g L e) h (fun f i hi => by
    simp only [l19_1, cdl hi, cdd hi, cond_true, Int.toNat_natCast, badGas, (gas_ok _ _).1, (gas_ok _ _).2]
    cases decide (m65 (g.ii i 0) (g.ii i 1) = 0) <;> rfl) (fun f => by simp only [l19_1, cdn]; rfl) ng 0 _ (by omega) (by omega)
theorem l25g_all {ng : Nat} (h : ng ≤ 9223372036854775807) (a : ByteArray) (b : Int) (g : Dat) (L : Nat) (e : Dat) : o25_0 a b ng g L e 0 = some (first (badGas g) (false, default, ()) ng 0) :=
  loop_first (l := l25_0 a b ng g L e) h (fun f i hi => by
    simp only [l25_0, cdl hi, cdd hi, cond_true, Int.toNat_natCast, badGas]
    cases decide (m65 (g.ii i 0) (g.ii i 1) = 0) <;> rfl) (fun f => by simp only [l25_0, cdn]; rfl) ng 0 _ (by omega) (by omega)
theorem badGas_none {g : Dat} {i : Nat} : badGas g i = none ↔ m65 (g.ii i 0) (g.ii i 1) = 0 := by
  simp only [badGas]
  by_cases h : m65 (g.ii i 0) (g.ii i 1) = 0 <;> simp [h]
def sm (e : Dat) : Nat → Int
  | 0 => 0
  | i + 1 => sm e i + e.ii i 0
def dp (e : Dat) : Nat → Int
  | 0 => 0
  | i + 1 => e.ii i 1
def LegOk (ng : Nat) (e : Dat) (j : Nat) : Prop := (1 ≤ e.ii j 0 ∧ e.ii j 0 ≤ 1000000) ∧ (0 ≤ e.ii j 1 ∧ e.ii j 1 ≤ 30000) ∧ (0 ≤ e.ii j 2 ∧ e.ii j 2 < (ng : Int))
theorem no_or {x y : Bool} : (bif (bif x then false else true) then true else (bif y then false else true)) = false ↔ x = true ∧ y = true := by cases x <;> cases y <;> simp
theorem no_not {x : Bool} : (bif x then false else true) = false ↔ x = true := by cases x <;> simp
theorem leg_run {ng : Nat} (hng : ng ≤ 9223372036854775807) {L : Nat} (hL : L ≤ 9223372036854775807) (a : ByteArray) (b : Int) (g e : Dat) : ∀ (k i f f' : Nat) (s : Int), i + k = L → k < f → k < f' →
    ∃ r : Bool × (Int × Int) × Unit, l19_3 L e (L : Int) a b ng g e f s (i : Int) = some r ∧ l25_2 a b ng g L e f' s (i : Int) = some r ∧ (r.1 = true → r.2.1.2 ≠ 0) ∧
      (s = sm e i → 0 ≤ s ∧ s ≤ 1000000 → (r.1 = false ↔ ∀ j, i ≤ j → j < L → LegOk ng e j ∧ sm e (j + 1) ≤ 1000000))
  | 0, i, f, f', s, hi, hf, hf' => by
    obtain ⟨f, rfl⟩ : ∃ f0, f = f0 + 1 := ⟨f - 1, by omega⟩
    obtain ⟨f', rfl⟩ : ∃ f0, f' = f0 + 1 := ⟨f' - 1, by omega⟩
    obtain rfl : i = L := by omega
    refine ⟨(false, default, ()), by simp only [l19_3, cdn]; rfl, by simp only [l25_2, cdn]; rfl, fun h => (by cases h), fun _ _ => ⟨fun _ j h1 h2 => by omega, fun _ => rfl⟩⟩
  | k + 1, i, f, f', s, hi, hf, hf' => by
    obtain ⟨f, rfl⟩ : ∃ f0, f = f0 + 1 := ⟨f - 1, by omega⟩
    obtain ⟨f', rfl⟩ : ∃ f0, f' = f0 + 1 := ⟨f' - 1, by omega⟩
    have hlt : i < L := by omega
    have w : IntKind.i64.wrap ((ng : Int) - 1) = (ng : Int) - 1 := wr (by omega) (by omega)
    have h16 : ∀ x y z, m16 x y z = m52 x y z := fun _ _ _ => rfl
    cases h1 : (bif (bif m52 (e.ii i 0) 1 1000000 then false else true) then true else (bif m52 (e.ii i 1) 0 30000 then false else true)) with
    | true =>
      refine ⟨(true, ((i : Int), 2), default), by simp only [l19_3, cdl hlt, cdd hlt, Int.toNat_natCast, h1, cond_true], by simp only [l25_2, cdl hlt, cdd hlt, Int.toNat_natCast, h16, h1, cond_true], fun _ => (by simp), fun _ _ => ⟨fun h => (by cases h), fun h => ?_⟩⟩
      obtain ⟨⟨A, B, _⟩, _⟩ := h i (Nat.le_refl _) hlt
      rw [no_or.2 ⟨m52_iff.2 A, m52_iff.2 B⟩] at h1; cases h1
    | false =>
      obtain ⟨p1, p2⟩ := no_or.1 h1
      have p1 := m52_iff.1 p1; have p2 := m52_iff.1 p2
      cases h2 : (bif m52 (e.ii i 2) 0 ((ng : Int) - 1) then false else true) with
      | true =>
        refine ⟨(true, ((i : Int), 6), default), by simp only [l19_3, cdl hlt, cdd hlt, Int.toNat_natCast, h1, w, h2, cond_true, cond_false], by simp only [l25_2, cdl hlt, cdd hlt, Int.toNat_natCast, h16, h1, w, h2, cond_true, cond_false], fun _ => (by simp), fun _ _ => ⟨fun h => (by cases h), fun h => ?_⟩⟩
        obtain ⟨⟨_, _, A⟩, _⟩ := h i (Nat.le_refl _) hlt
        rw [no_not.2 (m52_iff.2 ⟨A.1, by omega⟩)] at h2; cases h2
      | false =>
        have p3 := m52_iff.1 (no_not.1 h2)
        by_cases h3 : 1000000 < IntKind.i64.wrap (s + e.ii i 0)
        · refine ⟨(true, ((i : Int), 8), default), by simp only [l19_3, cdl hlt, cdd hlt, Int.toNat_natCast, h1, w, h2, decide_eq_true h3, cond_true, cond_false], by simp only [l25_2, cdl hlt, cdd hlt, Int.toNat_natCast, h16, h1, w, h2, decide_eq_true h3, cond_true, cond_false], fun _ => (by simp), fun hs hb => ⟨fun h => (by cases h), fun h => ?_⟩⟩
          have := (h i (Nat.le_refl _) hlt).2
          rw [wr (by omega) (by omega), hs] at h3
          simp only [sm] at this; omega
        · obtain ⟨r, g1, g2, g3, g4⟩ := leg_run hng hL a b g e k (i + 1) f f' (IntKind.i64.wrap (s + e.ii i 0)) (by omega) (by omega) (by omega)
          refine ⟨r, by simp only [l19_3, cdl hlt, cdd hlt, Int.toNat_natCast, h1, w, h2, decide_eq_false h3, cond_true, cond_false, wrS hlt hL]; exact g1, by simp only [l25_2, cdl hlt, cdd hlt, Int.toNat_natCast, h16, h1, w, h2, decide_eq_false h3, cond_true, cond_false, wrS hlt hL]; exact g2, g3, fun hs hb => ?_⟩
          have ws : IntKind.i64.wrap (s + e.ii i 0) = s + e.ii i 0 := wr (by omega) (by omega)
          rw [ws] at h3 g4
          refine (g4 (by rw [hs]; rfl) ⟨by omega, by omega⟩).trans ⟨fun h j a c => ?_, fun h j a c => h j (by omega) c⟩
          by_cases hj : j = i
          · subst hj
            exact ⟨⟨p1, p2, p3.1, by omega⟩, by simp only [sm]; omega⟩
          · exact h j (by omega) c
structure Pln (a : ByteArray) (b : Int) (ng : Nat) (g : Dat) (L : Nat) (e : Dat) : Prop where
  name : m64 a = true
  air : 400 ≤ b ∧ b ≤ 1100
  some : 1 ≤ ng
  few : ng ≤ 8
  gas : ∀ i, i < ng → m65 (g.ii i 0) (g.ii i 1) = 0
  legs : L ≤ 60
  leg : ∀ j, j < L → LegOk ng e j
  sum : ∀ j, j ≤ L → sm e j ≤ 1000000
theorem plan_ok (a : ByteArray) (b : Int) (ng : Nat) (g : Dat) (L : Nat) (e : Dat) (ha : a.size ≤ 9223372036854775807) (hg : ng ≤ 9223372036854775807) (hL : L ≤ 9223372036854775807) :
    n19 a b ng g L e = true ∧ n25 a b ng g L e = true ∧ m19 a b ng g L e = m25 a b ng g L e ∧ ((m25 a b ng g L e).2 = 0 → Pln a b ng g L e) ∧ (Pln a b ng g L e → m25 a b ng g L e = (0, 0)) := by
  obtain ⟨a1, a2, a3⟩ := names a ha
  have h16 : ∀ x y z, m16 x y z = m52 x y z := fun _ _ _ => rfl
  obtain ⟨r, r1, r2, r3, r4⟩ : ∃ r : Bool × (Int × Int) × Unit, o19_3 L e (L : Int) a b ng g e 0 0 = some r ∧ o25_2 a b ng g L e 0 0 = some r ∧ (r.1 = true → r.2.1.2 ≠ 0) ∧ (r.1 = false ↔ ∀ j, j < L → LegOk ng e j ∧ sm e (j + 1) ≤ 1000000) := by
    obtain ⟨r, g1, g2, g3, g4⟩ := leg_run hg hL a b g e L 0 (Int.toNat 0 + L + (L : Int).toNat + Int.toNat 0 + a.size + b.toNat + ng + 8) (Int.toNat 0 + Int.toNat 0 + a.size + b.toNat + ng + L + 8) 0 (by omega) (by omega) (by omega)
    exact ⟨r, g1, g2, g3, (g4 rfl ⟨by decide, by decide⟩).trans ⟨fun h j c => h j (Nat.zero_le _) c, fun h j _ c => h j c⟩⟩
  simp only [n19, n25, m19, m25, a1, a2, a3, h16, l19g_all hg, l25g_all hg, r1, r2, Option.getD_some, Option.isSome_some, Bool.true_and, Bool.and_true]
  cases h1 : m64 a with
  | false => exact ⟨by simp only [cond_true, cond_false], by simp only [cond_true, cond_false], by trivial, fun h => absurd h (by simp only [cond_true, cond_false]; decide), fun P => by rw [P.name] at h1; cases h1⟩
  | true =>
  simp only [cond_true, cond_false]
  cases h2 : m52 b 400 1100 with
  | false => exact ⟨by simp only [cond_true, cond_false], by simp only [cond_true, cond_false], by trivial, fun h => absurd h (by simp only [cond_true, cond_false]; decide), fun P => by rw [m52_iff.2 P.air] at h2; cases h2⟩
  | true =>
  simp only [cond_true, cond_false]
  by_cases h3 : (ng : Int) = 0
  · simp only [decide_eq_true h3, cond_true]
    exact ⟨trivial, trivial, by trivial, fun h => absurd h (by decide), fun P => absurd P.some (by omega)⟩
  simp only [decide_eq_false h3, cond_false]
  by_cases h4 : 8 < (ng : Int)
  · simp only [decide_eq_true h4, cond_true]
    exact ⟨trivial, trivial, by trivial, fun h => absurd h (by decide), fun P => absurd P.few (by omega)⟩
  simp only [decide_eq_false h4, cond_false]
  have hc := first_cases (g := badGas g) (e := (false, default, ())) ng 0
  cases h5 : (first (badGas g) (false, default, ()) ng 0).1 with
  | true =>
    rcases hc with ⟨j, c, _, hj, hg', _, hc⟩ | ⟨_, hc⟩
    · simp only [cond_true]
      refine ⟨trivial, trivial, by trivial, fun h => ?_, fun P => ?_⟩
      · exfalso
        rw [hc] at h
        simp only [badGas] at hg'
        by_cases hz : m65 (g.ii j 0) (g.ii j 1) = 0
        · rw [decide_eq_true hz] at hg'; cases hg'
        · rw [decide_eq_false hz] at hg'; simp only [cond_true, cond_false, Option.some.injEq] at hg'
          rw [← hg'] at h; exact hz h
      · rw [badGas_none.2 (P.gas j (by omega))] at hg'; cases hg'
    · rw [hc] at h5; cases h5
  | false =>
  have hgas : ∀ i, i < ng → m65 (g.ii i 0) (g.ii i 1) = 0 := by
    rcases hc with ⟨j, c, _, hj, hg', _, hc⟩ | ⟨hn, _⟩
    · exfalso
      simp only [badGas] at hg'
      by_cases hz : m65 (g.ii j 0) (g.ii j 1) = 0
      · rw [decide_eq_true hz] at hg'; cases hg'
      · rw [decide_eq_false hz] at hg'; simp only [cond_true, cond_false, Option.some.injEq] at hg'
        rw [hc, ← hg'] at h5; cases h5
    · exact fun i hi => badGas_none.1 (hn i (Nat.zero_le _) (by omega))
  simp only [cond_false]
  by_cases h6 : (60 : Int) < (L : Int)
  · simp only [decide_eq_true h6, cond_true]
    exact ⟨trivial, trivial, by trivial, fun h => absurd h (by decide), fun P => absurd P.legs (by omega)⟩
  simp only [decide_eq_false h6, cond_false]
  refine ⟨trivial, trivial, by trivial, fun h => ?_, fun P => ?_⟩
  · cases h7 : r.1 with
    | true => rw [h7] at h; exact absurd h (r3 h7)
    | false =>
      have := r4.1 h7
      refine ⟨rfl.trans h1, m52_iff.1 h2, by omega, by omega, hgas, by omega, fun j hj => (this j hj).1, fun j hj => ?_⟩
      cases j with
      | zero => simp only [sm]; decide
      | succ j => exact (this j (by omega)).2
  · have h7 : r.1 = false := r4.2 fun j hj => ⟨P.leg j hj, P.sum (j + 1) (by omega)⟩
    rw [h7]; rfl
theorem one_plan (a : ByteArray) (b : Int) (ng : Nat) (g : Dat) (L : Nat) (e : Dat) (ha : a.size ≤ 9223372036854775807) (hg : ng ≤ 9223372036854775807) (hL : L ≤ 9223372036854775807) :
    n60 1 (datS [SV.str a, SV.int IntKind.i64 b, SV.ro [Kd.int IntKind.i64, Kd.int IntKind.i64] ng g, SV.ro [Kd.int IntKind.i64, Kd.int IntKind.i64, Kd.int IntKind.i64] L e] 4) = true ∧
    m60 1 (datS [SV.str a, SV.int IntKind.i64 b, SV.ro [Kd.int IntKind.i64, Kd.int IntKind.i64] ng g, SV.ro [Kd.int IntKind.i64, Kd.int IntKind.i64, Kd.int IntKind.i64] L e] 4) = (m25 a b ng g L e).2 := by
  have h : o60_0 1 (datS [SV.str a, SV.int IntKind.i64 b, SV.ro [Kd.int IntKind.i64, Kd.int IntKind.i64] ng g, SV.ro [Kd.int IntKind.i64, Kd.int IntKind.i64, Kd.int IntKind.i64] L e] 4) (↑(1 : Nat) : Int) 0 = cond (n19 a b ng g L e) (cond (bif decide ((m19 a b ng g L e).snd = 0) then false else true) (some (true, (m19 a b ng g L e).snd, default)) (some (false, default, ()))) none := by kernel_rfl
  obtain ⟨h1, h2, h3, _⟩ := plan_ok a b ng g L e ha hg hL
  rw [h1, h3] at h
  simp only [n60, m60, h, cond_true]
  by_cases hz : (m25 a b ng g L e).2 = 0
  · rw [decide_eq_true hz, hz]; exact ⟨rfl, rfl⟩
  · rw [decide_eq_false hz]; exact ⟨rfl, rfl⟩
theorem app_lt {d e : Dat} {n q c : Nat} (h : q < n) : (d.app n e).ii q c = d.ii q c := by
  simp only [Dat.app, blt_t h, cond_true]
theorem app_eq {d e : Dat} {n c : Nat} : (d.app n e).ii n c = e.ii 0 c := by
  have : Nat.blt n n = false := Bool.eq_false_iff.2 fun h => Nat.lt_irrefl _ (Nat.le_of_ble_eq_true h)
  simp only [Dat.app, this, cond_false, Nat.sub_self]
section
variable {a : ByteArray} {b : Int} {ng : Nat} {g : Dat} {L : Nat} {e : Dat}
theorem Pln.leg0 (P : Pln a b ng g L e) {j : Nat} (h : j < L) : 1 ≤ e.ii j 0 ∧ e.ii j 0 ≤ 1000000 := (P.leg j h).1
theorem Pln.nonneg (P : Pln a b ng g L e) : ∀ {j : Nat}, j ≤ L → 0 ≤ sm e j
  | 0, _ => Int.le_refl _
  | j + 1, h => by
    have := P.nonneg (j := j) (by omega); have := P.leg0 (show j < L by omega)
    simp only [sm]; omega
theorem Pln.dep (P : Pln a b ng g L e) {j : Nat} (h : j ≤ L) : 0 ≤ dp e j ∧ dp e j ≤ 30000 := by
  cases j with
  | zero => simp only [dp]; decide
  | succ j => exact (P.leg j (by omega)).2.1
def PtsOf (e : Dat) (n : Nat) (D : Dat) : Prop := ∀ q, q < n → D.ii q 0 = sm e q ∧ D.ii q 1 = dp e q
theorem ptsOf_one (e : Dat) : PtsOf e 1 (datS [SV.int IntKind.i64 0, SV.int IntKind.i64 0] 2) := fun q hq => by
  obtain rfl : q = 0 := by omega
  exact ⟨rfl, rfl⟩
theorem ptsOf_app {D : Dat} {i : Nat} (h : PtsOf e (i + 1) D) (x : Int) (hx : x = sm e (i + 1)) : PtsOf e (i + 1 + 1) (D.app (i + 1) (datS [SV.int IntKind.i64 x, SV.int IntKind.i64 (e.ii i 1)] 2)) := fun q hq => by
  by_cases hh : q < i + 1
  · rw [app_lt hh, app_lt hh]; exact h q hh
  · obtain rfl : q = i + 1 := by omega
    rw [app_eq, app_eq]
    exact ⟨hx, rfl⟩
theorem pts_run (P : Pln a b ng g L e) : ∀ (k i f : Nat) (D : Dat), i + k = L → k < f → PtsOf e (i + 1) D → ∃ D', l61_0 L e (L : Int) a b ng g e f (i + 1) (i : Int) D = some (L + 1, L + 1, D') ∧ PtsOf e (L + 1) D'
  | 0, i, f, D, hi, hf, hD => by
    obtain ⟨f, rfl⟩ : ∃ f0, f = f0 + 1 := ⟨f - 1, by omega⟩
    obtain rfl : i = L := by omega
    exact ⟨D, by simp only [l61_0, cdn]; rfl, hD⟩
  | k + 1, i, f, D, hi, hf, hD => by
    obtain ⟨f, rfl⟩ : ∃ f0, f = f0 + 1 := ⟨f - 1, by omega⟩
    have hlt : i < L := by omega
    have hL := P.legs
    have w : IntKind.i64.wrap (((i + 1 : Nat) : Int) - 1) = (i : Int) := by rw [wr (by omega) (by omega)]; omega
    have c1 : decide (0 ≤ (i : Int) ∧ (i : Int) < ((i + 1 : Nat) : Int)) = true := decide_eq_true ⟨by omega, by omega⟩
    have c2 : decide (i < i + 1) = true := decide_eq_true (by omega)
    have c3 : decide (i + 1 + 1 ≤ 1073741824) = true := decide_eq_true (by omega)
    have s0 := P.nonneg (show i ≤ L by omega); have s1 := P.sum (i + 1) (by omega); have l0 := P.leg0 hlt
    have h0 := (hD i (by omega)).1
    have ws : IntKind.i64.wrap (D.ii i 0 + e.ii i 0) = sm e (i + 1) := by
      rw [h0]; simp only [sm] at s1 ⊢; exact wr (by omega) (by omega)
    obtain ⟨D', g1, g2⟩ := pts_run P k (i + 1) f _ (by omega) (by omega) (ptsOf_app hD _ rfl)
    refine ⟨D', ?_, g2⟩
    simp only [l61_0, cdl hlt, cdd hlt, w, c1, c2, c3, Int.toNat_natCast, ws, cond_true, wrS hlt (by omega)]
    exact g1
theorem track_ok (P : Pln a b ng g L e) : n61 a b ng g L e = true ∧ ∃ D, m61 a b ng g L e = (L + 1, D) ∧ PtsOf e (L + 1) D := by
  have hL := P.legs
  obtain ⟨D, g1, g2⟩ := pts_run P L 0 (1 + L + (L : Int).toNat + Int.toNat 0 + a.size + b.toNat + ng + 8) _ (by omega) (by omega) (ptsOf_one e)
  have h : o61_0 L e (L : Int) a b ng g e 1 0 (datS [SV.int IntKind.i64 0, SV.int IntKind.i64 0] 2) = some (L + 1, L + 1, D) := g1
  refine ⟨by simp only [n61, h, Option.getD_some, Option.isSome_some, Nat.zero_add, Nat.le_refl, decide_true]; rfl, D, by simp only [m61, h, Option.getD_some], g2⟩
theorem end_ok (P : Pln a b ng g L e) {D : Dat} (hD : PtsOf e (L + 1) D) : n62 (L + 1) D = true ∧ m62 (L + 1) D = sm e L := by
  have hL := P.legs
  have w : IntKind.i64.wrap (((L + 1 : Nat) : Int) - 1) = (L : Int) := by rw [wr (by omega) (by omega)]; omega
  refine ⟨by simp only [n62, w, decide_eq_true (show 0 ≤ (L : Int) ∧ (L : Int) < ((L + 1 : Nat) : Int) by omega)]; rfl, ?_⟩
  simp only [m62, w, Int.toNat_natCast]
  exact (hD L (by omega)).1
theorem sec_run (P : Pln a b ng g L e) : ∀ (k i f : Nat), i + k = L → k < f → l26_0 a b ng g L e f (sm e i) (i : Int) = some (sm e L)
  | 0, i, f, hi, hf => by
    obtain ⟨f, rfl⟩ : ∃ f0, f = f0 + 1 := ⟨f - 1, by omega⟩
    obtain rfl : i = L := by omega
    simp only [l26_0, cdn]; rfl
  | k + 1, i, f, hi, hf => by
    obtain ⟨f, rfl⟩ : ∃ f0, f = f0 + 1 := ⟨f - 1, by omega⟩
    have hlt : i < L := by omega
    have hL := P.legs
    have s0 := P.nonneg (show i ≤ L by omega); have s1 := P.sum (i + 1) (by omega); have l0 := P.leg0 hlt
    have ws : IntKind.i64.wrap (sm e i + e.ii i 0) = sm e (i + 1) := by
      simp only [sm] at s1 ⊢; exact wr (by omega) (by omega)
    simp only [l26_0, cdl hlt, cdd hlt, Int.toNat_natCast, ws, cond_true, wrS hlt (by omega)]
    exact sec_run P k (i + 1) f (by omega) (by omega)
theorem seconds_ok (P : Pln a b ng g L e) : n26 a b ng g L e = true ∧ m26 a b ng g L e = sm e L := by
  have h : o26_0 a b ng g L e 0 0 = some (sm e L) := sec_run P L 0 (Int.toNat 0 + Int.toNat 0 + a.size + b.toNat + ng + L + 8) (by omega) (by omega)
  exact ⟨by simp only [n26, h]; rfl, by simp only [m26, h]; rfl⟩
end
end Go.Proofs.YtchhhoamnagbfaaDoor
