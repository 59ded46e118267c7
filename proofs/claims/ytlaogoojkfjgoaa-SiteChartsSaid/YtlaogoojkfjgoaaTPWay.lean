/-
  The way with the least minutes: what the program's search comes to. Conditions: none.
-/
import Derived.Test.YtlaogoojkfjgoaaT1
import Derived.Test.YtlaogoojkfjgoaaT2
import Derived.Test.YtlaogoojkfjgoaaT3
import Derived.Test.YtlaogoojkfjgoaaTFCharts
import Derived.Test.YtlaogoojkfjgoaaTPLoop
import Derived.Test.YtlaogoojkfjgoaaTPAng
import Derived.Test.YtlaogoojkfjgoaaTPChart
import Derived.Test.YtlaogoojkfjgoaaTPFlat
namespace Go.Proofs.Ytlaogoojkfjgoaa
open Go Go.Sy
set_option linter.unusedVariables false
set_option linter.unusedSimpArgs false
set_option maxRecDepth 100000
section
variable {n : Nat} {d' : Dat}
abbrev byD (D : Dat) (q : Nat) : Int := D.ii q 0
abbrev dsD (D : Dat) (q : Nat) : Int := D.ii q 1
abbrev snD (D : Dat) (q : Nat) : Bool := D.bb q 2
abbrev knD (D : Dat) (q : Nat) : Bool := D.bb q 3
/-- An element written. -/
theorem put_same (D : Dat) (k : Nat) (a b : Int) (c e : Bool) : byD (D.upd k 0 [SV.int IntKind.i64 a, SV.int IntKind.i64 b, SV.bool c, SV.bool e]) k = a ∧ dsD (D.upd k 0 [SV.int IntKind.i64 a, SV.int IntKind.i64 b, SV.bool c, SV.bool e]) k = b ∧ snD (D.upd k 0 [SV.int IntKind.i64 a, SV.int IntKind.i64 b, SV.bool c, SV.bool e]) k = c ∧ knD (D.upd k 0 [SV.int IntKind.i64 a, SV.int IntKind.i64 b, SV.bool c, SV.bool e]) k = e := by
  simp [Dat.upd, byD, dsD, snD, knD]
theorem put_other (D : Dat) {k q : Nat} (h : q ≠ k) (j : Nat) (cs : List SV) : byD (D.upd k j cs) q = byD D q ∧ dsD (D.upd k j cs) q = dsD D q ∧ snD (D.upd k j cs) q = snD D q ∧ knD (D.upd k j cs) q = knD D q := by
  simp [Dat.upd, byD, dsD, snD, knD, h]
theorem mark_same (D : Dat) (k : Nat) : byD (D.upd k 3 [SV.bool true]) k = byD D k ∧ dsD (D.upd k 3 [SV.bool true]) k = dsD D k ∧ snD (D.upd k 3 [SV.bool true]) k = snD D k ∧ knD (D.upd k 3 [SV.bool true]) k = true := by
  simp [Dat.upd, byD, dsD, snD, knD]
def Cand (D : Dat) (q : Nat) : Prop := snD D q = true ∧ knD D q = false
theorem near_run (hn : n ≤ 1000) (D : Dat) : ∀ (k j f : Nat) (best : Int), j + k = n → k < f → ((best = -1 ∧ ∀ q, q < j → ¬ Cand D q) ∨ ∃ b : Nat, best = (b : Int) ∧ b < j ∧ Cand D b ∧ ∀ q, q < j → Cand D q → dsD D b ≤ dsD D q) →
    ∃ r, l86_0 n D D (n : Int) f best (j : Int) = some r ∧ ((r = -1 ∧ ∀ q, q < n → ¬ Cand D q) ∨ ∃ b : Nat, r = (b : Int) ∧ b < n ∧ Cand D b ∧ ∀ q, q < n → Cand D q → dsD D b ≤ dsD D q)
  | 0, j, f, best, hj, hf, h => by
    obtain ⟨f, rfl⟩ : ∃ g, f = g + 1 := ⟨f - 1, by omega⟩
    obtain rfl : j = n := by omega
    exact ⟨best, by simp only [l86_0, cdn, cond_false], h⟩
  | k + 1, j, f, best, hj, hf, h => by
    obtain ⟨f, rfl⟩ : ∃ g, f = g + 1 := ⟨f - 1, by omega⟩
    have hlt : j < n := by omega
    by_cases hc : Cand D j
    · obtain ⟨c1, c2⟩ := hc
      have c1' : D.bb j 2 = true := c1
      have c2' : D.bb j 3 = false := c2
      rcases h with ⟨rfl, h⟩ | ⟨b, rfl, hb, hcb, hmin⟩
      · have e : l86_0 n D D (n : Int) (f + 1) (-1) (j : Int) = l86_0 n D D (n : Int) f (j : Int) ((j + 1 : Nat) : Int) := by
          simp only [l86_0, cdl hlt, cdd hlt, Int.toNat_natCast, c1', c2', decide_eq_true (show (-1 : Int) < 0 by omega), wrS hlt (by omega), cond_true, cond_false]
        rw [e]
        exact near_run hn D k (j + 1) f (j : Int) (by omega) (by omega) (.inr ⟨j, rfl, by omega, ⟨c1, c2⟩, fun q hq hcq => by
          by_cases hqj : q = j
          · subst hqj; exact Int.le_refl _
          · exact absurd hcq (h q (by omega))⟩)
      · have zb : decide ((b : Int) < 0) = false := decide_eq_false (by omega)
        have zr : decide (0 ≤ (b : Int) ∧ (b : Int) < (n : Int)) = true := decide_eq_true ⟨by omega, by omega⟩
        by_cases hlt2 : D.ii j 1 < D.ii b 1
        · have e : l86_0 n D D (n : Int) (f + 1) (b : Int) (j : Int) = l86_0 n D D (n : Int) f (j : Int) ((j + 1 : Nat) : Int) := by
            simp only [l86_0, cdl hlt, cdd hlt, Int.toNat_natCast, c1', c2', zb, zr, decide_eq_true hlt2, wrS hlt (by omega), cond_true, cond_false]
          rw [e]
          exact near_run hn D k (j + 1) f (j : Int) (by omega) (by omega) (.inr ⟨j, rfl, by omega, ⟨c1, c2⟩, fun q hq hcq => by
            by_cases hqj : q = j
            · subst hqj; exact Int.le_refl _
            · have := hmin q (by omega) hcq; simp only [dsD] at this ⊢; omega⟩)
        · have e : l86_0 n D D (n : Int) (f + 1) (b : Int) (j : Int) = l86_0 n D D (n : Int) f (b : Int) ((j + 1 : Nat) : Int) := by
            simp only [l86_0, cdl hlt, cdd hlt, Int.toNat_natCast, c1', c2', zb, zr, decide_eq_false hlt2, wrS hlt (by omega), cond_true, cond_false]
          rw [e]
          exact near_run hn D k (j + 1) f (b : Int) (by omega) (by omega) (.inr ⟨b, rfl, by omega, hcb, fun q hq hcq => by
            by_cases hqj : q = j
            · subst hqj; simp only [dsD]; omega
            · exact hmin q (by omega) hcq⟩)
    · have y0 : (bif D.bb j 2 then (bif D.bb j 3 then false else true) else false) = false := by
        cases h1 : D.bb j 2 with
        | false => rfl
        | true =>
          cases h2 : D.bb j 3 with
          | true => rfl
          | false => exact absurd ⟨h1, h2⟩ hc
      have e : l86_0 n D D (n : Int) (f + 1) best (j : Int) = l86_0 n D D (n : Int) f best ((j + 1 : Nat) : Int) := by
        simp only [l86_0, cdl hlt, cdd hlt, Int.toNat_natCast, y0, wrS hlt (by omega), cond_true, cond_false]
      rw [e]
      refine near_run hn D k (j + 1) f best (by omega) (by omega) ?_
      rcases h with ⟨hb, h⟩ | ⟨b, hb, hb2, hcb, hmin⟩
      · exact .inl ⟨hb, fun q hq => by
          by_cases hqj : q = j
          · subst hqj; exact hc
          · exact h q (by omega)⟩
      · exact .inr ⟨b, hb, by omega, hcb, fun q hq hcq => by
          by_cases hqj : q = j
          · subst hqj; exact absurd hcq hc
          · exact hmin q (by omega) hcq⟩
theorem near_ok (hn : n ≤ 1000) (D : Dat) : n86 n D = true ∧ ((m86 n D = -1 ∧ ∀ q, q < n → ¬ Cand D q) ∨ ∃ b : Nat, m86 n D = (b : Int) ∧ b < n ∧ Cand D b ∧ ∀ q, q < n → Cand D q → dsD D b ≤ dsD D q) := by
  obtain ⟨r, e, h⟩ := near_run hn D n 0 (n + (-1 : Int).toNat + (n : Int).toNat + (0 : Int).toNat + 8) (-1) (by omega) (by omega) (.inl ⟨rfl, fun q hq => absurd hq (Nat.not_lt_zero q)⟩)
  have o : o86_0 n D D (n : Int) (-1) 0 = some r := e
  exact ⟨by simp only [n86, o]; rfl, by simp only [m86, o, Option.getD_some]; exact h⟩
/-- The ways from the known place i to the first K places have been looked at. -/
structure Rlx (n : Nat) (d' : Dat) (i K : Nat) (D E : Dat) : Prop where
  kn : ∀ q, knD E q = knD D q
  old : ∀ q, knD D q = true → dsD E q = dsD D q ∧ snD E q = snD D q ∧ byD E q = byD D q
  far : ∀ q, K ≤ q → dsD E q = dsD D q ∧ snD E q = snD D q ∧ byD E q = byD D q
  done : ∀ q, q < K → 0 ≤ mn d' i q → knD D q = false → snD E q = true ∧ dsD E q ≤ dsD D i + mn d' i q
  mono : ∀ q, snD D q = true → snD E q = true ∧ dsD E q ≤ dsD D q
  ways : ∀ q, snD E q = true → (snD D q = true ∧ dsD E q = dsD D q ∧ byD E q = byD D q) ∨ (q < K ∧ knD D q = false ∧ 0 ≤ mn d' i q ∧ dsD E q = dsD D i + mn d' i q ∧ byD E q = (i : Int))
theorem rlx_run {D : Dat} {i : Nat} (C : Cht n n d') (hi : i < n) (hk : knD D i = true) (h0 : 0 ≤ dsD D i) (h1 : dsD D i ≤ 1000000) (t2 : Int) (b0 : Nat) (b1 : Dat) : ∀ (k K f : Nat) (E : Dat), K + k = n → k < f → Rlx n d' i K D E →
    ∃ E', Rlx n d' i n D E' ∧ l25_2 t2 n (i : Int) n (d'.sub i 0) (n : Int) b0 b1 n d' n f (K : Int) E = some E'
  | 0, K, f, E, hj, hf, R => by
    obtain ⟨f, rfl⟩ : ∃ g, f = g + 1 := ⟨f - 1, by omega⟩
    obtain rfl : K = n := by omega
    exact ⟨E, R, by simp only [l25_2, cdn, cond_false]⟩
  | k + 1, K, f, E, hj, hf, R => by
    obtain ⟨f, rfl⟩ : ∃ g, f = g + 1 := ⟨f - 1, by omega⟩
    have hlt : K < n := by omega
    have few := C.few
    have lo := C.lo i K hi hlt
    have hi' := C.hi i K hi hlt
    have em : (d'.sub i 0).ii K 0 = mn d' i K := rfl
    have zi : decide (i < n) = true := decide_eq_true hi
    have zK : decide (K < n) = true := decide_eq_true hlt
    have eK : E.bb K 3 = knD D K := R.kn K
    have eS : E.bb K 2 = snD D K := (R.far K (Nat.le_refl _)).2.1
    have eD : E.ii K 1 = dsD D K := (R.far K (Nat.le_refl _)).1
    have eB : byD E K = byD D K := (R.far K (Nat.le_refl _)).2.2
    have ei : E.ii i 1 = dsD D i := (R.old i hk).1
    have w9 : IntKind.i64.wrap (dsD D i + mn d' i K) = dsD D i + mn d' i K := wr (by omega) (by omega)
    -- no change
    have stay : (0 ≤ mn d' i K → knD D K = false → snD D K = true ∧ dsD D K ≤ dsD D i + mn d' i K) → Rlx n d' i (K + 1) D E := fun hs =>
      ⟨R.kn, R.old, fun q hq => R.far q (by omega), fun q hq a b => by
        by_cases h : q = K
        · subst h
          obtain ⟨x, y⟩ := hs a b
          exact ⟨eS.trans x, by rw [show dsD E q = dsD D q from eD]; exact y⟩
        · exact R.done q (by omega) a b, R.mono, fun q hq => by
        rcases R.ways q hq with h | ⟨a, b⟩
        · exact .inl h
        · exact .inr ⟨by omega, b⟩⟩
    by_cases hm : 0 ≤ mn d' i K
    · have zm : decide (0 ≤ mn d' i K) = true := decide_eq_true hm
      cases hkK : knD D K with
      | true =>
        have e : l25_2 t2 n (i : Int) n (d'.sub i 0) (n : Int) b0 b1 n d' n (f + 1) (K : Int) E = l25_2 t2 n (i : Int) n (d'.sub i 0) (n : Int) b0 b1 n d' n f ((K + 1 : Nat) : Int) E := by
          simp only [l25_2, cdl hlt, cdd hlt, cdd hi, Int.toNat_natCast, em, zi, zK, zm, eK, hkK, wrS hlt (by omega), cond_true, cond_false]
        rw [e]
        exact rlx_run C hi hk h0 h1 t2 b0 b1 k (K + 1) f E (by omega) (by omega) (stay fun _ h => by rw [hkK] at h; cases h)
      | false =>
        have change : Rlx n d' i (K + 1) D (E.upd K 0 [SV.int IntKind.i64 (i : Int), SV.int IntKind.i64 (dsD D i + mn d' i K), SV.bool true, SV.bool false]) ∨ (snD D K = true ∧ dsD D K ≤ dsD D i + mn d' i K) := by
          by_cases hz : snD D K = true ∧ dsD D K ≤ dsD D i + mn d' i K
          · exact .inr hz
          · left
            obtain ⟨p1, p2, p3, p4⟩ := put_same E K (i : Int) (dsD D i + mn d' i K) true false
            refine ⟨fun q => ?_, fun q hq => ?_, fun q hq => ?_, fun q hq a b => ?_, fun q hq => ?_, fun q hq => ?_⟩
            · by_cases h : q = K
              · subst h; rw [p4, hkK]
              · rw [(put_other E h 0 _).2.2.2]; exact R.kn q
            · by_cases h : q = K
              · subst h; rw [hkK] at hq; cases hq
              · obtain ⟨o1, o2, o3, _⟩ := put_other E h 0 [SV.int IntKind.i64 (i : Int), SV.int IntKind.i64 (dsD D i + mn d' i K), SV.bool true, SV.bool false]
                rw [o1, o2, o3]; exact R.old q hq
            · obtain ⟨o1, o2, o3, _⟩ := put_other E (show q ≠ K by omega) 0 [SV.int IntKind.i64 (i : Int), SV.int IntKind.i64 (dsD D i + mn d' i K), SV.bool true, SV.bool false]
              rw [o1, o2, o3]; exact R.far q (by omega)
            · by_cases h : q = K
              · subst h; rw [p3, p2]; exact ⟨rfl, Int.le_refl _⟩
              · obtain ⟨o1, o2, o3, _⟩ := put_other E h 0 [SV.int IntKind.i64 (i : Int), SV.int IntKind.i64 (dsD D i + mn d' i K), SV.bool true, SV.bool false]
                rw [o2, o3]; exact R.done q (by omega) a b
            · by_cases h : q = K
              · subst h; rw [p3, p2]
                refine ⟨rfl, ?_⟩
                apply Decidable.byContradiction
                intro hh
                exact hz ⟨hq, by omega⟩
              · obtain ⟨o1, o2, o3, _⟩ := put_other E h 0 [SV.int IntKind.i64 (i : Int), SV.int IntKind.i64 (dsD D i + mn d' i K), SV.bool true, SV.bool false]
                rw [o2, o3]; exact R.mono q hq
            · by_cases h : q = K
              · subst h; exact .inr ⟨by omega, hkK, hm, p2, p1⟩
              · obtain ⟨o1, o2, o3, _⟩ := put_other E h 0 [SV.int IntKind.i64 (i : Int), SV.int IntKind.i64 (dsD D i + mn d' i K), SV.bool true, SV.bool false]
                rw [o3] at hq
                rw [o1, o2]
                rcases R.ways q hq with h | ⟨a, b⟩
                · exact .inl h
                · exact .inr ⟨by omega, b⟩
        cases hsK : snD D K with
        | false =>
          have e : l25_2 t2 n (i : Int) n (d'.sub i 0) (n : Int) b0 b1 n d' n (f + 1) (K : Int) E = l25_2 t2 n (i : Int) n (d'.sub i 0) (n : Int) b0 b1 n d' n f ((K + 1 : Nat) : Int) (E.upd K 0 [SV.int IntKind.i64 (i : Int), SV.int IntKind.i64 (dsD D i + mn d' i K), SV.bool true, SV.bool false]) := by
            simp only [l25_2, cdl hlt, cdd hlt, cdd hi, Int.toNat_natCast, em, zi, zK, zm, eK, hkK, eS, hsK, ei, w9, wrS hlt (by omega), cond_true, cond_false]
          rw [e]
          rcases change with h | ⟨h, _⟩
          · exact rlx_run C hi hk h0 h1 t2 b0 b1 k (K + 1) f _ (by omega) (by omega) h
          · rw [hsK] at h; cases h
        | true =>
          by_cases hz : dsD D i + mn d' i K < dsD D K
          · have e : l25_2 t2 n (i : Int) n (d'.sub i 0) (n : Int) b0 b1 n d' n (f + 1) (K : Int) E = l25_2 t2 n (i : Int) n (d'.sub i 0) (n : Int) b0 b1 n d' n f ((K + 1 : Nat) : Int) (E.upd K 0 [SV.int IntKind.i64 (i : Int), SV.int IntKind.i64 (dsD D i + mn d' i K), SV.bool true, SV.bool false]) := by
              simp only [l25_2, cdl hlt, cdd hlt, cdd hi, Int.toNat_natCast, em, zi, zK, zm, eK, hkK, eS, hsK, ei, eD, w9, decide_eq_true hz, wrS hlt (by omega), cond_true, cond_false]
            rw [e]
            rcases change with h | ⟨_, h⟩
            · exact rlx_run C hi hk h0 h1 t2 b0 b1 k (K + 1) f _ (by omega) (by omega) h
            · omega
          · have e : l25_2 t2 n (i : Int) n (d'.sub i 0) (n : Int) b0 b1 n d' n (f + 1) (K : Int) E = l25_2 t2 n (i : Int) n (d'.sub i 0) (n : Int) b0 b1 n d' n f ((K + 1 : Nat) : Int) E := by
              simp only [l25_2, cdl hlt, cdd hlt, cdd hi, Int.toNat_natCast, em, zi, zK, zm, eK, hkK, eS, hsK, ei, eD, w9, decide_eq_false hz, wrS hlt (by omega), cond_true, cond_false]
            rw [e]
            exact rlx_run C hi hk h0 h1 t2 b0 b1 k (K + 1) f E (by omega) (by omega) (stay fun _ _ => ⟨hsK, by omega⟩)
    · have zm : decide (0 ≤ mn d' i K) = false := decide_eq_false hm
      have e : l25_2 t2 n (i : Int) n (d'.sub i 0) (n : Int) b0 b1 n d' n (f + 1) (K : Int) E = l25_2 t2 n (i : Int) n (d'.sub i 0) (n : Int) b0 b1 n d' n f ((K + 1 : Nat) : Int) E := by
        simp only [l25_2, cdl hlt, cdd hlt, cdd hi, Int.toNat_natCast, em, zi, zK, zm, wrS hlt (by omega), cond_true, cond_false]
      rw [e]
      exact rlx_run C hi hk h0 h1 t2 b0 b1 k (K + 1) f E (by omega) (by omega) (stay fun h => absurd h hm)
end
end Go.Proofs.Ytlaogoojkfjgoaa
