/-
  The law 'TopGasBalanced': its model is true, and its need. Conditions: none.
-/
import Derived.Test.YtmndejpcpfkajaaAFGasBalanced
import Derived.Test.YtmndejpcpfkajaaAPMatches
import Derived.Test.YtmndejpcpfkajaaAPPartials
import Derived.Test.YtmndejpcpfkajaaAPLoop
import Derived.Test.YtmndejpcpfkajaaAPFactors
import Derived.Test.YtmndejpcpfkajaaAPShares
import Derived.Test.YtmndejpcpfkajaaAPVessels
import Derived.Test.YtmndejpcpfkajaaAPFills
import Derived.Test.YtmndejpcpfkajaaAPRead
import Derived.Test.YtmndejpcpfkajaaAPRun
import Derived.Test.YtmndejpcpfkajaaAPShort
import Derived.Test.YtmndejpcpfkajaaAPAdds
import Derived.Test.YtmndejpcpfkajaaAPGas
import Derived.Test.YtmndejpcpfkajaaAPGas2
import Derived.Test.YtmndejpcpfkajaaA1
import Derived.Test.YtmndejpcpfkajaaA2
import Derived.Test.YtmndejpcpfkajaaA3
import Derived.Test.YtmndejpcpfkajaaA4
namespace Go.Proofs.Ytmndejpcpfkajaa
open Go Go.Sy
set_option linter.unusedVariables false
set_option linter.unusedSimpArgs false
set_option maxRecDepth 100000
theorem mod_in {a : Int} {n : Nat} (hn : n ≤ 200) : n21 a ((n : Int) + 1) = true ∧ 0 ≤ m21 a ((n : Int) + 1) ∧ m21 a ((n : Int) + 1) ≤ (n : Int) := by
  have hb : (0 : Int) < (n : Int) + 1 := by omega
  have h0 : decide ((n : Int) + 1 = 0) = false := decide_eq_false (by omega)
  have key : -((n : Int) + 1) < a.tmod ((n : Int) + 1) ∧ a.tmod ((n : Int) + 1) < (n : Int) + 1 := by
    rcases Int.le_total 0 a with h | h
    · rw [Int.tmod_eq_emod_of_nonneg h]
      have h1 := Int.emod_nonneg a (show (n : Int) + 1 ≠ 0 by omega)
      have h2 := Int.emod_lt_of_pos a hb
      omega
    · have e : a.tmod ((n : Int) + 1) = -((-a) % ((n : Int) + 1)) := by
        have := Int.neg_tmod (-a) ((n : Int) + 1)
        rw [Int.neg_neg] at this
        rw [this, Int.tmod_eq_emod_of_nonneg (by omega)]
      have h1 := Int.emod_nonneg (-a) (show (n : Int) + 1 ≠ 0 by omega)
      have h2 := Int.emod_lt_of_pos (-a) hb
      omega
  refine ⟨by simp only [n21, h0, cond_false]; rfl, ?_⟩
  simp only [m21]
  by_cases h : a.tmod ((n : Int) + 1) < 0
  · simp only [decide_eq_true h, cond_true]
    rw [wr (by omega) (by omega)]
    omega
  · simp only [decide_eq_false h, cond_false]
    omega
section
variable {nv n : Nat} {dv d : Dat}
theorem vent_run {X z2 : Dat} {day : Int} (hnv : nv ≤ 9223372036854775807) (hz : SzV nv dv) (hv : m51 nv dv = 0) (V : RightV nv dv) (RX : ∀ q, q < nv → RightC dv X q) (hd : 0 ≤ day ∧ day ≤ 100000)
    (h2 : ∀ q, q < nv → z2.ii q 0 = X.ii q 0 ∧ z2.ii q 1 = X.ii q 1 ∧ z2.ii q 2 = X.ii q 2) : ∀ (k i f c : Nat) (D : Dat) (s : St), i + k = nv → k < f → rdS nv dv c D = .inr s → s.2.2.2 = day → c ≤ 12 + i →
    (∀ q, q < i → row3 s.1 q = (0, 0, 0)) → (∀ q, i ≤ q → row3 s.1 q = row3 X q) →
    ∃ c' D' s'', l3_2 nv dv nv z2 nv day X f c D (i : Int) = some (false, default, (c', D')) ∧ rdS nv dv c' D' = .inr s'' ∧ (∀ q, q < nv → row3 s''.1 q = (0, 0, 0)) ∧ c' ≤ 12 + nv
  | 0, i, f, c, D, s, hi, hf, hS, hday, hc, hlo, hhi => by
    obtain ⟨f, rfl⟩ : ∃ f', f = f' + 1 := ⟨f - 1, by omega⟩
    obtain rfl : i = nv := by omega
    exact ⟨c, D, s, by simp only [l3_2, cdn, cond_false], hS, hlo, hc⟩
  | k + 1, i, f, c, D, s, hi, hf, hS, hday, hc, hlo, hhi => by
    obtain ⟨f, rfl⟩ : ∃ f', f = f' + 1 := ⟨f - 1, by omega⟩
    have few := V.few
    have hin : i < nv := by omega
    have C := RX i hin
    have le := C.le V hin
    have hsm : sm X i = X.ii i 0 + X.ii i 1 + X.ii i 2 := rfl
    have c26 : m26 (X.ii i 0) (X.ii i 1) (X.ii i 2) = 0 := gas_content C.a C.b C.c (by omega)
    have c29 := (sm_w V hin C).2
    obtain ⟨g0, g1, g2⟩ := h2 i hin
    have c0 : decide ((i : Int) < (nv : Int)) = true := cdl hin
    have c1 : decide (0 ≤ (i : Int) ∧ (i : Int) < (nv : Int)) = true := cdd hin
    have c2 : decide (i < nv) = true := decide_eq_true hin
    have z0 : decide ((0 : Int) = 0) = true := rfl
    have w : IntKind.i64.wrap ((i : Int) + 1) = ((i + 1 : Nat) : Int) := wrS hin hnv
    have hrow := hhi i (Nat.le_refl _)
    have hsms : sm s.1 i = sm X i := by
      unfold row3 at hrow
      simp only [Prod.mk.injEq] at hrow
      unfold sm; omega
    by_cases h0 : 0 < sm X i
    · have R := ((rdS_right (d := D) hnv V (n := c) (by omega)).2 s hS).1
      obtain ⟨v1, v2, v3, v4⟩ := vent_ok V R (by rw [hday]; exact hd) hin (by rw [hsms]; exact h0)
      obtain ⟨a1, a2⟩ := add_fill (d := D) hnv hz hv (by omega) hS _ v1
      simp only [hday, hsms] at a1 a2 v1 v2 v3 v4
      have hS' := rdS_more ⟨2, day, dv.ss i 0, { data := #[] }, 0, 0, sm X i, false⟩ hS
      rw [if_pos v1] at hS'
      obtain ⟨c', D', s'', e1, e2, e3, e4⟩ := vent_run hnv hz hv V RX hd h2 k (i + 1) f (c + 1) _ _ (by omega) (by omega) hS' v2 (by omega)
        (fun q hq => by
          by_cases e : q = i
          · subst e; exact v3
          · rw [v4 q e]; exact hlo q (by omega))
        (fun q hq => by rw [v4 q (by omega)]; exact hhi q (by omega))
      refine ⟨c', D', s'', ?_, e2, e3, e4⟩
      rw [← e1]
      simp only [l3_2, c0, c1, c2, Int.toNat_natCast, g0, g1, g2, decide_true, c26, c29, decide_eq_true h0, a1, a2, w, cond_true, cond_false]
    · have hz0 : row3 X i = (0, 0, 0) := by
        have a := C.a; have b := C.b; have cc := C.c
        unfold row3
        simp only [Prod.mk.injEq]; omega
      obtain ⟨c', D', s'', e1, e2, e3, e4⟩ := vent_run hnv hz hv V RX hd h2 k (i + 1) f c D s (by omega) (by omega) hS hday (by omega)
        (fun q hq => by
          by_cases e : q = i
          · subst e; rw [hrow]; exact hz0
          · exact hlo q (by omega))
        (fun q hq => hhi q (by omega))
      refine ⟨c', D', s'', ?_, e2, e3, e4⟩
      rw [← e1]
      simp only [l3_2, c0, c1, c2, Int.toNat_natCast, g0, g1, g2, decide_true, c26, c29, decide_eq_false h0, w, cond_true, cond_false]
theorem tot_zero {D : Dat} {c : Nat} (h : ∀ q, q < n → D.ii q c = 0) : ∀ k, k ≤ n → tot D c k = 0
  | 0, _ => rfl
  | k + 1, hk => by
    have := tot_zero h k (by omega)
    simp only [tot, this, h k (by omega)]
    rfl
end
end Go.Proofs.Ytmndejpcpfkajaa
