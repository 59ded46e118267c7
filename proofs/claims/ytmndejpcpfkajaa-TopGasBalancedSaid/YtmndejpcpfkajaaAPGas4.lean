/-
  The law 'TopGasBalanced': its model is true, and its need. Conditions: none.
-/
import Derived.Test.YtmndejpcpfkajaaAFGasBalanced
import Derived.Test.YtmndejpcpfkajaaAPMatches
import Derived.Test.YtmndejpcpfkajaaAPPartials
import Derived.Test.YtmndejpcpfkajaaAPLoop
import Derived.Test.YtmndejpcpfkajaaAPFactors
import Derived.Test.YtmndejpcpfkajaaAPShares
import Derived.Test.YtmndejpcpfkajaaAPVessels
import Derived.Test.YtmndejpcpfkajaaAPFills
import Derived.Test.YtmndejpcpfkajaaAPRead
import Derived.Test.YtmndejpcpfkajaaAPRun
import Derived.Test.YtmndejpcpfkajaaAPShort
import Derived.Test.YtmndejpcpfkajaaAPAdds
import Derived.Test.YtmndejpcpfkajaaAPGas
import Derived.Test.YtmndejpcpfkajaaAPGas2
import Derived.Test.YtmndejpcpfkajaaAPGas3
import Derived.Test.YtmndejpcpfkajaaA1
import Derived.Test.YtmndejpcpfkajaaA2
import Derived.Test.YtmndejpcpfkajaaA3
import Derived.Test.YtmndejpcpfkajaaA4
namespace Go.Proofs.Ytmndejpcpfkajaa
open Go Go.Sy
set_option linter.unusedVariables false
set_option linter.unusedSimpArgs false
set_option maxRecDepth 100000
section
variable {nv n : Nat} {dv d : Dat}
theorem short_few (hnv : nv ≤ 9223372036854775807) (hn : n ≤ 9223372036854775807) (h : m19 nv dv n d = true) : n ≤ 12 ∨ 200 < n := by
  obtain ⟨⟨r1, r1', _⟩, h1, t1⟩ := l19a nv hnv dv n d
  obtain ⟨⟨r2, r2', _⟩, h2, t2⟩ := l19b nv dv n hn d
  simp only at t1 t2
  apply Decidable.byContradiction
  intro hc
  have k2 : ¬ (n : Int) ≤ 12 := by omega
  have k6 : ¬ 200 < (n : Int) := by omega
  cases r1
  · cases r2
    · simp only [m19, h1, h2, Option.getD_some, cond_false, k2, k6, decide_false] at h
      simp at h
    · have := t2 rfl
      subst this
      simp only [m19, h1, h2, Option.getD_some, cond_false, cond_true] at h
      cases h
  · have := t1 rfl
    subst this
    simp only [m19, h1, h2, Option.getD_some, cond_true] at h
    cases h
theorem good_of {s : St} (hnv : nv ≤ 9223372036854775807) (hz : SzV nv dv) (hv : m51 nv dv = 0) (hn : n ≤ 200) (hS : rdS nv dv n d = .inr s) : n22 nv dv n d = true ∧ n31 nv dv n d = true ∧ m22 nv dv n d = (nv, cpy s.1 nv, 0) ∧ m31 nv dv n d = (s.2.1.1, s.2.1.2.1, s.2.1.2.2, s.2.2.1.1, s.2.2.1.2.1, s.2.2.1.2.2, 0) := by
  obtain ⟨R, _⟩ := read_all (d := d) hnv (show n ≤ 9223372036854775807 by omega) hz
  obtain ⟨x1, x2, x6⟩ := both30 R
  refine ⟨x1, x2, ?_⟩
  rcases x6 with ⟨he, _⟩ | ⟨s', hS', _, p1, p2⟩
  · rw [rdE_zero hv hn hS] at he; exact absurd rfl he
  · rw [hS] at hS'
    cases hS'
    exact ⟨p1, p2⟩
/-- What is left: nothing. -/
theorem none_left {c : Nat} {D X : Dat} (hX : ∀ q, q < nv → row3 X q = (0, 0, 0)) (b0 : Nat) (b1 : Dat) (c0 c1 c2 c6 c7 c8 : Int) : ∀ (k i f : Nat), i + k = nv → k < f → nv ≤ 9223372036854775807 → l3_4 nv (cpy X nv) b0 b1 c0 c1 c2 c6 c7 c8 f (i : Int) = some (false, default, ())
  | 0, i, f, hi, hf, _ => by
    obtain ⟨f, rfl⟩ : ∃ f', f = f' + 1 := ⟨f - 1, by omega⟩
    obtain rfl : i = nv := by omega
    simp only [l3_4, cdn, cond_false]
  | k + 1, i, f, hi, hf, hb => by
    obtain ⟨f, rfl⟩ : ∃ f', f = f' + 1 := ⟨f - 1, by omega⟩
    have h1 : i < nv := by omega
    obtain ⟨e0, e1, e2⟩ := cpy_ii X nv i h1
    have z := hX i h1
    unfold row3 at z
    simp only [Prod.mk.injEq] at z
    have := none_left (c := c) (D := D) hX b0 b1 c0 c1 c2 c6 c7 c8 k (i + 1) f (by omega) (by omega) hb
    have z0 : decide ((0 : Int) = 0) = true := rfl
    simp only [l3_4, cdl h1, cdd h1, Int.toNat_natCast, e0, e1, e2, z, z0, wrS h1 hb, cond_true, cond_false]
    exact this
theorem lawGas (nv : Nat) (dv : Dat) (n : Nat) (d : Dat) (c : Int) (hnv : nv ≤ 9223372036854775807) (hn : n ≤ 9223372036854775807) (hz : SzV nv dv) : n3 nv dv n d c = true ∧ m3 nv dv n d c = true := by
  obtain ⟨s1, s2⟩ := short_ok (dv := dv) (d := d) hnv hn
  by_cases hs : m19 nv dv n d = true
  · obtain ⟨b1, b2⟩ := s2 hs
    have b3 := short_few hnv hn hs
    obtain ⟨R, r20⟩ := read_all (d := d) hnv hn hz
    obtain ⟨_, _, r20'⟩ := both24 R
    have w1 : IntKind.i64.wrap ((n : Int) + 1) = (n : Int) + 1 := wr (by omega) (by omega)
    cases R with
    | bad i e he hE a m r =>
      have hm : (m20 nv dv n d).snd = e := by rw [r]
      simp only [n3, m3, v3, w3, n18_val, m18_val, s1, hs, r20, hm, decide_eq_false he]
      simp
    | good s V hn' hS Rr B hE hv a b m r =>
      have hm : (m20 nv dv n d).snd = 0 := by rw [r20', hE]
      obtain ⟨k1, k2, k3⟩ := mod_in (a := c) (n := n) (by omega)
      obtain ⟨K, hK⟩ : ∃ K : Nat, m21 c ((n : Int) + 1) = (K : Int) := ⟨(m21 c ((n : Int) + 1)).toNat, by omega⟩
      rw [hK] at k2 k3
      have hKn : K ≤ n := by omega
      obtain ⟨sK, hSK⟩ := rdS_begin (m := K) hKn hS
      obtain ⟨g1, g2, g3, g4⟩ := good_of (d := d) hnv hz hv (show K ≤ 200 by omega) hSK
      have few := V.few
      have RK := ((rdS_right (d := d) hnv V (n := K) (by omega)).2 sK hSK).1
      have c1 : o3_0 nv dv K d nv (cpy sK.1 nv) nv 0 0 (datC [SV.int IntKind.i64 0, SV.int IntKind.i64 0, SV.int IntKind.i64 0]) = some (false, default, (sK.2.2.2, sK.1)) :=
        gas_run (z := cpy sK.1 nv) hnv V (by omega) hSK K 0 _ s0 (by omega) (by omega) rfl
      obtain ⟨c', D', s'', v1, v2, v3', v4⟩ := vent_run (z2 := cpy sK.1 nv) hnv hz hv V RK.held (rdS_day K sK hSK) (fun q hq => cpy_ii sK.1 nv q hq) nv 0 (nv + nv + nv + sK.2.2.2.toNat + K + (0 : Int).toNat + 8) K d sK (by omega) (by omega) hSK rfl (by omega) (fun q hq => by omega) (fun q _ => rfl)
      obtain ⟨h1, h2, h3, h4⟩ := good_of (d := D') hnv hz hv (show c' ≤ 200 by omega) v2
      have Bal' := ((rdS_right (d := D') hnv V (n := c') (by omega)).2 s'' v2).2
      have zr : ∀ q, q < nv → s''.1.ii q 0 = 0 ∧ s''.1.ii q 1 = 0 ∧ s''.1.ii q 2 = 0 := fun q hq => by
        have := v3' q hq
        unfold row3 at this
        simpa using this
      have t0 := tot_zero (n := nv) (D := s''.1) (c := 0) (fun q hq => (zr q hq).1) nv (Nat.le_refl _)
      have t1 := tot_zero (n := nv) (D := s''.1) (c := 1) (fun q hq => (zr q hq).2.1) nv (Nat.le_refl _)
      have t2 := tot_zero (n := nv) (D := s''.1) (c := 2) (fun q hq => (zr q hq).2.2) nv (Nat.le_refl _)
      obtain ⟨q0, q1, q2⟩ := Bal'
      rw [t0, Int.add_zero] at q0
      rw [t1, Int.add_zero] at q1
      rw [t2, Int.add_zero] at q2
      have v1' : o3_2 nv dv nv (cpy sK.1 nv) nv sK.2.2.2 sK.1 K d 0 = some (false, default, (c', D')) := v1
      have e4 := fun b0 b1 c0 c1 c2 c6 c7 c8 => none_left (c := c') (D := D') v3' b0 b1 c0 c1 c2 c6 c7 c8 nv 0 (nv + (0 : Int).toNat + b0 + c0.toNat + c1.toNat + c2.toNat + c6.toNat + c7.toNat + c8.toNat + 8) (by omega) (by omega) hnv
      have e4' : ∀ b0 b1 c0 c1 c2 c6 c7 c8, o3_4 nv (cpy s''.1 nv) b0 b1 c0 c1 c2 c6 c7 c8 0 = some (false, default, ()) := e4
      have al : decide (0 ≤ (nv : Int) ∧ (nv : Int) ≤ (nv : Int) ∧ (nv : Int) ≤ 1073741824) = true := decide_eq_true ⟨by omega, by omega, by omega⟩
      have al2 : decide (K ≤ 1073741824) = true := decide_eq_true (by omega)
      have al3 : decide ((0 : Int) ≤ 0 ∧ (0 : Int) ≤ (K : Int) ∧ (K : Int) ≤ (n : Int)) = true := decide_eq_true ⟨by omega, by omega, by omega⟩
      have z0 : decide ((0 : Int) = 0) = true := rfl
      have zK : ((K : Int) - 0).toNat = K := by omega
      have dn : decide ((nv : Int) = (nv : Int)) = true := decide_eq_true rfl
      have p0 : t3_0 nv dv n d c = (n : Int) + 1 := w1
      have p1 : t3_1 nv dv n d c = nv := by simp only [t3_1, p0, hK, zK, g3]
      have p2 : t3_2 nv dv n d c = cpy sK.1 nv := by simp only [t3_2, p0, hK, zK, g3]
      have p4 : t3_4 nv dv n d c = sK.2.2.2 := by simp only [t3_4, t3_3, p0, p1, p2, hK, zK, Int.toNat_natCast, c1, Option.getD_some]
      have p5 : t3_5 nv dv n d c = sK.1 := by simp only [t3_5, t3_3, p0, p1, p2, hK, zK, Int.toNat_natCast, c1, Option.getD_some]
      have p6 : t3_6 nv dv n d c = c' := by simp only [t3_6, p0, p1, p2, p4, p5, hK, zK, Int.toNat_natCast, v1', Option.getD_some]
      have p7 : t3_7 nv dv n d c = D' := by simp only [t3_7, p0, p1, p2, p4, p5, hK, zK, Int.toNat_natCast, v1', Option.getD_some]
      have p8 : t3_8 nv dv n d c = s''.2.2.1.1 := by simp only [t3_8, p6, p7, h4]
      have p9 : t3_9 nv dv n d c = s''.2.1.2.1 := by simp only [t3_9, p6, p7, h4]
      have p10 : t3_10 nv dv n d c = s''.2.2.1.2.1 := by simp only [t3_10, p6, p7, h4]
      have p11 : t3_11 nv dv n d c = s''.2.1.2.2 := by simp only [t3_11, p6, p7, h4]
      have p12 : t3_12 nv dv n d c = s''.2.2.1.2.2 := by simp only [t3_12, p6, p7, h4]
      have p13 : t3_13 nv dv n d c = cpy s''.1 nv := by simp only [t3_13, p6, p7, h3]
      have d0 : decide (s''.2.1.1 = s''.2.2.1.1) = true := decide_eq_true q0
      have d1 : decide (s''.2.1.2.1 = s''.2.2.1.2.1) = true := decide_eq_true q1
      have d2 : decide (s''.2.1.2.2 = s''.2.2.1.2.2) = true := decide_eq_true q2
      constructor
      · simp only [n3, p0, p1, p2, p4, p5, p6, p7, p8, p9, p10, p11, p12, p13]
        simp only [v3, t3_3, n18_val, m18_val, s1, hs, r20, hm, w1, hK, k1, zK, al, al2, al3, z0, dn, g1, g2, g3, g4, h1, h2, h3, h4, Int.toNat_natCast, c1, v1', e4', d0, d1, d2, Option.getD_some, Option.isSome_some, cond_true, cond_false, Bool.and_self, decide_true, Bool.and_true]
        try simp
      · simp only [m3, p0, p1, p2, p4, p5, p6, p7, p8, p9, p10, p11, p12, p13]
        simp only [w3, t3_3, n18_val, m18_val, s1, hs, r20, hm, w1, hK, k1, zK, al, al2, al3, z0, dn, g1, g2, g3, g4, h1, h2, h3, h4, Int.toNat_natCast, c1, v1', e4', d0, d1, d2, Option.getD_some, Option.isSome_some, cond_true, cond_false, Bool.and_self, decide_true, Bool.and_true]
        try simp
  · simp only [Bool.not_eq_true] at hs
    simp only [n3, m3, v3, w3, n18_val, m18_val, s1, hs]
    simp
end
end Go.Proofs.Ytmndejpcpfkajaa
