/-
  The law of the fewest points holds: plain law. Conditions: none.
-/
import Derived.KernelRfl
import Derived.Test.YtchhhoamnagbfaaTPThin
namespace Go.Proofs.Ytchhhoamnagbfaa
open Go Go.Sy
set_option linter.unusedVariables false
set_option linter.unusedSimpArgs false
set_option maxRecDepth 100000
theorem n4_t : n4 = true := by kernel_rfl
theorem m4_t : m4 = true := by kernel_rfl
theorem n11_t (x : Int) : n11 x 1024 = true := by simp [n11]
theorem u64_nn {i : Nat} (h : i ≤ 1000) : decide (0 ≤ IntKind.u64.wrap (i : Int)) = true := by
  refine decide_eq_true ?_
  simp [IntKind.wrap, IntKind.bits, IntKind.signed]; omega
theorem depths_run {n : Nat} {d : Dat} (P : Pts n d) {c : Nat} {D E : Dat} (I : Idx n c D) (hE : Pick d c D E) {M : Int} (hM : 0 ≤ M ∧ M ≤ 30000) (hok : ∀ q, q + 1 < c → Ok d M (K D q) (K D (q + 1))) (x : Int) (p : Nat) (q : Dat) :
    o3_0 n d M x p q c E 0 = some (false, default, ()) := by
  have few := P.few
  have h : ∀ f, n < f → l3_0 n d M x p q c E f ((0 : Nat) : Int) = some (first (fun _ => none) (false, default, ()) n 0) := fun F hF => by
    refine loop_first (n := n) (l := l3_0 n d M x p q c E) (by omega) (fun f i hi => ?_) (fun f => by simp only [l3_0, cdn]; rfl) n 0 F (by omega) hF
    obtain ⟨a1, a2, a3, a4⟩ := depth_sub P I hE hM hok hi
    have dp := P.dep i hi
    have w1 : IntKind.i64.wrap (d.ii i 1 - M) = d.ii i 1 - M := wr (by omega) (by omega)
    have w2 : IntKind.i64.wrap (d.ii i 1 + M) = d.ii i 1 + M := wr (by omega) (by omega)
    simp only [l3_0, cdl hi, cdd hi, Int.toNat_natCast, a1, a2, w1, w2, decide_eq_false (show ¬ (m10 c E (d.ii i 0)).2.1 < d.ii i 1 - M by omega), decide_eq_false (show ¬ d.ii i 1 + M < (m10 c E (d.ii i 0)).1 by omega), decide_true, cond_true, cond_false, brk]
  unfold o3_0
  generalize M.toNat = y1
  generalize x.toNat = y2
  rw [show (0 : Int) = ((0 : Nat) : Int) from rfl, h _ (by omega), first_none fun _ _ _ => rfl]
structure AI (n i c : Nat) (D : Dat) : Prop where
  le : c ≤ i
  at_ : ∀ q, q < c → 0 ≤ D.ii q 0 ∧ D.ii q 0 < (i : Int)
  up : ∀ q, q + 1 < c → D.ii q 0 < D.ii (q + 1) 0
  first : 0 < i → 0 < c ∧ D.ii 0 0 = 0
  last : i = n → D.ii (c - 1) 0 = (n : Int) - 1
theorem app_ii (D : Dat) (c : Nat) (x : Int) (q : Nat) (hq : q ≤ c) : (D.app c (datS [SV.int IntKind.i64 x] 1)).ii q 0 = if q < c then D.ii q 0 else x := by
  by_cases h : q < c
  · rw [if_pos h]
    show cond (Nat.blt q c) _ _ = _
    rw [show Nat.blt q c = true from blt_t h]; rfl
  · obtain rfl : q = c := by omega
    rw [if_neg h]
    show cond (Nat.blt q q) _ _ = _
    rw [show Nat.blt q q = false from blt_f (Nat.lt_irrefl _), Nat.sub_self]; rfl
theorem other_run {n : Nat} (h2 : 2 ≤ n) (hn : n ≤ 1000) (d : Dat) (M x : Int) (p : Nat) (q : Dat) : ∀ (k i f c : Nat) (D : Dat), i + k = n → k < f → AI n i c D →
    ∃ c' D', l3_2 n d M x p q f c (i : Int) D = some (c', c', D') ∧ AI n n c' D'
  | 0, i, f, c, D, hi, hf, I => by
    obtain ⟨f, rfl⟩ : ∃ f', f = f' + 1 := ⟨f - 1, by omega⟩
    obtain rfl : i = n := by omega
    exact ⟨c, D, by simp only [l3_2, cdn, cond_false], I⟩
  | k + 1, i, f, c, D, hi, hf, I => by
    obtain ⟨f, rfl⟩ : ∃ f', f = f' + 1 := ⟨f - 1, by omega⟩
    have hlt : i < n := by omega
    have le := I.le
    have wn : IntKind.i64.wrap ((n : Int) - 1) = (n : Int) - 1 := wr (by omega) (by omega)
    have take : AI n (i + 1) (c + 1) (D.app c (datS [SV.int IntKind.i64 (i : Int)] 1)) := by
      refine ⟨by omega, fun q hq => ?_, fun q hq => ?_, fun _ => ⟨by omega, ?_⟩, fun e => ?_⟩
      · rw [app_ii _ _ _ _ (by omega)]
        by_cases h : q < c
        · rw [if_pos h]; have := I.at_ q h; omega
        · rw [if_neg h]; omega
      · rw [app_ii _ _ _ _ (by omega), app_ii _ _ _ _ (by omega), if_pos (show q < c by omega)]
        by_cases h : q + 1 < c
        · rw [if_pos h]; exact I.up q h
        · rw [if_neg h]; exact (I.at_ q (by omega)).2
      · rw [app_ii _ _ _ _ (by omega)]
        by_cases h : 0 < c
        · rw [if_pos h]
          have := I.first (by omega)
          exact this.2
        · rw [if_neg h]
          by_cases e : 0 < i
          · exact absurd (I.first e).1 h
          · omega
      · rw [Nat.add_sub_cancel, app_ii _ _ _ _ (Nat.le_refl _), if_neg (Nat.lt_irrefl _)]; omega
    have skip : i ≠ 0 → i + 1 ≠ n → AI n (i + 1) c D := fun e1 e2 => ⟨by omega, fun q hq => by have := I.at_ q hq; omega, I.up, fun _ => I.first (by omega), fun e => absurd e e2⟩
    obtain ⟨c1, D1, g1, g2⟩ := other_run h2 hn d M x p q k (i + 1) f _ _ (by omega) (by omega) take
    have tk : decide (c + 1 ≤ 1073741824) = true := decide_eq_true (by omega)
    by_cases hX : (bif decide ((i : Int) = 0) then true else decide ((i : Int) = (n : Int) - 1)) = true
    · refine ⟨c1, D1, ?_, g2⟩
      simp only [l3_2, cdl hlt, wn, hX, tk, wrS hlt (by omega), cond_true, cond_false]
      exact g1
    · have hX : (bif decide ((i : Int) = 0) then true else decide ((i : Int) = (n : Int) - 1)) = false := by simpa using hX
      have e1 : i ≠ 0 := fun e => by subst e; simp at hX
      have e2 : i + 1 ≠ n := fun e => by
        have : decide ((i : Int) = (n : Int) - 1) = true := decide_eq_true (by omega)
        rw [this] at hX
        revert hX
        cases decide ((i : Int) = 0) <;> intro h <;> cases h
      obtain ⟨c2, D2, k1, k2⟩ := other_run h2 hn d M x p q k (i + 1) f _ _ (by omega) (by omega) (skip e1 e2)
      cases hb : decide ((((m11 x 1024).fdiv (2 ^ (min ((IntKind.u64.wrap (i : Int)).toNat) 64))).tmod 2) = 1) with
      | true =>
        refine ⟨c1, D1, ?_, g2⟩
        simp only [l3_2, cdl hlt, wn, hX, hb, tk, n11_t, u64_nn (show i ≤ 1000 by omega), wrS hlt (by omega), cond_true, cond_false]
        exact g1
      | false =>
        refine ⟨c2, D2, ?_, k2⟩
        simp only [l3_2, cdl hlt, wn, hX, hb, tk, n11_t, u64_nn (show i ≤ 1000 by omega), wrS hlt (by omega), cond_true, cond_false]
        exact k1
theorem other_ok {n : Nat} (h2 : 2 ≤ n) (hn : n ≤ 1000) (d : Dat) (M x : Int) (p : Nat) (q : Dat) : ∃ c' D', o3_2 n d M x p q 0 0 noDat = some (c', c', D') ∧ Idx n c' D' := by
  have I0 : AI n 0 0 noDat := ⟨Nat.le_refl _, fun q hq => by omega, fun q hq => by omega, fun h => absurd h (Nat.lt_irrefl _), fun h => by omega⟩
  have h := fun F (hF : n < F) => other_run h2 hn d M x p q n 0 F 0 noDat (by omega) hF I0
  unfold o3_2
  generalize M.toNat = y1
  generalize x.toNat = y2
  obtain ⟨c', D', g1, g2⟩ := h (n + y1 + y2 + p + 0 + (0 : Int).toNat + 8) (by omega)
  exact ⟨c', D', g1, (g2.first (by omega)).1, g2.at_, g2.up, (g2.first (by omega)).2, g2.last rfl⟩
theorem thinned_ok (n : Nat) (d : Dat) (M x : Int) : n3 n d M x = true ∧ m3 n d M x = true := by
  by_cases hg : ¬ (10 : Int) < (n : Int) ∧ Pts n d ∧ (0 ≤ M ∧ M ≤ 30000)
  · obtain ⟨hn, P, hM⟩ := hg
    have two := P.two
    obtain ⟨c1, c2, c3, c4⟩ := check_ok (n := n) (d := d) (by omega)
    have c4 := c4.2 P
    rw [c4] at c3
    have z10 : decide ((10 : Int) < (n : Int)) = false := decide_eq_false hn
    have y6 : m6 M 0 30000 = true := m25_iff.2 hM
    obtain ⟨t1, c, D, A, t2, I, hok, hmin⟩ := thin_ok P hM
    obtain ⟨p1, E, p2, hE⟩ := picked_ok (n := n) (c := c) (d := d) (D := D) (by omega) I
    obtain ⟨q1, q2, q3⟩ := near_sub P I hE hM
    have q3 := q3.2 hok
    have dr := depths_run P I hE hM hok x c D
    obtain ⟨c', D', o1, I'⟩ := other_ok two (by omega) d M x c D
    obtain ⟨r1, r2, E', r3, hE'⟩ := pickedr_ok (n := n) (c := c') (d := d) (D := D') (by omega) I'
    obtain ⟨s1, s2, s3⟩ := near_sub P I' hE' hM
    have cle := I.le
    have zc : decide ((n : Int) < (c : Int)) = false := decide_eq_false (by omega)
    have fin : (bif (bif (m9 n d c' E' M).1 then false else true) then true else decide ((c : Int) ≤ (c' : Int))) = true := by
      cases hh : (m9 n d c' E' M).1 with
      | false => rfl
      | true =>
        have := hmin c' D' I' (s3.1 hh)
        exact decide_eq_true (by omega)
    constructor
    · simp only [n3, n4_t, m4_t, z10, c2, c3, y6, t1, t2, zc, p1, p2, q1, q2, q3, dr, o1, r1, r2, r3, s1, Option.isSome_some, Option.getD_some, Nat.zero_add, Nat.le_refl, decide_true, cond_true, cond_false, Bool.and_true]
    · simp only [m3, m4_t, z10, c3, y6, t2, zc, p2, q2, q3, dr, o1, r1, r3, s2, fin, Option.getD_some, decide_true, cond_true, cond_false]
  · have hz : (bif (bif decide ((10 : Int) < (n : Int)) then true else (bif decide (m5 n d = 0) then false else true)) then true else (bif m6 M 0 30000 then false else true)) = true := by
      by_cases h1 : (10 : Int) < (n : Int)
      · rw [decide_eq_true h1]; rfl
      · obtain ⟨_, _, c3, c4⟩ := check_ok (n := n) (d := d) (by omega)
        by_cases h2 : m5 n d = 0
        · have P := c4.1 (c3 ▸ h2)
          have : m6 M 0 30000 = false := m25_no fun h => hg ⟨h1, P, h⟩
          rw [this]; cases (bif decide ((10 : Int) < (n : Int)) then true else (bif decide (m5 n d = 0) then false else true)) <;> rfl
        · rw [decide_eq_false h2]; cases decide ((10 : Int) < (n : Int)) <;> rfl
    have hn5 : (bif (bif (bif decide ((10 : Int) < (n : Int)) then false else true) then false else true) then true else n5 n d) = true := by
      by_cases h1 : (10 : Int) < (n : Int)
      · rw [decide_eq_true h1]; rfl
      · rw [(check_ok (n := n) (d := d) (by omega)).2.1, decide_eq_false h1]; rfl
    exact ⟨by simp only [n3, n4_t, m4_t, hz, hn5, cond_true, cond_false, Bool.and_true], by simp only [m3, m4_t, hz, cond_true, cond_false]⟩
end Go.Proofs.Ytchhhoamnagbfaa
