/-
  Normal forms: the reference's, and both alike: plain law. Conditions: none.
-/
import Derived.Test.YtchhhoamnagbfaaDoorIPNormL
namespace Go.Proofs.YtchhhoamnagbfaaDoor
open Go Go.Sy
set_option linter.unusedVariables false
set_option linter.unusedSimpArgs false
set_option maxRecDepth 100000
section
variable {a : ByteArray} {b : Int} {ng : Nat} {g : Dat} {L : Nat} {e : Dat}
theorem ref0_run (P : Pln a b ng g L e) (p1 : ByteArray) (p2 : Int) : ∀ (k i f : Nat), i + k = L → k < f → l40_0 a b ng g L e p1 p2 a b f (i : Int) (gst g e i).1 (gst g e i).2 = some ((gst g e L).1, (gst g e L).1, (gst g e L).2)
  | 0, i, f, hi, hf => by
    obtain ⟨f, rfl⟩ : ∃ f0, f = f0 + 1 := ⟨f - 1, by omega⟩
    obtain rfl : i = L := by omega
    simp only [l40_0, cdn]; rfl
  | k + 1, i, f, hi, hf => by
    obtain ⟨f, rfl⟩ : ∃ f0, f = f0 + 1 := ⟨f - 1, by omega⟩
    have hlt : i < L := by omega
    have hL := P.legs
    have G := gst_ok (g := g) P.leg i (by omega)
    obtain ⟨_, _, l5, l6⟩ := P.leg i hlt
    have cg : (gst g e i).1 ≤ 60 := by have := G.le; omega
    obtain ⟨f74, m74e⟩ := m74_fnd (n := (gst g e i).1) (by omega) (gst g e i).2 (gx g e i) (gy g e i)
    have zg : decide (0 ≤ e.ii i 2 ∧ e.ii i 2 < (ng : Int)) = true := decide_eq_true ⟨l5, l6⟩
    have z7 : decide ((gst g e i).1 + 1 ≤ 1073741824) = true := decide_eq_true (by omega)
    have f74' : n74 (gst g e i).1 (gst g e i).2 (g.ii (e.ii i 2).toNat 0) (g.ii (e.ii i 2).toNat 1) = true := f74
    have m74e' : m74 (gst g e i).1 (gst g e i).2 (g.ii (e.ii i 2).toNat 0) (g.ii (e.ii i 2).toNat 1) = fndG (gst g e i).1 (gst g e i).2 (gx g e i) (gy g e i) := m74e
    have ih := ref0_run P p1 p2 k (i + 1) f (by omega) (by omega)
    by_cases h : fndG (gst g e i).1 (gst g e i).2 (gx g e i) (gy g e i) < 0
    · rw [gst_more h] at ih
      have x1 : (gst g e i).2.app (gst g e i).1 (datS [SV.int IntKind.i64 (g.ii (e.ii i 2).toNat 0), SV.int IntKind.i64 (g.ii (e.ii i 2).toNat 1)] 2) = (gst g e i).2.app (gst g e i).1 (datS [SV.int IntKind.i64 (gx g e i), SV.int IntKind.i64 (gy g e i)] 2) := rfl
      simp only [l40_0, cdl hlt, cdd hlt, Int.toNat_natCast, Nat.zero_add, Nat.le_refl, decide_true, zg, f74', m74e', decide_eq_true h, z7, x1, cond_true, cond_false, wrS hlt (by omega)]
      exact ih
    · rw [gst_same h] at ih
      simp only [l40_0, cdl hlt, cdd hlt, Int.toNat_natCast, Nat.zero_add, Nat.le_refl, decide_true, zg, f74', m74e', decide_eq_false h, cond_true, cond_false, wrS hlt (by omega)]
      exact ih
theorem ref2_run (P : Pln a b ng g L e) (p1 : ByteArray) (p2 : Int) : ∀ (k i f : Nat) (o : Dat), i + k = L → k < f → Ag (lst g e i).1 o (lst g e i).2 →
    ∃ o', l40_2 a b ng g L e p1 p2 a b (gst g e L).1 (gst g e L).1 (gst g e L).2 f (i : Int) (lst g e i).1 o = some ((lst g e L).1, (lst g e L).1, o') ∧ Ag (lst g e L).1 o' (lst g e L).2
  | 0, i, f, o, hi, hf, hA => by
    obtain ⟨f, rfl⟩ : ∃ f0, f = f0 + 1 := ⟨f - 1, by omega⟩
    obtain rfl : i = L := by omega
    exact ⟨o, by simp only [l40_2, cdn]; rfl, hA⟩
  | k + 1, i, f, o, hi, hf, hA => by
    obtain ⟨f, rfl⟩ : ∃ f0, f = f0 + 1 := ⟨f - 1, by omega⟩
    have hlt : i < L := by omega
    have hL := P.legs
    have hl : ∀ j, j < L → LegOk ng e j := P.leg
    have I := ni_all (g := g) hl i (by omega)
    have G := gst_ok (g := g) hl L (Nat.le_refl _)
    obtain ⟨⟨l1, l2⟩, ⟨l3, l4⟩, l5, l6⟩ := hl i hlt
    have cn : (lst g e i).1 ≤ 60 := by have := I.cnt; omega
    have cg : (gst g e L).1 ≤ 60 := by have := G.le; omega
    obtain ⟨f74, m74e⟩ := m74_fnd (n := (gst g e L).1) (by omega) (gst g e L).2 (gx g e i) (gy g e i)
    obtain ⟨kq, k1, _, _, _, k5, _⟩ := gk_spec (g := g) hl hlt
    rw [k5 L (by omega) (Nat.le_refl _), ← k1] at m74e
    have zg : decide (0 ≤ e.ii i 2 ∧ e.ii i 2 < (ng : Int)) = true := decide_eq_true ⟨l5, l6⟩
    have z8 : decide ((lst g e i).1 + 1 ≤ 1073741824) = true := decide_eq_true (by omega)
    have f74' : n74 (gst g e L).1 (gst g e L).2 (g.ii (e.ii i 2).toNat 0) (g.ii (e.ii i 2).toNat 1) = true := f74
    have m74e' : m74 (gst g e L).1 (gst g e L).2 (g.ii (e.ii i 2).toNat 0) (g.ii (e.ii i 2).toNat 1) = gk g e i := m74e
    have hb := fun {q} (hq : q ≤ (lst g e i).1) => ni_bnd P (show i ≤ L by omega) I hq
    have tot : sm (lst g e i).2 (lst g e i).1 + e.ii i 0 ≤ 1000000 := by
      have := P.sum (i + 1) (by omega); rw [I.sum]; exact this
    have last := fun (h : 0 < (lst g e i).1) => hA ((lst g e i).1 - 1) (by omega)
    have next := lst_next g e i
    generalize hs : lst g e i = s at *
    have A1 : 0 < s.1 → IntKind.i64.wrap ((s.1 : Int) - 1) = (s.1 : Int) - 1 := fun h => wr (by omega) (by omega)
    have A2 : ((s.1 : Int) - 1).toNat = s.1 - 1 := by omega
    have A3 : 0 < s.1 → decide (0 ≤ (s.1 : Int) - 1 ∧ (s.1 : Int) - 1 < (s.1 : Int)) = true := fun h => decide_eq_true ⟨by omega, by omega⟩
    have A4 : 0 < s.1 → decide (s.1 - 1 < s.1) = true := fun h => decide_eq_true (by omega)
    have A9 : 0 < s.1 → decide ((0 : Int) < (s.1 : Int)) = true := fun h => decide_eq_true (by omega)
    have B1 : 1 < s.1 → IntKind.i64.wrap ((s.1 : Int) - 2) = (s.1 : Int) - 2 := fun h => wr (by omega) (by omega)
    have B2 : ((s.1 : Int) - 2).toNat = s.1 - 2 := by omega
    have B3 : 1 < s.1 → decide (0 ≤ (s.1 : Int) - 2 ∧ (s.1 : Int) - 2 < (s.1 : Int)) = true := fun h => decide_eq_true ⟨by omega, by omega⟩
    have B4 : 1 < s.1 → decide (s.1 - 2 < s.1) = true := fun h => decide_eq_true (by omega)
    have ih := fun o' => ref2_run P p1 p2 k (i + 1) f o' (by omega) (by omega)
    rw [next] at ih
    -- the last leg's depth, and where it begins
    have dlast : 0 < s.1 → o.ii (s.1 - 1) 1 = dp s.2 s.1 := fun h => by
      obtain ⟨n, hn⟩ : ∃ n, s.1 = n + 1 := ⟨s.1 - 1, by omega⟩
      have := (last h).2.1
      rw [this, hn]; rfl
    have dfrom : 1 < s.1 → o.ii (s.1 - 2) 1 = dp s.2 (s.1 - 1) := fun h => by
      obtain ⟨n, hn⟩ : ∃ n, s.1 = n + 2 := ⟨s.1 - 2, by omega⟩
      have := (hA (s.1 - 2) (by omega)).2.1
      rw [this, hn]; rfl
    have dzero : s.1 = 1 → (0 : Int) = dp s.2 (s.1 - 1) := fun h => by rw [h]; rfl
    have tst : 0 < s.1 → (IntKind.i64.wrap (IntKind.i64.wrap (dp s.2 s.1 - dp s.2 (s.1 - 1)) * e.ii i 0) = IntKind.i64.wrap (IntKind.i64.wrap (e.ii i 1 - dp s.2 s.1) * o.ii (s.1 - 1) 0)) = ((dp s.2 s.1 - dp s.2 (s.1 - 1)) * e.ii i 0 = (e.ii i 1 - dp s.2 s.1) * s.2.ii (s.1 - 1) 0) := fun h0 => by
      have b0 := hb (show s.1 - 1 ≤ s.1 by omega)
      have b1 := hb (Nat.le_refl s.1)
      have so : sm s.2 s.1 = sm s.2 (s.1 - 1) + s.2.ii (s.1 - 1) 0 := by
        obtain ⟨n, hn⟩ : ∃ n, s.1 = n + 1 := ⟨s.1 - 1, by omega⟩
        rw [hn]; rfl
      have ok := (I.ok (s.1 - 1) (by omega)).1
      rw [(last h0).1, wr (n := dp s.2 s.1 - dp s.2 (s.1 - 1)) (by omega) (by omega), wr (n := e.ii i 1 - dp s.2 s.1) (by omega) (by omega), prod_bnd (by omega) (by omega), prod_bnd (by omega) (by omega)]
    by_cases hm : Mrg s (e.ii i 0) (e.ii i 1) (gk g e i)
    · have h0 := hm.1
      obtain ⟨u1, _⟩ := step_mrg hm
      have q2 : o.ii (s.1 - 1) 2 = gk g e i := by rw [(last h0).2.2]; exact hm.2.1
      have w0 : IntKind.i64.wrap (o.ii (s.1 - 1) 0 + e.ii i 0) = o.ii (s.1 - 1) 0 + e.ii i 0 := by
        have := hb (Nat.le_refl s.1); have ok := (I.ok (s.1 - 1) (by omega)).1
        have so : sm s.2 s.1 = sm s.2 (s.1 - 1) + s.2.ii (s.1 - 1) 0 := by
          obtain ⟨n, hn⟩ : ∃ n, s.1 = n + 1 := ⟨s.1 - 1, by omega⟩
          rw [hn]; rfl
        have := hb (show s.1 - 1 ≤ s.1 by omega)
        rw [(last h0).1]; exact wr (by omega) (by omega)
      have hag : Ag s.1 (o.upd (s.1 - 1) 0 [SV.int IntKind.i64 (o.ii (s.1 - 1) 0 + e.ii i 0), SV.int IntKind.i64 (e.ii i 1), SV.int IntKind.i64 (gk g e i)]) (stepL s (e.ii i 0) (e.ii i 1) (gk g e i)).2 := ag_mrg hm hA fun q hq => by
        obtain ⟨v0, v1, v2⟩ := upd3 o (s.1 - 1) q (o.ii (s.1 - 1) 0 + e.ii i 0) (e.ii i 1) (gk g e i)
        exact ⟨v0, v1, fun hh => by rw [v2, if_pos hh], fun hh => by rw [v2, if_neg hh]⟩
      obtain ⟨o', r1, r2⟩ := ih _ (by rw [u1]; exact hag)
      refine ⟨o', ?_, r2⟩
      rw [u1] at r1
      by_cases h1 : 1 < s.1
      · have z1 : decide (1 < (s.1 : Int)) = true := decide_eq_true (by omega)
        simp only [l40_2, cdl hlt, cdd hlt, Int.toNat_natCast, Nat.zero_add, Nat.le_refl, decide_true, zg, f74', m74e', A1 h0, A2, A3 h0, A4 h0, A9 h0, B1 h1, B2, B3 h1, B4 h1, z1, q2, dlast h0, dfrom h1, tst h0, decide_eq_true hm.2.2, w0, cond_true, cond_false, Bool.cond_self, wrS hlt (by omega)]
        exact r1
      · have z1 : decide (1 < (s.1 : Int)) = false := decide_eq_false (by omega)
        have t1 := tst h0
        rw [← dzero (by omega)] at t1
        have m2 := hm.2.2
        rw [← dzero (by omega)] at m2
        simp only [l40_2, cdl hlt, cdd hlt, Int.toNat_natCast, Nat.zero_add, Nat.le_refl, decide_true, zg, f74', m74e', A1 h0, A2, A3 h0, A4 h0, A9 h0, z1, q2, dlast h0, t1, decide_eq_true m2, w0, cond_true, cond_false, Bool.cond_self, wrS hlt (by omega)]
        exact r1
    · obtain ⟨u1, _⟩ := step_app hm
      obtain ⟨o', r1, r2⟩ := ih _ (by rw [u1]; exact ag_app hm hA)
      refine ⟨o', ?_, r2⟩
      rw [u1] at r1
      by_cases h0 : 0 < s.1
      · by_cases q2 : o.ii (s.1 - 1) 2 = gk g e i
        · have ne : ¬ (dp s.2 s.1 - dp s.2 (s.1 - 1)) * e.ii i 0 = (e.ii i 1 - dp s.2 s.1) * s.2.ii (s.1 - 1) 0 := fun c2 => hm ⟨h0, by rw [← (last h0).2.2]; exact q2, c2⟩
          by_cases h1 : 1 < s.1
          · have z1 : decide (1 < (s.1 : Int)) = true := decide_eq_true (by omega)
            simp only [l40_2, cdl hlt, cdd hlt, Int.toNat_natCast, Nat.zero_add, Nat.le_refl, decide_true, zg, f74', m74e', A1 h0, A2, A3 h0, A4 h0, A9 h0, B1 h1, B2, B3 h1, B4 h1, z1, z8, q2, dlast h0, dfrom h1, tst h0, decide_eq_false ne, cond_true, cond_false, Bool.cond_self, wrS hlt (by omega)]
            exact r1
          · have z1 : decide (1 < (s.1 : Int)) = false := decide_eq_false (by omega)
            have t1 := tst h0
            rw [← dzero (by omega)] at t1 ne
            simp only [l40_2, cdl hlt, cdd hlt, Int.toNat_natCast, Nat.zero_add, Nat.le_refl, decide_true, zg, f74', m74e', A1 h0, A2, A3 h0, A4 h0, A9 h0, z1, z8, q2, dlast h0, t1, decide_eq_false ne, cond_true, cond_false, Bool.cond_self, wrS hlt (by omega)]
            exact r1
        · simp only [l40_2, cdl hlt, cdd hlt, Int.toNat_natCast, Nat.zero_add, Nat.le_refl, decide_true, zg, f74', m74e', A1 h0, A2, A3 h0, A4 h0, A9 h0, z8, decide_eq_false q2, cond_true, cond_false, Bool.cond_self, wrS hlt (by omega)]
          exact r1
      · have h0' : decide ((0 : Int) < (s.1 : Int)) = false := decide_eq_false (by omega)
        simp only [l40_2, cdl hlt, cdd hlt, Int.toNat_natCast, Nat.zero_add, Nat.le_refl, decide_true, zg, f74', m74e', h0', z8, cond_true, cond_false, Bool.cond_self, wrS hlt (by omega)]
        exact r1
def IsNf (a : ByteArray) (b : Int) (g : Dat) (L : Nat) (e : Dat) (r : ByteArray × Int × Nat × Dat × Nat × Dat) : Prop :=
  r.1 = a ∧ r.2.1 = b ∧ r.2.2.1 = (if L = 0 then 1 else (gst g e L).1) ∧ (∀ q, q < r.2.2.1 → r.2.2.2.1.ii q 0 = (if L = 0 then g.ii 0 0 else (gst g e L).2.ii q 0) ∧ r.2.2.2.1.ii q 1 = (if L = 0 then g.ii 0 1 else (gst g e L).2.ii q 1)) ∧ r.2.2.2.2.1 = (lst g e L).1 ∧ Ag (lst g e L).1 r.2.2.2.2.2 (lst g e L).2
theorem normal_ok (P : Pln a b ng g L e) : n73 a b ng g L e = true ∧ IsNf a b g L e (m73 a b ng g L e) := by
  have hL := P.legs; have big := P.small; have hfew := P.few; have hsome := P.some
  obtain ⟨t', o', r1, r2⟩ := norm_run P (({ data := #[] } : ByteArray)) 0 L 0 (1 + L + (L : Int).toNat + Int.toNat 0 + a.size + b.toNat + ng + (({ data := #[] } : ByteArray)).size + Int.toNat 0 + a.size + b.toNat + 0 + 0 + 8) (datS [SV.int IntKind.i64 0, SV.int IntKind.i64 0] 2) noDat (by omega) (by omega) (fun q hq => absurd hq (Nat.not_lt_zero _)) (fun q hq => by
    obtain rfl : q = 0 := by have : q < 0 + 1 := hq; omega
    exact ⟨rfl, rfl⟩)
  have h : o73_0 L e (L : Int) a b ng g e (({ data := #[] } : ByteArray)) 0 a b 1 0 0 0 (datS [SV.int IntKind.i64 0, SV.int IntKind.i64 0] 2) noDat noDat = some ((gst g e L).1, (lst g e L).1, (lst g e L).1 + 1, t', (gst g e L).1, (gst g e L).2, (lst g e L).1, o') := r1
  have z0 : decide ((0 : Int) ≤ (0 : Int) ∧ (0 : Int) < (ng : Int)) = true := decide_eq_true (by omega)
  by_cases h0 : L = 0
  · subst h0
    have hn : (lst g e 0).1 = 0 := rfl
    have z1 : decide (((0 : Nat) : Int) = 0) = true := rfl
    refine ⟨by simp only [n73, h, hn, z0, z1, Option.getD_some, Option.isSome_some, cond_true, Nat.le_refl, Nat.zero_add, decide_true, Bool.and_self], ?_⟩
    simp only [m73, h, hn, z1, Option.getD_some, cond_true]
    refine ⟨rfl, rfl, rfl, fun q hq => ?_, rfl, r2⟩
    obtain rfl : q = 0 := by have : q < 1 := hq; omega
    exact ⟨rfl, rfl⟩
  · have I := ni_all (g := g) P.leg L (Nat.le_refl _)
    have hp := I.pos (by omega)
    have z1 : decide (((lst g e L).1 : Int) = 0) = false := decide_eq_false (by omega)
    refine ⟨by simp only [n73, h, z1, Option.getD_some, Option.isSome_some, cond_false, Nat.le_refl, Nat.zero_add, decide_true, Bool.and_self], ?_⟩
    simp only [m73, h, z1, Option.getD_some, cond_false]
    exact ⟨rfl, rfl, (if_neg h0).symm, fun q hq => by simp only [if_neg h0]; exact ⟨trivial, trivial⟩, rfl, r2⟩
theorem refNormal_ok (P : Pln a b ng g L e) : n40 a b ng g L e = true ∧ IsNf a b g L e (m40 a b ng g L e) := by
  have hL := P.legs; have big := P.small; have hfew := P.few; have hsome := P.some
  have G := gst_ok (g := g) P.leg L (Nat.le_refl _)
  have h : o40_0 a b ng g L e (({ data := #[] } : ByteArray)) 0 a b 0 0 noDat = some ((gst g e L).1, (gst g e L).1, (gst g e L).2) := ref0_run P (({ data := #[] } : ByteArray)) 0 L 0 (Int.toNat 0 + a.size + b.toNat + ng + L + (({ data := #[] } : ByteArray)).size + Int.toNat 0 + a.size + b.toNat + 0 + 8) (by omega) (by omega)
  have z0 : decide ((0 : Int) ≤ (0 : Int) ∧ (0 : Int) < (ng : Int)) = true := decide_eq_true (by omega)
  by_cases h0 : L = 0
  · subst h0
    have hc : (gst g e 0).1 = 0 := rfl
    have hd : (gst g e 0).2 = noDat := rfl
    have z1 : decide (((0 : Nat) : Int) = 0) = true := rfl
    have z2 : decide (0 + 1 ≤ 1073741824) = true := rfl
    have k2 : o40_2 a b ng g 0 e (({ data := #[] } : ByteArray)) 0 a b 1 1 ((noDat).app 0 (datS [SV.int IntKind.i64 (g.ii 0 0), SV.int IntKind.i64 (g.ii 0 1)] 2)) 0 0 noDat = some (0, 0, noDat) := by
      have : ∀ F, l40_2 a b ng g 0 e (({ data := #[] } : ByteArray)) 0 a b 1 1 ((noDat).app 0 (datS [SV.int IntKind.i64 (g.ii 0 0), SV.int IntKind.i64 (g.ii 0 1)] 2)) (F + 1) (((0 : Nat) : Int)) 0 noDat = some (0, 0, noDat) := fun F => by simp only [l40_2, cdn]; rfl
      exact this _
    refine ⟨by simp only [n40, h, hc, hd, z0, z1, z2, k2, Option.getD_some, Option.isSome_some, cond_true, Nat.le_refl, Nat.zero_add, decide_true, Bool.and_self], ?_⟩
    simp only [m40, h, hc, hd, z1, k2, Option.getD_some, cond_true, Nat.zero_add]
    refine ⟨rfl, rfl, rfl, fun q hq => ?_, rfl, fun q hq => absurd hq (Nat.not_lt_zero _)⟩
    obtain rfl : q = 0 := by have : q < 1 := hq; omega
    exact ⟨rfl, rfl⟩
  · obtain ⟨o', r1, r2⟩ := ref2_run P (({ data := #[] } : ByteArray)) 0 L 0 (Int.toNat 0 + a.size + b.toNat + ng + L + (({ data := #[] } : ByteArray)).size + Int.toNat 0 + a.size + b.toNat + (gst g e L).1 + 0 + (gst g e L).1 + 8) noDat (by omega) (by omega) (fun q hq => absurd hq (Nat.not_lt_zero _))
    have k2 : o40_2 a b ng g L e (({ data := #[] } : ByteArray)) 0 a b (gst g e L).1 (gst g e L).1 (gst g e L).2 0 0 noDat = some ((lst g e L).1, (lst g e L).1, o') := r1
    obtain ⟨q, hq, _⟩ := G.has 0 (by omega)
    have z1 : decide (((gst g e L).1 : Int) = 0) = false := decide_eq_false (by omega)
    refine ⟨by simp only [n40, h, z1, k2, Option.getD_some, Option.isSome_some, cond_false, Nat.le_refl, Nat.zero_add, decide_true, Bool.and_self], ?_⟩
    simp only [m40, h, z1, k2, Option.getD_some, cond_false]
    exact ⟨rfl, rfl, (if_neg h0).symm, fun q hq => by simp only [if_neg h0]; exact ⟨trivial, trivial⟩, rfl, r2⟩
end
end Go.Proofs.YtchhhoamnagbfaaDoor
