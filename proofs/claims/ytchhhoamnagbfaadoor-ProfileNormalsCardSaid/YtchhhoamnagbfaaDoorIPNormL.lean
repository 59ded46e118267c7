/-
  Normal forms: the program's and the reference's: plain law. Conditions: none.
-/
import Derived.Test.YtchhhoamnagbfaaDoorIPNormI
namespace Go.Proofs.YtchhhoamnagbfaaDoor
open Go Go.Sy
set_option linter.unusedVariables false
set_option linter.unusedSimpArgs false
set_option maxRecDepth 100000
section
variable {a : ByteArray} {b : Int} {ng : Nat} {g : Dat} {L : Nat} {e : Dat}
def Tk (n : Nat) (o t : Dat) : Prop := ∀ q, q < n + 1 → t.ii q 0 = sm o q ∧ t.ii q 1 = dp o q
theorem upd1 (o : Dat) (k q : Nat) (a b : Int) : (((o.upd k 0 [SV.int IntKind.i64 a]).upd k 1 [SV.int IntKind.i64 b]).ii q 0 = if q = k then a else o.ii q 0) ∧ (((o.upd k 0 [SV.int IntKind.i64 a]).upd k 1 [SV.int IntKind.i64 b]).ii q 1 = if q = k then b else o.ii q 1) ∧ (((o.upd k 0 [SV.int IntKind.i64 a]).upd k 1 [SV.int IntKind.i64 b]).ii q 2 = o.ii q 2) := by
  by_cases h : q = k <;> simp [Dat.upd, h]
theorem upd2 (o : Dat) (k q : Nat) (a b : Int) : ((o.upd k 0 [SV.int IntKind.i64 a, SV.int IntKind.i64 b]).ii q 0 = if q = k then a else o.ii q 0) ∧ ((o.upd k 0 [SV.int IntKind.i64 a, SV.int IntKind.i64 b]).ii q 1 = if q = k then b else o.ii q 1) := by
  by_cases h : q = k <;> simp [Dat.upd, h]
theorem app2 (o : Dat) (n q : Nat) (hq : q < n + 1) (a b : Int) : ((o.app n (datS [SV.int IntKind.i64 a, SV.int IntKind.i64 b] 2)).ii q 0 = if q = n then a else o.ii q 0) ∧ ((o.app n (datS [SV.int IntKind.i64 a, SV.int IntKind.i64 b] 2)).ii q 1 = if q = n then b else o.ii q 1) := by
  by_cases h : q = n
  · subst h; rw [app_eq, app_eq, if_pos rfl, if_pos rfl]; exact ⟨rfl, rfl⟩
  · have : q < n := by omega
    rw [app_lt this, app_lt this, if_neg h, if_neg h]; exact ⟨rfl, rfl⟩
theorem ag_mrg {s : Nat × Dat} {S B K : Int} (h : Mrg s S B K) {o o' : Dat} (hA : Ag s.1 o s.2) (h1 : ∀ q, q < s.1 → o'.ii q 0 = (if q = s.1 - 1 then o.ii (s.1 - 1) 0 + S else o.ii q 0) ∧ o'.ii q 1 = (if q = s.1 - 1 then B else o.ii q 1) ∧ (q = s.1 - 1 → o'.ii q 2 = K) ∧ (q ≠ s.1 - 1 → o'.ii q 2 = o.ii q 2)) : Ag s.1 o' (stepL s S B K).2 := fun q hq => by
  obtain ⟨u1, u2, u3, u4, u5⟩ := step_mrg h
  obtain ⟨p0, p1, p2, p3⟩ := h1 q hq
  by_cases hh : q = s.1 - 1
  · subst hh
    rw [p0, p1, p2 rfl, if_pos rfl, if_pos rfl, u3, u4, u5, (hA _ hq).1]; exact ⟨rfl, rfl, rfl⟩
  · rw [p0, p1, p3 hh, if_neg hh, if_neg hh, u2 q (by omega), u2 q (by omega), u2 q (by omega)]
    exact hA q hq
theorem ag_app {s : Nat × Dat} {S B K : Int} (h : ¬ Mrg s S B K) {o : Dat} (hA : Ag s.1 o s.2) : Ag (s.1 + 1) (o.app s.1 (datS [SV.int IntKind.i64 S, SV.int IntKind.i64 B, SV.int IntKind.i64 K] 3)) (stepL s S B K).2 := fun q hq => by
  obtain ⟨u1, u2, u3, u4, u5⟩ := step_app h
  obtain ⟨p0, p1, p2⟩ := app3 o s.1 q hq S B K
  rw [p0, p1, p2]
  by_cases hh : q = s.1
  · subst hh
    rw [if_pos rfl, if_pos rfl, if_pos rfl, u3, u4, u5]; exact ⟨rfl, rfl, rfl⟩
  · rw [if_neg hh, if_neg hh, if_neg hh, u2 q (by omega), u2 q (by omega), u2 q (by omega)]
    exact hA q (by omega)
theorem tk_mrg {s : Nat × Dat} {S B K : Int} (h : Mrg s S B K) {t : Dat} (ht : Tk s.1 s.2 t) (x : Int) (hx : x = sm s.2 s.1 + S) : Tk s.1 (stepL s S B K).2 (t.upd s.1 0 [SV.int IntKind.i64 x, SV.int IntKind.i64 B]) := fun q hq => by
  obtain ⟨u1, u2, u3, u4, u5⟩ := step_mrg h
  obtain ⟨m0, _⟩ := h
  obtain ⟨p0, p1⟩ := upd2 t s.1 q x B
  rw [p0, p1]
  have u2' : ∀ q, q < s.1 - 1 → ∀ c, (stepL s S B K).2.ii q c = s.2.ii q c := fun q hq c => u2 q (by omega) c
  by_cases hh : q = s.1
  · subst hh
    rw [if_pos rfl, if_pos rfl, hx]
    obtain ⟨n, hn⟩ : ∃ n, s.1 = n + 1 := ⟨s.1 - 1, by omega⟩
    rw [hn] at u3 u4 ⊢
    rw [Nat.add_sub_cancel] at u3 u4
    rw [hn, Nat.add_sub_cancel] at u2'
    constructor
    · simp only [sm]; rw [sm_eq u2' (Nat.le_refl _), u3]; omega
    · exact u4.symm
  · rw [if_neg hh, if_neg hh, sm_eq u2' (by omega), dp_eq u2' (by omega)]
    exact ht q hq
theorem tk_app {s : Nat × Dat} {S B K : Int} (h : ¬ Mrg s S B K) {t : Dat} (ht : Tk s.1 s.2 t) (x : Int) (hx : x = sm s.2 s.1 + S) : Tk (s.1 + 1) (stepL s S B K).2 (t.app (s.1 + 1) (datS [SV.int IntKind.i64 x, SV.int IntKind.i64 B] 2)) := fun q hq => by
  obtain ⟨u1, u2, u3, u4, u5⟩ := step_app h
  obtain ⟨p0, p1⟩ := app2 t (s.1 + 1) q hq x B
  rw [p0, p1]
  by_cases hh : q = s.1 + 1
  · subst hh
    rw [if_pos rfl, if_pos rfl, hx]
    constructor
    · simp only [sm]; rw [sm_eq u2 (Nat.le_refl _), u3]
    · exact u4.symm
  · rw [if_neg hh, if_neg hh, sm_eq u2 (by omega), dp_eq u2 (by omega)]
    exact ht q (by omega)
theorem lst_next (g e : Dat) (i : Nat) : lst g e (i + 1) = stepL (lst g e i) (e.ii i 0) (e.ii i 1) (gk g e i) := rfl
theorem ni_bnd (P : Pln a b ng g L e) {i : Nat} (hi : i ≤ L) {s : Nat × Dat} (I : NI g e i s) : ∀ {q : Nat}, q ≤ s.1 → (0 ≤ sm s.2 q ∧ sm s.2 q ≤ 1000000) ∧ (0 ≤ dp s.2 q ∧ dp s.2 q ≤ 30000) := by
  have nn : ∀ q, q ≤ s.1 → 0 ≤ sm s.2 q := fun q => by
    induction q with
    | zero => exact fun _ => Int.le_refl _
    | succ q ih => intro h; have := ih (by omega); have := (I.ok q (by omega)).1; simp only [sm]; omega
  have mono : ∀ k q, q + k = s.1 → sm s.2 q ≤ sm s.2 s.1 := fun k => by
    induction k with
    | zero => intro q h; rw [show q = s.1 by omega]; exact Int.le_refl _
    | succ k ih =>
      intro q h
      have a := ih (q + 1) (by omega)
      have b := (I.ok q (by omega)).1
      simp only [sm] at a; omega
  have tot := P.sum i hi
  rw [← I.sum] at tot
  intro q hq
  have := mono (s.1 - q) q (by omega)
  refine ⟨⟨nn q hq, by omega⟩, ?_⟩
  cases q with
  | zero => exact ⟨by simp only [dp]; decide, by simp only [dp]; decide⟩
  | succ q => exact (I.ok q (by omega)).2.1
theorem prod_bnd {x y : Int} (hx : -30000 ≤ x ∧ x ≤ 30000) (hy : 0 ≤ y ∧ y ≤ 1000000) : IntKind.i64.wrap (x * y) = x * y := by
  by_cases h : 0 ≤ x
  · have := mulb h hx.2 hy.1 hy.2
    exact wr (by omega) (by omega)
  · have := mulb (show 0 ≤ -x by omega) (show -x ≤ 30000 by omega) hy.1 hy.2
    rw [Int.neg_mul] at this
    exact wr (by omega) (by omega)
theorem norm_run (P : Pln a b ng g L e) (p1 : ByteArray) (p2 : Int) : ∀ (k i f : Nat) (t o : Dat), i + k = L → k < f → Ag (lst g e i).1 o (lst g e i).2 → Tk (lst g e i).1 (lst g e i).2 t →
    ∃ t' o', l73_0 L e (L : Int) a b ng g e p1 p2 a b f ((lst g e i).1 + 1) (i : Int) (gst g e i).1 (lst g e i).1 t (gst g e i).2 o = some ((gst g e L).1, (lst g e L).1, (lst g e L).1 + 1, t', (gst g e L).1, (gst g e L).2, (lst g e L).1, o') ∧ Ag (lst g e L).1 o' (lst g e L).2
  | 0, i, f, t, o, hi, hf, hA, hT => by
    obtain ⟨f, rfl⟩ : ∃ f0, f = f0 + 1 := ⟨f - 1, by omega⟩
    obtain rfl : i = L := by omega
    exact ⟨t, o, by simp only [l73_0, cdn]; rfl, hA⟩
  | k + 1, i, f, t, o, hi, hf, hA, hT => by
    obtain ⟨f, rfl⟩ : ∃ f0, f = f0 + 1 := ⟨f - 1, by omega⟩
    have hlt : i < L := by omega
    have hL := P.legs
    have hl : ∀ j, j < L → LegOk ng e j := P.leg
    have I := ni_all (g := g) hl i (by omega)
    have G := gst_ok (g := g) hl i (by omega)
    obtain ⟨⟨l1, l2⟩, ⟨l3, l4⟩, l5, l6⟩ := hl i hlt
    have cn : (lst g e i).1 ≤ 60 := by have := I.cnt; omega
    have cg : (gst g e i).1 ≤ 60 := by have := G.le; omega
    obtain ⟨f98, m98e⟩ := m98_fnd (n := (gst g e i).1) (by omega) (gst g e i).2 (gx g e i) (gy g e i)
    have zg : decide (0 ≤ e.ii i 2 ∧ e.ii i 2 < (ng : Int)) = true := decide_eq_true ⟨l5, l6⟩
    have hb := fun {q} (hq : q ≤ (lst g e i).1) => ni_bnd P (show i ≤ L by omega) I hq
    have tot : sm (lst g e i).2 (lst g e i).1 + e.ii i 0 ≤ 1000000 := by
      have := P.sum (i + 1) (by omega); rw [I.sum]; exact this
    have wn : IntKind.i64.wrap ((((lst g e i).1 + 1 : Nat) : Int) - 1) = ((lst g e i).1 : Int) := by rw [wr (by omega) (by omega)]; omega
    have n62t : n62 ((lst g e i).1 + 1) t = true := by simp only [n62, wn, decide_eq_true (show 0 ≤ ((lst g e i).1 : Int) ∧ ((lst g e i).1 : Int) < (((lst g e i).1 + 1 : Nat) : Int) by omega)]; rfl
    have m62e : m62 ((lst g e i).1 + 1) t = sm (lst g e i).2 (lst g e i).1 := by simp only [m62, wn, Int.toNat_natCast]; exact (hT _ (by omega)).1
    have we : IntKind.i64.wrap (sm (lst g e i).2 (lst g e i).1 + e.ii i 0) = sm (lst g e i).2 (lst g e i).1 + e.ii i 0 := by
      have := hb (Nat.le_refl _); exact wr (by omega) (by omega)
    have z8 : decide ((lst g e i).1 + 1 ≤ 1073741824) = true := decide_eq_true (by omega)
    have z9 : decide ((lst g e i).1 + 1 + 1 ≤ 1073741824) = true := decide_eq_true (by omega)
    have z7 : decide ((gst g e i).1 + 1 ≤ 1073741824) = true := decide_eq_true (by omega)
    have x1 : (gst g e i).2.app (gst g e i).1 (datS [SV.int IntKind.i64 (g.ii (e.ii i 2).toNat 0), SV.int IntKind.i64 (g.ii (e.ii i 2).toNat 1)] 2) = (gst g e i).2.app (gst g e i).1 (datS [SV.int IntKind.i64 (gx g e i), SV.int IntKind.i64 (gy g e i)] 2) := rfl
    have m98e' : m98 (gst g e i).1 (gst g e i).2 (g.ii (e.ii i 2).toNat 0) (g.ii (e.ii i 2).toNat 1) = fndG (gst g e i).1 (gst g e i).2 (gx g e i) (gy g e i) := m98e
    have f98' : n98 (gst g e i).1 (gst g e i).2 (g.ii (e.ii i 2).toNat 0) (g.ii (e.ii i 2).toNat 1) = true := f98
    have mrgB : 0 < (lst g e i).1 → (m99 (t.ii ((lst g e i).1 - 1) 0) (t.ii ((lst g e i).1 - 1) 1) (t.ii (lst g e i).1 0) (t.ii (lst g e i).1 1) (sm (lst g e i).2 (lst g e i).1 + e.ii i 0) (e.ii i 1) = decide ((dp (lst g e i).2 (lst g e i).1 - dp (lst g e i).2 ((lst g e i).1 - 1)) * e.ii i 0 = (e.ii i 1 - dp (lst g e i).2 (lst g e i).1) * (lst g e i).2.ii ((lst g e i).1 - 1) 0)) := fun h0 => by
      have b0 := hb (show (lst g e i).1 - 1 ≤ (lst g e i).1 by omega)
      have b1 := hb (Nat.le_refl (lst g e i).1)
      have t0 := hT ((lst g e i).1 - 1) (by omega); have t1 := hT (lst g e i).1 (by omega)
      have so : sm (lst g e i).2 (lst g e i).1 = sm (lst g e i).2 ((lst g e i).1 - 1) + (lst g e i).2.ii ((lst g e i).1 - 1) 0 := by
        obtain ⟨n, hn⟩ : ∃ n, (lst g e i).1 = n + 1 := ⟨(lst g e i).1 - 1, by omega⟩
        rw [hn]; rfl
      have ok := (I.ok ((lst g e i).1 - 1) (by omega)).1
      have sub1 : sm (lst g e i).2 (lst g e i).1 - sm (lst g e i).2 ((lst g e i).1 - 1) = (lst g e i).2.ii ((lst g e i).1 - 1) 0 := by omega
      have sub2 : sm (lst g e i).2 (lst g e i).1 + e.ii i 0 - sm (lst g e i).2 (lst g e i).1 = e.ii i 0 := by omega
      simp only [m99, t0.1, t0.2, t1.1, t1.2]
      rw [sub1, sub2, wr (n := e.ii i 0) (by omega) (by omega), wr (n := (lst g e i).2.ii ((lst g e i).1 - 1) 0) (by omega) (by omega), wr (n := dp (lst g e i).2 (lst g e i).1 - dp (lst g e i).2 ((lst g e i).1 - 1)) (by omega) (by omega), wr (n := e.ii i 1 - dp (lst g e i).2 (lst g e i).1) (by omega) (by omega), prod_bnd (by omega) (by omega), prod_bnd (by omega) (by omega)]
    have last2 : 0 < (lst g e i).1 → o.ii ((lst g e i).1 - 1) 2 = (lst g e i).2.ii ((lst g e i).1 - 1) 2 := fun h => (hA _ (by omega)).2.2
    have last0 : 0 < (lst g e i).1 → o.ii ((lst g e i).1 - 1) 0 = (lst g e i).2.ii ((lst g e i).1 - 1) 0 := fun h => (hA _ (by omega)).1
    have next := lst_next g e i
    generalize hs : lst g e i = s at *
    have A1 : 0 < s.1 → IntKind.i64.wrap ((s.1 : Int) - 1) = (s.1 : Int) - 1 := fun h => wr (by omega) (by omega)
    have A2 : ((s.1 : Int) - 1).toNat = s.1 - 1 := by omega
    have A3 : 0 < s.1 → decide (0 ≤ (s.1 : Int) - 1 ∧ (s.1 : Int) - 1 < (s.1 : Int)) = true := fun h => decide_eq_true ⟨by omega, by omega⟩
    have A4 : 0 < s.1 → decide (s.1 - 1 < s.1) = true := fun h => decide_eq_true (by omega)
    have A5 : 0 < s.1 → decide (0 ≤ (s.1 : Int) - 1 ∧ (s.1 : Int) - 1 < ((s.1 + 1 : Nat) : Int)) = true := fun h => decide_eq_true ⟨by omega, by omega⟩
    have A6 : decide (s.1 - 1 < s.1 + 1) = true := decide_eq_true (by omega)
    have A7 : decide (0 ≤ (s.1 : Int) ∧ (s.1 : Int) < ((s.1 + 1 : Nat) : Int)) = true := decide_eq_true ⟨by omega, by omega⟩
    have A8 : decide (s.1 < s.1 + 1) = true := decide_eq_true (by omega)
    have A9 : 0 < s.1 → decide ((0 : Int) < (s.1 : Int)) = true := fun h => decide_eq_true (by omega)
    rcases gk_step (g := g) hl hlt with ⟨g1, g2⟩ | ⟨g1, g2⟩
    · have gn := gst_more g1
      have ih := fun t' o' => norm_run P p1 p2 k (i + 1) f t' o' (by omega) (by omega)
      rw [next, gn] at ih
      by_cases hm : Mrg s (e.ii i 0) (e.ii i 1) (gk g e i)
      · have h0 := hm.1
        obtain ⟨u1, _⟩ := step_mrg hm
        have q2 : o.ii (s.1 - 1) 2 = ((gst g e i).1 : Int) := by rw [last2 h0, hm.2.1, g2]
        have w0 : IntKind.i64.wrap (o.ii (s.1 - 1) 0 + e.ii i 0) = o.ii (s.1 - 1) 0 + e.ii i 0 := by
          have := hb (Nat.le_refl s.1); have ok := (I.ok (s.1 - 1) (by omega)).1
          have so : sm s.2 s.1 = sm s.2 (s.1 - 1) + s.2.ii (s.1 - 1) 0 := by
            obtain ⟨n, hn⟩ : ∃ n, s.1 = n + 1 := ⟨s.1 - 1, by omega⟩
            rw [hn]; rfl
          have := hb (show s.1 - 1 ≤ s.1 by omega)
          rw [last0 h0]; exact wr (by omega) (by omega)
        have hag : Ag s.1 ((o.upd (s.1 - 1) 0 [SV.int IntKind.i64 (o.ii (s.1 - 1) 0 + e.ii i 0)]).upd (s.1 - 1) 1 [SV.int IntKind.i64 (e.ii i 1)]) (stepL s (e.ii i 0) (e.ii i 1) (gk g e i)).2 := ag_mrg hm hA fun q hq => by
          obtain ⟨v0, v1, v2⟩ := upd1 o (s.1 - 1) q (o.ii (s.1 - 1) 0 + e.ii i 0) (e.ii i 1)
          exact ⟨v0, v1, fun hh => by rw [v2, hh, q2, g2], fun _ => v2⟩
        obtain ⟨t', o', r1, r2⟩ := ih (t.upd s.1 0 [SV.int IntKind.i64 (sm s.2 s.1 + e.ii i 0), SV.int IntKind.i64 (e.ii i 1)]) ((o.upd (s.1 - 1) 0 [SV.int IntKind.i64 (o.ii (s.1 - 1) 0 + e.ii i 0)]).upd (s.1 - 1) 1 [SV.int IntKind.i64 (e.ii i 1)]) (by rw [u1]; exact hag) (by rw [u1]; exact tk_mrg hm hT _ rfl)
        refine ⟨t', o', ?_, r2⟩
        rw [u1] at r1
        simp only [l73_0, cdl hlt, cdd hlt, Int.toNat_natCast, Nat.zero_add, Nat.le_refl, decide_true, zg, f98', m98e', decide_eq_true g1, z7, n62t, m62e, we, A1 h0, A2, A3 h0, A4 h0, A5 h0, A6, A7, A8, A9 h0, q2, mrgB h0, decide_eq_true hm.2.2, w0, x1, cond_true, cond_false, Bool.cond_self, wrS hlt (by omega)]
        exact r1
      · obtain ⟨u1, _⟩ := step_app hm
        obtain ⟨t', o', r1, r2⟩ := ih (t.app (s.1 + 1) (datS [SV.int IntKind.i64 (sm s.2 s.1 + e.ii i 0), SV.int IntKind.i64 (e.ii i 1)] 2)) (o.app s.1 (datS [SV.int IntKind.i64 (e.ii i 0), SV.int IntKind.i64 (e.ii i 1), SV.int IntKind.i64 ((gst g e i).1 : Int)] 3)) (by rw [u1]; have := ag_app hm hA; rw [g2] at this ⊢; exact this) (by rw [u1]; exact tk_app hm hT _ rfl)
        refine ⟨t', o', ?_, r2⟩
        rw [u1] at r1
        by_cases h0 : 0 < s.1
        · have nm : (bif (bif decide ((0 : Int) < (s.1 : Int)) then decide (o.ii (s.1 - 1) 2 = ((gst g e i).1 : Int)) else false) then decide ((dp s.2 s.1 - dp s.2 (s.1 - 1)) * e.ii i 0 = (e.ii i 1 - dp s.2 s.1) * s.2.ii (s.1 - 1) 0) else false) = false := by
            rw [A9 h0]
            by_cases c1 : o.ii (s.1 - 1) 2 = ((gst g e i).1 : Int)
            · rw [decide_eq_true c1]
              exact decide_eq_false fun c2 => hm ⟨h0, by rw [← last2 h0, c1, g2], c2⟩
            · rw [decide_eq_false c1]; rfl
          simp only [l73_0, cdl hlt, cdd hlt, Int.toNat_natCast, Nat.zero_add, Nat.le_refl, decide_true, zg, f98', m98e', decide_eq_true g1, z7, z8, z9, n62t, m62e, we, A1 h0, A2, A3 h0, A4 h0, A5 h0, A6, A7, A8, mrgB h0, nm, x1, cond_true, cond_false, Bool.cond_self, wrS hlt (by omega)]
          exact r1
        · have h0' : decide ((0 : Int) < (s.1 : Int)) = false := decide_eq_false (by omega)
          simp only [l73_0, cdl hlt, cdd hlt, Int.toNat_natCast, Nat.zero_add, Nat.le_refl, decide_true, zg, f98', m98e', decide_eq_true g1, z7, z8, z9, n62t, m62e, we, A7, A8, h0', x1, cond_true, cond_false, Bool.cond_self, wrS hlt (by omega)]
          exact r1
    · have gn := gst_same g1
      have ih := fun t' o' => norm_run P p1 p2 k (i + 1) f t' o' (by omega) (by omega)
      rw [next, gn] at ih
      by_cases hm : Mrg s (e.ii i 0) (e.ii i 1) (gk g e i)
      · have h0 := hm.1
        obtain ⟨u1, _⟩ := step_mrg hm
        have q2 : o.ii (s.1 - 1) 2 = fndG (gst g e i).1 (gst g e i).2 (gx g e i) (gy g e i) := by rw [last2 h0, hm.2.1, g2]
        have w0 : IntKind.i64.wrap (o.ii (s.1 - 1) 0 + e.ii i 0) = o.ii (s.1 - 1) 0 + e.ii i 0 := by
          have := hb (Nat.le_refl s.1); have ok := (I.ok (s.1 - 1) (by omega)).1
          have so : sm s.2 s.1 = sm s.2 (s.1 - 1) + s.2.ii (s.1 - 1) 0 := by
            obtain ⟨n, hn⟩ : ∃ n, s.1 = n + 1 := ⟨s.1 - 1, by omega⟩
            rw [hn]; rfl
          have := hb (show s.1 - 1 ≤ s.1 by omega)
          rw [last0 h0]; exact wr (by omega) (by omega)
        have hag : Ag s.1 ((o.upd (s.1 - 1) 0 [SV.int IntKind.i64 (o.ii (s.1 - 1) 0 + e.ii i 0)]).upd (s.1 - 1) 1 [SV.int IntKind.i64 (e.ii i 1)]) (stepL s (e.ii i 0) (e.ii i 1) (gk g e i)).2 := ag_mrg hm hA fun q hq => by
          obtain ⟨v0, v1, v2⟩ := upd1 o (s.1 - 1) q (o.ii (s.1 - 1) 0 + e.ii i 0) (e.ii i 1)
          exact ⟨v0, v1, fun hh => by rw [v2, hh, q2, g2], fun _ => v2⟩
        obtain ⟨t', o', r1, r2⟩ := ih (t.upd s.1 0 [SV.int IntKind.i64 (sm s.2 s.1 + e.ii i 0), SV.int IntKind.i64 (e.ii i 1)]) ((o.upd (s.1 - 1) 0 [SV.int IntKind.i64 (o.ii (s.1 - 1) 0 + e.ii i 0)]).upd (s.1 - 1) 1 [SV.int IntKind.i64 (e.ii i 1)]) (by rw [u1]; exact hag) (by rw [u1]; exact tk_mrg hm hT _ rfl)
        refine ⟨t', o', ?_, r2⟩
        rw [u1] at r1
        simp only [l73_0, cdl hlt, cdd hlt, Int.toNat_natCast, Nat.zero_add, Nat.le_refl, decide_true, zg, f98', m98e', decide_eq_false g1, z7, n62t, m62e, we, A1 h0, A2, A3 h0, A4 h0, A5 h0, A6, A7, A8, A9 h0, q2, mrgB h0, decide_eq_true hm.2.2, w0, x1, cond_true, cond_false, Bool.cond_self, wrS hlt (by omega)]
        exact r1
      · obtain ⟨u1, _⟩ := step_app hm
        obtain ⟨t', o', r1, r2⟩ := ih (t.app (s.1 + 1) (datS [SV.int IntKind.i64 (sm s.2 s.1 + e.ii i 0), SV.int IntKind.i64 (e.ii i 1)] 2)) (o.app s.1 (datS [SV.int IntKind.i64 (e.ii i 0), SV.int IntKind.i64 (e.ii i 1), SV.int IntKind.i64 (fndG (gst g e i).1 (gst g e i).2 (gx g e i) (gy g e i))] 3)) (by rw [u1]; have := ag_app hm hA; rw [g2] at this ⊢; exact this) (by rw [u1]; exact tk_app hm hT _ rfl)
        refine ⟨t', o', ?_, r2⟩
        rw [u1] at r1
        by_cases h0 : 0 < s.1
        · have nm : (bif (bif decide ((0 : Int) < (s.1 : Int)) then decide (o.ii (s.1 - 1) 2 = fndG (gst g e i).1 (gst g e i).2 (gx g e i) (gy g e i)) else false) then decide ((dp s.2 s.1 - dp s.2 (s.1 - 1)) * e.ii i 0 = (e.ii i 1 - dp s.2 s.1) * s.2.ii (s.1 - 1) 0) else false) = false := by
            rw [A9 h0]
            by_cases c1 : o.ii (s.1 - 1) 2 = fndG (gst g e i).1 (gst g e i).2 (gx g e i) (gy g e i)
            · rw [decide_eq_true c1]
              exact decide_eq_false fun c2 => hm ⟨h0, by rw [← last2 h0, c1, g2], c2⟩
            · rw [decide_eq_false c1]; rfl
          simp only [l73_0, cdl hlt, cdd hlt, Int.toNat_natCast, Nat.zero_add, Nat.le_refl, decide_true, zg, f98', m98e', decide_eq_false g1, z7, z8, z9, n62t, m62e, we, A1 h0, A2, A3 h0, A4 h0, A5 h0, A6, A7, A8, mrgB h0, nm, x1, cond_true, cond_false, Bool.cond_self, wrS hlt (by omega)]
          exact r1
        · have h0' : decide ((0 : Int) < (s.1 : Int)) = false := decide_eq_false (by omega)
          simp only [l73_0, cdl hlt, cdd hlt, Int.toNat_natCast, Nat.zero_add, Nat.le_refl, decide_true, zg, f98', m98e', decide_eq_false g1, z7, z8, z9, n62t, m62e, we, A7, A8, h0', x1, cond_true, cond_false, Bool.cond_self, wrS hlt (by omega)]
          exact r1
end
end Go.Proofs.YtchhhoamnagbfaaDoor
