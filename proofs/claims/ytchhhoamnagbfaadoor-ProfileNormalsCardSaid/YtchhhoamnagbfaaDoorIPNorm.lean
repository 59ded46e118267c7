/-
  Normal forms: the gases and legs as they are built, and what holds of them: plain law. Conditions: none.
-/
import Derived.Test.YtchhhoamnagbfaaDoorIPTwo
namespace Go.Proofs.YtchhhoamnagbfaaDoor
open Go Go.Sy
set_option linter.unusedVariables false
set_option linter.unusedSimpArgs false
set_option maxRecDepth 100000
attribute [local simp] brk
noncomputable def hasG (D : Dat) (x y : Int) (i : Nat) : Option (Bool × Int × Unit) := cond (bif decide (D.ii i 0 = x) then decide (D.ii i 1 = y) else false) (some (true, (i : Int), default)) none
noncomputable def fndG (n : Nat) (D : Dat) (x y : Int) : Int := cond (first (hasG D x y) (false, default, ()) n 0).1 (first (hasG D x y) (false, default, ()) n 0).2.1 (-1)
theorem m74_fnd {n : Nat} (hn : n ≤ 9223372036854775807) (D : Dat) (x y : Int) : n74 n D x y = true ∧ m74 n D x y = fndG n D x y := by
  have h : o74_0 n D x y 0 = some (first (hasG D x y) (false, default, ()) n 0) := loop_first (n := n) (l := l74_0 n D x y) hn (fun f i hi => by
    simp only [l74_0, cdl hi, cdd hi, cond_true, Int.toNat_natCast, hasG]
    cases decide (D.ii i 0 = x) <;> cases decide (D.ii i 1 = y) <;> rfl) (fun f => by simp only [l74_0, cdn]; rfl) n 0 _ (by omega) (by omega)
  simp only [n74, m74, h, fndG]
  exact ⟨rfl, rfl⟩
theorem m98_fnd {n : Nat} (hn : n ≤ 9223372036854775807) (D : Dat) (x y : Int) : n98 n D x y = true ∧ m98 n D x y = fndG n D x y := by
  have h : o98_0 n D (n : Int) x y 0 = some (first (hasG D x y) (false, default, ()) n 0) := loop_first (n := n) (l := l98_0 n D (n : Int) x y) hn (fun f i hi => by
    have e0 : decide (x = D.ii i 0) = decide (D.ii i 0 = x) := decide_eq_decide.2 eq_comm
    have e1 : decide (y = D.ii i 1) = decide (D.ii i 1 = y) := decide_eq_decide.2 eq_comm
    simp only [l98_0, cdl hi, cdd hi, cond_true, Int.toNat_natCast, hasG, e0, e1]
    cases decide (D.ii i 0 = x) <;> cases decide (D.ii i 1 = y) <;> rfl) (fun f => by simp only [l98_0, cdn]; rfl) n 0 _ (by omega) (by omega)
  simp only [n98, m98, h, fndG]
  exact ⟨rfl, rfl⟩
theorem hasG_some {D : Dat} {x y : Int} {i : Nat} (h : D.ii i 0 = x ∧ D.ii i 1 = y) : hasG D x y i = some (true, (i : Int), default) := by
  simp only [hasG, h.1, h.2, decide_true, cond_true]
theorem hasG_none {D : Dat} {x y : Int} {i : Nat} (h : ¬ (D.ii i 0 = x ∧ D.ii i 1 = y)) : hasG D x y i = none := by
  unfold hasG
  by_cases h0 : D.ii i 0 = x
  · rw [decide_eq_true h0, decide_eq_false (fun h1 => h ⟨h0, h1⟩)]; rfl
  · rw [decide_eq_false h0]; rfl
theorem fnd_at {n : Nat} {D : Dat} {x y : Int} {q : Nat} (hq : q < n) (h : D.ii q 0 = x ∧ D.ii q 1 = y) (h' : ∀ q', q' < q → ¬ (D.ii q' 0 = x ∧ D.ii q' 1 = y)) : fndG n D x y = (q : Int) := by
  have : first (hasG D x y) (false, default, ()) n 0 = (true, (q : Int), default) := first_some (j := q) (Nat.zero_le _) (by omega) (hasG_some h) fun j _ hj => hasG_none (h' j hj)
  simp only [fndG, this, cond_true]
theorem fnd_no {n : Nat} {D : Dat} {x y : Int} (h : ∀ q, q < n → ¬ (D.ii q 0 = x ∧ D.ii q 1 = y)) : fndG n D x y = -1 := by
  have : first (hasG D x y) (false, default, ()) n 0 = (false, default, ()) := first_none fun j _ hj => hasG_none (h j (by omega))
  simp only [fndG, this, cond_false]
theorem fnd_spec (n : Nat) (D : Dat) (x y : Int) : (fndG n D x y = -1 ∧ ∀ q, q < n → ¬ (D.ii q 0 = x ∧ D.ii q 1 = y)) ∨ ∃ q : Nat, q < n ∧ fndG n D x y = (q : Int) ∧ (D.ii q 0 = x ∧ D.ii q 1 = y) ∧ ∀ q', q' < q → ¬ (D.ii q' 0 = x ∧ D.ii q' 1 = y) := by
  by_cases h : ∃ q, q < n ∧ (D.ii q 0 = x ∧ D.ii q 1 = y)
  · obtain ⟨q0, h1, h2⟩ := h
    have : ∀ k, k ≤ n → (∀ q', q' < k → ¬ (D.ii q' 0 = x ∧ D.ii q' 1 = y)) ∨ ∃ q, q < k ∧ (D.ii q 0 = x ∧ D.ii q 1 = y) ∧ ∀ q', q' < q → ¬ (D.ii q' 0 = x ∧ D.ii q' 1 = y) := by
      intro k
      induction k with
      | zero => exact fun _ => .inl fun q' hq' => by omega
      | succ k ih =>
        intro hk
        rcases ih (by omega) with h | ⟨q, a, b, c⟩
        · by_cases hh : D.ii k 0 = x ∧ D.ii k 1 = y
          · exact .inr ⟨k, by omega, hh, h⟩
          · exact .inl fun q' hq' => by
              by_cases e : q' = k
              · subst e; exact hh
              · exact h q' (by omega)
        · exact .inr ⟨q, by omega, b, c⟩
    rcases this n (Nat.le_refl _) with h | ⟨q, a, b, c⟩
    · exact absurd h2 (h q0 h1)
    · exact .inr ⟨q, a, fnd_at a b c, b, c⟩
  · exact .inl ⟨fnd_no fun q hq hh => h ⟨q, hq, hh⟩, fun q hq hh => h ⟨q, hq, hh⟩⟩
def gx (g e : Dat) (i : Nat) : Int := g.ii (e.ii i 2).toNat 0
def gy (g e : Dat) (i : Nat) : Int := g.ii (e.ii i 2).toNat 1
noncomputable def gst (g e : Dat) : Nat → Nat × Dat
  | 0 => (0, noDat)
  | i + 1 => if fndG (gst g e i).1 (gst g e i).2 (gx g e i) (gy g e i) < 0 then ((gst g e i).1 + 1, (gst g e i).2.app (gst g e i).1 (datS [SV.int IntKind.i64 (gx g e i), SV.int IntKind.i64 (gy g e i)] 2)) else gst g e i
noncomputable def gk (g e : Dat) (i : Nat) : Int := fndG (gst g e (i + 1)).1 (gst g e (i + 1)).2 (gx g e i) (gy g e i)
structure GI (ng : Nat) (g e : Dat) (i : Nat) (s : Nat × Dat) : Prop where
  le : s.1 ≤ i
  gin : ∀ q, q < s.1 → ∃ r, r < ng ∧ s.2.ii q 0 = g.ii r 0 ∧ s.2.ii q 1 = g.ii r 1
  dist : ∀ q' q, q' < q → q < s.1 → ¬ (s.2.ii q' 0 = s.2.ii q 0 ∧ s.2.ii q' 1 = s.2.ii q 1)
  has : ∀ r, r < i → ∃ q, q < s.1 ∧ s.2.ii q 0 = gx g e r ∧ s.2.ii q 1 = gy g e r
section
variable {ng : Nat} {g e : Dat} {L : Nat}
theorem gst_same {i : Nat} (h : ¬ fndG (gst g e i).1 (gst g e i).2 (gx g e i) (gy g e i) < 0) : gst g e (i + 1) = gst g e i := by rw [gst, if_neg h]
theorem gst_more {i : Nat} (h : fndG (gst g e i).1 (gst g e i).2 (gx g e i) (gy g e i) < 0) : gst g e (i + 1) = ((gst g e i).1 + 1, (gst g e i).2.app (gst g e i).1 (datS [SV.int IntKind.i64 (gx g e i), SV.int IntKind.i64 (gy g e i)] 2)) := by rw [gst, if_pos h]
theorem gst_mono1 (i : Nat) : (gst g e i).1 ≤ (gst g e (i + 1)).1 ∧ ∀ q, q < (gst g e i).1 → ∀ c, (gst g e (i + 1)).2.ii q c = (gst g e i).2.ii q c := by
  by_cases h : fndG (gst g e i).1 (gst g e i).2 (gx g e i) (gy g e i) < 0
  · rw [gst_more h]
    exact ⟨Nat.le_succ _, fun q hq c => app_lt hq⟩
  · rw [gst_same h]; exact ⟨Nat.le_refl _, fun _ _ _ => rfl⟩
theorem gst_mono {i : Nat} : ∀ {j : Nat}, i ≤ j → (gst g e i).1 ≤ (gst g e j).1 ∧ ∀ q, q < (gst g e i).1 → ∀ c, (gst g e j).2.ii q c = (gst g e i).2.ii q c
  | 0, h => by
    obtain rfl : i = 0 := by omega
    exact ⟨Nat.le_refl _, fun _ _ _ => rfl⟩
  | j + 1, h => by
    by_cases hij : i = j + 1
    · subst hij; exact ⟨Nat.le_refl _, fun _ _ _ => rfl⟩
    · obtain ⟨a, b⟩ := gst_mono (i := i) (j := j) (by omega)
      obtain ⟨c, d⟩ := gst_mono1 (g := g) (e := e) j
      exact ⟨Nat.le_trans a c, fun q hq k => (d q (by omega) k).trans (b q hq k)⟩
theorem gst_ok (hl : ∀ j, j < L → LegOk ng e j) : ∀ i, i ≤ L → GI ng g e i (gst g e i)
  | 0, _ => ⟨Nat.le_refl _, fun q hq => absurd hq (Nat.not_lt_zero _), fun q' q h hq => absurd hq (Nat.not_lt_zero _), fun r hr => absurd hr (Nat.not_lt_zero _)⟩
  | i + 1, h => by
    have I := gst_ok hl i (by omega)
    have lo := hl i (by omega)
    have hr : (e.ii i 2).toNat < ng := by have := lo.2.2; omega
    rcases fnd_spec (gst g e i).1 (gst g e i).2 (gx g e i) (gy g e i) with ⟨f1, f2⟩ | ⟨q0, f0, f1, f2, f3⟩
    · rw [gst_more (by rw [f1]; decide)]
      generalize gst g e i = s at *
      have at_ : ∀ q, q < s.1 + 1 → ((s.2.app s.1 (datS [SV.int IntKind.i64 (gx g e i), SV.int IntKind.i64 (gy g e i)] 2)).ii q 0 = if q < s.1 then s.2.ii q 0 else gx g e i) ∧ ((s.2.app s.1 (datS [SV.int IntKind.i64 (gx g e i), SV.int IntKind.i64 (gy g e i)] 2)).ii q 1 = if q < s.1 then s.2.ii q 1 else gy g e i) := fun q hq => by
        by_cases hh : q < s.1
        · rw [app_lt hh, app_lt hh, if_pos hh, if_pos hh]; exact ⟨rfl, rfl⟩
        · obtain rfl : q = s.1 := by omega
          rw [app_eq, app_eq, if_neg hh, if_neg hh]; exact ⟨rfl, rfl⟩
      refine ⟨Nat.succ_le_succ I.le, fun q hq => ?_, fun q' q h1 hq => ?_, fun r hr' => ?_⟩
      · rw [(at_ q hq).1, (at_ q hq).2]
        by_cases hh : q < s.1
        · rw [if_pos hh, if_pos hh]; exact I.gin q hh
        · rw [if_neg hh, if_neg hh]; exact ⟨_, hr, rfl, rfl⟩
      · have hq' : q < s.1 + 1 := hq
        rw [(at_ q hq').1, (at_ q hq').2, (at_ q' (by omega)).1, (at_ q' (by omega)).2, if_pos (show q' < s.1 by omega), if_pos (show q' < s.1 by omega)]
        by_cases hh : q < s.1
        · rw [if_pos hh, if_pos hh]; exact I.dist q' q h1 hh
        · rw [if_neg hh, if_neg hh]; exact f2 q' (by omega)
      · by_cases hri : r < i
        · obtain ⟨q, a, b, c⟩ := I.has r hri
          refine ⟨q, Nat.lt_succ_of_lt a, ?_, ?_⟩
          · rw [(at_ q (by omega)).1, if_pos a]; exact b
          · rw [(at_ q (by omega)).2, if_pos a]; exact c
        · obtain rfl : r = i := by omega
          refine ⟨s.1, Nat.lt_succ_self _, ?_, ?_⟩
          · rw [(at_ s.1 (by omega)).1, if_neg (Nat.lt_irrefl _)]
          · rw [(at_ s.1 (by omega)).2, if_neg (Nat.lt_irrefl _)]
    · rw [gst_same (by rw [f1]; omega)]
      refine ⟨Nat.le_succ_of_le I.le, I.gin, I.dist, fun r hr' => ?_⟩
      by_cases hri : r < i
      · exact I.has r hri
      · obtain rfl : r = i := by omega
        exact ⟨q0, f0, f2.1, f2.2⟩
theorem gk_spec (hl : ∀ j, j < L → LegOk ng e j) {i : Nat} (hi : i < L) : ∃ q : Nat, gk g e i = (q : Int) ∧ q < (gst g e (i + 1)).1 ∧ (gst g e (i + 1)).2.ii q 0 = gx g e i ∧ (gst g e (i + 1)).2.ii q 1 = gy g e i ∧
    (∀ j, i + 1 ≤ j → j ≤ L → fndG (gst g e j).1 (gst g e j).2 (gx g e i) (gy g e i) = (q : Int)) ∧ (q < (gst g e i).1 ∨ (q = (gst g e i).1 ∧ (gst g e (i + 1)).1 = (gst g e i).1 + 1)) := by
  have I := gst_ok (g := g) hl (i + 1) (by omega)
  rcases fnd_spec (gst g e (i + 1)).1 (gst g e (i + 1)).2 (gx g e i) (gy g e i) with ⟨f1, f2⟩ | ⟨q, f0, f1, f2, f3⟩
  · obtain ⟨q, a, b, c⟩ := I.has i (Nat.lt_succ_self _)
    exact absurd ⟨b, c⟩ (f2 q a)
  · refine ⟨q, f1, f0, f2.1, f2.2, fun j h1 h2 => ?_, ?_⟩
    · obtain ⟨m1, m2⟩ := gst_mono (g := g) (e := e) h1
      refine fnd_at (by omega) ⟨by rw [m2 q f0]; exact f2.1, by rw [m2 q f0]; exact f2.2⟩ fun q' hq' hh => f3 q' hq' ?_
      rw [m2 q' (by omega), m2 q' (by omega)] at hh; exact hh
    · rcases fnd_spec (gst g e i).1 (gst g e i).2 (gx g e i) (gy g e i) with ⟨k1, k2⟩ | ⟨p, k0, k1, k2, k3⟩
      · have e1 := gst_more (g := g) (e := e) (i := i) (by rw [k1]; decide)
        rw [e1] at f0 f2 ⊢
        by_cases hh : q < (gst g e i).1
        · exact .inl hh
        · have f0 : q < (gst g e i).1 + 1 := f0
          exact .inr ⟨by omega, rfl⟩
      · have e1 := gst_same (g := g) (e := e) (i := i) (by rw [k1]; omega)
        rw [e1] at f0; exact .inl f0
theorem gk_step (hl : ∀ j, j < L → LegOk ng e j) {i : Nat} (hi : i < L) : (fndG (gst g e i).1 (gst g e i).2 (gx g e i) (gy g e i) < 0 ∧ gk g e i = ((gst g e i).1 : Int)) ∨ (¬ fndG (gst g e i).1 (gst g e i).2 (gx g e i) (gy g e i) < 0 ∧ gk g e i = fndG (gst g e i).1 (gst g e i).2 (gx g e i) (gy g e i)) := by
  rcases fnd_spec (gst g e i).1 (gst g e i).2 (gx g e i) (gy g e i) with ⟨k1, k2⟩ | ⟨p, k0, k1, k2, k3⟩
  · left
    have e1 := gst_more (g := g) (e := e) (i := i) (by rw [k1]; decide)
    refine ⟨by rw [k1]; decide, ?_⟩
    rw [gk, e1]
    refine fnd_at (Nat.lt_succ_self _) ⟨by rw [app_eq]; rfl, by rw [app_eq]; rfl⟩ fun q' hq' => ?_
    rw [app_lt hq', app_lt hq']; exact k2 q' hq'
  · right
    have e1 := gst_same (g := g) (e := e) (i := i) (by rw [k1]; omega)
    exact ⟨by rw [k1]; omega, by rw [gk, e1]⟩
end
theorem pigeon : ∀ (n c : Nat) (f : Nat → Nat), (∀ q, q < c → f q < n) → (∀ q' q, q' < q → q < c → f q' ≠ f q) → c ≤ n
  | 0, c, f, h1, h2 => by
    apply Decidable.byContradiction
    intro h
    have := h1 0 (by omega)
    omega
  | n + 1, c, f, h1, h2 => by
    by_cases hz : ∃ p, p < c ∧ f p = n
    · obtain ⟨p, hp, hpn⟩ := hz
      have := pigeon n (c - 1) (fun q => if q < p then f q else f (q + 1)) (fun q hq => by
        by_cases hh : q < p
        · have a := h1 q (by omega); have b := h2 q p hh hp
          rw [if_pos hh]; omega
        · have a := h1 (q + 1) (by omega); have b := h2 p (q + 1) (by omega) (by omega)
          rw [if_neg hh]; omega) fun q' q h hq => by
        by_cases a : q' < p
        · by_cases b : q < p
          · simp only [if_pos a, if_pos b]; exact h2 q' q h (by omega)
          · simp only [if_pos a, if_neg b]; exact h2 q' (q + 1) (by omega) (by omega)
        · simp only [if_neg a, if_neg (show ¬ q < p by omega)]; exact h2 (q' + 1) (q + 1) (by omega) (by omega)
      omega
    · have := pigeon n c f (fun q hq => by
        have a := h1 q hq
        have : f q ≠ n := fun hh => hz ⟨q, hq, hh⟩
        omega) h2
      omega
theorem GI.few {ng : Nat} {g e : Dat} {i : Nat} {s : Nat × Dat} (I : GI ng g e i s) : s.1 ≤ ng := by
  have h : ∀ q, ∃ r, q < s.1 → (r < ng ∧ s.2.ii q 0 = g.ii r 0 ∧ s.2.ii q 1 = g.ii r 1) := fun q => by
    by_cases hq : q < s.1
    · obtain ⟨r, hr⟩ := I.gin q hq; exact ⟨r, fun _ => hr⟩
    · exact ⟨0, fun h => absurd h hq⟩
  obtain ⟨f, hf⟩ := Classical.axiomOfChoice h
  exact pigeon ng s.1 f (fun q hq => (hf q hq).1) fun q' q h hq hh => by
    have a := (hf q' (by omega)).2; have b := (hf q hq).2
    rw [hh] at a
    exact I.dist q' q h hq ⟨a.1.trans b.1.symm, a.2.trans b.2.symm⟩
theorem sm_congr {o o' : Dat} : ∀ {n : Nat}, (∀ q, q < n → o.ii q 0 = o'.ii q 0) → sm o n = sm o' n
  | 0, _ => rfl
  | n + 1, h => by simp only [sm]; rw [sm_congr (n := n) fun q hq => h q (by omega), h n (by omega)]
theorem dp_congr {o o' : Dat} {n : Nat} (h : ∀ q, q < n → o.ii q 1 = o'.ii q 1) : dp o n = dp o' n := by
  cases n with
  | zero => rfl
  | succ n => exact h n (by omega)
theorem upd3 (o : Dat) (k q : Nat) (a b c : Int) : ((o.upd k 0 [SV.int IntKind.i64 a, SV.int IntKind.i64 b, SV.int IntKind.i64 c]).ii q 0 = if q = k then a else o.ii q 0) ∧ ((o.upd k 0 [SV.int IntKind.i64 a, SV.int IntKind.i64 b, SV.int IntKind.i64 c]).ii q 1 = if q = k then b else o.ii q 1) ∧ ((o.upd k 0 [SV.int IntKind.i64 a, SV.int IntKind.i64 b, SV.int IntKind.i64 c]).ii q 2 = if q = k then c else o.ii q 2) := by
  by_cases h : q = k <;> simp [Dat.upd, h]
theorem app3 (o : Dat) (n q : Nat) (hq : q < n + 1) (a b c : Int) : ((o.app n (datS [SV.int IntKind.i64 a, SV.int IntKind.i64 b, SV.int IntKind.i64 c] 3)).ii q 0 = if q = n then a else o.ii q 0) ∧ ((o.app n (datS [SV.int IntKind.i64 a, SV.int IntKind.i64 b, SV.int IntKind.i64 c] 3)).ii q 1 = if q = n then b else o.ii q 1) ∧ ((o.app n (datS [SV.int IntKind.i64 a, SV.int IntKind.i64 b, SV.int IntKind.i64 c] 3)).ii q 2 = if q = n then c else o.ii q 2) := by
  by_cases h : q = n
  · subst h; rw [app_eq, app_eq, app_eq, if_pos rfl, if_pos rfl, if_pos rfl]; exact ⟨rfl, rfl, rfl⟩
  · have : q < n := by omega
    rw [app_lt this, app_lt this, app_lt this, if_neg h, if_neg h, if_neg h]; exact ⟨rfl, rfl, rfl⟩
def Mrg (s : Nat × Dat) (S B K : Int) : Prop := 0 < s.1 ∧ s.2.ii (s.1 - 1) 2 = K ∧ (dp s.2 s.1 - dp s.2 (s.1 - 1)) * S = (B - dp s.2 s.1) * s.2.ii (s.1 - 1) 0
instance (s : Nat × Dat) (S B K : Int) : Decidable (Mrg s S B K) := by unfold Mrg; infer_instance
noncomputable def stepL (s : Nat × Dat) (S B K : Int) : Nat × Dat :=
  if Mrg s S B K then (s.1, s.2.upd (s.1 - 1) 0 [SV.int IntKind.i64 (s.2.ii (s.1 - 1) 0 + S), SV.int IntKind.i64 B, SV.int IntKind.i64 K]) else (s.1 + 1, s.2.app s.1 (datS [SV.int IntKind.i64 S, SV.int IntKind.i64 B, SV.int IntKind.i64 K] 3))
noncomputable def lst (g e : Dat) : Nat → Nat × Dat
  | 0 => (0, noDat)
  | i + 1 => stepL (lst g e i) (e.ii i 0) (e.ii i 1) (gk g e i)
def Ag (n : Nat) (o o' : Dat) : Prop := ∀ q, q < n → o.ii q 0 = o'.ii q 0 ∧ o.ii q 1 = o'.ii q 1 ∧ o.ii q 2 = o'.ii q 2
theorem Ag.sm {n : Nat} {o o' : Dat} (h : Ag n o o') {q : Nat} (hq : q ≤ n) : sm o q = sm o' q := sm_congr fun k hk => (h k (by omega)).1
theorem Ag.dp {n : Nat} {o o' : Dat} (h : Ag n o o') {q : Nat} (hq : q ≤ n) : dp o q = dp o' q := dp_congr fun k hk => (h k (by omega)).2.1
theorem step_app {s : Nat × Dat} {S B K : Int} (h : ¬ Mrg s S B K) : (stepL s S B K).1 = s.1 + 1 ∧ (∀ q, q < s.1 → ∀ c, (stepL s S B K).2.ii q c = s.2.ii q c) ∧ (stepL s S B K).2.ii s.1 0 = S ∧ (stepL s S B K).2.ii s.1 1 = B ∧ (stepL s S B K).2.ii s.1 2 = K := by
  unfold stepL
  rw [if_neg h]
  refine ⟨rfl, fun q hq c => app_lt hq, ?_, ?_, ?_⟩ <;> (simp only [app_eq]; rfl)
theorem step_mrg {s : Nat × Dat} {S B K : Int} (h : Mrg s S B K) : (stepL s S B K).1 = s.1 ∧ (∀ q, q + 1 < s.1 → ∀ c, (stepL s S B K).2.ii q c = s.2.ii q c) ∧ (stepL s S B K).2.ii (s.1 - 1) 0 = s.2.ii (s.1 - 1) 0 + S ∧ (stepL s S B K).2.ii (s.1 - 1) 1 = B ∧ (stepL s S B K).2.ii (s.1 - 1) 2 = K := by
  unfold stepL
  rw [if_pos h]
  have u := upd3 s.2 (s.1 - 1) (s.1 - 1) (s.2.ii (s.1 - 1) 0 + S) B K
  refine ⟨rfl, fun q hq c => ?_, ?_, ?_, ?_⟩
  · have : ¬ q = s.1 - 1 := by omega
    simp only [Dat.upd, if_neg this]
  · rw [u.1, if_pos rfl]
  · rw [u.2.1, if_pos rfl]
  · rw [u.2.2, if_pos rfl]
theorem line_more {A B S T h t : Int} (hS : 0 < S) (m : A * T = B * S) (k : h * S = A * t) : h * (S + T) = (A + B) * t := by
  have : (h * (S + T)) * S = ((A + B) * t) * S := by
    have e1 : (h * (S + T)) * S = (h * S) * (S + T) := by ac_rfl
    rw [e1, k, Int.add_mul A B t, Int.add_mul (A * t) (B * t) S, Int.mul_add]
    have e2 : A * t * T = (A * T) * t := by ac_rfl
    have e3 : B * t * S = (B * S) * t := by ac_rfl
    rw [e2, e3, m]
  exact Int.eq_of_mul_eq_mul_right (by omega) this
theorem line_back {A B S T A0 S0 : Int} (hS : 0 < S) (hT : 0 < T) (m : A * T = B * S) (k : A0 * (S + T) = (A + B) * S0) : A0 * S = A * S0 := by
  have : (A0 * S) * (S + T) = (A * S0) * (S + T) := by
    have e1 : (A0 * S) * (S + T) = (A0 * (S + T)) * S := by ac_rfl
    rw [e1, k, Int.add_mul A B S0, Int.add_mul (A * S0) (B * S0) S, Int.mul_add]
    have e2 : A * S0 * T = (A * T) * S0 := by ac_rfl
    have e3 : B * S0 * S = (B * S) * S0 := by ac_rfl
    rw [e2, e3, m]
  exact Int.eq_of_mul_eq_mul_right (by omega) this
end Go.Proofs.YtchhhoamnagbfaaDoor
