/-
  The plain laws of 'SiteMinutes' and 'SiteWindows': the laws' models are true, and their needs. Conditions: none.
-/
import Derived.Test.YtlaogoojkfjgoaaBPJoin
namespace Go.Proofs.Ytlaogoojkfjgoaa
open Go Go.Sy
set_option linter.unusedVariables false
set_option linter.unusedSimpArgs false
set_option maxRecDepth 100000
attribute [local simp] brk
theorem m49_ok {n : Nat} {d : Dat} {x : Int} (hn : n ≤ 9223372036854775807) : n49 n d x = true ∧ (m49 n d x = true ↔ InW n d x) := by
  have o : o49_0 n d x 0 = some (first (fun i => cond (m29 x (d.ii i 0) (d.ii i 1)) (some (true, true, default)) none) (false, default, ()) n 0) := by
    refine loop_first (n := n) (l := l49_0 n d x) hn (fun f i hi => ?_) (fun f => by simp only [l49_0, cdn]; rfl) n 0 _ (by omega) (by omega)
    simp only [l49_0, cdl hi, cdd hi, cond_true, Int.toNat_natCast]
    cases m29 x (d.ii i 0) (d.ii i 1) <;> simp
  refine ⟨by simp only [n49, o]; rfl, ?_⟩
  simp only [m49, o, Option.getD_some]
  rcases first_cases (g := fun i => cond (m29 x (d.ii i 0) (d.ii i 1)) (some (true, true, (default : Unit))) none) (e := (false, default, ())) n 0 with ⟨j, b, _, hj, h3, _, h5⟩ | ⟨h1, h2⟩
  · have hm : m29 x (d.ii j 0) (d.ii j 1) = true := by
      cases hh : m29 x (d.ii j 0) (d.ii j 1) with
      | true => rfl
      | false => simp only [hh, cond_false] at h3; cases h3
    simp only [hm, cond_true] at h3
    rw [h5, ← Option.some.inj h3]
    exact ⟨fun _ => ⟨j, by omega, m29_iff.1 hm⟩, fun _ => rfl⟩
  · rw [h2]
    refine ⟨fun h => (by cases h), fun ⟨i, hi, h⟩ => ?_⟩
    have := h1 i (Nat.zero_le _) (by omega)
    simp only [m29_iff.2 h, cond_true] at this
    cases this
def kp (t : Int) (p q : Bool) : Bool := cond p (cond q (cond (decide (2 < t)) false true) (cond (decide (1 < t)) false true)) (cond q (cond (decide (1 < t)) false true) (cond (decide (0 < t)) false true))
theorem kp_body {α : Type} (t : Int) (p q : Bool) (A B : α) : cond p (cond q (cond (decide (2 < t)) A B) (cond (decide (1 < t)) A B)) (cond q (cond (decide (1 < t)) A B) (cond (decide (0 < t)) A B)) = cond (kp t p q) B A := by
  unfold kp
  cases p <;> cases q <;> cases decide (2 < t) <;> cases decide (1 < t) <;> cases decide (0 < t) <;> rfl
theorem stp_le {c : Nat} {P : Dat} (S : Stp c P) {i j : Nat} (h : i ≤ j) (hj : j < c) : P.ii i 0 ≤ P.ii j 0 := by
  by_cases e : i = j
  · subst e; exact Int.le_refl _
  · exact Int.le_of_lt (S i j (by omega) hj)
theorem inW_const {n c : Nat} {d P : Dat} (S : Stp c P) (h : ∀ q, q < n → Has c P (d.ii q 0) ∧ Has c P (d.ii q 1 + 1)) {i : Nat} {x : Int} (hi : i + 1 < c) (h0 : P.ii i 0 ≤ x) (h1 : x < P.ii (i + 1) 0) : InW n d x ↔ InW n d (P.ii i 0) := by
  constructor
  · rintro ⟨q, hq, a, b⟩
    obtain ⟨⟨j, hj, e1⟩, ⟨l, hl, e2⟩⟩ := h q hq
    refine ⟨q, hq, ?_, ?_⟩
    · rw [← e1]
      by_cases g : j ≤ i
      · exact stp_le S g (by omega)
      · have := stp_le S (show i + 1 ≤ j by omega) hj; omega
    · omega
  · rintro ⟨q, hq, a, b⟩
    obtain ⟨⟨j, hj, e1⟩, ⟨l, hl, e2⟩⟩ := h q hq
    refine ⟨q, hq, by omega, ?_⟩
    by_cases g : l ≤ i
    · have := stp_le S g (by omega); omega
    · have := stp_le S (show i + 1 ≤ l by omega) hl; omega
theorem comb_run {n m c : Nat} {d e P : Dat} {t : Int} (hn : n ≤ 9223372036854775807) (hm : m ≤ 9223372036854775807) (S : Stp c P) (hc : c ≤ 1000) (hr : ∀ j, j < c → 0 ≤ P.ii j 0 ∧ P.ii j 0 ≤ 1000001)
    {K : Int → Bool} (hK : ∀ x, kp t (m49 n d x) (m49 m e x) = K x) (hcst : ∀ i x, i + 1 < c → P.ii i 0 ≤ x → x < P.ii (i + 1) 0 → K x = K (P.ii i 0)) :
    ∀ (k i f w : Nat) (D : Dat) (L : List (Int × Int)), i + k + 1 = c → k < f → Rep w D L → Gd L → L.length ≤ i → (∀ v, v ∈ L → v.2 < P.ii i 0) → (∀ x, Mb L x ↔ x < P.ii i 0 ∧ K x = true) →
    ∃ w' D' L', l110_0 n d m e t c P f w (i : Int) D = some (w', w', D') ∧ Rep w' D' L' ∧ Gd L' ∧ ∀ x, Mb L' x ↔ x < P.ii (c - 1) 0 ∧ K x = true
  | 0, i, f, w, D, L, hi, hf, R, G, hl, hH, hM => by
    obtain ⟨f, rfl⟩ : ∃ f', f = f' + 1 := ⟨f - 1, by omega⟩
    obtain rfl : c = i + 1 := by omega
    exact ⟨w, D, L, by simp only [l110_0, wrS (Nat.lt_succ_self i) (by omega), cdn, cond_false], R, G, hM⟩
  | k + 1, i, f, w, D, L, hi, hf, R, G, hl, hH, hM => by
    obtain ⟨f, rfl⟩ : ∃ f', f = f' + 1 := ⟨f - 1, by omega⟩
    have hlt : i < c := by omega
    have hlt1 : i + 1 < c := by omega
    have hab := S i (i + 1) (by omega) hlt1
    obtain ⟨ra, _⟩ := hr i hlt
    obtain ⟨_, rb⟩ := hr (i + 1) hlt1
    have W1 : IntKind.i64.wrap ((i : Int) + 1) = ((i + 1 : Nat) : Int) := wrS hlt (by omega)
    have W2 : IntKind.i64.wrap (P.ii (i + 1) 0 - 1) = P.ii (i + 1) 0 - 1 := wr (by omega) (by omega)
    have na := (m49_ok (n := n) (d := d) (x := P.ii i 0) hn).1
    have nb := (m49_ok (n := m) (d := e) (x := P.ii i 0) hm).1
    cases hk : K (P.ii i 0) with
    | false =>
      obtain ⟨w', D', L', k1, k2, k3, k4⟩ := comb_run hn hm S hc hr hK hcst k (i + 1) f w D L (by omega) (by omega) R G (by omega) (fun v hv => by have := hH v hv; omega) fun x => by
        rw [hM]
        refine ⟨fun h => ⟨by omega, h.2⟩, fun h => ⟨?_, h.2⟩⟩
        apply Decidable.byContradiction
        intro hx
        have := hcst i x hlt1 (by omega) h.1
        rw [hk, h.2] at this; cases this
      refine ⟨w', D', L', ?_, k2, k3, k4⟩
      simp only [l110_0, W1, W2, cdl hlt1, cdd hlt, cdd hlt1, Int.toNat_natCast, na, nb, kp_body, hK, hk, cond_true, cond_false]
      exact k1
    | true =>
      obtain ⟨g1, g2, g3, g4, g5⟩ := adL_ok (a := P.ii i 0) (b := P.ii (i + 1) 0 - 1) G ⟨ra, by omega, by omega⟩ (fun v hv => by have := gd_rng G v hv; have := hH v hv; omega)
      have hw : w ≤ 1000 := by have := R.1; omega
      have nxt : ∀ w1 D1, Rep w1 D1 (adL (P.ii i 0) (P.ii (i + 1) 0 - 1) L) → ∃ w' D' L', l110_0 n d m e t c P f w1 ((i + 1 : Nat) : Int) D1 = some (w', w', D') ∧ Rep w' D' L' ∧ Gd L' ∧ ∀ x, Mb L' x ↔ x < P.ii (c - 1) 0 ∧ K x = true := fun w1 D1 R1 =>
        comb_run hn hm S hc hr hK hcst k (i + 1) f w1 D1 _ (by omega) (by omega) R1 g1 (by omega) (fun v hv => by have := g5 (P.ii (i + 1) 0 - 1) (Int.le_refl _) (fun u hu => by have := hH u hu; omega) v hv; omega) fun x => by
          rw [g2, hM]
          constructor
          · rintro (h | h)
            · exact ⟨by omega, h.2⟩
            · exact ⟨by omega, by rw [hcst i x hlt1 h.1 (by omega), hk]⟩
          · intro h
            by_cases hx : x < P.ii i 0
            · exact .inl ⟨hx, h.2⟩
            · exact .inr ⟨by omega, by omega⟩
      have s2 : decide (w + 1 ≤ 1073741824) = true := decide_eq_true (by omega)
      cases L with
      | nil =>
        have hw0 : w = 0 := R.1
        subst hw0
        have z : decide ((0 : Int) < ((0 : Nat) : Int)) = false := rfl
        obtain ⟨w', D', L', k1, k2, k3, k4⟩ := nxt (0 + 1) _ (rep_app R (P.ii i 0) (P.ii (i + 1) 0 - 1))
        refine ⟨w', D', L', ?_, k2, k3, k4⟩
        simp only [l110_0, W1, W2, cdl hlt1, cdd hlt, cdd hlt1, Int.toNat_natCast, na, nb, kp_body, hK, hk, z, s2, cond_true, cond_false]
        exact k1
      | cons p T =>
        obtain ⟨x, y⟩ := p
        obtain ⟨hw0, q1, q2⟩ := rep_head R
        have r := G.1
        simp only at r
        have hy := hH (x, y) (by simp)
        simp only at hy
        have z : decide ((0 : Int) < (w : Int)) = true := decide_eq_true (by omega)
        have w1 : IntKind.i64.wrap ((w : Int) - 1) = (w : Int) - 1 := wr (by omega) (by omega)
        have w2 : ((w : Int) - 1).toNat = w - 1 := by omega
        have s3 : decide (0 ≤ (w : Int) - 1 ∧ (w : Int) - 1 < (w : Int)) = true := decide_eq_true ⟨by omega, by omega⟩
        have s4 : decide (w - 1 < w) = true := decide_eq_true (by omega)
        have w3 : IntKind.i64.wrap (y + 1) = y + 1 := wr (by omega) (by omega)
        by_cases hb : y + 1 = P.ii i 0
        · have e1 : adL (P.ii i 0) (P.ii (i + 1) 0 - 1) ((x, y) :: T) = (x, P.ii (i + 1) 0 - 1) :: T := by
            have : imax y (P.ii (i + 1) 0 - 1) = P.ii (i + 1) 0 - 1 := by unfold imax; split <;> omega
            rw [adL, if_pos (by omega), this]
          obtain ⟨w', D', L', k1, k2, k3, k4⟩ := nxt w _ (by rw [e1]; exact rep_upd R (P.ii (i + 1) 0 - 1))
          refine ⟨w', D', L', ?_, k2, k3, k4⟩
          simp only [l110_0, W1, W2, cdl hlt1, cdd hlt, cdd hlt1, Int.toNat_natCast, na, nb, kp_body, hK, hk, z, s2, s3, s4, w1, w2, w3, q2, decide_eq_true hb, cond_true, cond_false]
          exact k1
        · have e1 : adL (P.ii i 0) (P.ii (i + 1) 0 - 1) ((x, y) :: T) = (P.ii i 0, P.ii (i + 1) 0 - 1) :: (x, y) :: T := by rw [adL, if_neg (by omega)]
          obtain ⟨w', D', L', k1, k2, k3, k4⟩ := nxt (w + 1) _ (by rw [e1]; exact rep_app R (P.ii i 0) (P.ii (i + 1) 0 - 1))
          refine ⟨w', D', L', ?_, k2, k3, k4⟩
          simp only [l110_0, W1, W2, cdl hlt1, cdd hlt, cdd hlt1, Int.toNat_natCast, na, nb, kp_body, hK, hk, z, s2, s3, s4, w1, w2, w3, q2, decide_eq_false hb, cond_true, cond_false]
          exact k1
theorem comb_ok {n m : Nat} {d e : Dat} (W : Wns n d) (V : Wns m e) {t : Int} (ht : 0 < t) : n110 n d m e t = true ∧ ∃ c D L, m110 n d m e t = (c, D) ∧ Rep c D L ∧ Gd L ∧ ∀ x, Mb L x ↔ kp t (m49 n d x) (m49 m e x) = true := by
  have f1 := W.few; have f2 := V.few
  have hn : n ≤ 9223372036854775807 := by omega
  have hm : m ≤ 9223372036854775807 := by omega
  obtain ⟨s1, c, P, s2, S, hc, hP⟩ := steps_ok W V
  have hd : ∀ q, q < n → Has c P (d.ii q 0) ∧ Has c P (d.ii q 1 + 1) := fun q hq => ⟨(hP _).2 (.inl ⟨q, hq, .inl rfl⟩), (hP _).2 (.inl ⟨q, hq, .inr rfl⟩)⟩
  have he : ∀ q, q < m → Has c P (e.ii q 0) ∧ Has c P (e.ii q 1 + 1) := fun q hq => ⟨(hP _).2 (.inr ⟨q, hq, .inl rfl⟩), (hP _).2 (.inr ⟨q, hq, .inr rfl⟩)⟩
  have hr : ∀ j, j < c → 0 ≤ P.ii j 0 ∧ P.ii j 0 ≤ 1000001 := fun j hj => by
    rcases (hP _).1 ⟨j, hj, rfl⟩ with ⟨q, hq, h | h⟩ | ⟨q, hq, h | h⟩
    · have := W.lo q hq; have := W.le q hq; have := W.hi q hq; omega
    · have := W.lo q hq; have := W.le q hq; have := W.hi q hq; omega
    · have := V.lo q hq; have := V.le q hq; have := V.hi q hq; omega
    · have := V.lo q hq; have := V.le q hq; have := V.hi q hq; omega
  have k0 : ∀ x, ¬ InW n d x → ¬ InW m e x → kp t (m49 n d x) (m49 m e x) = false := fun x h1 h2 => by
    have a : m49 n d x = false := by cases hh : m49 n d x with | false => rfl | true => exact (h1 ((m49_ok hn).2.1 hh)).elim
    have b : m49 m e x = false := by cases hh : m49 m e x with | false => rfl | true => exact (h2 ((m49_ok hm).2.1 hh)).elim
    rw [a, b]; unfold kp; rw [decide_eq_true ht]; rfl
  have inr : ∀ x, kp t (m49 n d x) (m49 m e x) = true → ∃ j l, j < c ∧ l < c ∧ P.ii j 0 ≤ x ∧ x < P.ii l 0 := fun x hx => by
    by_cases h1 : InW n d x
    · obtain ⟨q, hq, a, b⟩ := h1
      obtain ⟨⟨j, hj, e1⟩, ⟨l, hl, e2⟩⟩ := hd q hq
      exact ⟨j, l, hj, hl, by omega, by omega⟩
    · by_cases h2 : InW m e x
      · obtain ⟨q, hq, a, b⟩ := h2
        obtain ⟨⟨j, hj, e1⟩, ⟨l, hl, e2⟩⟩ := he q hq
        exact ⟨j, l, hj, hl, by omega, by omega⟩
      · rw [k0 x h1 h2] at hx; cases hx
  obtain ⟨w, D, L, o, R, G, hM⟩ : ∃ w D L, o110_0 n d m e t c P 0 0 noDat = some (w, w, D) ∧ Rep w D L ∧ Gd L ∧ ∀ x, Mb L x ↔ kp t (m49 n d x) (m49 m e x) = true := by
    by_cases h0 : c = 0
    · subst h0
      have st : ∀ f, l110_0 n d m e t 0 P (f + 1) 0 0 noDat = some (0, 0, noDat) := fun f => by
        rw [l110_0, show decide (IntKind.i64.wrap ((0 : Int) + 1) < ((0 : Nat) : Int)) = false from rfl, cond_false]
      refine ⟨0, noDat, [], st _, rep_nil, trivial, fun x => ⟨fun h => (mb_nil h).elim, fun h => ?_⟩⟩
      obtain ⟨j, _, hj, _⟩ := inr x h
      omega
    · obtain ⟨w, D, L, k1, k2, k3, k4⟩ := comb_run (t := t) hn hm S hc hr (K := fun x => kp t (m49 n d x) (m49 m e x)) (fun x => rfl) (fun i x hi h1 h2 => by
        have a : m49 n d x = m49 n d (P.ii i 0) := by rw [Bool.eq_iff_iff, (m49_ok hn).2, (m49_ok hn).2]; exact inW_const S hd hi h1 h2
        have b : m49 m e x = m49 m e (P.ii i 0) := by rw [Bool.eq_iff_iff, (m49_ok hm).2, (m49_ok hm).2]; exact inW_const S he hi h1 h2
        simp only [a, b]) (c - 1) 0 (n + m + t.toNat + c + 0 + (0 : Int).toNat + 8) 0 noDat [] (by omega) (by omega) rep_nil trivial (by simp) (fun v hv => by simp at hv) (fun x => ⟨fun h => (mb_nil h).elim, fun ⟨h1, h2⟩ => by
          obtain ⟨j, _, hj, _, h3, _⟩ := inr x h2
          have := stp_le S (Nat.zero_le j) hj
          omega⟩)
      refine ⟨w, D, L, k1, k2, k3, fun x => ?_⟩
      rw [k4]
      refine ⟨fun h => h.2, fun h => ⟨?_, h⟩⟩
      obtain ⟨_, l, _, hl, _, h3⟩ := inr x h
      have := stp_le S (show l ≤ c - 1 by omega) (by omega)
      omega
  refine ⟨?_, w, D, L, ?_, R, G, hM⟩
  · simp only [n110, s1, s2, o, Option.isSome_some, Option.getD_some, Nat.zero_add, Nat.le_refl, decide_true]; rfl
  · simp only [m110, s2, o, Option.getD_some]
theorem kp2 (p q : Bool) : kp 2 p q = (bif p then q else false) := by cases p <;> cases q <;> rfl
theorem kp1 (p q : Bool) : kp 1 p q = (bif p then true else q) := by cases p <;> cases q <;> rfl
theorem rep_46 {c c' : Nat} {D D' : Dat} {L : List (Int × Int)} (h : Rep c D L) (h' : Rep c' D' L) (hc : c ≤ 1000) : n46 c D c' D' = true ∧ m46 c D c' D' = true := by
  obtain ⟨rfl, h2⟩ := rep_same h h'
  exact m46_same (by omega) h2
theorem bad_lists {n m : Nat} (d e : Dat) (hn : n ≤ 9223372036854775807) (hm : m ≤ 9223372036854775807) (h : (m45 n d = 0 → m45 m e ≠ 0)) :
    n41 n d m e = true ∧ n43r n d m e = true ∧ m41 n d m e = (0, noDat, cond (decide (m45 n d = 0)) (m45 m e) (m45 n d)) ∧ m43r n d m e = (0, noDat, cond (decide (m45 n d = 0)) (m45 m e) (m45 n d)) := by
  obtain ⟨g1, g2⟩ := lists_ok n m d e hn hm
  have g3 : decide (cond (decide (m45 n d = 0)) (m45 m e) (m45 n d) = 0) = false := by
    by_cases h0 : m45 n d = 0
    · rw [decide_eq_true h0]; exact decide_eq_false (h h0)
    · rw [decide_eq_false h0]; exact decide_eq_false h0
  refine ⟨?_, ?_, ?_, ?_⟩
  · simp only [n41, g1, g2, g3, cond_true, cond_false]; rfl
  · simp only [n43r, g1, g2, g3, cond_true, cond_false]; rfl
  · simp only [m41, g2, g3, cond_true, cond_false]
  · simp only [m43r, g2, g3, cond_true, cond_false]
theorem m40_few {n : Nat} {d : Dat} (h : m40 n d = true) : n ≤ 12 ∨ (60 < n ∧ n ≤ 62) := by
  by_cases h0 : n ≤ 12
  · exact .inl h0
  · simp only [m40, decide_eq_false (show ¬ (n : Int) ≤ 12 by omega), cond_false] at h
    by_cases h1 : 60 < n
    · rw [decide_eq_true (show (60 : Int) < (n : Int) by omega)] at h
      have := of_decide_eq_true h
      exact .inr ⟨h1, by omega⟩
    · rw [decide_eq_false (show ¬ (60 : Int) < (n : Int) by omega)] at h; cases h
theorem lawWindows (n : Nat) (d : Dat) (m : Nat) (e : Dat) (hn : n ≤ 9223372036854775807) (hm : m ≤ 9223372036854775807) : n9 n d m e = true ∧ m9 n d m e = true := by
  cases s1 : m40 n d with
  | false =>
    constructor
    · simp only [n9, n17_val, e17v, s1, cond_true, cond_false]; rfl
    · simp only [m9, e17v, s1, cond_true, cond_false]
  | true =>
    cases s2 : m40 m e with
    | false =>
      constructor
      · simp only [n9, n17_val, e17v, s1, s2, cond_true, cond_false]; rfl
      · simp only [m9, e17v, s1, s2, cond_true, cond_false]
    | true =>
      have hn62 := m40_few s1
      have hm62 := m40_few s2
      obtain ⟨a1, a2, a3, a4⟩ := windows_cases (n := n) (d := d) hn
      obtain ⟨b1, b2, b3, b4⟩ := windows_cases (n := m) (d := e) hm
      have f1 := n42_t d (show n ≤ 1000 by omega)
      have f2 := n42_t e (show m ≤ 1000 by omega)
      have z00 : decide (IntKind.i64.wrap (((0 : Nat) : Int) + ((0 : Nat) : Int)) = 0) = true := rfl
      rcases a4 with ⟨W, w4⟩ | w4
      · rw [w4] at a3
        rcases b4 with ⟨V, v4⟩ | v4
        · rw [v4] at b3
          have hfn := W.few; have hfm := V.few
          obtain ⟨p1, c1, D1, L1, p2, p3, p4, p5, p6⟩ := meet_ok W V a3 b3 (by omega)
          obtain ⟨q1, c2, D2, L2, q2, q3, q4, q5, q6⟩ := join_ok W V a3 b3 (by omega)
          obtain ⟨P1, c3, D3, L3, P2, P3, P4, P5, P6⟩ := meet_ok V W b3 a3 (by omega)
          obtain ⟨Q1, c4, D4, L4, Q2, Q3, Q4, Q5, Q6⟩ := join_ok V W b3 a3 (by omega)
          obtain ⟨r1, c5, D5, L5, r2, r3, r4, r5⟩ := comb_ok W V (t := 2) (by decide)
          obtain ⟨t1, c6, D6, L6, t2, t3, t4, t5⟩ := comb_ok W V (t := 1) (by decide)
          have e1 : L1 = L5 := gd_uniq p4 r4 fun x => by
            rw [p6, r5, kp2, ← (m49_ok hn).2, ← (m49_ok hm).2]
            cases m49 n d x <;> cases m49 m e x <;> simp
          have e2 : L2 = L6 := gd_uniq q4 t4 fun x => by
            rw [q6, t5, kp1, ← (m49_ok hn).2, ← (m49_ok hm).2]
            cases m49 n d x <;> cases m49 m e x <;> simp
          have e3 : L3 = L1 := gd_uniq P4 p4 fun x => by rw [P6, p6]; exact And.comm
          have e4 : L4 = L2 := gd_uniq Q4 q4 fun x => by rw [Q6, q6]; exact Or.comm
          have l1 := p3.1; have l2 := q3.1; have l3 := P3.1; have l4 := Q3.1
          subst e1 e2 e3 e4
          obtain ⟨x1, y1⟩ := rep_46 p3 r3 (by omega)
          obtain ⟨x2, y2⟩ := rep_46 q3 t3 (by omega)
          obtain ⟨x3, y3⟩ := rep_46 P3 p3 (by omega)
          obtain ⟨x4, y4⟩ := rep_46 Q3 q3 (by omega)
          have n47t : n47 n d m e = true := by simp only [n47, r1]; rfl
          have n48t : n48 n d m e = true := by simp only [n48, t1]; rfl
          have m47e : m47 n d m e = (c5, D5) := by simp only [m47, r2]
          have m48e : m48 n d m e = (c6, D6) := by simp only [m48, t2]
          constructor
          · simp only [n9, n17_val, e17v, s1, s2, a1, b1, a2, a3, w4, v4, f1, f2, m42_eq, p1, p2, q1, q2, P1, P2, Q1, Q2, n47t, n48t, m47e, m48e, x1, y1, x2, y2, x3, y3, x4, y4, decide_true, cond_true, cond_false]; rfl
          · simp only [m9, e17v, s1, s2, a3, w4, v4, m42_eq, p2, q2, P2, Q2, m47e, m48e, y1, y2, y3, y4, decide_true, cond_true, cond_false]
        · obtain ⟨h1, h2, h3, h4⟩ := bad_lists d e hn hm (fun _ => by rw [b3]; exact v4)
          simp only [a3, b3, decide_true, cond_true] at h3 h4
          constructor
          · simp only [n9, n17_val, e17v, s1, s2, a1, b1, a2, a3, w4, decide_eq_false v4, f1, f2, m42_eq, h1, h2, decide_true, cond_true, cond_false]; rfl
          · simp only [m9, e17v, s1, s2, a3, w4, decide_eq_false v4, m42_eq, h3, h4, z00, decide_true, cond_true, cond_false]
      · obtain ⟨h1, h2, h3, h4⟩ := bad_lists d e hn hm (fun h => absurd (a3 ▸ h) w4)
        rw [a3, decide_eq_false w4, cond_false] at h3 h4
        constructor
        · simp only [n9, n17_val, e17v, s1, s2, a1, b1, a2, a3, decide_eq_false w4, f1, f2, m42_eq, h1, h2, decide_true, cond_true, cond_false]; rfl
        · simp only [m9, e17v, s1, s2, a3, decide_eq_false w4, m42_eq, h3, h4, z00, decide_true, cond_true, cond_false]
end Go.Proofs.Ytlaogoojkfjgoaa
