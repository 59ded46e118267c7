/-
  Windows as lists, and those of the minutes in both: plain law. Conditions: none.
-/
import Derived.Test.YtlaogoojkfjgoaaBPWin
namespace Go.Proofs.Ytlaogoojkfjgoaa
open Go Go.Sy
set_option linter.unusedVariables false
set_option linter.unusedSimpArgs false
set_option maxRecDepth 100000
attribute [local simp] brk
def InW (n : Nat) (d : Dat) (x : Int) : Prop := ∃ i, i < n ∧ d.ii i 0 ≤ x ∧ x ≤ d.ii i 1
def Gd : List (Int × Int) → Prop
  | [] => True
  | w :: T => (0 ≤ w.1 ∧ w.1 ≤ w.2 ∧ w.2 ≤ 1000000) ∧ (∀ v, v ∈ T → v.2 + 1 < w.1) ∧ Gd T
def Mb (L : List (Int × Int)) (x : Int) : Prop := ∃ w, w ∈ L ∧ w.1 ≤ x ∧ x ≤ w.2
theorem mb_cons {w : Int × Int} {T : List (Int × Int)} {x : Int} : Mb (w :: T) x ↔ (w.1 ≤ x ∧ x ≤ w.2) ∨ Mb T x := by
  simp only [Mb, List.mem_cons]
  constructor
  · rintro ⟨v, rfl | h, h2⟩
    · exact .inl h2
    · exact .inr ⟨v, h, h2⟩
  · rintro (h | ⟨v, h, h2⟩)
    · exact ⟨w, .inl rfl, h⟩
    · exact ⟨v, .inr h, h2⟩
theorem mb_nil {x : Int} : ¬ Mb [] x := fun ⟨v, h, _⟩ => by simp at h
theorem gd_up {w : Int × Int} {T : List (Int × Int)} {x : Int} (h : Gd (w :: T)) (hx : Mb T x) : x + 1 < w.1 := by
  obtain ⟨v, hv, _, h2⟩ := hx
  have := h.2.1 v hv; omega
theorem gd_uniq : ∀ {L L' : List (Int × Int)}, Gd L → Gd L' → (∀ x, Mb L x ↔ Mb L' x) → L = L'
  | [], [], _, _, _ => rfl
  | [], w :: T, _, h, e => (mb_nil ((e w.1).2 (mb_cons.2 (.inl ⟨Int.le_refl _, h.1.2.1⟩)))).elim
  | w :: T, [], h, _, e => (mb_nil ((e w.1).1 (mb_cons.2 (.inl ⟨Int.le_refl _, h.1.2.1⟩)))).elim
  | w :: T, v :: S, h, g, e => by
    have hw := h.1; have hv := g.1
    have top : ∀ {w v : Int × Int} {T S : List (Int × Int)}, Gd (w :: T) → Gd (v :: S) → (∀ x, Mb (w :: T) x ↔ Mb (v :: S) x) → w.2 ≤ v.2 := fun {w v T S} h g e => by
      have a := (e w.2).1 (mb_cons.2 (.inl ⟨h.1.2.1, Int.le_refl _⟩))
      rcases mb_cons.1 a with a | a
      · exact a.2
      · have := gd_up g a; have := g.1; omega
    have e2 : w.2 = v.2 := Int.le_antisymm (top h g e) (top g h fun x => (e x).symm)
    have low : ∀ {w v : Int × Int} {T S : List (Int × Int)}, Gd (w :: T) → Gd (v :: S) → (∀ x, Mb (w :: T) x ↔ Mb (v :: S) x) → w.2 = v.2 → v.1 ≤ w.1 := fun {w v T S} h g e e2 => by
      apply Decidable.byContradiction
      intro hh
      have hv := g.1
      have a := (e (v.1 - 1)).1 (mb_cons.2 (.inl ⟨by omega, by omega⟩))
      rcases mb_cons.1 a with a | a
      · omega
      · have := gd_up g a; omega
    have e1 : w.1 = v.1 := Int.le_antisymm (low g h (fun x => (e x).symm) e2.symm) (low h g e e2)
    have ev : w = v := Prod.ext e1 e2
    subst ev
    have et : ∀ {T S : List (Int × Int)}, Gd (w :: T) → (∀ x, Mb (w :: T) x ↔ Mb (w :: S) x) → ∀ x, Mb T x → Mb S x := fun {T S} h e x hx => by
      have := gd_up h hx
      rcases mb_cons.1 ((e x).1 (mb_cons.2 (.inr hx))) with a | a
      · omega
      · exact a
    rw [gd_uniq h.2.2 g.2.2 fun x => ⟨et h e x, et g (fun x => (e x).symm) x⟩]
def adL (a b : Int) : List (Int × Int) → List (Int × Int)
  | [] => [(a, b)]
  | (x, y) :: T => if a ≤ y + 1 then (x, imax y b) :: T else (a, b) :: (x, y) :: T
theorem adL_ok {L : List (Int × Int)} {a b : Int} (G : Gd L) (h : 0 ≤ a ∧ a ≤ b ∧ b ≤ 1000000) (hb : ∀ v, v ∈ L → v.1 ≤ a) :
    Gd (adL a b L) ∧ (∀ x, Mb (adL a b L) x ↔ Mb L x ∨ (a ≤ x ∧ x ≤ b)) ∧ (adL a b L).length ≤ L.length + 1 ∧ (∀ v, v ∈ adL a b L → v.1 ≤ a) ∧ ∀ c, b ≤ c → (∀ v, v ∈ L → v.2 ≤ c) → ∀ v, v ∈ adL a b L → v.2 ≤ c := by
  cases L with
  | nil => exact ⟨⟨h, fun v hv => by simp at hv, trivial⟩, fun x => by rw [adL, mb_cons]; exact Or.comm, by simp [adL], fun v hv => by simp [adL] at hv; subst hv; exact Int.le_refl _, fun c hc _ v hv => by simp [adL] at hv; subst hv; exact hc⟩
  | cons w T =>
    obtain ⟨x, y⟩ := w
    have g1 := G.1; simp only at g1
    have hx := hb (x, y) (by simp); simp only at hx
    by_cases hc : a ≤ y + 1
    · rw [show adL a b ((x, y) :: T) = (x, imax y b) :: T by rw [adL, if_pos hc]]
      have m : y ≤ imax y b ∧ b ≤ imax y b ∧ (imax y b = y ∨ imax y b = b) := by unfold imax; split <;> omega
      refine ⟨⟨by simp only; omega, G.2.1, G.2.2⟩, fun z => ?_, by simp, fun v hv => ?_, fun c hc h3 v hv => ?_⟩
      · rw [mb_cons, mb_cons]
        simp only
        constructor
        · rintro (h1 | h1)
          · by_cases hz : z ≤ y
            · exact .inl (.inl ⟨h1.1, hz⟩)
            · exact .inr (by omega)
          · exact .inl (.inr h1)
        · rintro ((h1 | h1) | h1)
          · exact .inl (by omega)
          · exact .inr h1
          · exact .inl (by omega)
      · rcases List.mem_cons.1 hv with rfl | hv
        · exact hx
        · exact hb v (List.mem_cons_of_mem _ hv)
      · rcases List.mem_cons.1 hv with rfl | hv
        · have := h3 (x, y) (by simp); simp only at this ⊢; omega
        · exact h3 v (List.mem_cons_of_mem _ hv)
    · rw [show adL a b ((x, y) :: T) = (a, b) :: (x, y) :: T by rw [adL, if_neg hc]]
      refine ⟨⟨h, fun v hv => ?_, G⟩, fun z => ?_, by simp, fun v hv => ?_, fun c hc h3 v hv => ?_⟩
      · rcases List.mem_cons.1 hv with rfl | hv
        · simp only; omega
        · have := G.2.1 v hv; simp only at this ⊢; omega
      · rw [mb_cons]; exact Or.comm
      · rcases List.mem_cons.1 hv with rfl | hv
        · exact Int.le_refl _
        · exact hb v hv
      · rcases List.mem_cons.1 hv with rfl | hv
        · exact hc
        · exact h3 v hv
theorem gd_rng : ∀ {L : List (Int × Int)}, Gd L → ∀ w, w ∈ L → 0 ≤ w.1 ∧ w.1 ≤ w.2 ∧ w.2 ≤ 1000000
  | [], _, w, h => by simp at h
  | v :: T, G, w, h => by
    rcases List.mem_cons.1 h with rfl | h
    · exact G.1
    · exact gd_rng G.2.2 w h
theorem add_gen {L : List (Int × Int)} {c : Nat} {D : Dat} (R : Rep c D L) (G : Gd L) (hc : c ≤ 3000) (a b : Int) : n105 c c D a b = true ∧ ∃ c' D', m105 c c D a b = (c', c', D') ∧ Rep c' D' (adL a b L) := by
  have s1 : decide (c ≤ c) = true := decide_eq_true (Nat.le_refl c)
  have s2 : decide (c + 1 ≤ 1073741824) = true := decide_eq_true (by omega)
  cases L with
  | nil =>
    have hc0 : c = 0 := R.1
    subst hc0
    have z : decide ((0 : Int) < ((0 : Nat) : Int)) = false := rfl
    refine ⟨?_, 0 + 1, D.app 0 (datS [.int .i64 a, .int .i64 b] 2), ?_, rep_app R a b⟩
    · simp only [n105, z, s1, s2, cond_true, cond_false]; rfl
    · simp only [m105, z, cond_true, cond_false]
  | cons p T =>
    obtain ⟨x, y⟩ := p
    obtain ⟨hc0, g1, g2⟩ := rep_head R
    have r := G.1
    simp only at r
    have z : decide ((0 : Int) < (c : Int)) = true := decide_eq_true (by omega)
    have w1 : IntKind.i64.wrap ((c : Int) - 1) = (c : Int) - 1 := wr (by omega) (by omega)
    have w2 : ((c : Int) - 1).toNat = c - 1 := by omega
    have s3 : decide (0 ≤ (c : Int) - 1 ∧ (c : Int) - 1 < (c : Int)) = true := decide_eq_true ⟨by omega, by omega⟩
    have s4 : decide (c - 1 < c) = true := decide_eq_true (by omega)
    have w3 : IntKind.i64.wrap (y + 1) = y + 1 := wr (by omega) (by omega)
    by_cases hb : a ≤ y + 1
    · have s5 : decide (a ≤ y + 1) = true := decide_eq_true hb
      refine ⟨?_, c, D.upd (c - 1) 1 [.int .i64 (imax y b)], ?_, ?_⟩
      · simp only [n105, z, w1, w2, s3, s4, g2, w3, s5, cond_true, cond_false]; rfl
      · simp only [m105, z, w1, w2, g2, w3, s5, cond_true, cond_false]
      · rw [adL, if_pos hb]; exact rep_upd R _
    · have s5 : decide (a ≤ y + 1) = false := decide_eq_false hb
      refine ⟨?_, c + 1, D.app c (datS [.int .i64 a, .int .i64 b] 2), ?_, ?_⟩
      · simp only [n105, z, w1, w2, s1, s2, s3, s4, g2, w3, s5, cond_true, cond_false]; rfl
      · simp only [m105, z, w1, w2, g2, w3, s5, cond_true, cond_false]
      · rw [adL, if_neg hb]; exact rep_app R a b
theorem wns_lt {n : Nat} {d : Dat} (W : Wns n d) : ∀ (k i : Nat), i + k + 1 < n → d.ii i 1 + 1 < d.ii (i + k + 1) 0
  | 0, i, h => W.up i h
  | k + 1, i, h => by
    have a := wns_lt W k i (by omega)
    have b := W.up (i + k + 1) h
    have c := W.le (i + k + 1) (by omega)
    rw [show i + (k + 1) + 1 = i + k + 1 + 1 by omega]
    omega
theorem wns_shift {n : Nat} {d : Dat} (W : Wns (n + 1) d) : Wns n (d.shift 1) where
  few := by have := W.few; omega
  lo i hi := by rw [shift_ii]; exact W.lo _ (by omega)
  le i hi := by rw [shift_ii, shift_ii]; exact W.le _ (by omega)
  hi i hi := by rw [shift_ii]; exact W.hi _ (by omega)
  up i hi := by rw [shift_ii, shift_ii]; exact W.up (1 + i) (by omega)
theorem inW_shift {n : Nat} {d : Dat} {x : Int} : InW (n + 1) d x ↔ (d.ii 0 0 ≤ x ∧ x ≤ d.ii 0 1) ∨ InW n (d.shift 1) x := by
  constructor
  · rintro ⟨i, hi, h⟩
    cases i with
    | zero => exact .inl h
    | succ i => exact .inr ⟨i, by omega, by rw [shift_ii, shift_ii, Nat.add_comm]; exact h⟩
  · rintro (h | ⟨i, hi, h⟩)
    · exact ⟨0, by omega, h⟩
    · rw [shift_ii, shift_ii, Nat.add_comm] at h
      exact ⟨i + 1, by omega, h⟩
theorem inW_later {n : Nat} {d : Dat} {x : Int} (W : Wns (n + 1) d) (h : InW n (d.shift 1) x) : d.ii 0 1 + 1 < x := by
  obtain ⟨i, hi, h1, _⟩ := h
  rw [shift_ii] at h1
  have := wns_lt W i 0 (by omega)
  rw [show 0 + i + 1 = 1 + i by omega] at this
  omega
theorem meet_run (e0 : Dat) : ∀ (k f n : Nat) (d : Dat) (m : Nat) (e : Dat) (c : Nat) (D : Dat) (L : List (Int × Int)), n + m ≤ k → k < f → Wns n d → Wns m e → Rep c D L → Gd L → L.length + k ≤ 3000 → (0 < n → 0 < m → ∀ v, v ∈ L → v.2 + 1 < imax (d.ii 0 0) (e.ii 0 0)) →
    ∃ c' D' L', l41_0 e0 f n d m e c c D = some (c', c', D') ∧ Rep c' D' L' ∧ Gd L' ∧ L'.length ≤ L.length + k ∧ ∀ x, Mb L' x ↔ Mb L x ∨ (InW n d x ∧ InW m e x)
  | k, f, n, d, m, e, c, D, L, hk, hf, W, V, R, G, hl, hH => by
    obtain ⟨f, rfl⟩ : ∃ f', f = f' + 1 := ⟨f - 1, by omega⟩
    by_cases h0 : 0 < n ∧ 0 < m
    · obtain ⟨n, rfl⟩ : ∃ n', n = n' + 1 := ⟨n - 1, by omega⟩
      obtain ⟨m, rfl⟩ : ∃ m', m = m' + 1 := ⟨m - 1, by omega⟩
      obtain ⟨k, rfl⟩ : ∃ k', k = k' + 1 := ⟨k - 1, by omega⟩
      have hH := hH (by omega) (by omega)
      have z1 : decide ((0 : Int) < ((n + 1 : Nat) : Int)) = true := decide_eq_true (by omega)
      have z2 : decide ((0 : Int) < ((m + 1 : Nat) : Int)) = true := decide_eq_true (by omega)
      have z3 : decide ((0 : Int) ≤ (0 : Int) ∧ (0 : Int) < ((n + 1 : Nat) : Int)) = true := decide_eq_true ⟨by omega, by omega⟩
      have z4 : decide ((0 : Int) ≤ (0 : Int) ∧ (0 : Int) < ((m + 1 : Nat) : Int)) = true := decide_eq_true ⟨by omega, by omega⟩
      have z5 : decide ((0 : Int) ≤ (1 : Int) ∧ (1 : Int) ≤ ((n + 1 : Nat) : Int) ∧ ((n + 1 : Nat) : Int) ≤ ((n + 1 : Nat) : Int)) = true := decide_eq_true ⟨by omega, by omega, by omega⟩
      have z6 : decide ((0 : Int) ≤ (1 : Int) ∧ (1 : Int) ≤ ((m + 1 : Nat) : Int) ∧ ((m + 1 : Nat) : Int) ≤ ((m + 1 : Nat) : Int)) = true := decide_eq_true ⟨by omega, by omega, by omega⟩
      have z7 : (((n + 1 : Nat) : Int) - 1).toNat = n := by omega
      have z8 : (((m + 1 : Nat) : Int) - 1).toNat = m := by omega
      have a0 := W.lo 0 (by omega); have a1 := W.le 0 (by omega); have a2 := W.hi 0 (by omega)
      have b0 := V.lo 0 (by omega); have b1 := V.le 0 (by omega); have b2 := V.hi 0 (by omega)
      have hmx : d.ii 0 0 ≤ imax (d.ii 0 0) (e.ii 0 0) ∧ e.ii 0 0 ≤ imax (d.ii 0 0) (e.ii 0 0) ∧ (imax (d.ii 0 0) (e.ii 0 0) = d.ii 0 0 ∨ imax (d.ii 0 0) (e.ii 0 0) = e.ii 0 0) := by unfold imax; split <;> omega
      have hmn : imin (d.ii 0 1) (e.ii 0 1) ≤ d.ii 0 1 ∧ imin (d.ii 0 1) (e.ii 0 1) ≤ e.ii 0 1 ∧ (imin (d.ii 0 1) (e.ii 0 1) = d.ii 0 1 ∨ imin (d.ii 0 1) (e.ii 0 1) = e.ii 0 1) := by unfold imin; split <;> omega
      generalize hlo : imax (d.ii 0 0) (e.ii 0 0) = lo at *
      generalize hhi : imin (d.ii 0 1) (e.ii 0 1) = hi at *
      -- one step's list
      obtain ⟨c1, D1, L1, R1, G1, l1, mb1, le1, st⟩ : ∃ c1 D1 L1, Rep c1 D1 L1 ∧ Gd L1 ∧ L1.length ≤ L.length + 1 ∧ (∀ x, Mb L1 x ↔ Mb L x ∨ (lo ≤ x ∧ x ≤ hi)) ∧ (∀ v, v ∈ L1 → v.2 + 1 < lo ∨ v.2 ≤ hi) ∧
          ((decide (lo ≤ hi) = true ∧ n105 c c D lo hi = true ∧ m105 c c D lo hi = (c1, c1, D1)) ∨ (decide (lo ≤ hi) = false ∧ c1 = c ∧ D1 = D)) := by
        by_cases hle : lo ≤ hi
        · have hc : c ≤ 3000 := by have := R.1; omega
          obtain ⟨h1, c1, D1, h2, h3⟩ := add_gen R G hc lo hi
          obtain ⟨g1, g2, g3, g4, g5⟩ := adL_ok (a := lo) (b := hi) G ⟨by omega, hle, by omega⟩ (fun v hv => by have := hH v hv; have := gd_rng G v hv; omega)
          exact ⟨c1, D1, _, h3, g1, g3, g2, fun v hv => .inr (g5 hi (Int.le_refl _) (fun u hu => by have := hH u hu; omega) v hv), .inl ⟨decide_eq_true hle, h1, h2⟩⟩
        · exact ⟨c, D, L, R, G, by omega, fun x => ⟨.inl, fun h => by rcases h with h | h; exact h; omega⟩, fun v hv => .inl (hH v hv), .inr ⟨decide_eq_false hle, rfl, rfl⟩⟩
      by_cases hlt : d.ii 0 1 < e.ii 0 1
      · have z9 : decide (d.ii 0 1 < e.ii 0 1) = true := decide_eq_true hlt
        obtain ⟨c', D', L', r1, r2, r3, r4, r5⟩ := meet_run e0 k f n (d.shift 1) (m + 1) e c1 D1 L1 (by omega) (by omega) (wns_shift W) V R1 G1 (by omega) (fun hn _ v hv => by
          have q := le1 v hv
          have u := W.up 0 (by omega)
          have mx : (d.shift 1).ii 0 0 ≤ imax ((d.shift 1).ii 0 0) (e.ii 0 0) ∧ e.ii 0 0 ≤ imax ((d.shift 1).ii 0 0) (e.ii 0 0) := by unfold imax; split <;> omega
          rw [shift_ii] at mx ⊢
          simp only [Nat.add_zero, Nat.zero_add] at mx u ⊢
          omega)
        refine ⟨c', D', L', ?_, r2, r3, by omega, fun x => ?_⟩
        · rcases st with ⟨s1, s2, s3⟩ | ⟨s1, rfl, rfl⟩
          · simp only [l41_0, hlo, hhi, z1, z2, z3, z4, z5, z7, z9, s1, s2, s3, cond_true, cond_false]; exact r1
          · simp only [l41_0, hlo, hhi, z1, z2, z3, z4, z5, z7, z9, s1, cond_true, cond_false]; exact r1
        · rw [r5, mb1, inW_shift (n := n)]
          constructor
          · rintro ((h | h) | h)
            · exact .inl h
            · exact .inr ⟨.inl (by omega), ⟨0, by omega, by omega⟩⟩
            · exact .inr ⟨.inr h.1, h.2⟩
          · rintro (h | ⟨h | h, g⟩)
            · exact .inl (.inl h)
            · rcases inW_shift.1 g with g | g
              · exact .inl (.inr (by omega))
              · have := inW_later V g; omega
            · exact .inr ⟨h, g⟩
      · have z9 : decide (d.ii 0 1 < e.ii 0 1) = false := decide_eq_false hlt
        obtain ⟨c', D', L', r1, r2, r3, r4, r5⟩ := meet_run e0 k f (n + 1) d m (e.shift 1) c1 D1 L1 (by omega) (by omega) W (wns_shift V) R1 G1 (by omega) (fun _ hn v hv => by
          have q := le1 v hv
          have u := V.up 0 (by omega)
          have mx : d.ii 0 0 ≤ imax (d.ii 0 0) ((e.shift 1).ii 0 0) ∧ (e.shift 1).ii 0 0 ≤ imax (d.ii 0 0) ((e.shift 1).ii 0 0) := by unfold imax; split <;> omega
          rw [shift_ii] at mx ⊢
          simp only [Nat.add_zero, Nat.zero_add] at mx u ⊢
          omega)
        refine ⟨c', D', L', ?_, r2, r3, by omega, fun x => ?_⟩
        · rcases st with ⟨s1, s2, s3⟩ | ⟨s1, rfl, rfl⟩
          · simp only [l41_0, hlo, hhi, z1, z2, z3, z4, z6, z8, z9, s1, s2, s3, cond_true, cond_false]; exact r1
          · simp only [l41_0, hlo, hhi, z1, z2, z3, z4, z6, z8, z9, s1, cond_true, cond_false]; exact r1
        · rw [r5, mb1, inW_shift (n := m)]
          constructor
          · rintro ((h | h) | h)
            · exact .inl h
            · exact .inr ⟨⟨0, by omega, by omega⟩, .inl (by omega)⟩
            · exact .inr ⟨h.1, .inr h.2⟩
          · rintro (h | ⟨g, h | h⟩)
            · exact .inl (.inl h)
            · rcases inW_shift.1 g with g | g
              · exact .inl (.inr (by omega))
              · have := inW_later W g; omega
            · exact .inr ⟨g, h⟩
    · refine ⟨c, D, L, ?_, R, G, by omega, fun x => ⟨.inl, fun h => ?_⟩⟩
      · have z : (bif decide ((0 : Int) < (n : Int)) then decide ((0 : Int) < (m : Int)) else false) = false := by
          by_cases hn : 0 < n
          · rw [decide_eq_true (show (0 : Int) < (n : Int) by omega), decide_eq_false (show ¬ (0 : Int) < (m : Int) by omega)]; rfl
          · rw [decide_eq_false (show ¬ (0 : Int) < (n : Int) by omega)]; rfl
        simp only [l41_0, z, cond_false]
      · rcases h with h | ⟨⟨i, hi, _⟩, ⟨j, hj, _⟩⟩
        · exact h
        · omega
theorem lists_ok (n m : Nat) (d e : Dat) (hn : n ≤ 9223372036854775807) (hm : m ≤ 9223372036854775807) :
    n104 2 (datS [SV.ro [Kd.int IntKind.i64, Kd.int IntKind.i64] n d, SV.ro [Kd.int IntKind.i64, Kd.int IntKind.i64] m e] 1) = true ∧ m104 2 (datS [SV.ro [Kd.int IntKind.i64, Kd.int IntKind.i64] n d, SV.ro [Kd.int IntKind.i64, Kd.int IntKind.i64] m e] 1) = cond (decide (m45 n d = 0)) (m45 m e) (m45 n d) := by
  obtain ⟨Y, hY⟩ : ∃ Y, Y = datS [SV.ro [Kd.int IntKind.i64, Kd.int IntKind.i64] n d, SV.ro [Kd.int IntKind.i64, Kd.int IntKind.i64] m e] 1 := ⟨_, rfl⟩
  have p0 : Y.sn 0 0 = n := by rw [hY]; rfl
  have p1 : Y.sn 1 0 = m := by rw [hY]; rfl
  have p2 : Y.sub 0 0 = d := by rw [hY]; rfl
  have p3 : Y.sub 1 0 = e := by rw [hY]; rfl
  rw [← hY]
  have a := (windows_cases (n := n) (d := d) hn).2.1
  have b := (windows_cases (n := m) (d := e) hm).2.1
  have o : o104_0 2 Y ((2 : Nat) : Int) 0 = some (first (fun i => cond (decide (m45 (Y.sn i 0) (Y.sub i 0) = 0)) none (some (true, m45 (Y.sn i 0) (Y.sub i 0), default))) (false, default, ()) 2 0) := by
    refine loop_first (n := 2) (l := l104_0 2 Y ((2 : Nat) : Int)) (by omega) (fun f i hi => ?_) (fun f => by simp only [l104_0, cdn]; rfl) 2 0 _ (by omega) (by decide)
    have g : n45 (Y.sn i 0) (Y.sub i 0) = true := by
      rcases (by omega : i = 0 ∨ i = 1) with rfl | rfl
      · rw [p0, p2]; exact a
      · rw [p1, p3]; exact b
    simp only [l104_0, cdl hi, cdd hi, cond_true, Int.toNat_natCast, g]
    cases decide (m45 (Y.sn i 0) (Y.sub i 0) = 0) <;> simp
  refine ⟨by simp only [n104, o]; rfl, ?_⟩
  simp only [m104, o, Option.getD_some, first, p0, p1, p2, p3]
  cases h1 : decide (m45 n d = 0) with
  | true =>
    simp only [cond_true]
    cases h2 : decide (m45 m e = 0) with
    | true => simp only [cond_true, cond_false]; exact (of_decide_eq_true h2).symm
    | false => simp only [cond_true, cond_false]
  | false => simp only [cond_true, cond_false]
theorem meet_ok {n m : Nat} {d e : Dat} (W : Wns n d) (V : Wns m e) (hd : m45 n d = 0) (he : m45 m e = 0) (hs : n + m ≤ 60) :
    n41 n d m e = true ∧ ∃ c D L, m41 n d m e = (c, D, 0) ∧ Rep c D L ∧ Gd L ∧ L.length ≤ n + m ∧ ∀ x, Mb L x ↔ InW n d x ∧ InW m e x := by
  obtain ⟨g1, g2⟩ := lists_ok n m d e (by omega) (by omega)
  rw [hd, he] at g2
  obtain ⟨Y, hY⟩ : ∃ Y, Y = datS [SV.ro [Kd.int IntKind.i64, Kd.int IntKind.i64] n d, SV.ro [Kd.int IntKind.i64, Kd.int IntKind.i64] m e] 1 := ⟨_, rfl⟩
  rw [← hY] at g1 g2
  obtain ⟨c, D, L, r1, r2, r3, r4, r5⟩ := meet_run Y (n + m) (n + m + 0 + 0 + 8) n d m e 0 noDat [] (Nat.le_refl _) (by omega) W V rep_nil trivial (by simp; omega) (fun _ _ v hv => by simp at hv)
  have o : o41_0 Y n d m e 0 0 noDat = some (c, c, D) := r1
  have hc : c ≤ 60 := by have := r2.1; simp at r4; omega
  have z : decide ((60 : Int) < (c : Int)) = false := decide_eq_false (by omega)
  have z0 : m104 2 Y = 0 := by rw [g2]; rfl
  refine ⟨?_, c, D, L, ?_, r2, r3, by simpa using r4, fun x => by rw [r5]; exact ⟨fun h => h.elim (fun h => (mb_nil h).elim) id, .inr⟩⟩
  · simp only [n41, ← hY, g1, z0, o, n106a, n106b, m106b, z, Option.getD_some, Option.isSome_some, Nat.zero_add, Nat.le_refl, decide_true, cond_true, cond_false]; rfl
  · simp only [m41, ← hY, z0, o, n106a, m106b, z, Option.getD_some, Nat.zero_add, decide_true, cond_true, cond_false]; rfl
end Go.Proofs.Ytlaogoojkfjgoaa
