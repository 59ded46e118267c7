/-
  The least minutes, by the document's rounds. Conditions: none.
-/
import Derived.Test.YtlaogoojkfjgoaaT1
import Derived.Test.YtlaogoojkfjgoaaT2
import Derived.Test.YtlaogoojkfjgoaaT3
import Derived.Test.YtlaogoojkfjgoaaTFCharts
import Derived.Test.YtlaogoojkfjgoaaTPLoop
import Derived.Test.YtlaogoojkfjgoaaTPAng
import Derived.Test.YtlaogoojkfjgoaaTPChart
import Derived.Test.YtlaogoojkfjgoaaTPFlat
import Derived.Test.YtlaogoojkfjgoaaTPWay
import Derived.Test.YtlaogoojkfjgoaaTPWay2
import Derived.Test.YtlaogoojkfjgoaaTE17
import Derived.Test.YtlaogoojkfjgoaaTPNoShorter
namespace Go.Proofs.Ytlaogoojkfjgoaa
open Go Go.Sy
set_option linter.unusedVariables false
set_option linter.unusedSimpArgs false
set_option maxRecDepth 100000
section
variable {n : Nat} {d' : Dat} {S : Nat → Bool} {ds : Nat → Int}
abbrev bs (B : Dat) (q : Nat) : Int := B.ii q 0
/-- What stays so of the minutes that are held. -/
structure Bd (n : Nat) (S : Nat → Bool) (ds : Nat → Int) (M : Int) (B : Dat) : Prop where
  hi : ∀ q, q < n → bs B q ≤ M
  snd : ∀ q, q < n → 0 ≤ bs B q → S q = true ∧ ds q ≤ bs B q
/-- Nothing gets worse. -/
def Mono (n : Nat) (B B' : Dat) : Prop := ∀ q, q < n → 0 ≤ bs B q → 0 ≤ bs B' q ∧ bs B' q ≤ bs B q
theorem Mono.rfl' {B : Dat} : Mono n B B := fun q _ h => ⟨h, Int.le_refl _⟩
theorem Mono.trans {B B' B2 : Dat} (a : Mono n B B') (b : Mono n B' B2) : Mono n B B2 := fun q hq h => by
  obtain ⟨x, y⟩ := a q hq h
  obtain ⟨z, u⟩ := b q hq x
  exact ⟨z, by omega⟩
/-- The ways from i to the first K places have been looked at. -/
def Seen (d' : Dat) (i K : Nat) (B B' : Dat) : Prop := ∀ q, q < K → 0 ≤ bs B i → 0 ≤ mn d' i q → 0 ≤ bs B' q ∧ bs B' q ≤ bs B i + mn d' i q
structure Env (n : Nat) (d' : Dat) (S : Nat → Bool) (ds : Nat → Int) : Prop where
  d0 : ∀ q, q < n → S q = true → 0 ≤ ds q
  tri : ∀ i k, i < n → k < n → S i = true → 0 ≤ mn d' i k → S k = true ∧ ds k ≤ ds i + mn d' i k
theorem set_same (B : Dat) (k : Nat) (v : Int) : bs (B.upd k 0 [SV.int IntKind.i64 v]) k = v := by simp [Dat.upd, bs]
theorem set_other (B : Dat) {k q : Nat} (h : q ≠ k) (v : Int) : bs (B.upd k 0 [SV.int IntKind.i64 v]) q = bs B q := by simp [Dat.upd, bs, h]
theorem in_run {i : Nat} (C : Cht n n d') (V : Env n d' S ds) (hi : i < n) (t2 t10 : Int) (b0 : Nat) (b1 B0 : Dat) : ∀ (k K f : Nat) (M : Int) (B : Dat), K + k = n → k < f → 0 ≤ M → M + 10000 * (k : Int) ≤ 1000000000 → Bd n S ds M B → Mono n B0 B → Seen d' i K B0 B →
    ∃ B', Bd n S ds (M + 10000 * (k : Int)) B' ∧ Mono n B0 B' ∧ Seen d' i n B0 B' ∧ l30_6 t2 (n : Int) n t10 (i : Int) b0 b1 n d' n f (K : Int) B = some B'
  | 0, K, f, M, B, hK, hf, h0, hM, hB, hm, hs => by
    obtain ⟨f, rfl⟩ : ∃ g, f = g + 1 := ⟨f - 1, by omega⟩
    obtain rfl : K = n := by omega
    refine ⟨B, ?_, hm, hs, by simp only [l30_6, cdn, cond_false]⟩
    rw [show M + 10000 * ((0 : Nat) : Int) = M by omega]; exact hB
  | k + 1, K, f, M, B, hK, hf, h0, hM, hB, hm, hs => by
    obtain ⟨f, rfl⟩ : ∃ g, f = g + 1 := ⟨f - 1, by omega⟩
    have hlt : K < n := by omega
    have few := C.few
    have lo := C.lo i K hi hlt
    have hi' := C.hi i K hi hlt
    have em : (d'.sub i 0).ii K 0 = mn d' i K := rfl
    have hbi := hB.hi i hi
    have more : Bd n S ds (M + 10000) B := ⟨fun q hq => by have := hB.hi q hq; omega, hB.snd⟩
    have zi : decide (i < n) = true := decide_eq_true hi
    have zK : decide (K < n) = true := decide_eq_true hlt
    have go : ∀ B2, Bd n S ds (M + 10000) B2 → Mono n B0 B2 → Seen d' i (K + 1) B0 B2 → l30_6 t2 (n : Int) n t10 (i : Int) b0 b1 n d' n (f + 1) (K : Int) B = l30_6 t2 (n : Int) n t10 (i : Int) b0 b1 n d' n f ((K + 1 : Nat) : Int) B2 →
        ∃ B', Bd n S ds (M + 10000 * ((k + 1 : Nat) : Int)) B' ∧ Mono n B0 B' ∧ Seen d' i n B0 B' ∧ l30_6 t2 (n : Int) n t10 (i : Int) b0 b1 n d' n (f + 1) (K : Int) B = some B' := fun B2 x y z e => by
      obtain ⟨B', p, q, r, s⟩ := in_run C V hi t2 t10 b0 b1 B0 k (K + 1) f (M + 10000) B2 (by omega) (by omega) (by omega) (by omega) x y z
      rw [show M + 10000 * ((k + 1 : Nat) : Int) = M + 10000 + 10000 * (k : Int) by omega]
      exact ⟨B', p, q, r, by rw [e]; exact s⟩
    have stay : (0 ≤ bs B0 i → 0 ≤ mn d' i K → 0 ≤ bs B K ∧ bs B K ≤ bs B0 i + mn d' i K) → Seen d' i (K + 1) B0 B := fun h q hq a b => by
      by_cases e : q = K
      · subst e; exact h a b
      · exact hs q (by omega) a b
    by_cases h1 : B.ii i 0 < 0
    · refine go B more hm (stay fun a _ => ?_) ?_
      · have h1' : bs B i < 0 := h1
        have := (hm i hi a).1; omega
      · simp only [l30_6, cdl hlt, cdd hi, cdd hlt, Int.toNat_natCast, zi, zK, decide_eq_true h1, wrS hlt (by omega), cond_true, cond_false]
    · have h1' : 0 ≤ bs B i := by
        have : ¬ bs B i < 0 := h1
        omega
      have y1 : decide (B.ii i 0 < 0) = false := decide_eq_false h1
      have y2 : decide ((0 : Int) ≤ (K : Int) ∧ (K : Int) < ((d'.sn i 0 : Nat) : Int)) = true := by rw [C.row i hi]; exact cdd hlt
      by_cases h2 : mn d' i K < 0
      · refine go B more hm (stay fun _ b => absurd b (by omega)) ?_
        simp only [l30_6, cdl hlt, cdd hi, cdd hlt, Int.toNat_natCast, zi, zK, y1, y2, em, decide_eq_true h2, wrS hlt (by omega), cond_true, cond_false]
      · have y3 : decide (mn d' i K < 0) = false := decide_eq_false h2
        have w9 : IntKind.i64.wrap (B.ii i 0 + mn d' i K) = bs B i + mn d' i K := wr (by show -9223372036854775808 ≤ bs B i + _; omega) (by show bs B i + _ ≤ _; omega)
        obtain ⟨sI, dI⟩ := hB.snd i hi h1'
        obtain ⟨sK, dK⟩ := V.tri i K hi hlt sI (by omega)
        have ok : (bs B K < 0 ∨ bs B i + mn d' i K < bs B K) → Bd n S ds (M + 10000) (B.upd K 0 [SV.int IntKind.i64 (bs B i + mn d' i K)]) ∧ Mono n B0 (B.upd K 0 [SV.int IntKind.i64 (bs B i + mn d' i K)]) ∧ Seen d' i (K + 1) B0 (B.upd K 0 [SV.int IntKind.i64 (bs B i + mn d' i K)]) := fun hc => by
          refine ⟨⟨fun q hq => ?_, fun q hq h => ?_⟩, fun q hq h => ?_, fun q hq a b => ?_⟩
          · by_cases e : q = K
            · subst e; rw [set_same]; omega
            · rw [set_other B e]; exact more.hi q hq
          · by_cases e : q = K
            · subst e; rw [set_same]; exact ⟨sK, by omega⟩
            · rw [set_other B e] at h ⊢; exact hB.snd q hq h
          · obtain ⟨x, y⟩ := hm q hq h
            by_cases e : q = K
            · subst e; rw [set_same]
              rcases hc with hc | hc <;> constructor <;> omega
            · rw [set_other B e]; exact ⟨x, y⟩
          · by_cases e : q = K
            · subst e; rw [set_same]
              have := (hm i hi a).2
              constructor <;> omega
            · rw [set_other B e]; exact hs q (by omega) a b
        by_cases h3 : B.ii K 0 < 0
        · obtain ⟨a, b, c⟩ := ok (.inl h3)
          refine go _ a b c ?_
          simp only [l30_6, cdl hlt, cdd hi, cdd hlt, Int.toNat_natCast, zi, zK, y1, y2, y3, em, w9, decide_eq_true h3, wrS hlt (by omega), cond_true, cond_false]
        · have y4 : decide (B.ii K 0 < 0) = false := decide_eq_false h3
          by_cases h4 : bs B i + mn d' i K < B.ii K 0
          · obtain ⟨a, b, c⟩ := ok (.inr h4)
            refine go _ a b c ?_
            simp only [l30_6, cdl hlt, cdd hi, cdd hlt, Int.toNat_natCast, zi, zK, y1, y2, y3, y4, em, w9, decide_eq_true h4, wrS hlt (by omega), cond_true, cond_false]
          · refine go B more hm (stay fun a _ => ?_) ?_
            · have h3' : ¬ bs B K < 0 := h3
              have h4' : ¬ bs B i + mn d' i K < bs B K := h4
              have := (hm i hi a).2
              constructor <;> omega
            · simp only [l30_6, cdl hlt, cdd hi, cdd hlt, Int.toNat_natCast, zi, zK, y1, y2, y3, y4, em, w9, decide_eq_false h4, wrS hlt (by omega), cond_true, cond_false]
theorem mid_run (C : Cht n n d') (V : Env n d' S ds) (t2 t10 : Int) (b0 : Nat) (b1 B0 : Dat) : ∀ (k i f : Nat) (M : Int) (B : Dat), i + k = n → k < f → 0 ≤ M → M + 120000 * (k : Int) ≤ 1000000000 → Bd n S ds M B → Mono n B0 B → (∀ j, j < i → Seen d' j n B0 B) →
    ∃ B', Bd n S ds (M + 120000 * (k : Int)) B' ∧ Mono n B0 B' ∧ (∀ j, j < n → Seen d' j n B0 B') ∧ l30_4 t2 (n : Int) n t10 b0 b1 n d' n f (i : Int) B = some B'
  | 0, i, f, M, B, hK, hf, h0, hM, hB, hm, hs => by
    obtain ⟨f, rfl⟩ : ∃ g, f = g + 1 := ⟨f - 1, by omega⟩
    obtain rfl : i = n := by omega
    refine ⟨B, ?_, hm, hs, by simp only [l30_4, cdn, cond_false]⟩
    rw [show M + 120000 * ((0 : Nat) : Int) = M by omega]; exact hB
  | k + 1, i, f, M, B, hK, hf, h0, hM, hB, hm, hs => by
    obtain ⟨f, rfl⟩ : ∃ g, f = g + 1 := ⟨f - 1, by omega⟩
    have hlt : i < n := by omega
    have few := C.few
    obtain ⟨B2, p, q, r, s⟩ := in_run C V hlt t2 t10 b0 b1 B n 0 (t2.toNat + (n : Int).toNat + n + t10.toNat + (i : Int).toNat + (0 : Int).toNat + b0 + n + n + 8) M B (by omega) (by omega) h0 (by omega) hB Mono.rfl' (fun q hq => absurd hq (Nat.not_lt_zero q))
    have o : o30_6 t2 (n : Int) n t10 (i : Int) b0 b1 n d' n 0 B = some B2 := s
    obtain ⟨B3, p3, q3, r3, s3⟩ := mid_run C V t2 t10 b0 b1 B0 k (i + 1) f (M + 120000) B2 (by omega) (by omega) (by omega) (by omega) ⟨fun x hx => by have := p.hi x hx; omega, p.snd⟩ (hm.trans q) (fun j hj x hx a b => by
      by_cases e : j = i
      · subst e
        obtain ⟨u, v⟩ := hm j hlt a
        obtain ⟨w, z⟩ := r x hx u b
        exact ⟨w, by omega⟩
      · obtain ⟨u, v⟩ := hs j (by omega) x hx a b
        obtain ⟨w, z⟩ := q x hx u
        exact ⟨w, by omega⟩)
    refine ⟨B3, ?_, q3, r3, ?_⟩
    · rw [show M + 120000 * ((k + 1 : Nat) : Int) = M + 120000 + 120000 * (k : Int) by omega]; exact p3
    · simp only [l30_4, cdl hlt, o, Option.isSome_some, Option.getD_some, wrS hlt (by omega), cond_true]
      exact s3
/-- What the rounds have come to. -/
def Cmp (n : Nat) (d' : Dat) (src : Nat) (rk : Nat → Nat) (E : Dat) (r : Nat) (B : Dat) : Prop := ∀ q L, isCh n d' src rk E (q :: L) → L.length ≤ r → 0 ≤ bs B q ∧ bs B q ≤ dsD E q
theorem isCh_lt {src : Nat} {rk : Nat → Nat} {E : Dat} {q : Nat} {L : List Nat} (h : isCh n d' src rk E (q :: L)) : q < n := by
  cases L with
  | nil => exact h.1
  | cons b l => exact h.1
theorem cmp_step {src : Nat} {rk : Nat → Nat} {E B B' : Dat} {r : Nat} (hm : Mono n B B') (hs : ∀ j, j < n → Seen d' j n B B') (h : Cmp n d' src rk E r B) : Cmp n d' src rk E (r + 1) B' := fun q L hc hl => by
  cases L with
  | nil =>
    obtain ⟨x, y⟩ := h q [] hc (Nat.zero_le _)
    obtain ⟨z, u⟩ := hm q hc.1 x
    exact ⟨z, by omega⟩
  | cons b l =>
    obtain ⟨h1, h2, h3, h4, h5⟩ := hc
    obtain ⟨x, y⟩ := h b l h5 (by simp at hl; omega)
    obtain ⟨z, u⟩ := hs b (isCh_lt h5) q h1 x h2
    exact ⟨z, by omega⟩
theorem out_run {src : Nat} {rk : Nat → Nat} {E : Dat} (C : Cht n n d') (V : Env n d' S ds) (t2 : Int) (b0 : Nat) (b1 : Dat) : ∀ (k r f : Nat) (M : Int) (B : Dat), r + k = n → k < f → 0 ≤ M → M + 1440000 * (k : Int) ≤ 1000000000 → Bd n S ds M B → Cmp n d' src rk E r B →
    ∃ M' B', Bd n S ds M' B' ∧ Cmp n d' src rk E n B' ∧ l30_2 t2 (n : Int) n b0 b1 n d' f (r : Int) B = some B'
  | 0, r, f, M, B, hK, hf, h0, hM, hB, hc => by
    obtain ⟨f, rfl⟩ : ∃ g, f = g + 1 := ⟨f - 1, by omega⟩
    obtain rfl : r = n := by omega
    exact ⟨M, B, hB, hc, by simp only [l30_2, cdn, cond_false]⟩
  | k + 1, r, f, M, B, hK, hf, h0, hM, hB, hc => by
    obtain ⟨f, rfl⟩ : ∃ g, f = g + 1 := ⟨f - 1, by omega⟩
    have hlt : r < n := by omega
    have few := C.few
    obtain ⟨B2, p, q, s, e⟩ := mid_run C V t2 (r : Int) b0 b1 B n 0 (t2.toNat + (n : Int).toNat + n + (r : Int).toNat + (0 : Int).toNat + b0 + n + n + 8) M B (by omega) (by omega) h0 (by omega) hB Mono.rfl' (fun j hj => absurd hj (Nat.not_lt_zero j))
    have o : o30_4 t2 (n : Int) n (r : Int) b0 b1 n d' n 0 B = some B2 := e
    obtain ⟨M3, B3, p3, q3, s3⟩ := out_run C V t2 b0 b1 k (r + 1) f (M + 1440000) B2 (by omega) (by omega) (by omega) (by omega) ⟨fun x hx => by have := p.hi x hx; omega, p.snd⟩ (cmp_step q s hc)
    refine ⟨M3, B3, p3, q3, ?_⟩
    simp only [l30_2, cdl hlt, o, Option.isSome_some, Option.getD_some, wrS hlt (by omega), cond_true]
    exact s3
theorem clr_run (hn : n ≤ 1000) (t1 t2 : Int) (b0 : Nat) (b1 : Dat) (b2 : Nat) (b3 : Dat) : ∀ (k i f : Nat) (B : Dat), i + k = n → k < f → (∀ q, q < i → bs B q = -1) →
    ∃ B', (∀ q, q < n → bs B' q = -1) ∧ l30_0 t1 t2 (n : Int) n b0 b1 b2 b3 f (i : Int) B = some B'
  | 0, i, f, B, hK, hf, h => by
    obtain ⟨f, rfl⟩ : ∃ g, f = g + 1 := ⟨f - 1, by omega⟩
    obtain rfl : i = n := by omega
    exact ⟨B, h, by simp only [l30_0, cdn, cond_false]⟩
  | k + 1, i, f, B, hK, hf, h => by
    obtain ⟨f, rfl⟩ : ∃ g, f = g + 1 := ⟨f - 1, by omega⟩
    have hlt : i < n := by omega
    obtain ⟨B', p, q⟩ := clr_run hn t1 t2 b0 b1 b2 b3 k (i + 1) f (B.upd i 0 [SV.int IntKind.i64 (-1)]) (by omega) (by omega) (fun x hx => by
      by_cases e : x = i
      · subst e; exact set_same B x (-1)
      · rw [set_other B e]; exact h x (by omega))
    refine ⟨B', p, ?_⟩
    simp only [l30_0, cdl hlt, cdd hlt, Int.toNat_natCast, decide_eq_true hlt, wrS hlt (by omega), cond_true]
    exact q
/-- The document's least minutes are the ones that the search finds. -/
theorem least_ok {d D : Dat} {src dst c' : Nat} {rk : Nat → Nat} {E : Dat} (C : Cht n n d') (hA : Agree n D d') (I : Inv n D src c' rk E) (hc : ∀ q, q < n → ¬ Cand E q) (hs : src < n) (ht : dst < n) :
    n30 n d n d' (src : Int) (dst : Int) = true ∧ ((knD E dst = false ∧ m30 n d n d' (src : Int) (dst : Int) < 0) ∨ (knD E dst = true ∧ ((∃ L, isCh n D src rk E (dst :: L) ∧ L.length < n) → m30 n d n d' (src : Int) (dst : Int) = dsD E dst))) := by
  have few := C.few
  have known : ∀ a, a < n → snD E a = true → knD E a = true := fun a ha hs => by
    cases hk : knD E a with
    | true => rfl
    | false => exact absurd ⟨hs, hk⟩ (hc a ha)
  have V : Env n d' (snD E) (dsD E) := ⟨I.lo, fun i k hi hk h hm => by
    have m2 : mn D i k = mn d' i k := mn_agree hA hi k
    obtain ⟨x, y⟩ := I.tri i k hi hk (known i hi h) (by rw [m2]; exact hm)
    rw [m2] at y
    exact ⟨x, y⟩⟩
  obtain ⟨B0, p0, q0⟩ := clr_run (show n ≤ 1000 by omega) (src : Int) (dst : Int) n d n d' n 0 ((src : Int).toNat + (dst : Int).toNat + (n : Int).toNat + n + (0 : Int).toNat + n + n + 8) (datC [SV.int IntKind.i64 0]) (by omega) (by omega) (fun q hq => absurd hq (Nat.not_lt_zero q))
  have o0 : o30_0 (src : Int) (dst : Int) (n : Int) n n d n d' 0 (datC [SV.int IntKind.i64 0]) = some B0 := q0
  have b1 : Bd n (snD E) (dsD E) 0 (B0.upd src 0 [SV.int IntKind.i64 0]) := ⟨fun q hq => by
    by_cases e : q = src
    · subst e; rw [set_same]; exact Int.le_refl _
    · rw [set_other B0 e, p0 q hq]; decide, fun q hq h => by
    by_cases e : q = src
    · subst e; rw [set_same]; exact ⟨I.s0, by rw [I.s1]; exact Int.le_refl _⟩
    · rw [set_other B0 e, p0 q hq] at h; omega⟩
  have c1 : Cmp n D src rk E 0 (B0.upd src 0 [SV.int IntKind.i64 0]) := fun q L h hl => by
    have hL : L = [] := List.length_eq_zero_iff.1 (by omega)
    subst hL
    obtain ⟨x, y, z⟩ := h
    subst y
    rw [set_same, z]; exact ⟨Int.le_refl _, Int.le_refl _⟩
  have c1' : Cmp n d' src rk E 0 (B0.upd src 0 [SV.int IntKind.i64 0]) := fun q L h hl => by
    have hL : L = [] := List.length_eq_zero_iff.1 (by omega)
    subst hL
    exact c1 q [] h (Nat.le_refl _)
  obtain ⟨M, B, hB, hC, e⟩ := out_run C V (dst : Int) n d n 0 ((dst : Int).toNat + (n : Int).toNat + n + (0 : Int).toNat + n + n + 8) 0 _ (by omega) (by omega) (Int.le_refl _) (by omega) b1 c1'
  have o1 : o30_2 (dst : Int) (n : Int) n n d n d' 0 (B0.upd src 0 [SV.int IntKind.i64 0]) = some B := e
  have em : m30 n d n d' (src : Int) (dst : Int) = bs B dst := by
    simp only [m30, Int.toNat_natCast, o0, o1, Option.getD_some]
  refine ⟨?_, ?_⟩
  · simp only [n30, Int.toNat_natCast, o0, o1, Option.getD_some, Option.isSome_some, cdd hs, cdd ht, decide_eq_true hs, decide_eq_true ht, decide_eq_true (show (0 : Int) ≤ (n : Int) ∧ (n : Int) ≤ (n : Int) ∧ (n : Int) ≤ 1073741824 from ⟨by omega, by omega, by omega⟩)]; rfl
  · rw [em]
    cases hk : knD E dst with
    | false =>
      refine .inl ⟨rfl, ?_⟩
      apply Decidable.byContradiction
      intro h
      have := known dst ht (hB.snd dst ht (by omega)).1
      rw [hk] at this; cases this
    | true =>
      refine .inr ⟨rfl, fun ⟨L, hL, hl⟩ => ?_⟩
      have tr : ∀ L q, isCh n D src rk E (q :: L) → isCh n d' src rk E (q :: L) := by
        intro L
        induction L with
        | nil => intro q h; exact h
        | cons b l ih =>
          intro q h
          obtain ⟨h1, h2, h3, h4, h5⟩ := h
          have m2 : mn D b q = mn d' b q := mn_agree hA (isCh_lt h5) q
          rw [m2] at h2 h3
          exact ⟨h1, h2, h3, h4, ih b h5⟩
      obtain ⟨x, y⟩ := hC dst L (tr L dst hL) (by omega)
      have := (hB.snd dst ht x).2
      omega
end
end Go.Proofs.Ytlaogoojkfjgoaa
