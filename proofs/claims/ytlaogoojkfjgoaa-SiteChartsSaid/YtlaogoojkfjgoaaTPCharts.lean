/-
  The plain law of 'SiteCharts': the law's model is true, and its need. Conditions: none.
-/
import Derived.Test.YtlaogoojkfjgoaaTFCharts
import Derived.Test.YtlaogoojkfjgoaaTPLoop
import Derived.Test.YtlaogoojkfjgoaaTPAng
import Derived.Test.YtlaogoojkfjgoaaTPChart
import Derived.Test.YtlaogoojkfjgoaaTPFlat
import Derived.Test.YtlaogoojkfjgoaaTPWay
import Derived.Test.YtlaogoojkfjgoaaTPWay2
import Derived.Test.YtlaogoojkfjgoaaTE17
import Derived.Test.YtlaogoojkfjgoaaTPNoShorter
import Derived.Test.YtlaogoojkfjgoaaTPLeast
import Derived.Test.YtlaogoojkfjgoaaT1
import Derived.Test.YtlaogoojkfjgoaaT2
import Derived.Test.YtlaogoojkfjgoaaT3
namespace Go.Proofs.Ytlaogoojkfjgoaa
open Go Go.Sy
set_option linter.unusedVariables false
set_option linter.unusedSimpArgs false
set_option maxRecDepth 100000
section
variable {n : Nat} {d' D E : Dat} {src : Nat} {rk : Nat → Nat}
/-- The places of a way, its end first. -/
theorem ch_at : ∀ (P : List Nat) (j x : Nat), isCh n D src rk E P → P[j]? = some x → x < n ∧ (∀ y, P[j + 1]? = some y → 0 ≤ mn D y x ∧ dsD E x = dsD E y + mn D y x ∧ rk y < rk x) ∧ (j + 1 = P.length → x = src ∧ dsD E x = 0)
  | [], j, x, h, hx => h.elim
  | [a], j, x, h, hx => by
    cases j with
    | zero =>
      simp at hx; subst hx
      exact ⟨h.1, fun y hy => by simp at hy, fun _ => ⟨h.2.1, h.2.2⟩⟩
    | succ j => simp at hx
  | a :: b :: l, j, x, h, hx => by
    obtain ⟨h1, h2, h3, h4, h5⟩ := h
    cases j with
    | zero =>
      simp at hx; subst hx
      exact ⟨h1, fun y hy => by simp at hy; subst hy; exact ⟨h2, h3, h4⟩, fun e => by simp at e⟩
    | succ j =>
      obtain ⟨p, q, r⟩ := ch_at (b :: l) j x h5 (by simpa using hx)
      exact ⟨p, fun y hy => q y (by simpa using hy), fun e => r (by simpa using e)⟩
theorem ch_far (P : List Nat) (h : isCh n D src rk E P) : ∀ (k j x y : Nat), P[j]? = some x → P[j + k + 1]? = some y → rk y < rk x
  | 0, j, x, y, hx, hy => ((ch_at P j x h hx).2.1 y hy).2.2
  | k + 1, j, x, y, hx, hy => by
    have hl : j + k + 1 < P.length := by
      have := (List.getElem?_eq_some_iff.1 hy).1
      omega
    have hz : P[j + k + 1]? = some P[j + k + 1] := List.getElem?_eq_getElem hl
    have a := ch_far P h k j x _ hx hz
    have b := ((ch_at P (j + k + 1) _ h hz).2.1 y (by rw [show j + k + 1 + 1 = j + (k + 1) + 1 by omega]; exact hy)).2.2
    omega
theorem has_run {m : Nat} (hm : m ≤ 1000) (Z : Dat) (v : Int) (h : ∀ q, q < m → Z.ii q 0 ≠ v) : ∀ (k i f : Nat), i + k = m → k < f → l97_0 m Z v f (i : Int) = some (false, default, ())
  | 0, i, f, hi, hf => by
    obtain ⟨f, rfl⟩ : ∃ g, f = g + 1 := ⟨f - 1, by omega⟩
    obtain rfl : i = m := by omega
    simp only [l97_0, cdn, cond_false]
  | k + 1, i, f, hi, hf => by
    obtain ⟨f, rfl⟩ : ∃ g, f = g + 1 := ⟨f - 1, by omega⟩
    have hlt : i < m := by omega
    simp only [l97_0, cdl hlt, cdd hlt, Int.toNat_natCast, decide_eq_false (h i hlt), wrS hlt (by omega), cond_true, cond_false]
    exact has_run hm Z v h k (i + 1) f (by omega) (by omega)
theorem has_no {m : Nat} (hm : m ≤ 1000) (Z : Dat) (v : Int) (h : ∀ q, q < m → Z.ii q 0 ≠ v) : n97 m Z v = true ∧ m97 m Z v = false := by
  have e := has_run hm Z v h m 0 (m + v.toNat + (0 : Int).toNat + 8) (by omega) (by omega)
  have o : o97_0 m Z v 0 = some (false, default, ()) := e
  exact ⟨by simp only [n97, o]; rfl, by simp only [m97, o, Option.getD_some, cond_false]⟩
theorem min_run {P : List Nat} {Z : Dat} (C : Cht n n d') (hA : Agree n D d') (h : isCh n D src rk E P) (hP : P.length ≤ n) (hZ : ∀ q x, q < P.length → P[P.length - 1 - q]? = some x → Z.ii q 0 = (x : Int)) (d : Dat) : ∀ (k i f : Nat) (t : Int), i + k = P.length → k < f → 0 ≤ t → t ≤ 10000 * (i : Int) →
    (i = 0 ∧ t = 0 ∨ 0 < i ∧ ∀ x, P[P.length - i]? = some x → dsD E x = t) →
    ∃ S, l31_0 P.length Z n d n d' f t (i : Int) = some (false, default, S) ∧ ∀ x, P[0]? = some x → dsD E x = S
  | 0, i, f, t, hi, hf, h0, h1, h2 => by
    obtain ⟨f, rfl⟩ : ∃ g, f = g + 1 := ⟨f - 1, by omega⟩
    obtain rfl : i = P.length := by omega
    refine ⟨t, by simp only [l31_0, cdn, cond_false], fun x hx => ?_⟩
    rcases h2 with ⟨e, _⟩ | ⟨_, h2⟩
    · have : P = [] := List.length_eq_zero_iff.1 e
      subst this; simp at hx
    · exact h2 x (by rw [Nat.sub_self]; exact hx)
  | k + 1, i, f, t, hi, hf, h0, h1, h2 => by
    obtain ⟨f, rfl⟩ : ∃ g, f = g + 1 := ⟨f - 1, by omega⟩
    have hlt : i < P.length := by omega
    have few := C.few
    have hj : P.length - 1 - i < P.length := by omega
    have hx : P[P.length - 1 - i]? = some P[P.length - 1 - i] := List.getElem?_eq_getElem hj
    generalize P[P.length - 1 - i] = x at hx
    have ex : Z.ii i 0 = (x : Int) := hZ i x hlt hx
    obtain ⟨x1, x2, x3⟩ := ch_at P _ x h hx
    have wn : IntKind.i64.wrap ((n : Int) - 1) = (n : Int) - 1 := wr (by omega) (by omega)
    have z1 : m29 (x : Int) 0 ((n : Int) - 1) = true := m29_iff.2 ⟨by omega, by omega⟩
    have new : ∀ q, q < i → Z.ii q 0 ≠ (x : Int) := fun q hq e => by
      have hj2 : P.length - 1 - q < P.length := by omega
      have hy : P[P.length - 1 - q]? = some P[P.length - 1 - q] := List.getElem?_eq_getElem hj2
      generalize P[P.length - 1 - q] = y at hy
      have ey := hZ q y (by omega) hy
      have hxy : y = x := by rw [ey] at e; omega
      have := ch_far P h (i - q - 1) (P.length - 1 - i) x y hx (by rw [show P.length - 1 - i + (i - q - 1) + 1 = P.length - 1 - q by omega]; exact hy)
      rw [hxy] at this
      omega
    obtain ⟨s1, s2⟩ := has_no (m := i) (by omega) Z (x : Int) new
    have zc : decide ((0 : Int) ≤ (0 : Int) ∧ (0 : Int) ≤ (i : Int) ∧ (i : Int) ≤ (P.length : Int)) = true := decide_eq_true ⟨by omega, by omega, by omega⟩
    have ti : ((i : Int) - 0).toNat = i := by omega
    by_cases hi0 : 0 < i
    · have hz : P[P.length - i]? = some P[P.length - i] := List.getElem?_eq_getElem (by omega)
      generalize P[P.length - i] = y at hz
      have ey : Z.ii (i - 1) 0 = (y : Int) := hZ (i - 1) y (by omega) (by rw [show P.length - 1 - (i - 1) = P.length - i by omega]; exact hz)
      obtain ⟨y1, _, _⟩ := ch_at P _ y h hz
      obtain ⟨m1, m2, _⟩ := x2 y (by rw [show P.length - 1 - i + 1 = P.length - i by omega]; exact hz)
      have et : dsD E y = t := by
        rcases h2 with ⟨e, _⟩ | ⟨_, h2⟩
        · omega
        · exact h2 y hz
      have em2 : mn D y x = mn d' y x := mn_agree hA y1 x
      have em : (d'.sub y 0).ii x 0 = mn d' y x := rfl
      have hi' := C.hi y x y1 x1
      rw [em2] at m1 m2
      have w : IntKind.i64.wrap ((i : Int) - 1) = (i : Int) - 1 := wr (by omega) (by omega)
      have tp : ((i : Int) - 1).toNat = i - 1 := by omega
      have zi : decide ((0 : Int) < (i : Int)) = true := decide_eq_true (by omega)
      have zp : decide (0 ≤ (i : Int) - 1 ∧ (i : Int) - 1 < (P.length : Int)) = true := decide_eq_true ⟨by omega, by omega⟩
      have zm : decide (mn d' y x < 0) = false := decide_eq_false (by omega)
      have w2 : IntKind.i64.wrap (t + mn d' y x) = t + mn d' y x := wr (by omega) (by omega)
      obtain ⟨S, e, hS⟩ := min_run C hA h hP hZ d k (i + 1) f (t + mn d' y x) (by omega) (by omega) (by omega) (by omega) (.inr ⟨by omega, fun z hz' => by
        rw [show P.length - (i + 1) = P.length - 1 - i by omega, hx] at hz'
        cases hz'
        omega⟩)
      refine ⟨S, ?_, hS⟩
      simp only [l31_0, cdl hlt, cdd hlt, Int.toNat_natCast, wn, ex, z1, zc, ti, s1, s2, zi, w, tp, zp, ey, cdd y1, C.row y y1, cdd x1, em, zm, w2, wrS hlt (by omega), cond_true, cond_false]
      exact e
    · obtain rfl : i = 0 := by omega
      have zi : decide ((0 : Int) < ((0 : Nat) : Int)) = false := rfl
      have t0 : t = 0 := by
        rcases h2 with ⟨_, e⟩ | ⟨e, _⟩
        · exact e
        · omega
      obtain ⟨S, e, hS⟩ := min_run C hA h hP hZ d k (0 + 1) f t (by omega) (by omega) h0 (by omega) (.inr ⟨by omega, fun z hz' => by
        rw [show P.length - (0 + 1) = P.length - 1 - 0 by omega, hx] at hz'
        cases hz'
        rw [(x3 (by omega)).2]; exact t0.symm⟩)
      refine ⟨S, ?_, hS⟩
      simp only [l31_0, cdl hlt, cdd hlt, Int.toNat_natCast, wn, ex, z1, zc, ti, s1, s2, zi, wrS hlt (by omega), cond_true, cond_false]
      exact e
theorem min_ok {P : List Nat} {Z : Dat} (C : Cht n n d') (hA : Agree n D d') (h : isCh n D src rk E P) (hP : P.length ≤ n) (hZ : ∀ q x, q < P.length → P[P.length - 1 - q]? = some x → Z.ii q 0 = (x : Int)) (d : Dat) : n31 n d n d' P.length Z = true ∧ ∀ x, P[0]? = some x → m31 n d n d' P.length Z = dsD E x := by
  have few := C.few
  obtain ⟨S, e, hS⟩ := min_run C hA h hP hZ d P.length 0 (P.length + (0 : Int).toNat + (0 : Int).toNat + n + n + 8) 0 (by omega) (by omega) (Int.le_refl _) (by omega) (.inl ⟨rfl, rfl⟩)
  have o : o31_0 P.length Z n d n d' 0 0 = some (false, default, S) := e
  exact ⟨by simp only [n31, o]; rfl, fun x hx => by simp only [m31, o, Option.getD_some, cond_false]; exact (hS x hx).symm⟩
end
theorem way_err {n n' : Nat} {d d' : Dat} {a b e : Int} (g : n28 n d n' d' = true) (h : m28 n d n' d' = e) (he : e ≠ 0) : n25 n d n' d' a b = true ∧ m25 n d n' d' a b = (0, noDat, 0, e) := by
  constructor
  · simp only [n25, g, h, decide_eq_false he, cond_true, cond_false]; rfl
  · simp only [m25, h, decide_eq_false he, cond_true, cond_false]
theorem way_out {n n' : Nat} {d d' : Dat} {a b : Int} (hn : n ≤ 1000) (g : n28 n d n' d' = true) (h : m28 n d n' d' = 0) (ho : ¬ ((0 ≤ a ∧ a ≤ (n : Int) - 1) ∧ (0 ≤ b ∧ b ≤ (n : Int) - 1))) : n25 n d n' d' a b = true ∧ m25 n d n' d' a b = (0, noDat, 0, 6) := by
  have wn : IntKind.i64.wrap ((n : Int) - 1) = (n : Int) - 1 := wr (by omega) (by omega)
  by_cases ha : 0 ≤ a ∧ a ≤ (n : Int) - 1
  · have z1 : m29 a 0 ((n : Int) - 1) = true := m29_iff.2 ha
    have z2 : m29 b 0 ((n : Int) - 1) = false := m29_f fun hb => ho ⟨ha, hb⟩
    constructor
    · simp only [n25, g, h, m85, m96_m29, wn, z1, z2, decide_true, cond_true, cond_false]; rfl
    · simp only [m25, h, m85, m96_m29, wn, z1, z2, decide_true, cond_true, cond_false]
  · have z1 : m29 a 0 ((n : Int) - 1) = false := m29_f ha
    constructor
    · simp only [n25, g, h, m85, m96_m29, wn, z1, decide_true, cond_true, cond_false]; rfl
    · simp only [m25, h, m85, m96_m29, wn, z1, decide_true, cond_true, cond_false]
theorem lawCharts (n : Nat) (d : Dat) (n' : Nat) (d' : Dat) (a b : Int) (hn : n ≤ 9223372036854775807) (hn' : n' ≤ 9223372036854775807) : n5 n d n' d' a b = true ∧ m5 n d n' d' a b = true := by
  obtain ⟨f1, f2⟩ := flat_ok d d' hn hn'
  cases hf : m24 n d n' d' with
  | false =>
    constructor
    · simp only [n5, n17_val, e17w, f1, hf, cond_true, cond_false]; rfl
    · simp only [m5, e17w, hf, cond_true, cond_false]
  | true =>
    obtain ⟨k1, k2, k3⟩ := f2 hf
    obtain ⟨a1, a2, D, hD, a3, a4, a5⟩ := chart_both (n := n) (d := d) (n' := n') (d' := d') (by omega) (by omega) (fun i hi => by have := k3 i hi; omega)
    rcases a5 with ⟨C, C', c1, c2⟩ | ⟨e0, he, c1, c2⟩
    · have hr := C.rows
      subst hr
      have few := C.few
      have wn : IntKind.i64.wrap ((n' : Int) - 1) = (n' : Int) - 1 := wr (by omega) (by omega)
      have z00 : decide ((((0 : Nat) : Int)) = 0) = true := rfl
      by_cases hp : (0 ≤ a ∧ a ≤ (n' : Int) - 1) ∧ (0 ≤ b ∧ b ≤ (n' : Int) - 1)
      · obtain ⟨src, rfl⟩ : ∃ q : Nat, a = (q : Int) := ⟨a.toNat, by omega⟩
        obtain ⟨dst, rfl⟩ : ∃ q : Nat, b = (q : Int) := ⟨b.toNat, by omega⟩
        have hs : src < n' := by omega
        have ht : dst < n' := by omega
        have z1 : m29 (src : Int) 0 ((n' : Int) - 1) = true := m29_iff.2 hp.1
        have z2 : m29 (dst : Int) 0 ((n' : Int) - 1) = true := m29_iff.2 hp.2
        obtain ⟨c', rk, E, I, hc, W⟩ := way_ok C' a4 c2 hs ht
        obtain ⟨l1, l2⟩ := least_ok (d := d) C hD I hc hs ht
        rcases W.ways with ⟨hk, e25⟩ | ⟨hk, L, Z, hL, hl, hZ, e25⟩
        · rcases l2 with ⟨_, hlt⟩ | ⟨hk', _⟩
          · constructor
            · simp only [n5, n17_val, e17w, f1, hf, a1, a2, a3, a4, c1, c2, wn, z1, z2, W.n25, l1, decide_eq_true hlt, decide_true, cond_true, cond_false]; rfl
            · simp only [m5, e17w, hf, a3, c1, c2, wn, z1, z2, e25, z00, decide_eq_true hlt, decide_true, cond_true, cond_false]
          · rw [hk] at hk'; cases hk'
        · rcases l2 with ⟨hk', _⟩ | ⟨_, l2⟩
          · rw [hk] at hk'; cases hk'
          · have em := l2 ⟨L, hL, hl⟩
            have h0 := I.lo dst ht (I.ks dst ht hk)
            have len : (dst :: L).length = L.length + 1 := rfl
            obtain ⟨q1, q2⟩ := min_ok (P := dst :: L) (Z := Z) C hD hL (by rw [len]; omega) (fun q x hq hx => hZ q x (by rw [len] at hq; exact hq) (by rw [len] at hx; rw [show L.length + 1 - 1 - q = L.length - q by omega] at hx; exact hx)) d
            have q3 := q2 dst rfl
            rw [len] at q1 q3
            have zneg : decide (dsD E dst < 0) = false := decide_eq_false (by omega)
            have zl0 : decide ((0 : Int) < ((L.length + 1 : Nat) : Int)) = true := decide_eq_true (by omega)
            have zl1 : decide (((L.length + 1 : Nat) : Int) ≤ (n' : Int)) = true := decide_eq_true (by omega)
            have zl2 : decide ((0 : Int) ≤ (0 : Int) ∧ (0 : Int) < ((L.length + 1 : Nat) : Int)) = true := decide_eq_true ⟨by omega, by omega⟩
            have wl : IntKind.i64.wrap (((L.length + 1 : Nat) : Int) - 1) = (L.length : Int) := by rw [wr (by omega) (by omega)]; omega
            have zl3 : decide ((0 : Int) ≤ (L.length : Int) ∧ (L.length : Int) < ((L.length + 1 : Nat) : Int)) = true := decide_eq_true ⟨by omega, by omega⟩
            have zz : Z.ii L.length 0 = (dst : Int) := hZ L.length dst (by omega) (by rw [Nat.sub_self]; rfl)
            have z0 : Z.ii 0 0 = (src : Int) := by
              have hx : (dst :: L)[L.length]? = some (dst :: L)[L.length] := List.getElem?_eq_getElem (by rw [len]; omega)
              generalize (dst :: L)[L.length] = x at hx
              have := (ch_at (dst :: L) L.length x hL hx).2.2 len.symm
              rw [hZ 0 x (by omega) (by rw [Nat.sub_zero]; exact hx), this.1]
            constructor
            · simp only [n5, n17_val, e17w, f1, hf, a1, a2, a3, a4, c1, c2, wn, z1, z2, W.n25, l1, em, e25, zneg, zl0, zl1, zl2, zl3, wl, zz, z0, q1, Int.toNat_natCast, decide_true, cond_true, cond_false]; rfl
            · simp only [m5, e17w, hf, a3, c1, c2, wn, z1, z2, em, e25, zneg, zl0, zl1, wl, zz, z0, q3, Int.toNat_natCast, decide_true, cond_true, cond_false]
      · obtain ⟨w1, w2⟩ := way_out (a := a) (b := b) (show n' ≤ 1000 by omega) a4 c2 hp
        have zb : (bif (bif (m29 a 0 ((n' : Int) - 1)) then false else true) then true else (bif (m29 b 0 ((n' : Int) - 1)) then false else true)) = true := by
          by_cases ha : 0 ≤ a ∧ a ≤ (n' : Int) - 1
          · rw [m29_iff.2 ha, m29_f fun hb => hp ⟨ha, hb⟩]; rfl
          · rw [m29_f ha]; rfl
        constructor
        · simp only [n5, n17_val, e17w, f1, hf, a1, a2, a3, a4, c1, c2, wn, w1, zb, decide_true, cond_true, cond_false]; cases m29 a 0 ((n' : Int) - 1) <;> rfl
        · simp only [m5, e17w, hf, a3, c1, c2, wn, w2, zb, z00, decide_true, cond_true, cond_false]
    · obtain ⟨w1, w2⟩ := way_err (a := a) (b := b) a4 c2 he
      have z0 : decide (e0 = 0) = false := decide_eq_false he
      have z00 : decide ((((0 : Nat) : Int)) = 0) = true := rfl
      constructor
      · simp only [n5, n17_val, e17w, f1, hf, a1, a2, a3, a4, c1, c2, w1, z0, decide_true, cond_true, cond_false]; rfl
      · simp only [m5, e17w, hf, a3, c1, c2, w2, z0, z00, decide_true, cond_true, cond_false]
end Go.Proofs.Ytlaogoojkfjgoaa
