/-
  The plain law of 'SiteNoShorter': the law's model is true, and its need. Conditions: none.
-/
import Derived.Test.YtlaogoojkfjgoaaS1
import Derived.Test.YtlaogoojkfjgoaaS2
import Derived.Test.YtlaogoojkfjgoaaS3
import Derived.Test.YtlaogoojkfjgoaaS4
import Derived.Test.YtlaogoojkfjgoaaS5
import Derived.Test.YtlaogoojkfjgoaaSFNoShorter
import Derived.Test.YtlaogoojkfjgoaaSPLoop
import Derived.Test.YtlaogoojkfjgoaaSPAng
import Derived.Test.YtlaogoojkfjgoaaSPChart
import Derived.Test.YtlaogoojkfjgoaaSPFlat
import Derived.Test.YtlaogoojkfjgoaaSPWay
import Derived.Test.YtlaogoojkfjgoaaSPWay2
import Derived.Test.YtlaogoojkfjgoaaSE17
namespace Go.Proofs.Ytlaogoojkfjgoaa
open Go Go.Sy
set_option linter.unusedVariables false
set_option linter.unusedSimpArgs false
set_option maxRecDepth 100000
theorem e17w : m17 = true := rfl
section
variable {n n' : Nat} {d d' : Dat} {src dst : Nat}
noncomputable def D0 (src : Nat) : Dat := (datC [SV.int IntKind.i64 0, SV.int IntKind.i64 0, SV.bool false, SV.bool false]).upd src 0 [SV.int IntKind.i64 (-1), SV.int IntKind.i64 0, SV.bool true, SV.bool false]
theorem unk_all (D : Dat) (h : ∀ q, knD D q = false) : ∀ K, unk D K = K
  | 0 => rfl
  | K + 1 => by simp only [unk, unk_all D h K, h K]; simp
theorem kn_zero (src q : Nat) : knD (D0 src) q = false := by
  by_cases h : q = src
  · subst h; exact (put_same _ _ _ _ _ _).2.2.2
  · exact (put_other _ h 0 _).2.2.2
theorem inv_zero (hs : src < n) : Inv n d' src 0 (fun _ => 0) (D0 src) := by
  obtain ⟨p1, p2, p3, p4⟩ := put_same (datC [SV.int IntKind.i64 0, SV.int IntKind.i64 0, SV.bool false, SV.bool false]) src (-1) 0 true false
  have oth : ∀ q, q ≠ src → byD (D0 src) q = 0 ∧ dsD (D0 src) q = 0 ∧ snD (D0 src) q = false ∧ knD (D0 src) q = false := fun q h => by
    obtain ⟨o1, o2, o3, o4⟩ := put_other (datC [SV.int IntKind.i64 0, SV.int IntKind.i64 0, SV.bool false, SV.bool false]) h 0 [SV.int IntKind.i64 (-1), SV.int IntKind.i64 0, SV.bool true, SV.bool false]
    exact ⟨o1, o2, o3, o4⟩
  have kF : ∀ q, knD (D0 src) q = false := fun q => by
    by_cases h : q = src
    · subst h; exact p4
    · exact (oth q h).2.2.2
  have sT : ∀ q, snD (D0 src) q = true → q = src := fun q hq => by
    apply Decidable.byContradiction
    intro h
    rw [(oth q h).2.2.1] at hq; cases hq
  refine ⟨fun q _ h => ?_, p3, p2, fun i k _ _ h => ?_, fun i k _ _ h => ?_, fun q _ h => ?_, fun q _ h => ?_, fun q _ h => ?_, fun q _ h => ?_, ?_⟩
  · rw [kF q] at h; cases h
  · rw [kF i] at h; cases h
  · rw [kF i] at h; cases h
  · rw [sT q h]; rw [show dsD (D0 src) src = 0 from p2]; exact Int.le_refl _
  · rw [sT q h]; rw [show dsD (D0 src) src = 0 from p2]; decide
  · have := sT q h; subst this; exact .inl ⟨p1, rfl, p2⟩
  · rw [kF q] at h; cases h
  · rw [unk_all _ kF]; omega
/-- What the program's way comes to, between places. -/
structure WayOk (n : Nat) (d : Dat) (n' : Nat) (d' : Dat) (src dst : Nat) (E : Dat) (rk : Nat → Nat) : Prop where
  n25 : n25 n d n' d' (src : Int) (dst : Int) = true
  ways : (knD E dst = false ∧ m25 n d n' d' (src : Int) (dst : Int) = (0, noDat, 0, 12)) ∨
    (knD E dst = true ∧ ∃ L Z, isCh n d' src rk E (dst :: L) ∧ L.length < n ∧ (∀ q x, q < L.length + 1 → (dst :: L)[L.length - q]? = some x → Z.ii q 0 = (x : Int)) ∧ m25 n d n' d' (src : Int) (dst : Int) = (L.length + 1, Z, dsD E dst, 0))
theorem way_ok (C : Cht n n' d') (g : n28 n d n' d' = true) (c : m28 n d n' d' = 0) (hs : src < n) (ht : dst < n) : ∃ c' rk E, Inv n d' src c' rk E ∧ (∀ q, q < n → ¬ Cand E q) ∧ WayOk n d n' d' src dst E rk := by
  have few := C.few
  have hr := C.rows
  subst hr
  obtain ⟨c', rk, E, I, hc, e⟩ := search_run C hs (dst : Int) d n' ((dst : Int).toNat + n' + (m86 n' (D0 src)).toNat + n' + n' + 8) 0 (fun _ => 0) (D0 src) (inv_zero hs) (by rw [unk_all _ (kn_zero src)]; exact Nat.le_refl _) (by omega)
  have o1 : o25_0 (dst : Int) n' n' d n' d' (m86 n' (D0 src)) (D0 src) = some E := e
  refine ⟨c', rk, E, I, hc, ?_⟩
  obtain ⟨n86, _⟩ := near_ok (show n' ≤ 1000 by omega) (D0 src)
  have wn : IntKind.i64.wrap ((n' : Int) - 1) = (n' : Int) - 1 := wr (by omega) (by omega)
  have z1 : m29 (src : Int) 0 ((n' : Int) - 1) = true := m29_iff.2 ⟨by omega, by omega⟩
  have z2 : m29 (dst : Int) 0 ((n' : Int) - 1) = true := m29_iff.2 ⟨by omega, by omega⟩
  have z3 : decide (0 ≤ (n' : Int) ∧ (n' : Int) ≤ (n' : Int) ∧ (n' : Int) ≤ 1073741824) = true := decide_eq_true ⟨by omega, by omega, by omega⟩
  have z4 : decide (src < n') = true := decide_eq_true hs
  have z5 : decide (dst < n') = true := decide_eq_true ht
  have ed : (datC [SV.int IntKind.i64 0, SV.int IntKind.i64 0, SV.bool false, SV.bool false]).upd src 0 [SV.int IntKind.i64 (-1), SV.int IntKind.i64 0, SV.bool true, SV.bool false] = D0 src := rfl
  have ek : E.bb dst 3 = knD E dst := rfl
  cases hk : knD E dst with
  | false =>
    refine ⟨?_, .inl ⟨hk, ?_⟩⟩
    · simp only [Go.Proofs.Ytlaogoojkfjgoaa.n25, g, c, m85, m96_m29, wn, z1, z2, z3, z4, z5, cdd hs, cdd ht, ed, n86, o1, Int.toNat_natCast, Nat.zero_add, decide_eq_true (Nat.le_refl n'), ek, hk, Option.isSome_some, Option.getD_some, decide_true, cond_true, cond_false]; rfl
    · simp only [Go.Proofs.Ytlaogoojkfjgoaa.m25, c, m85, m96_m29, wn, z1, z2, ed, o1, Int.toNat_natCast, ek, hk, Option.getD_some, decide_true, cond_true, cond_false]
  | true =>
    have hrk := I.rkb dst ht hk
    have hcn := I.cnt
    obtain ⟨L, Y, h1, h2, h3, _, h5⟩ := back_run (show n' ≤ 1000 by omega) I (dst : Int) d n' dst ((dst : Int).toNat + n' + 0 + (dst : Int).toNat + n' + n' + 8) 0 noDat ht hk (by omega) (by omega) (by omega)
    rw [show 0 + (L.length + 1) = L.length + 1 by omega] at h5
    have o2 : o25_4 (dst : Int) n' n' d n' d' E 0 (dst : Int) noDat = some (L.length + 1, L.length + 1, Y) := h5
    obtain ⟨r1, Z, r2, r3⟩ := rev_ok (m := L.length + 1) (by omega) (by omega) Y
    have dsE : E.ii dst 1 = dsD E dst := rfl
    refine ⟨?_, .inr ⟨hk, L, Z, h1, h2, fun q x hq hx => ?_, ?_⟩⟩
    · simp only [Go.Proofs.Ytlaogoojkfjgoaa.n25, g, c, m85, m96_m29, wn, z1, z2, z3, z4, z5, cdd hs, cdd ht, ed, n86, o1, o2, r1, r3, Int.toNat_natCast, Nat.zero_add, decide_eq_true (Nat.le_refl n'), decide_eq_true (Nat.le_refl (L.length + 1)), ek, hk, Option.isSome_some, Option.getD_some, decide_true, cond_true, cond_false]; rfl
    · rw [r2 q hq]
      have := h3 (L.length - q) x hx
      rw [show 0 + (L.length - q) = L.length + 1 - 1 - q by omega] at this
      exact this
    · simp only [Go.Proofs.Ytlaogoojkfjgoaa.m25, c, m85, m96_m29, wn, z1, z2, ed, o1, o2, r3, Int.toNat_natCast, ek, hk, dsE, Option.getD_some, decide_true, cond_true, cond_false]
/-- Any walk is at least as long as the least way to its end. -/
theorem walk_run {c' : Nat} {rk : Nat → Nat} {E D : Dat} {n1 : Nat} {p : Dat} (C : Cht n n d') (hA : Agree n D d') (I : Inv n D src c' rk E) (hc : ∀ q, q < n → ¬ Cand E q) (h8 : n1 ≤ 8) (hp : p.ii 0 0 = (src : Int)) (hs : src < n) (dd : Dat) : ∀ (k i f : Nat) (t : Int), i + k = n1 → k < f → 0 ≤ t → t ≤ 10000 * (i : Int) →
    (i = 0 ∧ t = 0 ∨ 0 < i ∧ ∃ a : Nat, p.ii (i - 1) 0 = (a : Int) ∧ a < n ∧ knD E a = true ∧ dsD E a ≤ t) →
    (∃ x, l6_0 n1 p n dd n d' f t (i : Int) = some (true, (true, x), default)) ∨ ∃ S, l6_0 n1 p n dd n d' f t (i : Int) = some (false, default, S) ∧ (0 < n1 → ∃ a : Nat, p.ii (n1 - 1) 0 = (a : Int) ∧ a < n ∧ knD E a = true ∧ dsD E a ≤ S)
  | 0, i, f, t, hi, hf, h0, h1, h => by
    obtain ⟨f, rfl⟩ : ∃ g, f = g + 1 := ⟨f - 1, by omega⟩
    obtain rfl : i = n1 := by omega
    refine .inr ⟨t, by simp only [l6_0, cdn, cond_false], fun hn => ?_⟩
    rcases h with ⟨a, _⟩ | ⟨_, h⟩
    · omega
    · exact h
  | k + 1, i, f, t, hi, hf, h0, h1, h => by
    obtain ⟨f, rfl⟩ : ∃ g, f = g + 1 := ⟨f - 1, by omega⟩
    have hlt : i < n1 := by omega
    have few := C.few
    have wn : IntKind.i64.wrap ((n : Int) - 1) = (n : Int) - 1 := wr (by omega) (by omega)
    have known : ∀ a, a < n → snD E a = true → knD E a = true := fun a ha hs => by
      cases hk : knD E a with
      | true => rfl
      | false => exact absurd ⟨hs, hk⟩ (hc a ha)
    by_cases hpl : 0 ≤ p.ii i 0 ∧ p.ii i 0 ≤ (n : Int) - 1
    · have z1 : m29 (p.ii i 0) 0 ((n : Int) - 1) = true := m29_iff.2 hpl
      obtain ⟨b, hb⟩ : ∃ b : Nat, p.ii i 0 = (b : Int) := ⟨(p.ii i 0).toNat, by omega⟩
      have hbn : b < n := by omega
      by_cases hi0 : 0 < i
      · obtain ⟨a, a1, a2, a3, a4⟩ : ∃ a : Nat, p.ii (i - 1) 0 = (a : Int) ∧ a < n ∧ knD E a = true ∧ dsD E a ≤ t := by
          rcases h with ⟨e, _⟩ | ⟨_, h⟩
          · omega
          · exact h
        have w : IntKind.i64.wrap ((i : Int) - 1) = (i : Int) - 1 := wr (by omega) (by omega)
        have ti : ((i : Int) - 1).toNat = i - 1 := by omega
        have zi : decide ((0 : Int) < (i : Int)) = true := decide_eq_true (by omega)
        have zp : decide (0 ≤ (i : Int) - 1 ∧ (i : Int) - 1 < (n1 : Int)) = true := decide_eq_true ⟨by omega, by omega⟩
        have em : (d'.sub a 0).ii b 0 = mn d' a b := rfl
        have lo := C.lo a b a2 hbn
        have hi' := C.hi a b a2 hbn
        by_cases hneg : mn d' a b < 0
        · refine .inl ⟨t, ?_⟩
          simp only [l6_0, cdl hlt, cdd hlt, Int.toNat_natCast, wn, z1, w, ti, zi, zp, a1, hb, cdd a2, cdd hbn, C.row a a2, em, decide_eq_true hneg, cond_true, cond_false]
          rw [← hb, z1]; rfl
        · have w2 : IntKind.i64.wrap (t + mn d' a b) = t + mn d' a b := wr (by omega) (by omega)
          have e : l6_0 n1 p n dd n d' (f + 1) t (i : Int) = l6_0 n1 p n dd n d' f (t + mn d' a b) ((i + 1 : Nat) : Int) := by
            have z1' : m29 (b : Int) 0 ((n : Int) - 1) = true := by rw [← hb]; exact z1
            simp only [l6_0, cdl hlt, cdd hlt, Int.toNat_natCast, wn, z1', w, ti, zi, zp, a1, hb, cdd a2, cdd hbn, C.row a a2, em, decide_eq_false hneg, w2, wrS hlt (by omega), cond_true, cond_false]
          rw [e]
          have m2 : mn D a b = mn d' a b := mn_agree hA a2 b
          obtain ⟨x, y⟩ := I.tri a b a2 hbn a3 (by rw [m2]; omega)
          rw [m2] at y
          exact walk_run C hA I hc h8 hp hs dd k (i + 1) f (t + mn d' a b) (by omega) (by omega) (by omega) (by omega) (.inr ⟨by omega, b, by rw [Nat.add_sub_cancel]; exact hb, hbn, known b hbn x, by omega⟩)
      · obtain rfl : i = 0 := by omega
        have zi : decide ((0 : Int) < ((0 : Nat) : Int)) = false := rfl
        have e : l6_0 n1 p n dd n d' (f + 1) t ((0 : Nat) : Int) = l6_0 n1 p n dd n d' f t ((0 + 1 : Nat) : Int) := by
          simp only [l6_0, cdl hlt, cdd hlt, Int.toNat_natCast, wn, z1, zi, wrS hlt (by omega), cond_true, cond_false]
        rw [e]
        exact walk_run C hA I hc h8 hp hs dd k (0 + 1) f t (by omega) (by omega) h0 (by omega) (.inr ⟨by omega, src, hp, hs, known src hs I.s0, by rw [I.s1]; exact h0⟩)
    · have z1 : m29 (p.ii i 0) 0 ((n : Int) - 1) = false := m29_f hpl
      exact .inl ⟨t, by simp only [l6_0, cdl hlt, cdd hlt, Int.toNat_natCast, wn, z1, cond_true, cond_false]⟩
end
theorem lawNoShorter (n : Nat) (d : Dat) (n' : Nat) (d' : Dat) (n1 : Nat) (p : Dat) (hn : n ≤ 9223372036854775807) (hn' : n' ≤ 9223372036854775807) : n6 n d n' d' n1 p = true ∧ m6 n d n' d' n1 p = true := by
  obtain ⟨f1, f2⟩ := flat_ok d d' hn hn'
  cases hf : m24 n d n' d' with
  | false =>
    constructor
    · simp only [n6, n17_val, e17w, f1, hf, cond_true, cond_false]; rfl
    · simp only [m6, e17w, hf, cond_true, cond_false]
  | true =>
    obtain ⟨k1, k2, k3⟩ := f2 hf
    obtain ⟨a1, a2, D, hD, a3, a4, a5⟩ := chart_both (n := n) (d := d) (n' := n') (d' := d') (by omega) (by omega) (fun i hi => by have := k3 i hi; omega)
    rcases a5 with ⟨C, C', c1, c2⟩ | ⟨e0, he, c1, c2⟩
    · by_cases g1 : n1 = 0
      · subst g1
        have z : decide (((0 : Nat) : Int) = 0) = true := rfl
        constructor
        · simp only [n6, n17_val, e17w, f1, hf, a2, c1, z, decide_true, cond_true, cond_false]; rfl
        · simp only [m6, e17w, hf, c1, z, decide_true, cond_true, cond_false]
      · have z1 : decide ((n1 : Int) = 0) = false := decide_eq_false (by omega)
        by_cases g2 : 8 < n1
        · have z : decide ((8 : Int) < (n1 : Int)) = true := decide_eq_true (by omega)
          constructor
          · simp only [n6, n17_val, e17w, f1, hf, a2, c1, z1, z, decide_true, cond_true, cond_false]; rfl
          · simp only [m6, e17w, hf, c1, z1, z, decide_true, cond_true, cond_false]
        · have z2 : decide ((8 : Int) < (n1 : Int)) = false := decide_eq_false (by omega)
          have hr := C.rows
          subst hr
          have few := C.few
          have hn1 : 0 < n1 := by omega
          have w1 : IntKind.i64.wrap ((n1 : Int) - 1) = (n1 : Int) - 1 := wr (by omega) (by omega)
          have t1 : ((n1 : Int) - 1).toNat = n1 - 1 := by omega
          have z3 : decide ((0 : Int) ≤ 0 ∧ (0 : Int) < (n1 : Int)) = true := decide_eq_true ⟨by omega, by omega⟩
          have z4 : decide (0 ≤ (n1 : Int) - 1 ∧ (n1 : Int) - 1 < (n1 : Int)) = true := decide_eq_true ⟨by omega, by omega⟩
          have g2' : n1 ≤ 8 := by omega
          have wn : IntKind.i64.wrap ((n' : Int) - 1) = (n' : Int) - 1 := wr (by omega) (by omega)
          by_cases hp0 : 0 ≤ p.ii 0 0 ∧ p.ii 0 0 ≤ (n' : Int) - 1
          · obtain ⟨src, hsrc⟩ : ∃ b : Nat, p.ii 0 0 = (b : Int) := ⟨(p.ii 0 0).toNat, by omega⟩
            have hs : src < n' := by omega
            obtain ⟨c0, rk0, E0, I0, hc0, _⟩ := way_ok C' a4 c2 hs hs
            rcases walk_run C hD I0 hc0 (show n1 ≤ 8 by omega) hsrc hs d n1 0 (n1 + (0 : Int).toNat + (0 : Int).toNat + n' + n' + 8) 0 (by omega) (by omega) (Int.le_refl _) (by omega) (.inl ⟨rfl, rfl⟩) with ⟨x, e⟩ | ⟨S, e, hS⟩
            · have o : o6_0 n1 p n' d n' d' 0 0 = some (true, (true, x), default) := e
              constructor
              · simp only [n6, n17_val, e17w, f1, hf, a2, c1, z1, z2, o, Option.isSome_some, Option.getD_some, decide_true, cond_true, cond_false]; rfl
              · simp only [m6, e17w, hf, c1, z1, z2, o, Option.getD_some, decide_true, cond_true, cond_false]
            · have o : o6_0 n1 p n' d n' d' 0 0 = some (false, default, S) := e
              obtain ⟨b, b1, b2, _, _⟩ := hS hn1
              clear hS
              obtain ⟨c', rk, E, I, hc, W⟩ := way_ok C' a4 c2 hs b2
              rcases walk_run C hD I hc g2' hsrc hs d n1 0 (n1 + (0 : Int).toNat + (0 : Int).toNat + n' + n' + 8) 0 (by omega) (by omega) (Int.le_refl _) (by omega) (.inl ⟨rfl, rfl⟩) with ⟨x, e'⟩ | ⟨S', e', hS'⟩
              · rw [e] at e'; cases e'
              · rw [e] at e'
                have hSS : S = S' := by simpa using e'
                subst hSS
                obtain ⟨b', b1', b2', b3', b4'⟩ := hS' hn1
                clear hS'
                have hbb : b' = b := by rw [b1] at b1'; omega
                subst hbb
                rcases W.ways with ⟨hk, _⟩ | ⟨hk, L, Z, _, _, _, e25⟩
                · rw [b3'] at hk; cases hk
                · constructor
                  · simp only [n6, n17_val, e17w, f1, hf, a1, a2, a3, c1, z1, z2, o, w1, t1, z3, z4, hsrc, b1, W.n25, Option.isSome_some, Option.getD_some, decide_true, cond_true, cond_false]; rfl
                  · simp only [m6, e17w, hf, a3, c1, z1, z2, o, w1, t1, hsrc, b1, e25, Option.getD_some, decide_true, cond_true, cond_false]
                    exact decide_eq_true b4'
          · have o : o6_0 n1 p n' d n' d' 0 0 = some (true, (true, 0), default) := by
              obtain ⟨g, hg⟩ : ∃ g, n1 + (0 : Int).toNat + (0 : Int).toNat + n' + n' + 8 = g + 1 := ⟨_, rfl⟩
              have hlt : 0 < n1 := by omega
              have q1 : decide ((0 : Int) < (n1 : Int)) = true := decide_eq_true (by omega)
              have q2 : decide ((0 : Int) ≤ 0 ∧ (0 : Int) < (n1 : Int)) = true := decide_eq_true ⟨by omega, by omega⟩
              have zz : m29 (p.ii 0 0) 0 ((n' : Int) - 1) = false := m29_f hp0
              show l6_0 n1 p n' d n' d' (n1 + (0 : Int).toNat + (0 : Int).toNat + n' + n' + 8) 0 0 = _
              rw [hg]
              have t0 : (0 : Int).toNat = 0 := rfl
              simp only [l6_0, q1, q2, t0, wn, zz, cond_true, cond_false]
            constructor
            · simp only [n6, n17_val, e17w, f1, hf, a2, c1, z1, z2, o, Option.isSome_some, Option.getD_some, decide_true, cond_true, cond_false]; rfl
            · simp only [m6, e17w, hf, c1, z1, z2, o, Option.getD_some, decide_true, cond_true, cond_false]
    · constructor
      · simp only [n6, n17_val, e17w, f1, hf, a2, c1, decide_eq_false he, cond_true, cond_false]; rfl
      · simp only [m6, e17w, hf, c1, decide_eq_false he, cond_true, cond_false]
end Go.Proofs.Ytlaogoojkfjgoaa
