/-
  The plain law of 'SiteNoShorter': the law's model is true, and its need. Conditions: none.
-/
import Derived.Test.YtlaogoojkfjgoaaT1
import Derived.Test.YtlaogoojkfjgoaaT2
import Derived.Test.YtlaogoojkfjgoaaT3
import Derived.Test.YtlaogoojkfjgoaaTFCharts
import Derived.Test.YtlaogoojkfjgoaaTPLoop
import Derived.Test.YtlaogoojkfjgoaaTPAng
import Derived.Test.YtlaogoojkfjgoaaTPChart
import Derived.Test.YtlaogoojkfjgoaaTPFlat
import Derived.Test.YtlaogoojkfjgoaaTPWay
import Derived.Test.YtlaogoojkfjgoaaTPWay2
import Derived.Test.YtlaogoojkfjgoaaTE17
namespace Go.Proofs.Ytlaogoojkfjgoaa
open Go Go.Sy
set_option linter.unusedVariables false
set_option linter.unusedSimpArgs false
set_option maxRecDepth 100000
theorem e17w : m17 = true := rfl
section
variable {n n' : Nat} {d d' : Dat} {src dst : Nat}
noncomputable def D0 (src : Nat) : Dat := (datC [SV.int IntKind.i64 0, SV.int IntKind.i64 0, SV.bool false, SV.bool false]).upd src 0 [SV.int IntKind.i64 (-1), SV.int IntKind.i64 0, SV.bool true, SV.bool false]
theorem unk_all (D : Dat) (h : ∀ q, knD D q = false) : ∀ K, unk D K = K
  | 0 => rfl
  | K + 1 => by simp only [unk, unk_all D h K, h K]; simp
theorem kn_zero (src q : Nat) : knD (D0 src) q = false := by
  by_cases h : q = src
  · subst h; exact (put_same _ _ _ _ _ _).2.2.2
  · exact (put_other _ h 0 _).2.2.2
theorem inv_zero (hs : src < n) : Inv n d' src 0 (fun _ => 0) (D0 src) := by
  obtain ⟨p1, p2, p3, p4⟩ := put_same (datC [SV.int IntKind.i64 0, SV.int IntKind.i64 0, SV.bool false, SV.bool false]) src (-1) 0 true false
  have oth : ∀ q, q ≠ src → byD (D0 src) q = 0 ∧ dsD (D0 src) q = 0 ∧ snD (D0 src) q = false ∧ knD (D0 src) q = false := fun q h => by
    obtain ⟨o1, o2, o3, o4⟩ := put_other (datC [SV.int IntKind.i64 0, SV.int IntKind.i64 0, SV.bool false, SV.bool false]) h 0 [SV.int IntKind.i64 (-1), SV.int IntKind.i64 0, SV.bool true, SV.bool false]
    exact ⟨o1, o2, o3, o4⟩
  have kF : ∀ q, knD (D0 src) q = false := fun q => by
    by_cases h : q = src
    · subst h; exact p4
    · exact (oth q h).2.2.2
  have sT : ∀ q, snD (D0 src) q = true → q = src := fun q hq => by
    apply Decidable.byContradiction
    intro h
    rw [(oth q h).2.2.1] at hq; cases hq
  refine ⟨fun q _ h => ?_, p3, p2, fun i k _ _ h => ?_, fun i k _ _ h => ?_, fun q _ h => ?_, fun q _ h => ?_, fun q _ h => ?_, fun q _ h => ?_, ?_⟩
  · rw [kF q] at h; cases h
  · rw [kF i] at h; cases h
  · rw [kF i] at h; cases h
  · rw [sT q h]; rw [show dsD (D0 src) src = 0 from p2]; exact Int.le_refl _
  · rw [sT q h]; rw [show dsD (D0 src) src = 0 from p2]; decide
  · have := sT q h; subst this; exact .inl ⟨p1, rfl, p2⟩
  · rw [kF q] at h; cases h
  · rw [unk_all _ kF]; omega
/-- What the program's way comes to, between places. -/
structure WayOk (n : Nat) (d : Dat) (n' : Nat) (d' : Dat) (src dst : Nat) (E : Dat) (rk : Nat → Nat) : Prop where
  n25 : n25 n d n' d' (src : Int) (dst : Int) = true
  ways : (knD E dst = false ∧ m25 n d n' d' (src : Int) (dst : Int) = (0, noDat, 0, 12)) ∨
    (knD E dst = true ∧ ∃ L Z, isCh n d' src rk E (dst :: L) ∧ L.length < n ∧ (∀ q x, q < L.length + 1 → (dst :: L)[L.length - q]? = some x → Z.ii q 0 = (x : Int)) ∧ m25 n d n' d' (src : Int) (dst : Int) = (L.length + 1, Z, dsD E dst, 0))
theorem way_ok (C : Cht n n' d') (g : n28 n d n' d' = true) (c : m28 n d n' d' = 0) (hs : src < n) (ht : dst < n) : ∃ c' rk E, Inv n d' src c' rk E ∧ (∀ q, q < n → ¬ Cand E q) ∧ WayOk n d n' d' src dst E rk := by
  have few := C.few
  have hr := C.rows
  subst hr
  obtain ⟨c', rk, E, I, hc, e⟩ := search_run C hs (dst : Int) d n' ((dst : Int).toNat + n' + (m86 n' (D0 src)).toNat + n' + n' + 8) 0 (fun _ => 0) (D0 src) (inv_zero hs) (by rw [unk_all _ (kn_zero src)]; exact Nat.le_refl _) (by omega)
  have o1 : o25_0 (dst : Int) n' n' d n' d' (m86 n' (D0 src)) (D0 src) = some E := e
  refine ⟨c', rk, E, I, hc, ?_⟩
  obtain ⟨n86, _⟩ := near_ok (show n' ≤ 1000 by omega) (D0 src)
  have wn : IntKind.i64.wrap ((n' : Int) - 1) = (n' : Int) - 1 := wr (by omega) (by omega)
  have z1 : m29 (src : Int) 0 ((n' : Int) - 1) = true := m29_iff.2 ⟨by omega, by omega⟩
  have z2 : m29 (dst : Int) 0 ((n' : Int) - 1) = true := m29_iff.2 ⟨by omega, by omega⟩
  have z3 : decide (0 ≤ (n' : Int) ∧ (n' : Int) ≤ (n' : Int) ∧ (n' : Int) ≤ 1073741824) = true := decide_eq_true ⟨by omega, by omega, by omega⟩
  have z4 : decide (src < n') = true := decide_eq_true hs
  have z5 : decide (dst < n') = true := decide_eq_true ht
  have ed : (datC [SV.int IntKind.i64 0, SV.int IntKind.i64 0, SV.bool false, SV.bool false]).upd src 0 [SV.int IntKind.i64 (-1), SV.int IntKind.i64 0, SV.bool true, SV.bool false] = D0 src := rfl
  have ek : E.bb dst 3 = knD E dst := rfl
  cases hk : knD E dst with
  | false =>
    refine ⟨?_, .inl ⟨hk, ?_⟩⟩
    · simp only [Go.Proofs.Ytlaogoojkfjgoaa.n25, g, c, m85, m96_m29, wn, z1, z2, z3, z4, z5, cdd hs, cdd ht, ed, n86, o1, Int.toNat_natCast, Nat.zero_add, decide_eq_true (Nat.le_refl n'), ek, hk, Option.isSome_some, Option.getD_some, decide_true, cond_true, cond_false]; rfl
    · simp only [Go.Proofs.Ytlaogoojkfjgoaa.m25, c, m85, m96_m29, wn, z1, z2, ed, o1, Int.toNat_natCast, ek, hk, Option.getD_some, decide_true, cond_true, cond_false]
  | true =>
    have hrk := I.rkb dst ht hk
    have hcn := I.cnt
    obtain ⟨L, Y, h1, h2, h3, _, h5⟩ := back_run (show n' ≤ 1000 by omega) I (dst : Int) d n' dst ((dst : Int).toNat + n' + 0 + (dst : Int).toNat + n' + n' + 8) 0 noDat ht hk (by omega) (by omega) (by omega)
    rw [show 0 + (L.length + 1) = L.length + 1 by omega] at h5
    have o2 : o25_4 (dst : Int) n' n' d n' d' E 0 (dst : Int) noDat = some (L.length + 1, L.length + 1, Y) := h5
    obtain ⟨r1, Z, r2, r3⟩ := rev_ok (m := L.length + 1) (by omega) (by omega) Y
    have dsE : E.ii dst 1 = dsD E dst := rfl
    refine ⟨?_, .inr ⟨hk, L, Z, h1, h2, fun q x hq hx => ?_, ?_⟩⟩
    · simp only [Go.Proofs.Ytlaogoojkfjgoaa.n25, g, c, m85, m96_m29, wn, z1, z2, z3, z4, z5, cdd hs, cdd ht, ed, n86, o1, o2, r1, r3, Int.toNat_natCast, Nat.zero_add, decide_eq_true (Nat.le_refl n'), decide_eq_true (Nat.le_refl (L.length + 1)), ek, hk, Option.isSome_some, Option.getD_some, decide_true, cond_true, cond_false]; rfl
    · rw [r2 q hq]
      have := h3 (L.length - q) x hx
      rw [show 0 + (L.length - q) = L.length + 1 - 1 - q by omega] at this
      exact this
    · simp only [Go.Proofs.Ytlaogoojkfjgoaa.m25, c, m85, m96_m29, wn, z1, z2, ed, o1, o2, r3, Int.toNat_natCast, ek, hk, dsE, Option.getD_some, decide_true, cond_true, cond_false]
end
end Go.Proofs.Ytlaogoojkfjgoaa
