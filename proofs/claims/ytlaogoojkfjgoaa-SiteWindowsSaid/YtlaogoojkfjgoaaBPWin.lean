/-
  Windows of the minutes that have something: as a list, in the program, in the reference. Conditions: none.
-/
import Derived.Test.YtlaogoojkfjgoaaBPTide
namespace Go.Proofs.Ytlaogoojkfjgoaa
open Go Go.Sy
set_option linter.unusedVariables false
set_option linter.unusedSimpArgs false
set_option maxRecDepth 100000
attribute [local simp] brk
def Rep (n : Nat) (d : Dat) (L : List (Int × Int)) : Prop := n = L.length ∧ ∀ i w, L[i]? = some w → d.ii (n - 1 - i) 0 = w.1 ∧ d.ii (n - 1 - i) 1 = w.2
theorem rep_nil : Rep 0 noDat [] := ⟨rfl, fun i w h => by simp at h⟩
theorem rep_app {n : Nat} {d : Dat} {L : List (Int × Int)} (h : Rep n d L) (a b : Int) : Rep (n + 1) (d.app n (datS [.int .i64 a, .int .i64 b] 2)) ((a, b) :: L) := by
  obtain ⟨h1, h2⟩ := h
  refine ⟨by simp [h1], fun i w hw => ?_⟩
  cases i with
  | zero =>
    simp at hw; subst hw
    have e : Nat.blt n n = false := blt_f (Nat.lt_irrefl n)
    have e0 : n + 1 - 1 - 0 = n := by omega
    rw [e0]
    constructor
    · show cond (Nat.blt n n) _ _ = a; rw [e, Nat.sub_self]; rfl
    · show cond (Nat.blt n n) _ _ = b; rw [e, Nat.sub_self]; rfl
  | succ i =>
    have hw' : L[i]? = some w := by simpa using hw
    obtain ⟨g1, g2⟩ := h2 i w hw'
    have hi : i < n := by rw [h1]; exact (List.getElem?_eq_some_iff.1 hw').1
    have e0 : n + 1 - 1 - (i + 1) = n - 1 - i := by omega
    have e : Nat.blt (n - 1 - i) n = true := blt_t (by omega)
    rw [e0]
    constructor
    · show cond (Nat.blt (n - 1 - i) n) _ _ = w.1; rw [e]; exact g1
    · show cond (Nat.blt (n - 1 - i) n) _ _ = w.2; rw [e]; exact g2
theorem rep_upd {n : Nat} {d : Dat} {a b : Int} {T : List (Int × Int)} (h : Rep n d ((a, b) :: T)) (x : Int) : Rep n (d.upd (n - 1) 1 [.int .i64 x]) ((a, x) :: T) := by
  obtain ⟨h1, h2⟩ := h
  refine ⟨by simpa using h1, fun i w hw => ?_⟩
  cases i with
  | zero =>
    simp at hw; subst hw
    obtain ⟨g1, g2⟩ := h2 0 (a, b) rfl
    rw [Nat.sub_zero] at g1 g2 ⊢
    simp only [Dat.upd, if_true]
    exact ⟨by simpa using g1, by simp⟩
  | succ i =>
    have hw' : T[i]? = some w := by simpa using hw
    obtain ⟨g1, g2⟩ := h2 (i + 1) w (by simpa using hw')
    have hi : i < T.length := (List.getElem?_eq_some_iff.1 hw').1
    have hn : n - 1 - (i + 1) ≠ n - 1 := by simp at h1; omega
    simp only [Dat.upd, if_neg hn]
    exact ⟨g1, g2⟩
theorem rep_head {n : Nat} {d : Dat} {a b : Int} {T : List (Int × Int)} (h : Rep n d ((a, b) :: T)) : 0 < n ∧ d.ii (n - 1) 0 = a ∧ d.ii (n - 1) 1 = b := by
  obtain ⟨h1, h2⟩ := h
  obtain ⟨g1, g2⟩ := h2 0 (a, b) rfl
  rw [Nat.sub_zero] at g1 g2
  exact ⟨by simp at h1; omega, g1, g2⟩
theorem rep_same {n n' : Nat} {d d' : Dat} {L : List (Int × Int)} (h : Rep n d L) (h' : Rep n' d' L) : n = n' ∧ ∀ q, q < n → d.ii q 0 = d'.ii q 0 ∧ d.ii q 1 = d'.ii q 1 := by
  have e : n = n' := h.1.trans h'.1.symm
  subst e
  refine ⟨rfl, fun q hq => ?_⟩
  have hl : n - 1 - q < L.length := by have := h.1; omega
  obtain ⟨g1, g2⟩ := h.2 (n - 1 - q) _ (List.getElem?_eq_getElem hl)
  obtain ⟨k1, k2⟩ := h'.2 (n - 1 - q) _ (List.getElem?_eq_getElem hl)
  rw [show n - 1 - (n - 1 - q) = q by omega] at g1 g2 k1 k2
  exact ⟨g1.trans k1.symm, g2.trans k2.symm⟩
theorem m46_same {n : Nat} {d d' : Dat} (hn : n ≤ 9223372036854775807) (h : ∀ q, q < n → d.ii q 0 = d'.ii q 0 ∧ d.ii q 1 = d'.ii q 1) : n46 n d n d' = true ∧ m46 n d n d' = true := by
  have r : o46_0 n d n d' 0 = some (first (fun _ => none) (false, default, ()) n 0) := by
    refine loop_first (l := l46_0 n d n d') hn (fun f i hi => ?_) (fun f => by simp only [l46_0, cdn]; rfl) n 0 _ (by omega) (by omega)
    obtain ⟨g1, g2⟩ := h i hi
    simp only [l46_0, cdl hi, cdd hi, cond_true, Int.toNat_natCast, g1, g2, decide_true, cond_false, brk]
  rw [first_none (fun _ _ _ => rfl)] at r
  constructor
  · simp only [n46, r, decide_true, cond_true, cond_false, Option.isSome_some]; rfl
  · simp only [m46, r, decide_true, cond_true, cond_false, Option.getD_some]
section
variable {M : Int} {n : Nat} {d : Dat} {l : Int} {s : Bool}
end
end Go.Proofs.Ytlaogoojkfjgoaa
