/-
  The distance of profiles, and of a profile from some of its points: plain law. Conditions: none.
-/
import Derived.Test.YtchhhoamnagbfaaDoorIPTrack
namespace Go.Proofs.YtchhhoamnagbfaaDoor
open Go Go.Sy
set_option linter.unusedVariables false
set_option linter.unusedSimpArgs false
set_option maxRecDepth 100000
attribute [local simp] brk
section
variable {n m : Nat} {d e : Dat}
end
structure Idx (n c : Nat) (D : Dat) : Prop where
  pos : 0 < c
  at_ : ∀ q, q < c → 0 ≤ D.ii q 0 ∧ D.ii q 0 < (n : Int)
  up : ∀ q, q + 1 < c → D.ii q 0 < D.ii (q + 1) 0
  first : D.ii 0 0 = 0
  last : D.ii (c - 1) 0 = (n : Int) - 1
def K (D : Dat) (q : Nat) : Nat := (D.ii q 0).toNat
section
variable {n c : Nat} {D : Dat} (I : Idx n c D)
include I
theorem Idx.k {q : Nat} (hq : q < c) : K D q < n ∧ ((K D q : Nat) : Int) = D.ii q 0 := by
  have := I.at_ q hq
  unfold K; omega
theorem Idx.ge : ∀ q, q < c → (q : Int) ≤ D.ii q 0
  | 0, _ => by rw [I.first]; exact Int.le_refl _
  | q + 1, h => by have := I.up q h; have := Idx.ge q (by omega); omega
theorem Idx.le : c ≤ n := by
  have h1 := I.ge (c - 1) (by have := I.pos; omega)
  rw [I.last] at h1
  have := I.pos
  omega
end
end Go.Proofs.YtchhhoamnagbfaaDoor
