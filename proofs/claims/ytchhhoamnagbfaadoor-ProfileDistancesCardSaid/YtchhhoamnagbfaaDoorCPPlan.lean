/-
  Plans: the check, the points, the ends: plain law. Conditions: none.
-/
import Derived.KernelRfl
import Derived.Test.YtchhhoamnagbfaaDoorCPDepths
namespace Go.Proofs.YtchhhoamnagbfaaDoor
open Go Go.Sy
set_option linter.unusedVariables false
set_option linter.unusedSimpArgs false
set_option maxRecDepth 100000
attribute [local simp] brk
def sm (e : Dat) : Nat → Int
  | 0 => 0
  | i + 1 => sm e i + e.ii i 0
def dp (e : Dat) : Nat → Int
  | 0 => 0
  | i + 1 => e.ii i 1
def LegOk (ng : Nat) (e : Dat) (j : Nat) : Prop := (1 ≤ e.ii j 0 ∧ e.ii j 0 ≤ 1000000) ∧ (0 ≤ e.ii j 1 ∧ e.ii j 1 ≤ 30000) ∧ (0 ≤ e.ii j 2 ∧ e.ii j 2 < (ng : Int))
structure Pln (a : ByteArray) (b : Int) (ng : Nat) (g : Dat) (L : Nat) (e : Dat) : Prop where
  name : m64 a = true
  air : 400 ≤ b ∧ b ≤ 1100
  some : 1 ≤ ng
  few : ng ≤ 8
  gas : ∀ i, i < ng → m65 (g.ii i 0) (g.ii i 1) = 0
  legs : L ≤ 60
  leg : ∀ j, j < L → LegOk ng e j
  sum : ∀ j, j ≤ L → sm e j ≤ 1000000
section
variable {a : ByteArray} {b : Int} {ng : Nat} {g : Dat} {L : Nat} {e : Dat}
theorem Pln.dep (P : Pln a b ng g L e) {j : Nat} (h : j ≤ L) : 0 ≤ dp e j ∧ dp e j ≤ 30000 := by
  cases j with
  | zero => simp only [dp]; decide
  | succ j => exact (P.leg j (by omega)).2.1
end
end Go.Proofs.YtchhhoamnagbfaaDoor
