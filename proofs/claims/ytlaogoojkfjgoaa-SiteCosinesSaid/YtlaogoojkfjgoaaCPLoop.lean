/-
  Loops over numbers, as functions of natural numbers. Conditions: none.
-/
import Derived.Test.YtlaogoojkfjgoaaSyV
import Derived.Test.YtlaogoojkfjgoaaCFCosines
namespace Go.Sy
open Go
theorem wrp {n : Int} (h0 : -9223372036854775808 ≤ n) (h1 : n ≤ 9223372036854775807) : IntKind.i64.wrap n = n := by
  simp [IntKind.wrap, IntKind.bits, IntKind.signed]; omega
/-- What the first of k numbers from i gives that gives something; or e. -/
def first {β : Type} (g : Nat → Option β) (e : β) : Nat → Nat → β
  | 0, _ => e
  | k + 1, i => match g i with | some b => b | none => first g e k (i + 1)
section
variable {β : Type} {g : Nat → Option β} {e : β}
end
end Go.Sy
