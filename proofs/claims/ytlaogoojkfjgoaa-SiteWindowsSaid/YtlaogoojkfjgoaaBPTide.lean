/-
  Tables of tides and their levels: program and reference alike. Conditions: none.
-/
import Derived.Test.YtlaogoojkfjgoaaBPFits
namespace Go.Proofs.Ytlaogoojkfjgoaa
open Go Go.Sy
set_option linter.unusedVariables false
set_option linter.unusedSimpArgs false
set_option maxRecDepth 100000
attribute [local simp] brk
noncomputable def hs (d : Dat) : Nat → Int
  | 0 => 0
  | k + 1 => hs d k + d.ii k 0
section
variable {n : Nat} {d : Dat} {t : Int}
end
end Go.Proofs.Ytlaogoojkfjgoaa
