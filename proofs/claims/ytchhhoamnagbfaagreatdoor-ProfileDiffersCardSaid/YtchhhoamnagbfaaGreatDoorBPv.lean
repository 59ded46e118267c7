/-
  The table is in each world that the row speaks of. Conditions: none.
-/
import Derived.Test.YtchhhoamnagbfaaGreatDoorBSyX
import Derived.Test.YtchhhoamnagbfaaGreatDoorBSyHd
import Derived.Test.YtchhhoamnagbfaaGreatDoorRows
import Derived.LaidSub
import Derived.LaidMore
import Derived.MakeChecks
import Derived.Lib.LaidTab
import Derived.KernelRfl
import Derived.Test.YtchhhoamnagbfaaGreatDoorB6
namespace Go.Proofs.YtchhhoamnagbfaaGreatDoor
open Go Go.Sy
set_option maxRecDepth 100000
def laidL : List (String × DataW Unit) := [("math/bits.deBruijn32tab", Rows.laid_math_bits_deBruijn32tab), ("math/bits.deBruijn64tab", Rows.laid_math_bits_deBruijn64tab), ("internal/strconv.uint64pow10", Rows.laid_internal_strconv_uint64pow10), ("unicode/utf8.acceptRanges", Rows.laid_unicode_utf8_acceptRanges), ("unicode/utf8.first", Rows.laid_unicode_utf8_first)]
theorem pv_laid (w : World) (h : laidMetH Tryz.prog laidL w) : PvOk w := by
  have h1 := laidMetH.filter (fun x => x.1 == "internal/strconv.uint64pow10") h
  rw [show laidL.filter (fun x => x.1 == "internal/strconv.uint64pow10") = [("internal/strconv.uint64pow10", Lib.tabData .u64 Lib.pow10Tab)] by kernel_rfl, MakeChecks.laidMetH_plain _ _ _ (by kernel_rfl)] at h1
  have h2 := Lib.tabIs_of_head (g := 1) (by kernel_rfl) (by kernel_rfl) Tryz.underlying144 Tryz.underlying133 (by kernel_rfl) (by kernel_rfl) h1
  unfold Lib.TabIs World.var? at h2
  rw [show Tryz.prog.globalNamed "internal/strconv.uint64pow10" = some 1 by kernel_rfl, pow10_eq] at h2
  simp only [Option.bind_some] at h2
  split at h2
  · rename_i cs t z e
    cases h2
    exact ⟨_, _, e⟩
  · cases h2
end Go.Proofs.YtchhhoamnagbfaaGreatDoor
