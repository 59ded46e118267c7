/-
  Helpers of the contracts by hand. Conditions: none.
-/
import Derived.Test.YtchhhoamnagbfaaGreatDoorBSyY
import Derived.Test.YtchhhoamnagbfaaGreatDoorBSyLay
import Derived.Test.YtchhhoamnagbfaaGreatDoorBBase
namespace Go.Proofs.YtchhhoamnagbfaaGreatDoor
open Go Go.Sy
set_option linter.unusedVariables false
set_option maxRecDepth 100000
theorem pow10_eq : Lib.pow10Tab.map (fun z => Value.int .u64 z) = glT := by
  unfold Lib.pow10Tab glT
  rw [List.map_map]; rfl
theorem tab_of {w : World} (h : PvOk w) : Lib.TabIs Tryz.prog w "internal/strconv.uint64pow10" .u64 Lib.pow10Tab := by
  obtain ⟨t, z, h⟩ := h
  unfold Lib.TabIs World.var?
  rw [show Tryz.prog.globalNamed "internal/strconv.uint64pow10" = some 1 by kernel_rfl, pow10_eq]
  simp only [Option.bind_some, h]
theorem grow_below (w : World) (k : Nat) (os : Array Obj) : RowKit.Below w.heap.size w (Go.Sort.grow (w.drewN k) os) :=
  ⟨rfl, rfl, rfl, by simp [Go.Sort.grow], fun b hb => by
    show (w.heap ++ os)[b]? = w.heap[b]?
    rw [Array.getElem?_append_left hb]⟩
theorem post_val {ρ : Env} {off : Nat} {v : SV} {ns : List Bool} {w w' : World} {x : Value} (hx : v.den ρ x) (hB : RowKit.Below w.heap.size w w') : OpPost ρ ρ off { v := v, need := ns } w w' x :=
  ⟨hx, Ext.refl _, fun _ _ => rfl, hB.os, hB.tape, hB.output, hB.size, fun b hb _ => hB.block b hb, fun _ _ _ h => .inl h, fun u hu => by simp at hu, fun j b hj => by simp at hj, fun j j' b b' m m' hne hj => by simp at hj⟩
end Go.Proofs.YtchhhoamnagbfaaGreatDoor
