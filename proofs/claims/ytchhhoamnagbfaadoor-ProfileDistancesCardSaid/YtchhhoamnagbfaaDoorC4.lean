/-
  Contracts of functions: models, equations by the kernel, contracts. Conditions: none.
-/
import Derived.Test.YtchhhoamnagbfaaDoorC3
import Derived.KernelRfl
namespace Go.Proofs.YtchhhoamnagbfaaDoor
open Go Go.Sy
set_option linter.unusedVariables false
set_option linter.unusedSimpArgs false
set_option maxRecDepth 100000
set_option maxHeartbeats 2000000
/-! ### strconv.Itoa -/
noncomputable def m88 (a0 : Int) : ByteArray := ⟨(Lib.itoa a0).toArray⟩
noncomputable def n88 (a0 : Int) : Bool := decide (-9223372036854775808 ≤ a0 ∧ a0 ≤ 9223372036854775807)
noncomputable def q88 (r : ByteArray) : SV × List Blk × List Blk := (.str r, [], [])
noncomputable def g88 : List SV → List Blk → Option OpRes := fun vs bs => match vs, bs with
  | [.int .i64 a0], [] => some (resOf 0 (q88 (m88 a0)) [n88 a0])
  | _, _ => none
noncomputable def c88 : Ctr := genC [.k] g88
theorem k88 : CtrOk Tryd.prog c88 88 := by
  refine ctr_gen ⟨Tryd.f88, Tryd.func88, rfl, by kernel_rfl⟩ fun vs bs q hq hn ρ1 M xs w hd hm hfr hMb => ?_
  unfold g88 at hq
  split at hq <;> cases hq
  rename_i n
  have hr := hn _ (List.mem_singleton.2 rfl)
  have hr : -9223372036854775808 ≤ n ∧ n ≤ 9223372036854775807 := by simpa [n88] using hr
  match xs, hd with
  | [x], ⟨hx, _⟩ =>
  obtain rfl : x = .int .i64 n := hx
  refine (Any.strconv_Itoa itoaR n hr.1 hr.2 w (tab_of hm.pv)).mono ?_
  rintro e w' ⟨rfl, k, os, rfl⟩
  exact ⟨_, ρ1, rfl, post_val rfl (grow_below w k os)⟩
attribute [irreducible] m88
/-! ### strings.TrimRight -/
noncomputable def m110 (a0 : ByteArray) : ByteArray := ⟨(Lib.trimRightB a0.data.toList 48).toArray⟩
noncomputable def n110 (a0 : ByteArray) (a1 : ByteArray) : Bool := decide (a1 = ⟨#[48]⟩) && decide (a0.size ≤ 1000000)
noncomputable def q110 (r : ByteArray) : SV × List Blk × List Blk := (.str r, [], [])
noncomputable def g110 : List SV → List Blk → Option OpRes := fun vs bs => match vs, bs with
  | [.str a0, .str a1], [] => some (resOf 0 (q110 (m110 a0)) [n110 a0 a1])
  | _, _ => none
noncomputable def c110 : Ctr := genC [.k, .k] g110
theorem k110 : CtrOk Tryd.prog c110 110 := by
  refine ctr_gen ⟨Tryd.f110, Tryd.func110, rfl, by kernel_rfl⟩ fun vs bs q hq hn ρ1 M xs w hd hm hfr hMb => ?_
  unfold g110 at hq
  split at hq <;> cases hq
  rename_i s c
  have hr := hn _ (List.mem_singleton.2 rfl)
  simp only [n110, Bool.and_eq_true, decide_eq_true_eq] at hr
  obtain ⟨rfl, hs⟩ := hr
  match xs, hd with
  | [x, y], ⟨hx, hy, _⟩ =>
  obtain rfl : x = .string s := hx
  obtain rfl : y = .string ⟨#[48]⟩ := hy
  refine (Any.strings_TrimRight_one trimR s 48 (by decide) w (by omega)).mono ?_
  rintro e w' ⟨rfl, rfl⟩
  exact ⟨_, ρ1, rfl, post_val rfl (RowKit.Below.refl _ _)⟩
attribute [irreducible] m110
end Go.Proofs.YtchhhoamnagbfaaDoor
