/-
  Contracts of functions: models, equations by the kernel, contracts. Conditions: none.
-/
import Derived.Test.YtmndejpcpfkajaaSyY
import Derived.Test.YtmndejpcpfkajaaBase
import Derived.KernelRfl
namespace Go.Proofs.Ytmndejpcpfkajaa
open Go Go.Sy
set_option linter.unusedVariables false
set_option maxRecDepth 100000
set_option maxHeartbeats 2000000
attribute [local irreducible] Go.IntKind.wrap Int.tdiv Int.tmod Int.fdiv
/-! ### shotline/shotlinebase.Within -/
theorem x32 (a0 : Int) (a1 : Int) (a2 : Int) (R : SV → List Blk → List Blk → Prop) : exec Try.prog [] (fun _ => none) 8 (Try.f32.body.getD .skip) (initS Try.f32.ntmps [.int .i64 a0, .int .i64 a1, .int .i64 a2] 0 (memOf [])) (retK Try.prog Try.f32.results.toList (outK 0 (List.range 0) [] (.k) fun v U N => R v U N)) =
 (R (.bool (bif (decide (a1 ≤ a0)) then (decide (a0 ≤ a2)) else false)) [] []) := by kernel_rfl
def m32 (a0 : Int) (a1 : Int) (a2 : Int) : Bool :=
 (bif (decide (a1 ≤ a0)) then (decide (a0 ≤ a2)) else false)
def q32 (r : Bool) : SV × List Blk × List Blk := (.bool r, [], [])
def g32 : List SV → List Blk → Option OpRes := fun vs bs => match vs, bs with
  | [.int .i64 a0, .int .i64 a1, .int .i64 a2], [] => some (resOf 0 (q32 (m32 a0 a1 a2)) [])
  | _, _ => none
def c32 : Ctr := genC [.k, .k, .k] g32
theorem p32 (a0 : Int) (a1 : Int) (a2 : Int) : exec Try.prog [] (fun _ => none) 8 (Try.f32.body.getD .skip) (initS Try.f32.ntmps [.int .i64 a0, .int .i64 a1, .int .i64 a2] 0 (memOf [])) (retK Try.prog Try.f32.results.toList (outK 0 (List.range 0) [] (.k) fun v U N => (v, U, N) = (q32 (m32 a0 a1 a2)))) :=
  propOf (x32 a0 a1 a2 _) (leaf_of (l := (bif (decide (a1 ≤ a0)) then (decide (a0 ≤ a2)) else false)) rfl rfl)
theorem k32 : CtrOk Try.prog c32 32 := ctr_of tabOk_nil mix_ok 8 (fn := Try.f32) (c := (Try.f32.body.getD .skip)) (grs := []) (rh := .k) (Λ := (fun _ => none)) Try.func32 rfl (by kernel_rfl) noLam fun vs bs q h _ => by
  unfold g32 at h
  split at h <;> cases h
  exact ⟨_, rfl, p32 _ _ _⟩
/-! ### shotline/shotlineref06.Sum -/
theorem x29 (a0_0 : Int) (a0_1 : Int) (a0_2 : Int) (R : SV → List Blk → List Blk → Prop) : exec Try.prog [] (fun _ => none) 8 (Try.f29.body.getD .skip) (initS Try.f29.ntmps [.agg [.int .i64 a0_0, .int .i64 a0_1, .int .i64 a0_2]] 0 (memOf [])) (retK Try.prog Try.f29.results.toList (outK 0 (List.range 0) [] (.k) fun v U N => R v U N)) =
 (R (.int .i64 (IntKind.i64.wrap (IntKind.i64.wrap (a0_0 + a0_1) + a0_2))) [] []) := by kernel_rfl
def m29 (a0_0 : Int) (a0_1 : Int) (a0_2 : Int) : Int :=
 (IntKind.i64.wrap (IntKind.i64.wrap (a0_0 + a0_1) + a0_2))
def q29 (r : Int) : SV × List Blk × List Blk := (.int .i64 r, [], [])
def g29 : List SV → List Blk → Option OpRes := fun vs bs => match vs, bs with
  | [.agg [.int .i64 a0_0, .int .i64 a0_1, .int .i64 a0_2]], [] => some (resOf 0 (q29 (m29 a0_0 a0_1 a0_2)) [])
  | _, _ => none
def c29 : Ctr := genC [.k] g29
theorem p29 (a0_0 : Int) (a0_1 : Int) (a0_2 : Int) : exec Try.prog [] (fun _ => none) 8 (Try.f29.body.getD .skip) (initS Try.f29.ntmps [.agg [.int .i64 a0_0, .int .i64 a0_1, .int .i64 a0_2]] 0 (memOf [])) (retK Try.prog Try.f29.results.toList (outK 0 (List.range 0) [] (.k) fun v U N => (v, U, N) = (q29 (m29 a0_0 a0_1 a0_2)))) :=
  propOf (x29 a0_0 a0_1 a0_2 _) (leaf_of (l := (IntKind.i64.wrap (IntKind.i64.wrap (a0_0 + a0_1) + a0_2))) rfl rfl)
theorem k29 : CtrOk Try.prog c29 29 := ctr_of tabOk_nil mix_ok 8 (fn := Try.f29) (c := (Try.f29.body.getD .skip)) (grs := []) (rh := .k) (Λ := (fun _ => none)) Try.func29 rfl (by kernel_rfl) noLam fun vs bs q h _ => by
  unfold g29 at h
  split at h <;> cases h
  exact ⟨_, rfl, p29 _ _ _⟩
/-! ### shotline/shotlineref06.Minus -/
theorem x27 (a0_0 : Int) (a0_1 : Int) (a0_2 : Int) (a1_0 : Int) (a1_1 : Int) (a1_2 : Int) (R : SV → List Blk → List Blk → Prop) : exec Try.prog [] (fun _ => none) 8 (Try.f27.body.getD .skip) (initS Try.f27.ntmps [.agg [.int .i64 a0_0, .int .i64 a0_1, .int .i64 a0_2], .agg [.int .i64 a1_0, .int .i64 a1_1, .int .i64 a1_2]] 0 (memOf [])) (retK Try.prog Try.f27.results.toList (outK 0 (List.range 0) [] (.k) fun v U N => R v U N)) =
 (R (.agg [.int .i64 (IntKind.i64.wrap (a0_0 - a1_0)), .int .i64 (IntKind.i64.wrap (a0_1 - a1_1)), .int .i64 (IntKind.i64.wrap (a0_2 - a1_2))]) [] []) := by kernel_rfl
def m27 (a0_0 : Int) (a0_1 : Int) (a0_2 : Int) (a1_0 : Int) (a1_1 : Int) (a1_2 : Int) : Int × Int × Int :=
 ((IntKind.i64.wrap (a0_0 - a1_0)), (IntKind.i64.wrap (a0_1 - a1_1)), (IntKind.i64.wrap (a0_2 - a1_2)))
def q27 (r : Int × Int × Int) : SV × List Blk × List Blk := (.agg [.int .i64 r.1, .int .i64 r.2.1, .int .i64 r.2.2], [], [])
def g27 : List SV → List Blk → Option OpRes := fun vs bs => match vs, bs with
  | [.agg [.int .i64 a0_0, .int .i64 a0_1, .int .i64 a0_2], .agg [.int .i64 a1_0, .int .i64 a1_1, .int .i64 a1_2]], [] => some (resOf 0 (q27 (m27 a0_0 a0_1 a0_2 a1_0 a1_1 a1_2)) [])
  | _, _ => none
def c27 : Ctr := genC [.k, .k] g27
theorem p27 (a0_0 : Int) (a0_1 : Int) (a0_2 : Int) (a1_0 : Int) (a1_1 : Int) (a1_2 : Int) : exec Try.prog [] (fun _ => none) 8 (Try.f27.body.getD .skip) (initS Try.f27.ntmps [.agg [.int .i64 a0_0, .int .i64 a0_1, .int .i64 a0_2], .agg [.int .i64 a1_0, .int .i64 a1_1, .int .i64 a1_2]] 0 (memOf [])) (retK Try.prog Try.f27.results.toList (outK 0 (List.range 0) [] (.k) fun v U N => (v, U, N) = (q27 (m27 a0_0 a0_1 a0_2 a1_0 a1_1 a1_2)))) :=
  propOf (x27 a0_0 a0_1 a0_2 a1_0 a1_1 a1_2 _) (leaf_of (l := ((IntKind.i64.wrap (a0_0 - a1_0)), (IntKind.i64.wrap (a0_1 - a1_1)), (IntKind.i64.wrap (a0_2 - a1_2)))) rfl rfl)
theorem k27 : CtrOk Try.prog c27 27 := ctr_of tabOk_nil mix_ok 8 (fn := Try.f27) (c := (Try.f27.body.getD .skip)) (grs := []) (rh := .k) (Λ := (fun _ => none)) Try.func27 rfl (by kernel_rfl) noLam fun vs bs q h _ => by
  unfold g27 at h
  split at h <;> cases h
  exact ⟨_, rfl, p27 _ _ _ _ _ _⟩
/-! ### shotline/shotlineref06.Plus -/
theorem x28 (a0_0 : Int) (a0_1 : Int) (a0_2 : Int) (a1_0 : Int) (a1_1 : Int) (a1_2 : Int) (R : SV → List Blk → List Blk → Prop) : exec Try.prog [] (fun _ => none) 8 (Try.f28.body.getD .skip) (initS Try.f28.ntmps [.agg [.int .i64 a0_0, .int .i64 a0_1, .int .i64 a0_2], .agg [.int .i64 a1_0, .int .i64 a1_1, .int .i64 a1_2]] 0 (memOf [])) (retK Try.prog Try.f28.results.toList (outK 0 (List.range 0) [] (.k) fun v U N => R v U N)) =
 (R (.agg [.int .i64 (IntKind.i64.wrap (a0_0 + a1_0)), .int .i64 (IntKind.i64.wrap (a0_1 + a1_1)), .int .i64 (IntKind.i64.wrap (a0_2 + a1_2))]) [] []) := by kernel_rfl
def m28 (a0_0 : Int) (a0_1 : Int) (a0_2 : Int) (a1_0 : Int) (a1_1 : Int) (a1_2 : Int) : Int × Int × Int :=
 ((IntKind.i64.wrap (a0_0 + a1_0)), (IntKind.i64.wrap (a0_1 + a1_1)), (IntKind.i64.wrap (a0_2 + a1_2)))
def q28 (r : Int × Int × Int) : SV × List Blk × List Blk := (.agg [.int .i64 r.1, .int .i64 r.2.1, .int .i64 r.2.2], [], [])
def g28 : List SV → List Blk → Option OpRes := fun vs bs => match vs, bs with
  | [.agg [.int .i64 a0_0, .int .i64 a0_1, .int .i64 a0_2], .agg [.int .i64 a1_0, .int .i64 a1_1, .int .i64 a1_2]], [] => some (resOf 0 (q28 (m28 a0_0 a0_1 a0_2 a1_0 a1_1 a1_2)) [])
  | _, _ => none
def c28 : Ctr := genC [.k, .k] g28
theorem p28 (a0_0 : Int) (a0_1 : Int) (a0_2 : Int) (a1_0 : Int) (a1_1 : Int) (a1_2 : Int) : exec Try.prog [] (fun _ => none) 8 (Try.f28.body.getD .skip) (initS Try.f28.ntmps [.agg [.int .i64 a0_0, .int .i64 a0_1, .int .i64 a0_2], .agg [.int .i64 a1_0, .int .i64 a1_1, .int .i64 a1_2]] 0 (memOf [])) (retK Try.prog Try.f28.results.toList (outK 0 (List.range 0) [] (.k) fun v U N => (v, U, N) = (q28 (m28 a0_0 a0_1 a0_2 a1_0 a1_1 a1_2)))) :=
  propOf (x28 a0_0 a0_1 a0_2 a1_0 a1_1 a1_2 _) (leaf_of (l := ((IntKind.i64.wrap (a0_0 + a1_0)), (IntKind.i64.wrap (a0_1 + a1_1)), (IntKind.i64.wrap (a0_2 + a1_2)))) rfl rfl)
theorem k28 : CtrOk Try.prog c28 28 := ctr_of tabOk_nil mix_ok 8 (fn := Try.f28) (c := (Try.f28.body.getD .skip)) (grs := []) (rh := .k) (Λ := (fun _ => none)) Try.func28 rfl (by kernel_rfl) noLam fun vs bs q h _ => by
  unfold g28 at h
  split at h <;> cases h
  exact ⟨_, rfl, p28 _ _ _ _ _ _⟩
/-! ### shotline/mix.gasesOf -/
theorem x82 (a0_0 : Int) (a0_1 : Int) (a0_2 : Int) (R : SV → List Blk → List Blk → Prop) : exec Try.prog [] (fun _ => none) 8 (Try.f82.body.getD .skip) (initS Try.f82.ntmps [.agg [.int .i64 a0_0, .int .i64 a0_1, .int .i64 a0_2]] 0 (memOf [])) (retK Try.prog Try.f82.results.toList (outK 0 (List.range 0) [] (.k) fun v U N => R v U N)) =
 (R (.agg [.int .i64 a0_0, .int .i64 a0_1, .int .i64 a0_2]) [] []) := by kernel_rfl
def m82 (a0_0 : Int) (a0_1 : Int) (a0_2 : Int) : Int × Int × Int :=
 (a0_0, a0_1, a0_2)
def q82 (r : Int × Int × Int) : SV × List Blk × List Blk := (.agg [.int .i64 r.1, .int .i64 r.2.1, .int .i64 r.2.2], [], [])
def g82 : List SV → List Blk → Option OpRes := fun vs bs => match vs, bs with
  | [.agg [.int .i64 a0_0, .int .i64 a0_1, .int .i64 a0_2]], [] => some (resOf 0 (q82 (m82 a0_0 a0_1 a0_2)) [])
  | _, _ => none
def c82 : Ctr := genC [.k] g82
theorem p82 (a0_0 : Int) (a0_1 : Int) (a0_2 : Int) : exec Try.prog [] (fun _ => none) 8 (Try.f82.body.getD .skip) (initS Try.f82.ntmps [.agg [.int .i64 a0_0, .int .i64 a0_1, .int .i64 a0_2]] 0 (memOf [])) (retK Try.prog Try.f82.results.toList (outK 0 (List.range 0) [] (.k) fun v U N => (v, U, N) = (q82 (m82 a0_0 a0_1 a0_2)))) :=
  propOf (x82 a0_0 a0_1 a0_2 _) (leaf_of (l := (a0_0, a0_1, a0_2)) rfl rfl)
theorem k82 : CtrOk Try.prog c82 82 := ctr_of tabOk_nil mix_ok 8 (fn := Try.f82) (c := (Try.f82.body.getD .skip)) (grs := []) (rh := .k) (Λ := (fun _ => none)) Try.func82 rfl (by kernel_rfl) noLam fun vs bs q h _ => by
  unfold g82 at h
  split at h <;> cases h
  exact ⟨_, rfl, p82 _ _ _⟩
/-! ### shotline/mix.within -/
theorem x83 (a0 : Int) (a1 : Int) (a2 : Int) (R : SV → List Blk → List Blk → Prop) : exec Try.prog [] (fun _ => none) 8 (Try.f83.body.getD .skip) (initS Try.f83.ntmps [.int .i64 a0, .int .i64 a1, .int .i64 a2] 0 (memOf [])) (retK Try.prog Try.f83.results.toList (outK 0 (List.range 0) [] (.k) fun v U N => R v U N)) =
 (R (.bool (bif (decide (a1 ≤ a0)) then (decide (a0 ≤ a2)) else false)) [] []) := by kernel_rfl
def m83 (a0 : Int) (a1 : Int) (a2 : Int) : Bool :=
 (bif (decide (a1 ≤ a0)) then (decide (a0 ≤ a2)) else false)
def q83 (r : Bool) : SV × List Blk × List Blk := (.bool r, [], [])
def g83 : List SV → List Blk → Option OpRes := fun vs bs => match vs, bs with
  | [.int .i64 a0, .int .i64 a1, .int .i64 a2], [] => some (resOf 0 (q83 (m83 a0 a1 a2)) [])
  | _, _ => none
def c83 : Ctr := genC [.k, .k, .k] g83
theorem p83 (a0 : Int) (a1 : Int) (a2 : Int) : exec Try.prog [] (fun _ => none) 8 (Try.f83.body.getD .skip) (initS Try.f83.ntmps [.int .i64 a0, .int .i64 a1, .int .i64 a2] 0 (memOf [])) (retK Try.prog Try.f83.results.toList (outK 0 (List.range 0) [] (.k) fun v U N => (v, U, N) = (q83 (m83 a0 a1 a2)))) :=
  propOf (x83 a0 a1 a2 _) (leaf_of (l := (bif (decide (a1 ≤ a0)) then (decide (a0 ≤ a2)) else false)) rfl rfl)
theorem k83 : CtrOk Try.prog c83 83 := ctr_of tabOk_nil mix_ok 8 (fn := Try.f83) (c := (Try.f83.body.getD .skip)) (grs := []) (rh := .k) (Λ := (fun _ => none)) Try.func83 rfl (by kernel_rfl) noLam fun vs bs q h _ => by
  unfold g83 at h
  split at h <;> cases h
  exact ⟨_, rfl, p83 _ _ _⟩
/-! ### (shotline/mix.gases).sum -/
theorem x84 (a0_0 : Int) (a0_1 : Int) (a0_2 : Int) (R : SV → List Blk → List Blk → Prop) : exec Try.prog [] (fun _ => none) 8 (Try.f84.body.getD .skip) (initS Try.f84.ntmps [.agg [.int .i64 a0_0, .int .i64 a0_1, .int .i64 a0_2]] 0 (memOf [])) (retK Try.prog Try.f84.results.toList (outK 0 (List.range 0) [] (.k) fun v U N => R v U N)) =
 (R (.int .i64 (IntKind.i64.wrap (IntKind.i64.wrap (a0_0 + a0_1) + a0_2))) [] []) := by kernel_rfl
def m84 (a0_0 : Int) (a0_1 : Int) (a0_2 : Int) : Int :=
 (IntKind.i64.wrap (IntKind.i64.wrap (a0_0 + a0_1) + a0_2))
def q84 (r : Int) : SV × List Blk × List Blk := (.int .i64 r, [], [])
def g84 : List SV → List Blk → Option OpRes := fun vs bs => match vs, bs with
  | [.agg [.int .i64 a0_0, .int .i64 a0_1, .int .i64 a0_2]], [] => some (resOf 0 (q84 (m84 a0_0 a0_1 a0_2)) [])
  | _, _ => none
def c84 : Ctr := genC [.k] g84
theorem p84 (a0_0 : Int) (a0_1 : Int) (a0_2 : Int) : exec Try.prog [] (fun _ => none) 8 (Try.f84.body.getD .skip) (initS Try.f84.ntmps [.agg [.int .i64 a0_0, .int .i64 a0_1, .int .i64 a0_2]] 0 (memOf [])) (retK Try.prog Try.f84.results.toList (outK 0 (List.range 0) [] (.k) fun v U N => (v, U, N) = (q84 (m84 a0_0 a0_1 a0_2)))) :=
  propOf (x84 a0_0 a0_1 a0_2 _) (leaf_of (l := (IntKind.i64.wrap (IntKind.i64.wrap (a0_0 + a0_1) + a0_2))) rfl rfl)
theorem k84 : CtrOk Try.prog c84 84 := ctr_of tabOk_nil mix_ok 8 (fn := Try.f84) (c := (Try.f84.body.getD .skip)) (grs := []) (rh := .k) (Λ := (fun _ => none)) Try.func84 rfl (by kernel_rfl) noLam fun vs bs q h _ => by
  unfold g84 at h
  split at h <;> cases h
  exact ⟨_, rfl, p84 _ _ _⟩
/-! ### (shotline/mix.gases).content -/
theorem x80 (a0_0 : Int) (a0_1 : Int) (a0_2 : Int) (R : SV → List Blk → List Blk → Prop) : exec Try.prog [] (fun _ => none) 8 (Try.f80.body.getD .skip) (initS Try.f80.ntmps [.agg [.int .i64 a0_0, .int .i64 a0_1, .int .i64 a0_2]] 0 (memOf [])) (retK Try.prog Try.f80.results.toList (outK 0 (List.range 0) [] (.k) fun v U N => R v U N)) =
 (R (.agg [.int .i64 a0_0, .int .i64 a0_1, .int .i64 a0_2]) [] []) := by kernel_rfl
def m80 (a0_0 : Int) (a0_1 : Int) (a0_2 : Int) : Int × Int × Int :=
 (a0_0, a0_1, a0_2)
def q80 (r : Int × Int × Int) : SV × List Blk × List Blk := (.agg [.int .i64 r.1, .int .i64 r.2.1, .int .i64 r.2.2], [], [])
def g80 : List SV → List Blk → Option OpRes := fun vs bs => match vs, bs with
  | [.agg [.int .i64 a0_0, .int .i64 a0_1, .int .i64 a0_2]], [] => some (resOf 0 (q80 (m80 a0_0 a0_1 a0_2)) [])
  | _, _ => none
def c80 : Ctr := genC [.k] g80
theorem p80 (a0_0 : Int) (a0_1 : Int) (a0_2 : Int) : exec Try.prog [] (fun _ => none) 8 (Try.f80.body.getD .skip) (initS Try.f80.ntmps [.agg [.int .i64 a0_0, .int .i64 a0_1, .int .i64 a0_2]] 0 (memOf [])) (retK Try.prog Try.f80.results.toList (outK 0 (List.range 0) [] (.k) fun v U N => (v, U, N) = (q80 (m80 a0_0 a0_1 a0_2)))) :=
  propOf (x80 a0_0 a0_1 a0_2 _) (leaf_of (l := (a0_0, a0_1, a0_2)) rfl rfl)
theorem k80 : CtrOk Try.prog c80 80 := ctr_of tabOk_nil mix_ok 8 (fn := Try.f80) (c := (Try.f80.body.getD .skip)) (grs := []) (rh := .k) (Λ := (fun _ => none)) Try.func80 rfl (by kernel_rfl) noLam fun vs bs q h _ => by
  unfold g80 at h
  split at h <;> cases h
  exact ⟨_, rfl, p80 _ _ _⟩
/-! ### shotline/mix.rounded -/
theorem x89 (a0 : Int) (a1 : Int) (R : SV → List Blk → List Blk → Prop) : exec Try.prog [] (fun _ => none) 8 (Try.f89.body.getD .skip) (initS Try.f89.ntmps [.int .i64 a0, .int .i64 a1] 0 (memOf [])) (retK Try.prog Try.f89.results.toList (outK 0 (List.range 0) [] (.k) fun v U N => R v U N)) =
 (cnd ((bif (decide (a1 = 0)) then false else true))
 (cnd ((bif (decide (a1 = 0)) then false else true))
 (R (.agg [.int .i64 (IntKind.i64.wrap (a0.tdiv a1)), .int .i64 (IntKind.i64.wrap ((IntKind.i64.wrap (IntKind.i64.wrap (a0 + a1) - 1)).tdiv a1))]) [] [])
   False)
  False) := by kernel_rfl
def m89 (a0 : Int) (a1 : Int) : Int × Int :=
 ((IntKind.i64.wrap (a0.tdiv a1)), (IntKind.i64.wrap ((IntKind.i64.wrap (IntKind.i64.wrap (a0 + a1) - 1)).tdiv a1)))
def n89 (a0 : Int) (a1 : Int) : Bool :=
 (((bif (decide (a1 = 0)) then false else true)) && (((bif (decide (a1 = 0)) then false else true)) && true))
def q89 (r : Int × Int) : SV × List Blk × List Blk := (.agg [.int .i64 r.1, .int .i64 r.2], [], [])
def g89 : List SV → List Blk → Option OpRes := fun vs bs => match vs, bs with
  | [.int .i64 a0, .int .i64 a1], [] => some (resOf 0 (q89 (m89 a0 a1)) [n89 a0 a1])
  | _, _ => none
def c89 : Ctr := genC [.k, .k] g89
theorem p89 (a0 : Int) (a1 : Int) (hn : n89 a0 a1 = true) : exec Try.prog [] (fun _ => none) 8 (Try.f89.body.getD .skip) (initS Try.f89.ntmps [.int .i64 a0, .int .i64 a1] 0 (memOf [])) (retK Try.prog Try.f89.results.toList (outK 0 (List.range 0) [] (.k) fun v U N => (v, U, N) = (q89 (m89 a0 a1)))) :=
  propOf (x89 a0 a1 _) (cnd_need (and_l hn) (cnd_need (and_l (and_r hn)) (leaf_of (l := ((IntKind.i64.wrap (a0.tdiv a1)), (IntKind.i64.wrap ((IntKind.i64.wrap (IntKind.i64.wrap (a0 + a1) - 1)).tdiv a1)))) rfl rfl)))
theorem k89 : CtrOk Try.prog c89 89 := ctr_of tabOk_nil mix_ok 8 (fn := Try.f89) (c := (Try.f89.body.getD .skip)) (grs := []) (rh := .k) (Λ := (fun _ => none)) Try.func89 rfl (by kernel_rfl) noLam fun vs bs q h hn => by
  unfold g89 at h
  split at h <;> cases h
  exact ⟨_, rfl, p89 _ _ (hn _ (List.mem_singleton.2 rfl))⟩
/-! ### shotline/mix.takes -/
theorem x126 (a0 : Int) (R : SV → List Blk → List Blk → Prop) : exec Try.prog [] (fun _ => none) 8 (Try.f126.body.getD .skip) (initS Try.f126.ntmps [.int .i64 a0] 0 (memOf [])) (retK Try.prog Try.f126.results.toList (outK 0 (List.range 0) [] (.k) fun v U N => R v U N)) =
 (R (.bool (bif (decide (a0 = 0)) then false else true)) [] []) := by kernel_rfl
def m126 (a0 : Int) : Bool :=
 (bif (decide (a0 = 0)) then false else true)
def q126 (r : Bool) : SV × List Blk × List Blk := (.bool r, [], [])
def g126 : List SV → List Blk → Option OpRes := fun vs bs => match vs, bs with
  | [.int .i64 a0], [] => some (resOf 0 (q126 (m126 a0)) [])
  | _, _ => none
def c126 : Ctr := genC [.k] g126
theorem p126 (a0 : Int) : exec Try.prog [] (fun _ => none) 8 (Try.f126.body.getD .skip) (initS Try.f126.ntmps [.int .i64 a0] 0 (memOf [])) (retK Try.prog Try.f126.results.toList (outK 0 (List.range 0) [] (.k) fun v U N => (v, U, N) = (q126 (m126 a0)))) :=
  propOf (x126 a0 _) (leaf_of (l := (bif (decide (a0 = 0)) then false else true)) rfl rfl)
theorem k126 : CtrOk Try.prog c126 126 := ctr_of tabOk_nil mix_ok 8 (fn := Try.f126) (c := (Try.f126.body.getD .skip)) (grs := []) (rh := .k) (Λ := (fun _ => none)) Try.func126 rfl (by kernel_rfl) noLam fun vs bs q h _ => by
  unfold g126 at h
  split at h <;> cases h
  exact ⟨_, rfl, p126 _⟩
/-! ### shotline/mix.puts -/
theorem x127 (a0 : Int) (R : SV → List Blk → List Blk → Prop) : exec Try.prog [] (fun _ => none) 8 (Try.f127.body.getD .skip) (initS Try.f127.ntmps [.int .i64 a0] 0 (memOf [])) (retK Try.prog Try.f127.results.toList (outK 0 (List.range 0) [] (.k) fun v U N => R v U N)) =
 (R (.bool (bif (decide (a0 = 2)) then false else true)) [] []) := by kernel_rfl
def m127 (a0 : Int) : Bool :=
 (bif (decide (a0 = 2)) then false else true)
def q127 (r : Bool) : SV × List Blk × List Blk := (.bool r, [], [])
def g127 : List SV → List Blk → Option OpRes := fun vs bs => match vs, bs with
  | [.int .i64 a0], [] => some (resOf 0 (q127 (m127 a0)) [])
  | _, _ => none
def c127 : Ctr := genC [.k] g127
theorem p127 (a0 : Int) : exec Try.prog [] (fun _ => none) 8 (Try.f127.body.getD .skip) (initS Try.f127.ntmps [.int .i64 a0] 0 (memOf [])) (retK Try.prog Try.f127.results.toList (outK 0 (List.range 0) [] (.k) fun v U N => (v, U, N) = (q127 (m127 a0)))) :=
  propOf (x127 a0 _) (leaf_of (l := (bif (decide (a0 = 2)) then false else true)) rfl rfl)
theorem k127 : CtrOk Try.prog c127 127 := ctr_of tabOk_nil mix_ok 8 (fn := Try.f127) (c := (Try.f127.body.getD .skip)) (grs := []) (rh := .k) (Λ := (fun _ => none)) Try.func127 rfl (by kernel_rfl) noLam fun vs bs q h _ => by
  unfold g127 at h
  split at h <;> cases h
  exact ⟨_, rfl, p127 _⟩
/-! ### shotline/mix.fresh -/
theorem x129 (a0_0 : Int) (a0_1 : Int) (a1 : Int) (R : SV → List Blk → List Blk → Prop) : exec Try.prog [] (fun _ => none) 8 (Try.f129.body.getD .skip) (initS Try.f129.ntmps [.agg [.int .i64 a0_0, .int .i64 a0_1], .int .i64 a1] 0 (memOf [])) (retK Try.prog Try.f129.results.toList (outK 0 (List.range 0) [] (.k) fun v U N => R v U N)) =
 (R (.agg [.int .i64 (IntKind.i64.wrap ((IntKind.i64.wrap (a1 * a0_0)).tdiv 1000)), .int .i64 (IntKind.i64.wrap ((IntKind.i64.wrap (a1 * a0_1)).tdiv 1000)), .int .i64 (IntKind.i64.wrap (IntKind.i64.wrap (a1 - IntKind.i64.wrap ((IntKind.i64.wrap (a1 * a0_0)).tdiv 1000)) - IntKind.i64.wrap ((IntKind.i64.wrap (a1 * a0_1)).tdiv 1000)))]) [] []) := by kernel_rfl
def m129 (a0_0 : Int) (a0_1 : Int) (a1 : Int) : Int × Int × Int :=
 ((IntKind.i64.wrap ((IntKind.i64.wrap (a1 * a0_0)).tdiv 1000)), (IntKind.i64.wrap ((IntKind.i64.wrap (a1 * a0_1)).tdiv 1000)), (IntKind.i64.wrap (IntKind.i64.wrap (a1 - IntKind.i64.wrap ((IntKind.i64.wrap (a1 * a0_0)).tdiv 1000)) - IntKind.i64.wrap ((IntKind.i64.wrap (a1 * a0_1)).tdiv 1000))))
def q129 (r : Int × Int × Int) : SV × List Blk × List Blk := (.agg [.int .i64 r.1, .int .i64 r.2.1, .int .i64 r.2.2], [], [])
def g129 : List SV → List Blk → Option OpRes := fun vs bs => match vs, bs with
  | [.agg [.int .i64 a0_0, .int .i64 a0_1], .int .i64 a1], [] => some (resOf 0 (q129 (m129 a0_0 a0_1 a1)) [])
  | _, _ => none
def c129 : Ctr := genC [.k, .k] g129
theorem p129 (a0_0 : Int) (a0_1 : Int) (a1 : Int) : exec Try.prog [] (fun _ => none) 8 (Try.f129.body.getD .skip) (initS Try.f129.ntmps [.agg [.int .i64 a0_0, .int .i64 a0_1], .int .i64 a1] 0 (memOf [])) (retK Try.prog Try.f129.results.toList (outK 0 (List.range 0) [] (.k) fun v U N => (v, U, N) = (q129 (m129 a0_0 a0_1 a1)))) :=
  propOf (x129 a0_0 a0_1 a1 _) (leaf_of (l := ((IntKind.i64.wrap ((IntKind.i64.wrap (a1 * a0_0)).tdiv 1000)), (IntKind.i64.wrap ((IntKind.i64.wrap (a1 * a0_1)).tdiv 1000)), (IntKind.i64.wrap (IntKind.i64.wrap (a1 - IntKind.i64.wrap ((IntKind.i64.wrap (a1 * a0_0)).tdiv 1000)) - IntKind.i64.wrap ((IntKind.i64.wrap (a1 * a0_1)).tdiv 1000))))) rfl rfl)
theorem k129 : CtrOk Try.prog c129 129 := ctr_of tabOk_nil mix_ok 8 (fn := Try.f129) (c := (Try.f129.body.getD .skip)) (grs := []) (rh := .k) (Λ := (fun _ => none)) Try.func129 rfl (by kernel_rfl) noLam fun vs bs q h _ => by
  unfold g129 at h
  split at h <;> cases h
  exact ⟨_, rfl, p129 _ _ _⟩
/-! ### (shotline/mix.gases).less -/
theorem x130 (a0_0 : Int) (a0_1 : Int) (a0_2 : Int) (a1_0 : Int) (a1_1 : Int) (a1_2 : Int) (R : SV → List Blk → List Blk → Prop) : exec Try.prog [] (fun _ => none) 8 (Try.f130.body.getD .skip) (initS Try.f130.ntmps [.agg [.int .i64 a0_0, .int .i64 a0_1, .int .i64 a0_2], .agg [.int .i64 a1_0, .int .i64 a1_1, .int .i64 a1_2]] 0 (memOf [])) (retK Try.prog Try.f130.results.toList (outK 0 (List.range 0) [] (.k) fun v U N => R v U N)) =
 (R (.agg [.int .i64 (IntKind.i64.wrap (a0_0 - a1_0)), .int .i64 (IntKind.i64.wrap (a0_1 - a1_1)), .int .i64 (IntKind.i64.wrap (a0_2 - a1_2))]) [] []) := by kernel_rfl
def m130 (a0_0 : Int) (a0_1 : Int) (a0_2 : Int) (a1_0 : Int) (a1_1 : Int) (a1_2 : Int) : Int × Int × Int :=
 ((IntKind.i64.wrap (a0_0 - a1_0)), (IntKind.i64.wrap (a0_1 - a1_1)), (IntKind.i64.wrap (a0_2 - a1_2)))
def q130 (r : Int × Int × Int) : SV × List Blk × List Blk := (.agg [.int .i64 r.1, .int .i64 r.2.1, .int .i64 r.2.2], [], [])
def g130 : List SV → List Blk → Option OpRes := fun vs bs => match vs, bs with
  | [.agg [.int .i64 a0_0, .int .i64 a0_1, .int .i64 a0_2], .agg [.int .i64 a1_0, .int .i64 a1_1, .int .i64 a1_2]], [] => some (resOf 0 (q130 (m130 a0_0 a0_1 a0_2 a1_0 a1_1 a1_2)) [])
  | _, _ => none
def c130 : Ctr := genC [.k, .k] g130
theorem p130 (a0_0 : Int) (a0_1 : Int) (a0_2 : Int) (a1_0 : Int) (a1_1 : Int) (a1_2 : Int) : exec Try.prog [] (fun _ => none) 8 (Try.f130.body.getD .skip) (initS Try.f130.ntmps [.agg [.int .i64 a0_0, .int .i64 a0_1, .int .i64 a0_2], .agg [.int .i64 a1_0, .int .i64 a1_1, .int .i64 a1_2]] 0 (memOf [])) (retK Try.prog Try.f130.results.toList (outK 0 (List.range 0) [] (.k) fun v U N => (v, U, N) = (q130 (m130 a0_0 a0_1 a0_2 a1_0 a1_1 a1_2)))) :=
  propOf (x130 a0_0 a0_1 a0_2 a1_0 a1_1 a1_2 _) (leaf_of (l := ((IntKind.i64.wrap (a0_0 - a1_0)), (IntKind.i64.wrap (a0_1 - a1_1)), (IntKind.i64.wrap (a0_2 - a1_2)))) rfl rfl)
theorem k130 : CtrOk Try.prog c130 130 := ctr_of tabOk_nil mix_ok 8 (fn := Try.f130) (c := (Try.f130.body.getD .skip)) (grs := []) (rh := .k) (Λ := (fun _ => none)) Try.func130 rfl (by kernel_rfl) noLam fun vs bs q h _ => by
  unfold g130 at h
  split at h <;> cases h
  exact ⟨_, rfl, p130 _ _ _ _ _ _⟩
/-! ### (shotline/mix.gases).plus -/
theorem x131 (a0_0 : Int) (a0_1 : Int) (a0_2 : Int) (a1_0 : Int) (a1_1 : Int) (a1_2 : Int) (R : SV → List Blk → List Blk → Prop) : exec Try.prog [] (fun _ => none) 8 (Try.f131.body.getD .skip) (initS Try.f131.ntmps [.agg [.int .i64 a0_0, .int .i64 a0_1, .int .i64 a0_2], .agg [.int .i64 a1_0, .int .i64 a1_1, .int .i64 a1_2]] 0 (memOf [])) (retK Try.prog Try.f131.results.toList (outK 0 (List.range 0) [] (.k) fun v U N => R v U N)) =
 (R (.agg [.int .i64 (IntKind.i64.wrap (a0_0 + a1_0)), .int .i64 (IntKind.i64.wrap (a0_1 + a1_1)), .int .i64 (IntKind.i64.wrap (a0_2 + a1_2))]) [] []) := by kernel_rfl
def m131 (a0_0 : Int) (a0_1 : Int) (a0_2 : Int) (a1_0 : Int) (a1_1 : Int) (a1_2 : Int) : Int × Int × Int :=
 ((IntKind.i64.wrap (a0_0 + a1_0)), (IntKind.i64.wrap (a0_1 + a1_1)), (IntKind.i64.wrap (a0_2 + a1_2)))
def q131 (r : Int × Int × Int) : SV × List Blk × List Blk := (.agg [.int .i64 r.1, .int .i64 r.2.1, .int .i64 r.2.2], [], [])
def g131 : List SV → List Blk → Option OpRes := fun vs bs => match vs, bs with
  | [.agg [.int .i64 a0_0, .int .i64 a0_1, .int .i64 a0_2], .agg [.int .i64 a1_0, .int .i64 a1_1, .int .i64 a1_2]], [] => some (resOf 0 (q131 (m131 a0_0 a0_1 a0_2 a1_0 a1_1 a1_2)) [])
  | _, _ => none
def c131 : Ctr := genC [.k, .k] g131
theorem p131 (a0_0 : Int) (a0_1 : Int) (a0_2 : Int) (a1_0 : Int) (a1_1 : Int) (a1_2 : Int) : exec Try.prog [] (fun _ => none) 8 (Try.f131.body.getD .skip) (initS Try.f131.ntmps [.agg [.int .i64 a0_0, .int .i64 a0_1, .int .i64 a0_2], .agg [.int .i64 a1_0, .int .i64 a1_1, .int .i64 a1_2]] 0 (memOf [])) (retK Try.prog Try.f131.results.toList (outK 0 (List.range 0) [] (.k) fun v U N => (v, U, N) = (q131 (m131 a0_0 a0_1 a0_2 a1_0 a1_1 a1_2)))) :=
  propOf (x131 a0_0 a0_1 a0_2 a1_0 a1_1 a1_2 _) (leaf_of (l := ((IntKind.i64.wrap (a0_0 + a1_0)), (IntKind.i64.wrap (a0_1 + a1_1)), (IntKind.i64.wrap (a0_2 + a1_2)))) rfl rfl)
theorem k131 : CtrOk Try.prog c131 131 := ctr_of tabOk_nil mix_ok 8 (fn := Try.f131) (c := (Try.f131.body.getD .skip)) (grs := []) (rh := .k) (Λ := (fun _ => none)) Try.func131 rfl (by kernel_rfl) noLam fun vs bs q h _ => by
  unfold g131 at h
  split at h <;> cases h
  exact ⟨_, rfl, p131 _ _ _ _ _ _⟩
/-! ### shotline/shotlineref06.Pure -/
theorem x24 (a0_0 : Int) (a0_1 : Int) (a1 : Int) (R : SV → List Blk → List Blk → Prop) : exec Try.prog [] (fun _ => none) 8 (Try.f24.body.getD .skip) (initS Try.f24.ntmps [.agg [.int .i64 a0_0, .int .i64 a0_1], .int .i64 a1] 0 (memOf [])) (retK Try.prog Try.f24.results.toList (outK 0 (List.range 0) [] (.k) fun v U N => R v U N)) =
 (R (.agg [.int .i64 (IntKind.i64.wrap ((IntKind.i64.wrap (a1 * a0_0)).tdiv 1000)), .int .i64 (IntKind.i64.wrap ((IntKind.i64.wrap (a1 * a0_1)).tdiv 1000)), .int .i64 (IntKind.i64.wrap (IntKind.i64.wrap (a1 - IntKind.i64.wrap ((IntKind.i64.wrap (a1 * a0_0)).tdiv 1000)) - IntKind.i64.wrap ((IntKind.i64.wrap (a1 * a0_1)).tdiv 1000)))]) [] []) := by kernel_rfl
def m24 (a0_0 : Int) (a0_1 : Int) (a1 : Int) : Int × Int × Int :=
 ((IntKind.i64.wrap ((IntKind.i64.wrap (a1 * a0_0)).tdiv 1000)), (IntKind.i64.wrap ((IntKind.i64.wrap (a1 * a0_1)).tdiv 1000)), (IntKind.i64.wrap (IntKind.i64.wrap (a1 - IntKind.i64.wrap ((IntKind.i64.wrap (a1 * a0_0)).tdiv 1000)) - IntKind.i64.wrap ((IntKind.i64.wrap (a1 * a0_1)).tdiv 1000))))
def q24 (r : Int × Int × Int) : SV × List Blk × List Blk := (.agg [.int .i64 r.1, .int .i64 r.2.1, .int .i64 r.2.2], [], [])
def g24 : List SV → List Blk → Option OpRes := fun vs bs => match vs, bs with
  | [.agg [.int .i64 a0_0, .int .i64 a0_1], .int .i64 a1], [] => some (resOf 0 (q24 (m24 a0_0 a0_1 a1)) [])
  | _, _ => none
def c24 : Ctr := genC [.k, .k] g24
theorem p24 (a0_0 : Int) (a0_1 : Int) (a1 : Int) : exec Try.prog [] (fun _ => none) 8 (Try.f24.body.getD .skip) (initS Try.f24.ntmps [.agg [.int .i64 a0_0, .int .i64 a0_1], .int .i64 a1] 0 (memOf [])) (retK Try.prog Try.f24.results.toList (outK 0 (List.range 0) [] (.k) fun v U N => (v, U, N) = (q24 (m24 a0_0 a0_1 a1)))) :=
  propOf (x24 a0_0 a0_1 a1 _) (leaf_of (l := ((IntKind.i64.wrap ((IntKind.i64.wrap (a1 * a0_0)).tdiv 1000)), (IntKind.i64.wrap ((IntKind.i64.wrap (a1 * a0_1)).tdiv 1000)), (IntKind.i64.wrap (IntKind.i64.wrap (a1 - IntKind.i64.wrap ((IntKind.i64.wrap (a1 * a0_0)).tdiv 1000)) - IntKind.i64.wrap ((IntKind.i64.wrap (a1 * a0_1)).tdiv 1000))))) rfl rfl)
theorem k24 : CtrOk Try.prog c24 24 := ctr_of tabOk_nil mix_ok 8 (fn := Try.f24) (c := (Try.f24.body.getD .skip)) (grs := []) (rh := .k) (Λ := (fun _ => none)) Try.func24 rfl (by kernel_rfl) noLam fun vs bs q h _ => by
  unfold g24 at h
  split at h <;> cases h
  exact ⟨_, rfl, p24 _ _ _⟩
/-! ### cmp.isNaN[int] -/
theorem x153 (a0 : Int) (R : SV → List Blk → List Blk → Prop) : exec Try.prog [] (fun _ => none) 8 (Try.f153.body.getD .skip) (initS Try.f153.ntmps [.int .i64 a0] 0 (memOf [])) (retK Try.prog Try.f153.results.toList (outK 0 (List.range 0) [] (.k) fun v U N => R v U N)) =
 (R (.bool (bif (decide (a0 = a0)) then false else true)) [] []) := by kernel_rfl
def m153 (a0 : Int) : Bool :=
 (bif (decide (a0 = a0)) then false else true)
def q153 (r : Bool) : SV × List Blk × List Blk := (.bool r, [], [])
def g153 : List SV → List Blk → Option OpRes := fun vs bs => match vs, bs with
  | [.int .i64 a0], [] => some (resOf 0 (q153 (m153 a0)) [])
  | _, _ => none
def c153 : Ctr := genC [.k] g153
theorem p153 (a0 : Int) : exec Try.prog [] (fun _ => none) 8 (Try.f153.body.getD .skip) (initS Try.f153.ntmps [.int .i64 a0] 0 (memOf [])) (retK Try.prog Try.f153.results.toList (outK 0 (List.range 0) [] (.k) fun v U N => (v, U, N) = (q153 (m153 a0)))) :=
  propOf (x153 a0 _) (leaf_of (l := (bif (decide (a0 = a0)) then false else true)) rfl rfl)
theorem k153 : CtrOk Try.prog c153 153 := ctr_of tabOk_nil mix_ok 8 (fn := Try.f153) (c := (Try.f153.body.getD .skip)) (grs := []) (rh := .k) (Λ := (fun _ => none)) Try.func153 rfl (by kernel_rfl) noLam fun vs bs q h _ => by
  unfold g153 at h
  split at h <;> cases h
  exact ⟨_, rfl, p153 _⟩
/-! ### shotline/gas.within -/
theorem x154 (a0 : Int) (a1 : Int) (a2 : Int) (R : SV → List Blk → List Blk → Prop) : exec Try.prog [] (fun _ => none) 8 (Try.f154.body.getD .skip) (initS Try.f154.ntmps [.int .i64 a0, .int .i64 a1, .int .i64 a2] 0 (memOf [])) (retK Try.prog Try.f154.results.toList (outK 0 (List.range 0) [] (.k) fun v U N => R v U N)) =
 (R (.bool (bif (decide (a1 ≤ a0)) then (decide (a0 ≤ a2)) else false)) [] []) := by kernel_rfl
def m154 (a0 : Int) (a1 : Int) (a2 : Int) : Bool :=
 (bif (decide (a1 ≤ a0)) then (decide (a0 ≤ a2)) else false)
def q154 (r : Bool) : SV × List Blk × List Blk := (.bool r, [], [])
def g154 : List SV → List Blk → Option OpRes := fun vs bs => match vs, bs with
  | [.int .i64 a0, .int .i64 a1, .int .i64 a2], [] => some (resOf 0 (q154 (m154 a0 a1 a2)) [])
  | _, _ => none
def c154 : Ctr := genC [.k, .k, .k] g154
theorem p154 (a0 : Int) (a1 : Int) (a2 : Int) : exec Try.prog [] (fun _ => none) 8 (Try.f154.body.getD .skip) (initS Try.f154.ntmps [.int .i64 a0, .int .i64 a1, .int .i64 a2] 0 (memOf [])) (retK Try.prog Try.f154.results.toList (outK 0 (List.range 0) [] (.k) fun v U N => (v, U, N) = (q154 (m154 a0 a1 a2)))) :=
  propOf (x154 a0 a1 a2 _) (leaf_of (l := (bif (decide (a1 ≤ a0)) then (decide (a0 ≤ a2)) else false)) rfl rfl)
theorem k154 : CtrOk Try.prog c154 154 := ctr_of tabOk_nil mix_ok 8 (fn := Try.f154) (c := (Try.f154.body.getD .skip)) (grs := []) (rh := .k) (Λ := (fun _ => none)) Try.func154 rfl (by kernel_rfl) noLam fun vs bs q h _ => by
  unfold g154 at h
  split at h <;> cases h
  exact ⟨_, rfl, p154 _ _ _⟩
/-! ### shotline/mix.vessel$1 -/
theorem x143 (a0_0 : ByteArray) (a0_1 : Int) (a0_2 : Int) (da1 : Dat) (R : SV → List Blk → List Blk → Prop) : exec Try.prog [] (fun _ => none) 8 (Try.f143.body.getD .skip) (initS Try.f143.ntmps [.agg [.str a0_0, .int .i64 a0_1, .int .i64 a0_2], .rp [.str] da1 0 0] 0 (memOf [])) (retK Try.prog Try.f143.results.toList (outK 0 (List.range 0) [] (.k) fun v U N => R v U N)) =
 (R (.bool (decide (a0_0 = da1.ss 0 0))) [] []) := by kernel_rfl
def m143 (a0_0 : ByteArray) (a0_1 : Int) (a0_2 : Int) (da1 : Dat) : Bool :=
 (decide (a0_0 = da1.ss 0 0))
def q143 (r : Bool) : SV × List Blk × List Blk := (.bool r, [], [])
def g143 : List SV → List Blk → Option OpRes := fun vs bs => match vs, bs with
  | [.agg [.str a0_0, .int .i64 a0_1, .int .i64 a0_2], .rp [.str] da1 0 0], [] => some (resOf 0 (q143 (m143 a0_0 a0_1 a0_2 da1)) [])
  | _, _ => none
def c143 : Ctr := genC [.k, .rp [.str]] g143
theorem p143 (a0_0 : ByteArray) (a0_1 : Int) (a0_2 : Int) (da1 : Dat) : exec Try.prog [] (fun _ => none) 8 (Try.f143.body.getD .skip) (initS Try.f143.ntmps [.agg [.str a0_0, .int .i64 a0_1, .int .i64 a0_2], .rp [.str] da1 0 0] 0 (memOf [])) (retK Try.prog Try.f143.results.toList (outK 0 (List.range 0) [] (.k) fun v U N => (v, U, N) = (q143 (m143 a0_0 a0_1 a0_2 da1)))) :=
  propOf (x143 a0_0 a0_1 a0_2 da1 _) (leaf_of (l := (decide (a0_0 = da1.ss 0 0))) rfl rfl)
theorem k143 : CtrOk Try.prog c143 143 := ctr_of tabOk_nil mix_ok 8 (fn := Try.f143) (c := (Try.f143.body.getD .skip)) (grs := []) (rh := .k) (Λ := (fun _ => none)) Try.func143 rfl (by kernel_rfl) noLam fun vs bs q h _ => by
  unfold g143 at h
  split at h <;> cases h
  exact ⟨_, rfl, p143 _ _ _ _⟩
/-! ### shotline/mix.CheckTask$1 -/
theorem x118 (a0_0 : ByteArray) (a0_1 : Int) (a0_2 : Int) (a0_3 : Int) (a0_4 : Int) (da1 : Dat) (R : SV → List Blk → List Blk → Prop) : exec Try.prog [] (fun _ => none) 8 (Try.f118.body.getD .skip) (initS Try.f118.ntmps [.agg [.str a0_0, .int .i64 a0_1, .int .i64 a0_2, .int .i64 a0_3, .int .i64 a0_4], .rp [.str, .int .i64, .int .i64, .int .i64, .int .i64] da1 0 0] 0 (memOf [])) (retK Try.prog Try.f118.results.toList (outK 0 (List.range 0) [] (.k) fun v U N => R v U N)) =
 (R (.bool (decide (a0_0 = da1.ss 0 0))) [] []) := by kernel_rfl
def m118 (a0_0 : ByteArray) (a0_1 : Int) (a0_2 : Int) (a0_3 : Int) (a0_4 : Int) (da1 : Dat) : Bool :=
 (decide (a0_0 = da1.ss 0 0))
def q118 (r : Bool) : SV × List Blk × List Blk := (.bool r, [], [])
def g118 : List SV → List Blk → Option OpRes := fun vs bs => match vs, bs with
  | [.agg [.str a0_0, .int .i64 a0_1, .int .i64 a0_2, .int .i64 a0_3, .int .i64 a0_4], .rp [.str, .int .i64, .int .i64, .int .i64, .int .i64] da1 0 0], [] => some (resOf 0 (q118 (m118 a0_0 a0_1 a0_2 a0_3 a0_4 da1)) [])
  | _, _ => none
def c118 : Ctr := genC [.k, .rp [.str, .int .i64, .int .i64, .int .i64, .int .i64]] g118
theorem p118 (a0_0 : ByteArray) (a0_1 : Int) (a0_2 : Int) (a0_3 : Int) (a0_4 : Int) (da1 : Dat) : exec Try.prog [] (fun _ => none) 8 (Try.f118.body.getD .skip) (initS Try.f118.ntmps [.agg [.str a0_0, .int .i64 a0_1, .int .i64 a0_2, .int .i64 a0_3, .int .i64 a0_4], .rp [.str, .int .i64, .int .i64, .int .i64, .int .i64] da1 0 0] 0 (memOf [])) (retK Try.prog Try.f118.results.toList (outK 0 (List.range 0) [] (.k) fun v U N => (v, U, N) = (q118 (m118 a0_0 a0_1 a0_2 a0_3 a0_4 da1)))) :=
  propOf (x118 a0_0 a0_1 a0_2 a0_3 a0_4 da1 _) (leaf_of (l := (decide (a0_0 = da1.ss 0 0))) rfl rfl)
theorem k118 : CtrOk Try.prog c118 118 := ctr_of tabOk_nil mix_ok 8 (fn := Try.f118) (c := (Try.f118.body.getD .skip)) (grs := []) (rh := .k) (Λ := (fun _ => none)) Try.func118 rfl (by kernel_rfl) noLam fun vs bs q h _ => by
  unfold g118 at h
  split at h <;> cases h
  exact ⟨_, rfl, p118 _ _ _ _ _ _⟩
/-! ### shotline/shotlineref06.CheckContent -/
theorem x26 (a0_0 : Int) (a0_1 : Int) (a0_2 : Int) (R : SV → List Blk → List Blk → Prop) : exec Try.prog [(32, c32), (29, c29)] (fun _ => none) 8 (Try.f26.body.getD .skip) (initS Try.f26.ntmps [.agg [.int .i64 a0_0, .int .i64 a0_1, .int .i64 a0_2]] 0 (memOf [])) (retK Try.prog Try.f26.results.toList (outK 0 (List.range 0) [] (.k) fun v U N => R v U N)) =
 (cnd ((bif (bif (bif (bif (m32 a0_0 0 1000000000) then false else true) then true else (bif (m32 a0_1 0 1000000000) then false else true)) then true else (bif (m32 a0_2 0 1000000000) then false else true)) then true else (decide (1000000000 < m29 a0_0 a0_1 a0_2))))
 (R (.int .i64 2) [] [])
 (R (.int .i64 0) [] [])) := by kernel_rfl
def m26 (a0_0 : Int) (a0_1 : Int) (a0_2 : Int) : Int :=
 (cond ((bif (bif (bif (bif (m32 a0_0 0 1000000000) then false else true) then true else (bif (m32 a0_1 0 1000000000) then false else true)) then true else (bif (m32 a0_2 0 1000000000) then false else true)) then true else (decide (1000000000 < m29 a0_0 a0_1 a0_2)))) 2 0)
def q26 (r : Int) : SV × List Blk × List Blk := (.int .i64 r, [], [])
def g26 : List SV → List Blk → Option OpRes := fun vs bs => match vs, bs with
  | [.agg [.int .i64 a0_0, .int .i64 a0_1, .int .i64 a0_2]], [] => some (resOf 0 (q26 (m26 a0_0 a0_1 a0_2)) [])
  | _, _ => none
def c26 : Ctr := genC [.k] g26
theorem p26 (a0_0 : Int) (a0_1 : Int) (a0_2 : Int) : exec Try.prog [(32, c32), (29, c29)] (fun _ => none) 8 (Try.f26.body.getD .skip) (initS Try.f26.ntmps [.agg [.int .i64 a0_0, .int .i64 a0_1, .int .i64 a0_2]] 0 (memOf [])) (retK Try.prog Try.f26.results.toList (outK 0 (List.range 0) [] (.k) fun v U N => (v, U, N) = (q26 (m26 a0_0 a0_1 a0_2)))) :=
  propOf (x26 a0_0 a0_1 a0_2 _) (cnd_of (fun h0 => leaf_of (l := 2) (condT h0 rfl) rfl) (fun h0 => leaf_of (l := 0) (condF h0 rfl) rfl))
theorem k26 : CtrOk Try.prog c26 26 := ctr_of (tabOk_cons k32 (tabOk_cons k29 tabOk_nil)) mix_ok 8 (fn := Try.f26) (c := (Try.f26.body.getD .skip)) (grs := []) (rh := .k) (Λ := (fun _ => none)) Try.func26 rfl (by kernel_rfl) noLam fun vs bs q h _ => by
  unfold g26 at h
  split at h <;> cases h
  exact ⟨_, rfl, p26 _ _ _⟩
/-! ### shotline/shotlineref01.CheckGas -/
theorem x91 (a0_0 : Int) (a0_1 : Int) (R : SV → List Blk → List Blk → Prop) : exec Try.prog [(32, c32)] (fun _ => none) 8 (Try.f91.body.getD .skip) (initS Try.f91.ntmps [.agg [.int .i64 a0_0, .int .i64 a0_1]] 0 (memOf [])) (retK Try.prog Try.f91.results.toList (outK 0 (List.range 0) [] (.k) fun v U N => R v U N)) =
 (cnd ((bif (bif (m32 a0_0 0 1000) then false else true) then true else (bif (m32 a0_1 0 1000) then false else true)))
 (R (.int .i64 2) [] [])
 (cnd ((decide (1000 < IntKind.i64.wrap (a0_0 + a0_1))))
 (R (.int .i64 23) [] [])
 (R (.int .i64 0) [] []))) := by kernel_rfl
def m91 (a0_0 : Int) (a0_1 : Int) : Int :=
 (cond ((bif (bif (m32 a0_0 0 1000) then false else true) then true else (bif (m32 a0_1 0 1000) then false else true))) 2 (cond ((decide (1000 < IntKind.i64.wrap (a0_0 + a0_1)))) 23 0))
def q91 (r : Int) : SV × List Blk × List Blk := (.int .i64 r, [], [])
def g91 : List SV → List Blk → Option OpRes := fun vs bs => match vs, bs with
  | [.agg [.int .i64 a0_0, .int .i64 a0_1]], [] => some (resOf 0 (q91 (m91 a0_0 a0_1)) [])
  | _, _ => none
def c91 : Ctr := genC [.k] g91
theorem p91 (a0_0 : Int) (a0_1 : Int) : exec Try.prog [(32, c32)] (fun _ => none) 8 (Try.f91.body.getD .skip) (initS Try.f91.ntmps [.agg [.int .i64 a0_0, .int .i64 a0_1]] 0 (memOf [])) (retK Try.prog Try.f91.results.toList (outK 0 (List.range 0) [] (.k) fun v U N => (v, U, N) = (q91 (m91 a0_0 a0_1)))) :=
  propOf (x91 a0_0 a0_1 _) (cnd_of (fun h0 => leaf_of (l := 2) (condT h0 rfl) rfl) (fun h0 => cnd_of (fun h1 => leaf_of (l := 23) (condF h0 (condT h1 rfl)) rfl) (fun h1 => leaf_of (l := 0) (condF h0 (condF h1 rfl)) rfl)))
theorem k91 : CtrOk Try.prog c91 91 := ctr_of (tabOk_cons k32 tabOk_nil) mix_ok 8 (fn := Try.f91) (c := (Try.f91.body.getD .skip)) (grs := []) (rh := .k) (Λ := (fun _ => none)) Try.func91 rfl (by kernel_rfl) noLam fun vs bs q h _ => by
  unfold g91 at h
  split at h <;> cases h
  exact ⟨_, rfl, p91 _ _⟩
/-! ### shotline/mix.checkContent$1 -/
theorem x121 (a0 : Int) (R : SV → List Blk → List Blk → Prop) : exec Try.prog [(83, c83)] (fun _ => none) 8 (Try.f121.body.getD .skip) (initS Try.f121.ntmps [.int .i64 a0] 0 (memOf [])) (retK Try.prog Try.f121.results.toList (outK 0 (List.range 0) [] (.k) fun v U N => R v U N)) =
 (R (.bool (bif (m83 a0 0 1000000000) then false else true)) [] []) := by kernel_rfl
def m121 (a0 : Int) : Bool :=
 (bif (m83 a0 0 1000000000) then false else true)
def q121 (r : Bool) : SV × List Blk × List Blk := (.bool r, [], [])
def g121 : List SV → List Blk → Option OpRes := fun vs bs => match vs, bs with
  | [.int .i64 a0], [] => some (resOf 0 (q121 (m121 a0)) [])
  | _, _ => none
def c121 : Ctr := genC [.k] g121
theorem p121 (a0 : Int) : exec Try.prog [(83, c83)] (fun _ => none) 8 (Try.f121.body.getD .skip) (initS Try.f121.ntmps [.int .i64 a0] 0 (memOf [])) (retK Try.prog Try.f121.results.toList (outK 0 (List.range 0) [] (.k) fun v U N => (v, U, N) = (q121 (m121 a0)))) :=
  propOf (x121 a0 _) (leaf_of (l := (bif (m83 a0 0 1000000000) then false else true)) rfl rfl)
theorem k121 : CtrOk Try.prog c121 121 := ctr_of (tabOk_cons k83 tabOk_nil) mix_ok 8 (fn := Try.f121) (c := (Try.f121.body.getD .skip)) (grs := []) (rh := .k) (Λ := (fun _ => none)) Try.func121 rfl (by kernel_rfl) noLam fun vs bs q h _ => by
  unfold g121 at h
  split at h <;> cases h
  exact ⟨_, rfl, p121 _⟩
/-! ### cmp.Compare[int] -/
theorem x124 (a0 : Int) (a1 : Int) (R : SV → List Blk → List Blk → Prop) : exec Try.prog [(153, c153)] (fun _ => none) 8 (Try.f124.body.getD .skip) (initS Try.f124.ntmps [.int .i64 a0, .int .i64 a1] 0 (memOf [])) (retK Try.prog Try.f124.results.toList (outK 0 (List.range 0) [] (.k) fun v U N => R v U N)) =
 (cnd ((m153 a0))
 (cnd ((m153 a1))
 (R (.int .i64 0) [] [])
 (R (.int .i64 (-1)) [] []))
 (cnd ((m153 a1))
 (R (.int .i64 1) [] [])
 (cnd ((decide (a0 < a1)))
 (R (.int .i64 (-1)) [] [])
 (cnd ((decide (a1 < a0)))
 (R (.int .i64 1) [] [])
 (R (.int .i64 0) [] []))))) := by kernel_rfl
def m124 (a0 : Int) (a1 : Int) : Int :=
 (cond ((m153 a0)) (cond ((m153 a1)) 0 (-1)) (cond ((m153 a1)) 1 (cond ((decide (a0 < a1))) (-1) (cond ((decide (a1 < a0))) 1 0))))
def q124 (r : Int) : SV × List Blk × List Blk := (.int .i64 r, [], [])
def g124 : List SV → List Blk → Option OpRes := fun vs bs => match vs, bs with
  | [.int .i64 a0, .int .i64 a1], [] => some (resOf 0 (q124 (m124 a0 a1)) [])
  | _, _ => none
def c124 : Ctr := genC [.k, .k] g124
theorem p124 (a0 : Int) (a1 : Int) : exec Try.prog [(153, c153)] (fun _ => none) 8 (Try.f124.body.getD .skip) (initS Try.f124.ntmps [.int .i64 a0, .int .i64 a1] 0 (memOf [])) (retK Try.prog Try.f124.results.toList (outK 0 (List.range 0) [] (.k) fun v U N => (v, U, N) = (q124 (m124 a0 a1)))) :=
  propOf (x124 a0 a1 _) (cnd_of (fun h0 => cnd_of (fun h1 => leaf_of (l := 0) (condT h0 (condT h1 rfl)) rfl) (fun h1 => leaf_of (l := (-1)) (condT h0 (condF h1 rfl)) rfl)) (fun h0 => cnd_of (fun h1 => leaf_of (l := 1) (condF h0 (condT h1 rfl)) rfl) (fun h1 => cnd_of (fun h2 => leaf_of (l := (-1)) (condF h0 (condF h1 (condT h2 rfl))) rfl) (fun h2 => cnd_of (fun h3 => leaf_of (l := 1) (condF h0 (condF h1 (condF h2 (condT h3 rfl)))) rfl) (fun h3 => leaf_of (l := 0) (condF h0 (condF h1 (condF h2 (condF h3 rfl)))) rfl)))))
theorem k124 : CtrOk Try.prog c124 124 := ctr_of (tabOk_cons k153 tabOk_nil) mix_ok 8 (fn := Try.f124) (c := (Try.f124.body.getD .skip)) (grs := []) (rh := .k) (Λ := (fun _ => none)) Try.func124 rfl (by kernel_rfl) noLam fun vs bs q h _ => by
  unfold g124 at h
  split at h <;> cases h
  exact ⟨_, rfl, p124 _ _⟩
/-! ### shotline/gas.bound -/
theorem x133 (a0 : Int) (a1 : Int) (a2 : Int) (R : SV → List Blk → List Blk → Prop) : exec Try.prog [(154, c154)] (fun _ => none) 8 (Try.f133.body.getD .skip) (initS Try.f133.ntmps [.int .i64 a0, .int .i64 a1, .int .i64 a2] 0 (memOf [])) (retK Try.prog Try.f133.results.toList (outK 0 (List.range 0) [] (.k) fun v U N => R v U N)) =
 (cnd ((bif (m154 a0 a1 a2) then false else true))
 (R (.int .i64 2) [] [])
 (R (.int .i64 0) [] [])) := by kernel_rfl
def m133 (a0 : Int) (a1 : Int) (a2 : Int) : Int :=
 (cond ((bif (m154 a0 a1 a2) then false else true)) 2 0)
def q133 (r : Int) : SV × List Blk × List Blk := (.int .i64 r, [], [])
def g133 : List SV → List Blk → Option OpRes := fun vs bs => match vs, bs with
  | [.int .i64 a0, .int .i64 a1, .int .i64 a2], [] => some (resOf 0 (q133 (m133 a0 a1 a2)) [])
  | _, _ => none
def c133 : Ctr := genC [.k, .k, .k] g133
theorem p133 (a0 : Int) (a1 : Int) (a2 : Int) : exec Try.prog [(154, c154)] (fun _ => none) 8 (Try.f133.body.getD .skip) (initS Try.f133.ntmps [.int .i64 a0, .int .i64 a1, .int .i64 a2] 0 (memOf [])) (retK Try.prog Try.f133.results.toList (outK 0 (List.range 0) [] (.k) fun v U N => (v, U, N) = (q133 (m133 a0 a1 a2)))) :=
  propOf (x133 a0 a1 a2 _) (cnd_of (fun h0 => leaf_of (l := 2) (condT h0 rfl) rfl) (fun h0 => leaf_of (l := 0) (condF h0 rfl) rfl))
theorem k133 : CtrOk Try.prog c133 133 := ctr_of (tabOk_cons k154 tabOk_nil) mix_ok 8 (fn := Try.f133) (c := (Try.f133.body.getD .skip)) (grs := []) (rh := .k) (Λ := (fun _ => none)) Try.func133 rfl (by kernel_rfl) noLam fun vs bs q h _ => by
  unfold g133 at h
  split at h <;> cases h
  exact ⟨_, rfl, p133 _ _ _⟩
/-! ### shotline/mix.shares -/
theorem x119 (a0_0 : Int) (a0_1 : Int) (R : SV → List Blk → List Blk → Prop) : exec Try.prog [(83, c83)] (fun _ => none) 8 (Try.f119.body.getD .skip) (initS Try.f119.ntmps [.agg [.int .i64 a0_0, .int .i64 a0_1]] 0 (memOf [])) (retK Try.prog Try.f119.results.toList (outK 0 (List.range 0) [] (.k) fun v U N => R v U N)) =
 (cnd ((bif (bif (m83 a0_0 0 1000) then false else true) then true else (bif (m83 a0_1 0 1000) then false else true)))
 (R (.int .i64 2) [] [])
 (cnd ((decide (a0_1 < a0_0)))
 (R (.int .i64 9) [] [])
 (R (.int .i64 0) [] []))) := by kernel_rfl
def m119 (a0_0 : Int) (a0_1 : Int) : Int :=
 (cond ((bif (bif (m83 a0_0 0 1000) then false else true) then true else (bif (m83 a0_1 0 1000) then false else true))) 2 (cond ((decide (a0_1 < a0_0))) 9 0))
def q119 (r : Int) : SV × List Blk × List Blk := (.int .i64 r, [], [])
def g119 : List SV → List Blk → Option OpRes := fun vs bs => match vs, bs with
  | [.agg [.int .i64 a0_0, .int .i64 a0_1]], [] => some (resOf 0 (q119 (m119 a0_0 a0_1)) [])
  | _, _ => none
def c119 : Ctr := genC [.k] g119
theorem p119 (a0_0 : Int) (a0_1 : Int) : exec Try.prog [(83, c83)] (fun _ => none) 8 (Try.f119.body.getD .skip) (initS Try.f119.ntmps [.agg [.int .i64 a0_0, .int .i64 a0_1]] 0 (memOf [])) (retK Try.prog Try.f119.results.toList (outK 0 (List.range 0) [] (.k) fun v U N => (v, U, N) = (q119 (m119 a0_0 a0_1)))) :=
  propOf (x119 a0_0 a0_1 _) (cnd_of (fun h0 => leaf_of (l := 2) (condT h0 rfl) rfl) (fun h0 => cnd_of (fun h1 => leaf_of (l := 9) (condF h0 (condT h1 rfl)) rfl) (fun h1 => leaf_of (l := 0) (condF h0 (condF h1 rfl)) rfl)))
theorem k119 : CtrOk Try.prog c119 119 := ctr_of (tabOk_cons k83 tabOk_nil) mix_ok 8 (fn := Try.f119) (c := (Try.f119.body.getD .skip)) (grs := []) (rh := .k) (Λ := (fun _ => none)) Try.func119 rfl (by kernel_rfl) noLam fun vs bs q h _ => by
  unfold g119 at h
  split at h <;> cases h
  exact ⟨_, rfl, p119 _ _⟩
/-! ### shotline/shotlineref06.Find -/
def l23_0 (t0_0 : Nat) (t0_1 : Dat) (t1 : ByteArray) : Nat → Int → Option (Bool × (Int) × (Unit))
  | 0, _ => none
  | f + 1, t5 => (cond ((decide (t5 < (↑t0_0 : Int)))) (cond ((decide (0 ≤ t5 ∧ t5 < (↑t0_0 : Int)))) (cond ((decide (t0_1.ss t5.toNat 0 = t1))) (some (true, t5, default)) (l23_0 t0_0 t0_1 t1 f (IntKind.i64.wrap (t5 + 1)))) none) (some (false, default, ())))
abbrev o23_0 (t0_0 : Nat) (t0_1 : Dat) (t1 : ByteArray) (t5 : Int) : Option (Bool × (Int) × (Unit)) := l23_0 t0_0 t0_1 t1 (t0_0 + t1.size + t5.toNat + 8) t5
def e23_0 (t0_0 : Nat) (t0_1 : Dat) (t1 : ByteArray) (r : Bool × (Int) × (Unit)) (K : XR) : Prop := cnd r.1 (K (XE.ret) [.int .i64 r.2.1] []) (K (XE.exit 0) [.any] [])
def g23_0 : LSum := fun s k => match czv 0 20 [0, 1, 5] 0 [] s with
  | some ([.ro [.str, .int .i64, .int .i64] t0_0 t0_1, .str t1, .int .i64 t5], []) => needs [(o23_0 t0_0 t0_1 t1 t5).isSome] (e23_0 t0_0 t0_1 t1 ((o23_0 t0_0 t0_1 t1 t5).getD default) fun e vs bs => inBlk 0 k e (mkSt 0 20 [4] vs 0 bs))
  | _ => False
theorem y23_0 (t0_0 : Nat) (t0_1 : Dat) (t1 : ByteArray) (t5 : Int) (R : XR) : exec Try.prog [] (fun _ => none) 8 (unloop (bodyAt (Try.f23.body.getD .skip) 0)) (mkSt 0 20 [0, 1, 5] [.ro [.str, .int .i64, .int .i64] t0_0 t0_1, .str t1, .int .i64 t5] 0 []) (canonK 0 20 [0, 1, 5] [4] 0 [] R) =
 (cnd ((decide (t5 < (↑t0_0 : Int))))
 (cnd ((decide (0 ≤ t5 ∧ t5 < (↑t0_0 : Int))))
 (cnd ((decide (t0_1.ss t5.toNat 0 = t1)))
 (R (XE.ret) [.int .i64 t5] [])
 (R (XE.normal) [.ro [.str, .int .i64, .int .i64] t0_0 t0_1, .str t1, .int .i64 (IntKind.i64.wrap (t5 + 1))] []))
   False)
 (R (XE.exit 0) [.any] [])) := by kernel_rfl
theorem z23_0 : LOk Try.prog g23_0 (.block 0 (bodyAt (Try.f23.body.getD .skip) 0)) := by
  refine loop_blk (ι := Nat × Dat × ByteArray × Int) (L := []) (Λ := (fun _ => none)) (fuel := 8) (na := 0) (nt := 20) (nx := 0) (Lh := [0, 1, 5]) (Le := [4]) (gl := []) tabOk_nil mix_ok noLam rfl (fun f x K => GG default (e23_0 x.1 x.2.1 x.2.2.1) K (l23_0 x.1 x.2.1 x.2.2.1 f x.2.2.2)) (fun x => [.ro [.str, .int .i64, .int .i64] x.1 x.2.1, .str x.2.2.1, .int .i64 x.2.2.2]) (fun x => []) (fun x K => gg_none) ?_ ?_
  · rintro f ⟨t0_0, t0_1, t1, t5⟩ K hG
    have hG : GG default (e23_0 t0_0 t0_1 t1) K (cond ((decide (t5 < (↑t0_0 : Int)))) (cond ((decide (0 ≤ t5 ∧ t5 < (↑t0_0 : Int)))) (cond ((decide (t0_1.ss t5.toNat 0 = t1))) (some (true, t5, default)) (l23_0 t0_0 t0_1 t1 f (IntKind.i64.wrap (t5 + 1)))) none) (some (false, default, ()))) := hG
    refine propOf (y23_0 t0_0 t0_1 t1 t5 _) ?_
    exact cnd_gg2 hG (fun h0 => cnd_gg h0 fun h1 => cnd_gg2 h1 (fun h2 => h2.2) (fun h2 => ⟨(t0_0, t0_1, t1, (IntKind.i64.wrap (t5 + 1))), rfl, rfl, h2⟩)) (fun h0 => h0.2)
  · intro s k h
    unfold g23_0 at h
    split at h <;> try exact h.elim
    rename_i e1
    rw [needs_iff] at h
    exact ⟨_, e1, _, (_, _, _, _), rfl, rfl, h.1 _ (List.mem_singleton.2 rfl), h.2⟩
theorem x23 (na0 : Nat) (da0 : Dat) (a1 : ByteArray) (R : SV → List Blk → List Blk → Prop) : exec Try.prog [] (lamOf [(0, g23_0)]) 8 (Try.f23.body.getD .skip) (initS Try.f23.ntmps [.ro [.str, .int .i64, .int .i64] na0 da0, .str a1] 0 (memOf [])) (retK Try.prog Try.f23.results.toList (outK 0 (List.range 0) [] (.k) fun v U N => R v U N)) =
 (cnd (((o23_0 na0 da0 a1 0).isSome))
 (cnd ((((o23_0 na0 da0 a1 0).getD default).1))
 (R (.int .i64 (((o23_0 na0 da0 a1 0).getD default).2.1)) [] [])
 (R (.int .i64 (-1)) [] []))
  False) := by kernel_rfl
def m23 (na0 : Nat) (da0 : Dat) (a1 : ByteArray) : Int :=
 (cond ((((o23_0 na0 da0 a1 0).getD default).1)) (((o23_0 na0 da0 a1 0).getD default).2.1) (-1))
def n23 (na0 : Nat) (da0 : Dat) (a1 : ByteArray) : Bool :=
 ((((o23_0 na0 da0 a1 0).isSome)) && true)
def q23 (r : Int) : SV × List Blk × List Blk := (.int .i64 r, [], [])
def g23 : List SV → List Blk → Option OpRes := fun vs bs => match vs, bs with
  | [.ro [.str, .int .i64, .int .i64] na0 da0, .str a1], [] => some (resOf 0 (q23 (m23 na0 da0 a1)) [n23 na0 da0 a1])
  | _, _ => none
def c23 : Ctr := genC [.ro [.str, .int .i64, .int .i64], .k] g23
theorem p23 (na0 : Nat) (da0 : Dat) (a1 : ByteArray) (hn : n23 na0 da0 a1 = true) : exec Try.prog [] (lamOf [(0, g23_0)]) 8 (Try.f23.body.getD .skip) (initS Try.f23.ntmps [.ro [.str, .int .i64, .int .i64] na0 da0, .str a1] 0 (memOf [])) (retK Try.prog Try.f23.results.toList (outK 0 (List.range 0) [] (.k) fun v U N => (v, U, N) = (q23 (m23 na0 da0 a1)))) :=
  propOf (x23 na0 da0 a1 _) (cnd_need (and_l hn) (cnd_of (fun h0 => leaf_of (l := (((o23_0 na0 da0 a1 0).getD default).2.1)) (condT h0 rfl) rfl) (fun h0 => leaf_of (l := (-1)) (condF h0 rfl) rfl)))
theorem k23 : CtrOk Try.prog c23 23 := ctr_of tabOk_nil mix_ok 8 (fn := Try.f23) (c := (Try.f23.body.getD .skip)) (grs := []) (rh := .k) (Λ := (lamOf [(0, g23_0)])) Try.func23 rfl (by kernel_rfl) (lam_of rfl (lams_cons z23_0 lams_nil)) fun vs bs q h hn => by
  unfold g23 at h
  split at h <;> cases h
  exact ⟨_, rfl, p23 _ _ _ (hn _ (List.mem_singleton.2 rfl))⟩
/-! ### shotline/gas.first -/
def l132_0 (t5_0 : Nat) (t5_1 : Dat) (t6 : Int) : Nat → Int → Option (Bool × (Int) × (Unit))
  | 0, _ => none
  | f + 1, t7 => (cond ((decide (t7 < t6))) (cond ((decide (0 ≤ t7 ∧ t7 < (↑t5_0 : Int)))) (cond ((bif (decide (t5_1.ii t7.toNat 0 = 0)) then false else true)) (some (true, (t5_1.ii t7.toNat 0), default)) (l132_0 t5_0 t5_1 t6 f (IntKind.i64.wrap (t7 + 1)))) none) (some (false, default, ())))
abbrev o132_0 (t5_0 : Nat) (t5_1 : Dat) (t6 : Int) (t7 : Int) : Option (Bool × (Int) × (Unit)) := l132_0 t5_0 t5_1 t6 (t5_0 + t6.toNat + t7.toNat + 8) t7
def e132_0 (t5_0 : Nat) (t5_1 : Dat) (t6 : Int) (r : Bool × (Int) × (Unit)) (K : XR) : Prop := cnd r.1 (K (XE.ret) [.int .i64 r.2.1] []) (K (XE.exit 0) [.any] [])
def g132_0 : LSum := fun s k => match czv 0 15 [5, 6, 7] 0 [] s with
  | some ([.ro [.int .i64] t5_0 t5_1, .int .i64 t6, .int .i64 t7], []) => needs [(o132_0 t5_0 t5_1 t6 t7).isSome] (e132_0 t5_0 t5_1 t6 ((o132_0 t5_0 t5_1 t6 t7).getD default) fun e vs bs => inBlk 0 k e (mkSt 0 15 [2] vs 0 bs))
  | _ => False
theorem y132_0 (t5_0 : Nat) (t5_1 : Dat) (t6 : Int) (t7 : Int) (R : XR) : exec Try.prog [] (fun _ => none) 8 (unloop (bodyAt (Try.f132.body.getD .skip) 0)) (mkSt 0 15 [5, 6, 7] [.ro [.int .i64] t5_0 t5_1, .int .i64 t6, .int .i64 t7] 0 []) (canonK 0 15 [5, 6, 7] [2] 0 [] R) =
 (cnd ((decide (t7 < t6)))
 (cnd ((decide (0 ≤ t7 ∧ t7 < (↑t5_0 : Int))))
 (cnd ((bif (decide (t5_1.ii t7.toNat 0 = 0)) then false else true))
 (R (XE.ret) [.int .i64 (t5_1.ii t7.toNat 0)] [])
 (R (XE.normal) [.ro [.int .i64] t5_0 t5_1, .int .i64 t6, .int .i64 (IntKind.i64.wrap (t7 + 1))] []))
   False)
 (R (XE.exit 0) [.any] [])) := by kernel_rfl
theorem z132_0 : LOk Try.prog g132_0 (.block 0 (bodyAt (Try.f132.body.getD .skip) 0)) := by
  refine loop_blk (ι := Nat × Dat × Int × Int) (L := []) (Λ := (fun _ => none)) (fuel := 8) (na := 0) (nt := 15) (nx := 0) (Lh := [5, 6, 7]) (Le := [2]) (gl := []) tabOk_nil mix_ok noLam rfl (fun f x K => GG default (e132_0 x.1 x.2.1 x.2.2.1) K (l132_0 x.1 x.2.1 x.2.2.1 f x.2.2.2)) (fun x => [.ro [.int .i64] x.1 x.2.1, .int .i64 x.2.2.1, .int .i64 x.2.2.2]) (fun x => []) (fun x K => gg_none) ?_ ?_
  · rintro f ⟨t5_0, t5_1, t6, t7⟩ K hG
    have hG : GG default (e132_0 t5_0 t5_1 t6) K (cond ((decide (t7 < t6))) (cond ((decide (0 ≤ t7 ∧ t7 < (↑t5_0 : Int)))) (cond ((bif (decide (t5_1.ii t7.toNat 0 = 0)) then false else true)) (some (true, (t5_1.ii t7.toNat 0), default)) (l132_0 t5_0 t5_1 t6 f (IntKind.i64.wrap (t7 + 1)))) none) (some (false, default, ()))) := hG
    refine propOf (y132_0 t5_0 t5_1 t6 t7 _) ?_
    exact cnd_gg2 hG (fun h0 => cnd_gg h0 fun h1 => cnd_gg2 h1 (fun h2 => h2.2) (fun h2 => ⟨(t5_0, t5_1, t6, (IntKind.i64.wrap (t7 + 1))), rfl, rfl, h2⟩)) (fun h0 => h0.2)
  · intro s k h
    unfold g132_0 at h
    split at h <;> try exact h.elim
    rename_i e1
    rw [needs_iff] at h
    exact ⟨_, e1, _, (_, _, _, _), rfl, rfl, h.1 _ (List.mem_singleton.2 rfl), h.2⟩
theorem x132 (na0 : Nat) (da0 : Dat) (R : SV → List Blk → List Blk → Prop) : exec Try.prog [] (lamOf [(0, g132_0)]) 8 (Try.f132.body.getD .skip) (initS Try.f132.ntmps [.ro [.int .i64] na0 da0] 0 (memOf [])) (retK Try.prog Try.f132.results.toList (outK 0 (List.range 0) [] (.k) fun v U N => R v U N)) =
 (cnd (((o132_0 na0 da0 (↑na0 : Int) 0).isSome))
 (cnd ((((o132_0 na0 da0 (↑na0 : Int) 0).getD default).1))
 (R (.int .i64 (((o132_0 na0 da0 (↑na0 : Int) 0).getD default).2.1)) [] [])
 (R (.int .i64 0) [] []))
  False) := by kernel_rfl
def m132 (na0 : Nat) (da0 : Dat) : Int :=
 (cond ((((o132_0 na0 da0 (↑na0 : Int) 0).getD default).1)) (((o132_0 na0 da0 (↑na0 : Int) 0).getD default).2.1) 0)
def n132 (na0 : Nat) (da0 : Dat) : Bool :=
 ((((o132_0 na0 da0 (↑na0 : Int) 0).isSome)) && true)
def q132 (r : Int) : SV × List Blk × List Blk := (.int .i64 r, [], [])
def g132 : List SV → List Blk → Option OpRes := fun vs bs => match vs, bs with
  | [.ro [.int .i64] na0 da0], [] => some (resOf 0 (q132 (m132 na0 da0)) [n132 na0 da0])
  | _, _ => none
def c132 : Ctr := genC [.ro [.int .i64]] g132
theorem p132 (na0 : Nat) (da0 : Dat) (hn : n132 na0 da0 = true) : exec Try.prog [] (lamOf [(0, g132_0)]) 8 (Try.f132.body.getD .skip) (initS Try.f132.ntmps [.ro [.int .i64] na0 da0] 0 (memOf [])) (retK Try.prog Try.f132.results.toList (outK 0 (List.range 0) [] (.k) fun v U N => (v, U, N) = (q132 (m132 na0 da0)))) :=
  propOf (x132 na0 da0 _) (cnd_need (and_l hn) (cnd_of (fun h0 => leaf_of (l := (((o132_0 na0 da0 (↑na0 : Int) 0).getD default).2.1)) (condT h0 rfl) rfl) (fun h0 => leaf_of (l := 0) (condF h0 rfl) rfl)))
theorem k132 : CtrOk Try.prog c132 132 := ctr_of tabOk_nil mix_ok 8 (fn := Try.f132) (c := (Try.f132.body.getD .skip)) (grs := []) (rh := .k) (Λ := (lamOf [(0, g132_0)])) Try.func132 rfl (by kernel_rfl) (lam_of rfl (lams_cons z132_0 lams_nil)) fun vs bs q h hn => by
  unfold g132 at h
  split at h <;> cases h
  exact ⟨_, rfl, p132 _ _ (hn _ (List.mem_singleton.2 rfl))⟩
/-! ### shotline/shotlinelaw06.Short -/
def l19_0 (t0_0 : Nat) (t0_1 : Dat) (t1_0 : Nat) (t1_1 : Dat) : Nat → Int → Option (Bool × (Bool) × (Unit))
  | 0, _ => none
  | f + 1, t5 => (cond ((decide (t5 < (↑t0_0 : Int)))) (cond ((decide (0 ≤ t5 ∧ t5 < (↑t0_0 : Int)))) (cond ((decide (20 < (↑(t0_1.ss t5.toNat 0).size : Int)))) (some (true, false, default)) (l19_0 t0_0 t0_1 t1_0 t1_1 f (IntKind.i64.wrap (t5 + 1)))) none) (some (false, default, ())))
abbrev o19_0 (t0_0 : Nat) (t0_1 : Dat) (t1_0 : Nat) (t1_1 : Dat) (t5 : Int) : Option (Bool × (Bool) × (Unit)) := l19_0 t0_0 t0_1 t1_0 t1_1 (t0_0 + t1_0 + t5.toNat + 8) t5
def e19_0 (t0_0 : Nat) (t0_1 : Dat) (t1_0 : Nat) (t1_1 : Dat) (r : Bool × (Bool) × (Unit)) (K : XR) : Prop := cnd r.1 (K (XE.ret) [.ro [.str, .int .i64, .int .i64] t0_0 t0_1, .ro [.int .i64, .int .i64, .str, .str, .int .i64, .int .i64, .int .i64, .bool] t1_0 t1_1, .bool r.2.1] []) (K (XE.exit 0) [.ro [.str, .int .i64, .int .i64] t0_0 t0_1, .ro [.int .i64, .int .i64, .str, .str, .int .i64, .int .i64, .int .i64, .bool] t1_0 t1_1, .any] [])
def g19_0 : LSum := fun s k => match czv 0 70 [0, 1, 5] 0 [] s with
  | some ([.ro [.str, .int .i64, .int .i64] t0_0 t0_1, .ro [.int .i64, .int .i64, .str, .str, .int .i64, .int .i64, .int .i64, .bool] t1_0 t1_1, .int .i64 t5], []) => needs [(o19_0 t0_0 t0_1 t1_0 t1_1 t5).isSome] (e19_0 t0_0 t0_1 t1_0 t1_1 ((o19_0 t0_0 t0_1 t1_0 t1_1 t5).getD default) fun e vs bs => inBlk 0 k e (mkSt 0 70 [0, 1, 4] vs 0 bs))
  | _ => False
theorem y19_0 (t0_0 : Nat) (t0_1 : Dat) (t1_0 : Nat) (t1_1 : Dat) (t5 : Int) (R : XR) : exec Try.prog [] (fun _ => none) 8 (unloop (bodyAt (Try.f19.body.getD .skip) 0)) (mkSt 0 70 [0, 1, 5] [.ro [.str, .int .i64, .int .i64] t0_0 t0_1, .ro [.int .i64, .int .i64, .str, .str, .int .i64, .int .i64, .int .i64, .bool] t1_0 t1_1, .int .i64 t5] 0 []) (canonK 0 70 [0, 1, 5] [0, 1, 4] 0 [] R) =
 (cnd ((decide (t5 < (↑t0_0 : Int))))
 (cnd ((decide (0 ≤ t5 ∧ t5 < (↑t0_0 : Int))))
 (cnd ((decide (20 < (↑(t0_1.ss t5.toNat 0).size : Int))))
 (R (XE.ret) [.ro [.str, .int .i64, .int .i64] t0_0 t0_1, .ro [.int .i64, .int .i64, .str, .str, .int .i64, .int .i64, .int .i64, .bool] t1_0 t1_1, .bool false] [])
 (R (XE.normal) [.ro [.str, .int .i64, .int .i64] t0_0 t0_1, .ro [.int .i64, .int .i64, .str, .str, .int .i64, .int .i64, .int .i64, .bool] t1_0 t1_1, .int .i64 (IntKind.i64.wrap (t5 + 1))] []))
   False)
 (R (XE.exit 0) [.ro [.str, .int .i64, .int .i64] t0_0 t0_1, .ro [.int .i64, .int .i64, .str, .str, .int .i64, .int .i64, .int .i64, .bool] t1_0 t1_1, .any] [])) := by kernel_rfl
theorem z19_0 : LOk Try.prog g19_0 (.block 0 (bodyAt (Try.f19.body.getD .skip) 0)) := by
  refine loop_blk (ι := Nat × Dat × Nat × Dat × Int) (L := []) (Λ := (fun _ => none)) (fuel := 8) (na := 0) (nt := 70) (nx := 0) (Lh := [0, 1, 5]) (Le := [0, 1, 4]) (gl := []) tabOk_nil mix_ok noLam rfl (fun f x K => GG default (e19_0 x.1 x.2.1 x.2.2.1 x.2.2.2.1) K (l19_0 x.1 x.2.1 x.2.2.1 x.2.2.2.1 f x.2.2.2.2)) (fun x => [.ro [.str, .int .i64, .int .i64] x.1 x.2.1, .ro [.int .i64, .int .i64, .str, .str, .int .i64, .int .i64, .int .i64, .bool] x.2.2.1 x.2.2.2.1, .int .i64 x.2.2.2.2]) (fun x => []) (fun x K => gg_none) ?_ ?_
  · rintro f ⟨t0_0, t0_1, t1_0, t1_1, t5⟩ K hG
    have hG : GG default (e19_0 t0_0 t0_1 t1_0 t1_1) K (cond ((decide (t5 < (↑t0_0 : Int)))) (cond ((decide (0 ≤ t5 ∧ t5 < (↑t0_0 : Int)))) (cond ((decide (20 < (↑(t0_1.ss t5.toNat 0).size : Int)))) (some (true, false, default)) (l19_0 t0_0 t0_1 t1_0 t1_1 f (IntKind.i64.wrap (t5 + 1)))) none) (some (false, default, ()))) := hG
    refine propOf (y19_0 t0_0 t0_1 t1_0 t1_1 t5 _) ?_
    exact cnd_gg2 hG (fun h0 => cnd_gg h0 fun h1 => cnd_gg2 h1 (fun h2 => h2.2) (fun h2 => ⟨(t0_0, t0_1, t1_0, t1_1, (IntKind.i64.wrap (t5 + 1))), rfl, rfl, h2⟩)) (fun h0 => h0.2)
  · intro s k h
    unfold g19_0 at h
    split at h <;> try exact h.elim
    rename_i e1
    rw [needs_iff] at h
    exact ⟨_, e1, _, (_, _, _, _, _), rfl, rfl, h.1 _ (List.mem_singleton.2 rfl), h.2⟩
def l19_2 (t0_0 : Nat) (t0_1 : Dat) (t1_0 : Nat) (t1_1 : Dat) : Nat → Int → Option (Bool × (Bool) × (Unit))
  | 0, _ => none
  | f + 1, t6 => (cond ((decide (t6 < (↑t1_0 : Int)))) (cond ((decide (0 ≤ t6 ∧ t6 < (↑t1_0 : Int)))) (cond ((bif (bif (bif (decide (20 < (↑(t1_1.ss t6.toNat (0 + 1 + 1)).size : Int))) then false else true) then false else true) then true else (decide (0 ≤ t6 ∧ t6 < (↑t1_0 : Int))))) (cond ((bif (decide (20 < (↑(t1_1.ss t6.toNat (0 + 1 + 1)).size : Int))) then true else (decide (20 < (↑(t1_1.ss t6.toNat (0 + 1 + 1 + 1)).size : Int))))) (some (true, false, default)) (l19_2 t0_0 t0_1 t1_0 t1_1 f (IntKind.i64.wrap (t6 + 1)))) none) none) (some (false, default, ())))
abbrev o19_2 (t0_0 : Nat) (t0_1 : Dat) (t1_0 : Nat) (t1_1 : Dat) (t6 : Int) : Option (Bool × (Bool) × (Unit)) := l19_2 t0_0 t0_1 t1_0 t1_1 (t0_0 + t1_0 + t6.toNat + 8) t6
def e19_2 (t0_0 : Nat) (t0_1 : Dat) (t1_0 : Nat) (t1_1 : Dat) (r : Bool × (Bool) × (Unit)) (K : XR) : Prop := cnd r.1 (K (XE.ret) [.ro [.str, .int .i64, .int .i64] t0_0 t0_1, .ro [.int .i64, .int .i64, .str, .str, .int .i64, .int .i64, .int .i64, .bool] t1_0 t1_1, .bool r.2.1] []) (K (XE.exit 2) [.ro [.str, .int .i64, .int .i64] t0_0 t0_1, .ro [.int .i64, .int .i64, .str, .str, .int .i64, .int .i64, .int .i64, .bool] t1_0 t1_1, .any] [])
def g19_2 : LSum := fun s k => match czv 0 70 [0, 1, 6] 0 [] s with
  | some ([.ro [.str, .int .i64, .int .i64] t0_0 t0_1, .ro [.int .i64, .int .i64, .str, .str, .int .i64, .int .i64, .int .i64, .bool] t1_0 t1_1, .int .i64 t6], []) => needs [(o19_2 t0_0 t0_1 t1_0 t1_1 t6).isSome] (e19_2 t0_0 t0_1 t1_0 t1_1 ((o19_2 t0_0 t0_1 t1_0 t1_1 t6).getD default) fun e vs bs => inBlk 2 k e (mkSt 0 70 [0, 1, 4] vs 0 bs))
  | _ => False
theorem y19_2 (t0_0 : Nat) (t0_1 : Dat) (t1_0 : Nat) (t1_1 : Dat) (t6 : Int) (R : XR) : exec Try.prog [] (lamOf [(0, g19_0)]) 8 (unloop (bodyAt (Try.f19.body.getD .skip) 2)) (mkSt 0 70 [0, 1, 6] [.ro [.str, .int .i64, .int .i64] t0_0 t0_1, .ro [.int .i64, .int .i64, .str, .str, .int .i64, .int .i64, .int .i64, .bool] t1_0 t1_1, .int .i64 t6] 0 []) (canonK 0 70 [0, 1, 6] [0, 1, 4] 0 [] R) =
 (cnd ((decide (t6 < (↑t1_0 : Int))))
 (cnd ((decide (0 ≤ t6 ∧ t6 < (↑t1_0 : Int))))
 (cnd ((bif (bif (bif (decide (20 < (↑(t1_1.ss t6.toNat (0 + 1 + 1)).size : Int))) then false else true) then false else true) then true else (decide (0 ≤ t6 ∧ t6 < (↑t1_0 : Int)))))
 (cnd ((bif (decide (20 < (↑(t1_1.ss t6.toNat (0 + 1 + 1)).size : Int))) then true else (decide (20 < (↑(t1_1.ss t6.toNat (0 + 1 + 1 + 1)).size : Int)))))
 (R (XE.ret) [.ro [.str, .int .i64, .int .i64] t0_0 t0_1, .ro [.int .i64, .int .i64, .str, .str, .int .i64, .int .i64, .int .i64, .bool] t1_0 t1_1, .bool false] [])
 (R (XE.normal) [.ro [.str, .int .i64, .int .i64] t0_0 t0_1, .ro [.int .i64, .int .i64, .str, .str, .int .i64, .int .i64, .int .i64, .bool] t1_0 t1_1, .int .i64 (IntKind.i64.wrap (t6 + 1))] []))
    False)
   False)
 (R (XE.exit 2) [.ro [.str, .int .i64, .int .i64] t0_0 t0_1, .ro [.int .i64, .int .i64, .str, .str, .int .i64, .int .i64, .int .i64, .bool] t1_0 t1_1, .any] [])) := by kernel_rfl
theorem z19_2 : LOk Try.prog g19_2 (.block 2 (bodyAt (Try.f19.body.getD .skip) 2)) := by
  refine loop_blk (ι := Nat × Dat × Nat × Dat × Int) (L := []) (Λ := (lamOf [(0, g19_0)])) (fuel := 8) (na := 0) (nt := 70) (nx := 0) (Lh := [0, 1, 6]) (Le := [0, 1, 4]) (gl := []) tabOk_nil mix_ok (lam_of rfl (lams_cons z19_0 lams_nil)) rfl (fun f x K => GG default (e19_2 x.1 x.2.1 x.2.2.1 x.2.2.2.1) K (l19_2 x.1 x.2.1 x.2.2.1 x.2.2.2.1 f x.2.2.2.2)) (fun x => [.ro [.str, .int .i64, .int .i64] x.1 x.2.1, .ro [.int .i64, .int .i64, .str, .str, .int .i64, .int .i64, .int .i64, .bool] x.2.2.1 x.2.2.2.1, .int .i64 x.2.2.2.2]) (fun x => []) (fun x K => gg_none) ?_ ?_
  · rintro f ⟨t0_0, t0_1, t1_0, t1_1, t6⟩ K hG
    have hG : GG default (e19_2 t0_0 t0_1 t1_0 t1_1) K (cond ((decide (t6 < (↑t1_0 : Int)))) (cond ((decide (0 ≤ t6 ∧ t6 < (↑t1_0 : Int)))) (cond ((bif (bif (bif (decide (20 < (↑(t1_1.ss t6.toNat (0 + 1 + 1)).size : Int))) then false else true) then false else true) then true else (decide (0 ≤ t6 ∧ t6 < (↑t1_0 : Int))))) (cond ((bif (decide (20 < (↑(t1_1.ss t6.toNat (0 + 1 + 1)).size : Int))) then true else (decide (20 < (↑(t1_1.ss t6.toNat (0 + 1 + 1 + 1)).size : Int))))) (some (true, false, default)) (l19_2 t0_0 t0_1 t1_0 t1_1 f (IntKind.i64.wrap (t6 + 1)))) none) none) (some (false, default, ()))) := hG
    refine propOf (y19_2 t0_0 t0_1 t1_0 t1_1 t6 _) ?_
    exact cnd_gg2 hG (fun h0 => cnd_gg h0 fun h1 => cnd_gg h1 fun h2 => cnd_gg2 h2 (fun h3 => h3.2) (fun h3 => ⟨(t0_0, t0_1, t1_0, t1_1, (IntKind.i64.wrap (t6 + 1))), rfl, rfl, h3⟩)) (fun h0 => h0.2)
  · intro s k h
    unfold g19_2 at h
    split at h <;> try exact h.elim
    rename_i e1
    rw [needs_iff] at h
    exact ⟨_, e1, _, (_, _, _, _, _), rfl, rfl, h.1 _ (List.mem_singleton.2 rfl), h.2⟩
theorem x19 (na0 : Nat) (da0 : Dat) (na1 : Nat) (da1 : Dat) (R : SV → List Blk → List Blk → Prop) : exec Try.prog [] (lamOf [(0, g19_0), (2, g19_2)]) 8 (Try.f19.body.getD .skip) (initS Try.f19.ntmps [.ro [.str, .int .i64, .int .i64] na0 da0, .ro [.int .i64, .int .i64, .str, .str, .int .i64, .int .i64, .int .i64, .bool] na1 da1] 0 (memOf [])) (retK Try.prog Try.f19.results.toList (outK 0 (List.range 0) [] (.k) fun v U N => R v U N)) =
 (cnd (((o19_0 na0 da0 na1 da1 0).isSome))
 (cnd ((((o19_0 na0 da0 na1 da1 0).getD default).1))
 (R (.bool (((o19_0 na0 da0 na1 da1 0).getD default).2.1)) [] [])
 (cnd (((o19_2 na0 da0 na1 da1 0).isSome))
 (cnd ((((o19_2 na0 da0 na1 da1 0).getD default).1))
 (R (.bool (((o19_2 na0 da0 na1 da1 0).getD default).2.1)) [] [])
 (R (.bool (bif (bif (decide ((↑na0 : Int) ≤ 5)) then true else (bif (decide (20 < (↑na0 : Int))) then (decide ((↑na0 : Int) ≤ 22)) else false)) then (bif (decide ((↑na1 : Int) ≤ 12)) then true else (bif (decide (200 < (↑na1 : Int))) then (decide ((↑na1 : Int) ≤ 202)) else false)) else false)) [] []))
    False))
  False) := by kernel_rfl
def m19 (na0 : Nat) (da0 : Dat) (na1 : Nat) (da1 : Dat) : Bool :=
 (cond ((((o19_0 na0 da0 na1 da1 0).getD default).1)) (((o19_0 na0 da0 na1 da1 0).getD default).2.1) (cond ((((o19_2 na0 da0 na1 da1 0).getD default).1)) (((o19_2 na0 da0 na1 da1 0).getD default).2.1) (bif (bif (decide ((↑na0 : Int) ≤ 5)) then true else (bif (decide (20 < (↑na0 : Int))) then (decide ((↑na0 : Int) ≤ 22)) else false)) then (bif (decide ((↑na1 : Int) ≤ 12)) then true else (bif (decide (200 < (↑na1 : Int))) then (decide ((↑na1 : Int) ≤ 202)) else false)) else false)))
def n19 (na0 : Nat) (da0 : Dat) (na1 : Nat) (da1 : Dat) : Bool :=
 ((((o19_0 na0 da0 na1 da1 0).isSome)) && (cond ((((o19_0 na0 da0 na1 da1 0).getD default).1)) true ((((o19_2 na0 da0 na1 da1 0).isSome)) && true)))
def q19 (r : Bool) : SV × List Blk × List Blk := (.bool r, [], [])
def g19 : List SV → List Blk → Option OpRes := fun vs bs => match vs, bs with
  | [.ro [.str, .int .i64, .int .i64] na0 da0, .ro [.int .i64, .int .i64, .str, .str, .int .i64, .int .i64, .int .i64, .bool] na1 da1], [] => some (resOf 0 (q19 (m19 na0 da0 na1 da1)) [n19 na0 da0 na1 da1])
  | _, _ => none
def c19 : Ctr := genC [.ro [.str, .int .i64, .int .i64], .ro [.int .i64, .int .i64, .str, .str, .int .i64, .int .i64, .int .i64, .bool]] g19
theorem p19 (na0 : Nat) (da0 : Dat) (na1 : Nat) (da1 : Dat) (hn : n19 na0 da0 na1 da1 = true) : exec Try.prog [] (lamOf [(0, g19_0), (2, g19_2)]) 8 (Try.f19.body.getD .skip) (initS Try.f19.ntmps [.ro [.str, .int .i64, .int .i64] na0 da0, .ro [.int .i64, .int .i64, .str, .str, .int .i64, .int .i64, .int .i64, .bool] na1 da1] 0 (memOf [])) (retK Try.prog Try.f19.results.toList (outK 0 (List.range 0) [] (.k) fun v U N => (v, U, N) = (q19 (m19 na0 da0 na1 da1)))) :=
  propOf (x19 na0 da0 na1 da1 _) (cnd_need (and_l hn) (cnd_of (fun h0 => leaf_of (l := (((o19_0 na0 da0 na1 da1 0).getD default).2.1)) (condT h0 rfl) rfl) (fun h0 => cnd_need (and_l (cond_f h0 (and_r hn))) (cnd_of (fun h1 => leaf_of (l := (((o19_2 na0 da0 na1 da1 0).getD default).2.1)) (condF h0 (condT h1 rfl)) rfl) (fun h1 => leaf_of (l := (bif (bif (decide ((↑na0 : Int) ≤ 5)) then true else (bif (decide (20 < (↑na0 : Int))) then (decide ((↑na0 : Int) ≤ 22)) else false)) then (bif (decide ((↑na1 : Int) ≤ 12)) then true else (bif (decide (200 < (↑na1 : Int))) then (decide ((↑na1 : Int) ≤ 202)) else false)) else false)) (condF h0 (condF h1 rfl)) rfl)))))
theorem k19 : CtrOk Try.prog c19 19 := ctr_of tabOk_nil mix_ok 8 (fn := Try.f19) (c := (Try.f19.body.getD .skip)) (grs := []) (rh := .k) (Λ := (lamOf [(0, g19_0), (2, g19_2)])) Try.func19 rfl (by kernel_rfl) (lam_of rfl (lams_cons z19_0 (lams_cons z19_2 lams_nil))) fun vs bs q h hn => by
  unfold g19 at h
  split at h <;> cases h
  exact ⟨_, rfl, p19 _ _ _ _ (hn _ (List.mem_singleton.2 rfl))⟩
/-! ### shotline/mix.isName -/
def l104_0 (t0 : ByteArray) (t6 : Int) : Nat → Int → Option (Bool × (Bool) × (Unit))
  | 0, _ => none
  | f + 1, t7 => (cond ((decide (t7 < t6))) (cond ((decide (0 ≤ t7 ∧ t7 < (↑t0.size : Int)))) (cond ((bif (bif (decide (97 ≤ byteAt t0 t7.toNat)) then false else true) then true else (decide (0 ≤ t7 ∧ t7 < (↑t0.size : Int))))) (cond ((bif (bif (bif (bif (decide (97 ≤ byteAt t0 t7.toNat)) then (decide (byteAt t0 t7.toNat ≤ 122)) else false) then false else true) then false else true) then true else (decide (0 ≤ t7 ∧ t7 < (↑t0.size : Int))))) (cond ((bif (bif (bif (bif (bif (decide (97 ≤ byteAt t0 t7.toNat)) then (decide (byteAt t0 t7.toNat ≤ 122)) else false) then false else true) then (decide (65 ≤ byteAt t0 t7.toNat)) else false) then false else true) then true else (decide (0 ≤ t7 ∧ t7 < (↑t0.size : Int))))) (cond ((bif (bif (bif (bif (bif (bif (decide (97 ≤ byteAt t0 t7.toNat)) then (decide (byteAt t0 t7.toNat ≤ 122)) else false) then true else (bif (decide (65 ≤ byteAt t0 t7.toNat)) then (decide (byteAt t0 t7.toNat ≤ 90)) else false)) then false else true) then (bif (decide (t7 = 0)) then false else true) else false) then false else true) then true else (decide (0 ≤ t7 ∧ t7 < (↑t0.size : Int))))) (cond ((bif (bif (bif (bif (bif (bif (bif (decide (97 ≤ byteAt t0 t7.toNat)) then (decide (byteAt t0 t7.toNat ≤ 122)) else false) then true else (bif (decide (65 ≤ byteAt t0 t7.toNat)) then (decide (byteAt t0 t7.toNat ≤ 90)) else false)) then false else true) then (bif (decide (t7 = 0)) then false else true) else false) then (bif (decide (byteAt t0 t7.toNat = 45)) then false else true) else false) then false else true) then true else (decide (0 ≤ t7 ∧ t7 < (↑t0.size : Int))))) (cond ((bif (bif (bif (bif (bif (bif (bif (bif (decide (97 ≤ byteAt t0 t7.toNat)) then (decide (byteAt t0 t7.toNat ≤ 122)) else false) then true else (bif (decide (65 ≤ byteAt t0 t7.toNat)) then (decide (byteAt t0 t7.toNat ≤ 90)) else false)) then false else true) then (bif (decide (t7 = 0)) then false else true) else false) then (bif (decide (byteAt t0 t7.toNat = 45)) then false else true) else false) then (bif (decide (byteAt t0 t7.toNat < 48)) then false else true) else false) then false else true) then true else (decide (0 ≤ t7 ∧ t7 < (↑t0.size : Int))))) (cond ((bif (bif (bif (bif (decide (97 ≤ byteAt t0 t7.toNat)) then (decide (byteAt t0 t7.toNat ≤ 122)) else false) then true else (bif (decide (65 ≤ byteAt t0 t7.toNat)) then (decide (byteAt t0 t7.toNat ≤ 90)) else false)) then false else true) then (bif (decide (t7 = 0)) then true else (bif (bif (decide (byteAt t0 t7.toNat = 45)) then false else true) then (bif (decide (byteAt t0 t7.toNat < 48)) then true else (decide (57 < byteAt t0 t7.toNat))) else false)) else false)) (some (true, false, default)) (l104_0 t0 t6 f (IntKind.i64.wrap (t7 + 1)))) none) none) none) none) none) none) none) (some (false, default, ())))
abbrev o104_0 (t0 : ByteArray) (t6 : Int) (t7 : Int) : Option (Bool × (Bool) × (Unit)) := l104_0 t0 t6 (t0.size + t6.toNat + t7.toNat + 8) t7
def e104_0 (t0 : ByteArray) (t6 : Int) (r : Bool × (Bool) × (Unit)) (K : XR) : Prop := cnd r.1 (K (XE.ret) [.str t0, .bool r.2.1] []) (K (XE.exit 0) [.str t0, .any] [])
def g104_0 : LSum := fun s k => match czv 0 64 [0, 6, 7] 0 [] s with
  | some ([.str t0, .int .i64 t6, .int .i64 t7], []) => needs [(o104_0 t0 t6 t7).isSome] (e104_0 t0 t6 ((o104_0 t0 t6 t7).getD default) fun e vs bs => inBlk 0 k e (mkSt 0 64 [0, 2] vs 0 bs))
  | _ => False
theorem y104_0 (t0 : ByteArray) (t6 : Int) (t7 : Int) (R : XR) : exec Try.prog [] (fun _ => none) 8 (unloop (bodyAt (Try.f104.body.getD .skip) 0)) (mkSt 0 64 [0, 6, 7] [.str t0, .int .i64 t6, .int .i64 t7] 0 []) (canonK 0 64 [0, 6, 7] [0, 2] 0 [] R) =
 (cnd ((decide (t7 < t6)))
 (cnd ((decide (0 ≤ t7 ∧ t7 < (↑t0.size : Int))))
 (cnd ((bif (bif (decide (97 ≤ byteAt t0 t7.toNat)) then false else true) then true else (decide (0 ≤ t7 ∧ t7 < (↑t0.size : Int)))))
 (cnd ((bif (bif (bif (bif (decide (97 ≤ byteAt t0 t7.toNat)) then (decide (byteAt t0 t7.toNat ≤ 122)) else false) then false else true) then false else true) then true else (decide (0 ≤ t7 ∧ t7 < (↑t0.size : Int)))))
 (cnd ((bif (bif (bif (bif (bif (decide (97 ≤ byteAt t0 t7.toNat)) then (decide (byteAt t0 t7.toNat ≤ 122)) else false) then false else true) then (decide (65 ≤ byteAt t0 t7.toNat)) else false) then false else true) then true else (decide (0 ≤ t7 ∧ t7 < (↑t0.size : Int)))))
 (cnd ((bif (bif (bif (bif (bif (bif (decide (97 ≤ byteAt t0 t7.toNat)) then (decide (byteAt t0 t7.toNat ≤ 122)) else false) then true else (bif (decide (65 ≤ byteAt t0 t7.toNat)) then (decide (byteAt t0 t7.toNat ≤ 90)) else false)) then false else true) then (bif (decide (t7 = 0)) then false else true) else false) then false else true) then true else (decide (0 ≤ t7 ∧ t7 < (↑t0.size : Int)))))
 (cnd ((bif (bif (bif (bif (bif (bif (bif (decide (97 ≤ byteAt t0 t7.toNat)) then (decide (byteAt t0 t7.toNat ≤ 122)) else false) then true else (bif (decide (65 ≤ byteAt t0 t7.toNat)) then (decide (byteAt t0 t7.toNat ≤ 90)) else false)) then false else true) then (bif (decide (t7 = 0)) then false else true) else false) then (bif (decide (byteAt t0 t7.toNat = 45)) then false else true) else false) then false else true) then true else (decide (0 ≤ t7 ∧ t7 < (↑t0.size : Int)))))
 (cnd ((bif (bif (bif (bif (bif (bif (bif (bif (decide (97 ≤ byteAt t0 t7.toNat)) then (decide (byteAt t0 t7.toNat ≤ 122)) else false) then true else (bif (decide (65 ≤ byteAt t0 t7.toNat)) then (decide (byteAt t0 t7.toNat ≤ 90)) else false)) then false else true) then (bif (decide (t7 = 0)) then false else true) else false) then (bif (decide (byteAt t0 t7.toNat = 45)) then false else true) else false) then (bif (decide (byteAt t0 t7.toNat < 48)) then false else true) else false) then false else true) then true else (decide (0 ≤ t7 ∧ t7 < (↑t0.size : Int)))))
 (cnd ((bif (bif (bif (bif (decide (97 ≤ byteAt t0 t7.toNat)) then (decide (byteAt t0 t7.toNat ≤ 122)) else false) then true else (bif (decide (65 ≤ byteAt t0 t7.toNat)) then (decide (byteAt t0 t7.toNat ≤ 90)) else false)) then false else true) then (bif (decide (t7 = 0)) then true else (bif (bif (decide (byteAt t0 t7.toNat = 45)) then false else true) then (bif (decide (byteAt t0 t7.toNat < 48)) then true else (decide (57 < byteAt t0 t7.toNat))) else false)) else false))
 (R (XE.ret) [.str t0, .bool false] [])
 (R (XE.normal) [.str t0, .int .i64 t6, .int .i64 (IntKind.i64.wrap (t7 + 1))] []))
         False)
        False)
       False)
      False)
     False)
    False)
   False)
 (R (XE.exit 0) [.str t0, .any] [])) := by kernel_rfl
theorem z104_0 : LOk Try.prog g104_0 (.block 0 (bodyAt (Try.f104.body.getD .skip) 0)) := by
  refine loop_blk (ι := ByteArray × Int × Int) (L := []) (Λ := (fun _ => none)) (fuel := 8) (na := 0) (nt := 64) (nx := 0) (Lh := [0, 6, 7]) (Le := [0, 2]) (gl := []) tabOk_nil mix_ok noLam rfl (fun f x K => GG default (e104_0 x.1 x.2.1) K (l104_0 x.1 x.2.1 f x.2.2)) (fun x => [.str x.1, .int .i64 x.2.1, .int .i64 x.2.2]) (fun x => []) (fun x K => gg_none) ?_ ?_
  · rintro f ⟨t0, t6, t7⟩ K hG
    have hG : GG default (e104_0 t0 t6) K (cond ((decide (t7 < t6))) (cond ((decide (0 ≤ t7 ∧ t7 < (↑t0.size : Int)))) (cond ((bif (bif (decide (97 ≤ byteAt t0 t7.toNat)) then false else true) then true else (decide (0 ≤ t7 ∧ t7 < (↑t0.size : Int))))) (cond ((bif (bif (bif (bif (decide (97 ≤ byteAt t0 t7.toNat)) then (decide (byteAt t0 t7.toNat ≤ 122)) else false) then false else true) then false else true) then true else (decide (0 ≤ t7 ∧ t7 < (↑t0.size : Int))))) (cond ((bif (bif (bif (bif (bif (decide (97 ≤ byteAt t0 t7.toNat)) then (decide (byteAt t0 t7.toNat ≤ 122)) else false) then false else true) then (decide (65 ≤ byteAt t0 t7.toNat)) else false) then false else true) then true else (decide (0 ≤ t7 ∧ t7 < (↑t0.size : Int))))) (cond ((bif (bif (bif (bif (bif (bif (decide (97 ≤ byteAt t0 t7.toNat)) then (decide (byteAt t0 t7.toNat ≤ 122)) else false) then true else (bif (decide (65 ≤ byteAt t0 t7.toNat)) then (decide (byteAt t0 t7.toNat ≤ 90)) else false)) then false else true) then (bif (decide (t7 = 0)) then false else true) else false) then false else true) then true else (decide (0 ≤ t7 ∧ t7 < (↑t0.size : Int))))) (cond ((bif (bif (bif (bif (bif (bif (bif (decide (97 ≤ byteAt t0 t7.toNat)) then (decide (byteAt t0 t7.toNat ≤ 122)) else false) then true else (bif (decide (65 ≤ byteAt t0 t7.toNat)) then (decide (byteAt t0 t7.toNat ≤ 90)) else false)) then false else true) then (bif (decide (t7 = 0)) then false else true) else false) then (bif (decide (byteAt t0 t7.toNat = 45)) then false else true) else false) then false else true) then true else (decide (0 ≤ t7 ∧ t7 < (↑t0.size : Int))))) (cond ((bif (bif (bif (bif (bif (bif (bif (bif (decide (97 ≤ byteAt t0 t7.toNat)) then (decide (byteAt t0 t7.toNat ≤ 122)) else false) then true else (bif (decide (65 ≤ byteAt t0 t7.toNat)) then (decide (byteAt t0 t7.toNat ≤ 90)) else false)) then false else true) then (bif (decide (t7 = 0)) then false else true) else false) then (bif (decide (byteAt t0 t7.toNat = 45)) then false else true) else false) then (bif (decide (byteAt t0 t7.toNat < 48)) then false else true) else false) then false else true) then true else (decide (0 ≤ t7 ∧ t7 < (↑t0.size : Int))))) (cond ((bif (bif (bif (bif (decide (97 ≤ byteAt t0 t7.toNat)) then (decide (byteAt t0 t7.toNat ≤ 122)) else false) then true else (bif (decide (65 ≤ byteAt t0 t7.toNat)) then (decide (byteAt t0 t7.toNat ≤ 90)) else false)) then false else true) then (bif (decide (t7 = 0)) then true else (bif (bif (decide (byteAt t0 t7.toNat = 45)) then false else true) then (bif (decide (byteAt t0 t7.toNat < 48)) then true else (decide (57 < byteAt t0 t7.toNat))) else false)) else false)) (some (true, false, default)) (l104_0 t0 t6 f (IntKind.i64.wrap (t7 + 1)))) none) none) none) none) none) none) none) (some (false, default, ()))) := hG
    refine propOf (y104_0 t0 t6 t7 _) ?_
    exact cnd_gg2 hG (fun h0 => cnd_gg h0 fun h1 => cnd_gg h1 fun h2 => cnd_gg h2 fun h3 => cnd_gg h3 fun h4 => cnd_gg h4 fun h5 => cnd_gg h5 fun h6 => cnd_gg h6 fun h7 => cnd_gg2 h7 (fun h8 => h8.2) (fun h8 => ⟨(t0, t6, (IntKind.i64.wrap (t7 + 1))), rfl, rfl, h8⟩)) (fun h0 => h0.2)
  · intro s k h
    unfold g104_0 at h
    split at h <;> try exact h.elim
    rename_i e1
    rw [needs_iff] at h
    exact ⟨_, e1, _, (_, _, _), rfl, rfl, h.1 _ (List.mem_singleton.2 rfl), h.2⟩
theorem x104 (a0 : ByteArray) (R : SV → List Blk → List Blk → Prop) : exec Try.prog [] (lamOf [(0, g104_0)]) 8 (Try.f104.body.getD .skip) (initS Try.f104.ntmps [.str a0] 0 (memOf [])) (retK Try.prog Try.f104.results.toList (outK 0 (List.range 0) [] (.k) fun v U N => R v U N)) =
 (cnd (((o104_0 a0 (↑a0.size : Int) 0).isSome))
 (cnd ((((o104_0 a0 (↑a0.size : Int) 0).getD default).1))
 (R (.bool (((o104_0 a0 (↑a0.size : Int) 0).getD default).2.1)) [] [])
 (R (.bool (bif (bif (decide (a0 = { data := #[] })) then false else true) then (decide ((↑a0.size : Int) ≤ 12)) else false)) [] []))
  False) := by kernel_rfl
def m104 (a0 : ByteArray) : Bool :=
 (cond ((((o104_0 a0 (↑a0.size : Int) 0).getD default).1)) (((o104_0 a0 (↑a0.size : Int) 0).getD default).2.1) (bif (bif (decide (a0 = { data := #[] })) then false else true) then (decide ((↑a0.size : Int) ≤ 12)) else false))
def n104 (a0 : ByteArray) : Bool :=
 ((((o104_0 a0 (↑a0.size : Int) 0).isSome)) && true)
def q104 (r : Bool) : SV × List Blk × List Blk := (.bool r, [], [])
def g104 : List SV → List Blk → Option OpRes := fun vs bs => match vs, bs with
  | [.str a0], [] => some (resOf 0 (q104 (m104 a0)) [n104 a0])
  | _, _ => none
def c104 : Ctr := genC [.k] g104
theorem p104 (a0 : ByteArray) (hn : n104 a0 = true) : exec Try.prog [] (lamOf [(0, g104_0)]) 8 (Try.f104.body.getD .skip) (initS Try.f104.ntmps [.str a0] 0 (memOf [])) (retK Try.prog Try.f104.results.toList (outK 0 (List.range 0) [] (.k) fun v U N => (v, U, N) = (q104 (m104 a0)))) :=
  propOf (x104 a0 _) (cnd_need (and_l hn) (cnd_of (fun h0 => leaf_of (l := (((o104_0 a0 (↑a0.size : Int) 0).getD default).2.1)) (condT h0 rfl) rfl) (fun h0 => leaf_of (l := (bif (bif (decide (a0 = { data := #[] })) then false else true) then (decide ((↑a0.size : Int) ≤ 12)) else false)) (condF h0 rfl) rfl)))
theorem k104 : CtrOk Try.prog c104 104 := ctr_of tabOk_nil mix_ok 8 (fn := Try.f104) (c := (Try.f104.body.getD .skip)) (grs := []) (rh := .k) (Λ := (lamOf [(0, g104_0)])) Try.func104 rfl (by kernel_rfl) (lam_of rfl (lams_cons z104_0 lams_nil)) fun vs bs q h hn => by
  unfold g104 at h
  split at h <;> cases h
  exact ⟨_, rfl, p104 _ (hn _ (List.mem_singleton.2 rfl))⟩
/-! ### shotline/shotlinebase.IsName -/
def l90_0 (t0 : ByteArray) : Nat → Int → Option (Bool × (Bool) × (Unit))
  | 0, _ => none
  | f + 1, t3 => (cond ((decide (t3 < (↑t0.size : Int)))) (cond ((decide (0 ≤ t3 ∧ t3 < (↑t0.size : Int)))) (cond ((bif (bif (bif (bif (decide (97 ≤ byteAt t0 t3.toNat)) then (decide (byteAt t0 t3.toNat ≤ 122)) else false) then true else (bif (decide (65 ≤ byteAt t0 t3.toNat)) then (decide (byteAt t0 t3.toNat ≤ 90)) else false)) then false else true) then (bif (decide (t3 = 0)) then true else (bif (bif (decide (byteAt t0 t3.toNat = 45)) then false else true) then (bif (decide (byteAt t0 t3.toNat < 48)) then true else (decide (57 < byteAt t0 t3.toNat))) else false)) else false)) (some (true, false, default)) (l90_0 t0 f (IntKind.i64.wrap (t3 + 1)))) none) (some (false, default, ())))
abbrev o90_0 (t0 : ByteArray) (t3 : Int) : Option (Bool × (Bool) × (Unit)) := l90_0 t0 (t0.size + t3.toNat + 8) t3
def e90_0 (t0 : ByteArray) (r : Bool × (Bool) × (Unit)) (K : XR) : Prop := cnd r.1 (K (XE.ret) [.bool r.2.1] []) (K (XE.exit 0) [.any] [])
def g90_0 : LSum := fun s k => match czv 0 55 [0, 3] 0 [] s with
  | some ([.str t0, .int .i64 t3], []) => needs [(o90_0 t0 t3).isSome] (e90_0 t0 ((o90_0 t0 t3).getD default) fun e vs bs => inBlk 0 k e (mkSt 0 55 [2] vs 0 bs))
  | _ => False
theorem y90_0 (t0 : ByteArray) (t3 : Int) (R : XR) : exec Try.prog [] (fun _ => none) 8 (unloop (bodyAt (Try.f90.body.getD .skip) 0)) (mkSt 0 55 [0, 3] [.str t0, .int .i64 t3] 0 []) (canonK 0 55 [0, 3] [2] 0 [] R) =
 (cnd ((decide (t3 < (↑t0.size : Int))))
 (cnd ((decide (0 ≤ t3 ∧ t3 < (↑t0.size : Int))))
 (cnd ((bif (bif (bif (bif (decide (97 ≤ byteAt t0 t3.toNat)) then (decide (byteAt t0 t3.toNat ≤ 122)) else false) then true else (bif (decide (65 ≤ byteAt t0 t3.toNat)) then (decide (byteAt t0 t3.toNat ≤ 90)) else false)) then false else true) then (bif (decide (t3 = 0)) then true else (bif (bif (decide (byteAt t0 t3.toNat = 45)) then false else true) then (bif (decide (byteAt t0 t3.toNat < 48)) then true else (decide (57 < byteAt t0 t3.toNat))) else false)) else false))
 (R (XE.ret) [.bool false] [])
 (R (XE.normal) [.str t0, .int .i64 (IntKind.i64.wrap (t3 + 1))] []))
   False)
 (R (XE.exit 0) [.any] [])) := by kernel_rfl
theorem z90_0 : LOk Try.prog g90_0 (.block 0 (bodyAt (Try.f90.body.getD .skip) 0)) := by
  refine loop_blk (ι := ByteArray × Int) (L := []) (Λ := (fun _ => none)) (fuel := 8) (na := 0) (nt := 55) (nx := 0) (Lh := [0, 3]) (Le := [2]) (gl := []) tabOk_nil mix_ok noLam rfl (fun f x K => GG default (e90_0 x.1) K (l90_0 x.1 f x.2)) (fun x => [.str x.1, .int .i64 x.2]) (fun x => []) (fun x K => gg_none) ?_ ?_
  · rintro f ⟨t0, t3⟩ K hG
    have hG : GG default (e90_0 t0) K (cond ((decide (t3 < (↑t0.size : Int)))) (cond ((decide (0 ≤ t3 ∧ t3 < (↑t0.size : Int)))) (cond ((bif (bif (bif (bif (decide (97 ≤ byteAt t0 t3.toNat)) then (decide (byteAt t0 t3.toNat ≤ 122)) else false) then true else (bif (decide (65 ≤ byteAt t0 t3.toNat)) then (decide (byteAt t0 t3.toNat ≤ 90)) else false)) then false else true) then (bif (decide (t3 = 0)) then true else (bif (bif (decide (byteAt t0 t3.toNat = 45)) then false else true) then (bif (decide (byteAt t0 t3.toNat < 48)) then true else (decide (57 < byteAt t0 t3.toNat))) else false)) else false)) (some (true, false, default)) (l90_0 t0 f (IntKind.i64.wrap (t3 + 1)))) none) (some (false, default, ()))) := hG
    refine propOf (y90_0 t0 t3 _) ?_
    exact cnd_gg2 hG (fun h0 => cnd_gg h0 fun h1 => cnd_gg2 h1 (fun h2 => h2.2) (fun h2 => ⟨(t0, (IntKind.i64.wrap (t3 + 1))), rfl, rfl, h2⟩)) (fun h0 => h0.2)
  · intro s k h
    unfold g90_0 at h
    split at h <;> try exact h.elim
    rename_i e1
    rw [needs_iff] at h
    exact ⟨_, e1, _, (_, _), rfl, rfl, h.1 _ (List.mem_singleton.2 rfl), h.2⟩
theorem x90 (a0 : ByteArray) (R : SV → List Blk → List Blk → Prop) : exec Try.prog [] (lamOf [(0, g90_0)]) 8 (Try.f90.body.getD .skip) (initS Try.f90.ntmps [.str a0] 0 (memOf [])) (retK Try.prog Try.f90.results.toList (outK 0 (List.range 0) [] (.k) fun v U N => R v U N)) =
 (cnd ((bif (decide ((↑a0.size : Int) < 1)) then true else (decide (12 < (↑a0.size : Int)))))
 (R (.bool false) [] [])
 (cnd (((o90_0 a0 0).isSome))
 (cnd ((((o90_0 a0 0).getD default).1))
 (R (.bool (((o90_0 a0 0).getD default).2.1)) [] [])
 (R (.bool true) [] []))
   False)) := by kernel_rfl
def m90 (a0 : ByteArray) : Bool :=
 (cond ((bif (decide ((↑a0.size : Int) < 1)) then true else (decide (12 < (↑a0.size : Int))))) false (cond ((((o90_0 a0 0).getD default).1)) (((o90_0 a0 0).getD default).2.1) true))
def n90 (a0 : ByteArray) : Bool :=
 (cond ((bif (decide ((↑a0.size : Int) < 1)) then true else (decide (12 < (↑a0.size : Int))))) true ((((o90_0 a0 0).isSome)) && true))
def q90 (r : Bool) : SV × List Blk × List Blk := (.bool r, [], [])
def g90 : List SV → List Blk → Option OpRes := fun vs bs => match vs, bs with
  | [.str a0], [] => some (resOf 0 (q90 (m90 a0)) [n90 a0])
  | _, _ => none
def c90 : Ctr := genC [.k] g90
theorem p90 (a0 : ByteArray) (hn : n90 a0 = true) : exec Try.prog [] (lamOf [(0, g90_0)]) 8 (Try.f90.body.getD .skip) (initS Try.f90.ntmps [.str a0] 0 (memOf [])) (retK Try.prog Try.f90.results.toList (outK 0 (List.range 0) [] (.k) fun v U N => (v, U, N) = (q90 (m90 a0)))) :=
  propOf (x90 a0 _) (cnd_of (fun h0 => leaf_of (l := false) (condT h0 rfl) rfl) (fun h0 => cnd_need (and_l (cond_f h0 hn)) (cnd_of (fun h1 => leaf_of (l := (((o90_0 a0 0).getD default).2.1)) (condF h0 (condT h1 rfl)) rfl) (fun h1 => leaf_of (l := true) (condF h0 (condF h1 rfl)) rfl))))
theorem k90 : CtrOk Try.prog c90 90 := ctr_of tabOk_nil mix_ok 8 (fn := Try.f90) (c := (Try.f90.body.getD .skip)) (grs := []) (rh := .k) (Λ := (lamOf [(0, g90_0)])) Try.func90 rfl (by kernel_rfl) (lam_of rfl (lams_cons z90_0 lams_nil)) fun vs bs q h hn => by
  unfold g90 at h
  split at h <;> cases h
  exact ⟨_, rfl, p90 _ (hn _ (List.mem_singleton.2 rfl))⟩
/-! ### slices.IndexFunc[[]shotline/api.MixSource,shotline/api.MixSource] -/
def l150c118_0 (t0_0 : Nat) (t0_1 : Dat) (t1 : Dat) (t7 : Int) : Nat → Int → Option (Bool × (Int) × (Unit))
  | 0, _ => none
  | f + 1, t8 => (cond ((decide (t8 < t7))) (cond ((decide (0 ≤ t8 ∧ t8 < (↑t0_0 : Int)))) (cond ((m118 (t0_1.ss t8.toNat 0) (t0_1.ii t8.toNat (0 + 1)) (t0_1.ii t8.toNat (0 + 1 + 1)) (t0_1.ii t8.toNat (0 + 1 + 1 + 1)) (t0_1.ii t8.toNat (0 + 1 + 1 + 1 + 1)) t1)) (some (true, t8, default)) (l150c118_0 t0_0 t0_1 t1 t7 f (IntKind.i64.wrap (t8 + 1)))) none) (some (false, default, ())))
abbrev o150c118_0 (t0_0 : Nat) (t0_1 : Dat) (t1 : Dat) (t7 : Int) (t8 : Int) : Option (Bool × (Int) × (Unit)) := l150c118_0 t0_0 t0_1 t1 t7 (t0_0 + t7.toNat + t8.toNat + 8) t8
def e150c118_0 (t0_0 : Nat) (t0_1 : Dat) (t1 : Dat) (t7 : Int) (r : Bool × (Int) × (Unit)) (K : XR) : Prop := cnd r.1 (K (XE.ret) [.int .i64 r.2.1] []) (K (XE.exit 0) [.any] [])
def g150c118_0 : LSum := fun s k => match czv 0 19 [0, 1, 7, 8] 0 [] s with
  | some ([.ro [.str, .int .i64, .int .i64, .int .i64, .int .i64] t0_0 t0_1, .fn 118 [.rp [.str, .int .i64, .int .i64, .int .i64, .int .i64] t1 0 0], .int .i64 t7, .int .i64 t8], []) => needs [(o150c118_0 t0_0 t0_1 t1 t7 t8).isSome] (e150c118_0 t0_0 t0_1 t1 t7 ((o150c118_0 t0_0 t0_1 t1 t7 t8).getD default) fun e vs bs => inBlk 0 k e (mkSt 0 19 [4] vs 0 bs))
  | _ => False
theorem y150c118_0 (t0_0 : Nat) (t0_1 : Dat) (t1 : Dat) (t7 : Int) (t8 : Int) (R : XR) : exec Try.prog [(118, c118)] (fun _ => none) 8 (unloop (bodyAt (Try.f150.body.getD .skip) 0)) (mkSt 0 19 [0, 1, 7, 8] [.ro [.str, .int .i64, .int .i64, .int .i64, .int .i64] t0_0 t0_1, .fn 118 [.rp [.str, .int .i64, .int .i64, .int .i64, .int .i64] t1 0 0], .int .i64 t7, .int .i64 t8] 0 []) (canonK 0 19 [0, 1, 7, 8] [4] 0 [] R) =
 (cnd ((decide (t8 < t7)))
 (cnd ((decide (0 ≤ t8 ∧ t8 < (↑t0_0 : Int))))
 (cnd ((m118 (t0_1.ss t8.toNat 0) (t0_1.ii t8.toNat (0 + 1)) (t0_1.ii t8.toNat (0 + 1 + 1)) (t0_1.ii t8.toNat (0 + 1 + 1 + 1)) (t0_1.ii t8.toNat (0 + 1 + 1 + 1 + 1)) t1))
 (R (XE.ret) [.int .i64 t8] [])
 (R (XE.normal) [.ro [.str, .int .i64, .int .i64, .int .i64, .int .i64] t0_0 t0_1, .fn 118 [.rp [.str, .int .i64, .int .i64, .int .i64, .int .i64] t1 0 0], .int .i64 t7, .int .i64 (IntKind.i64.wrap (t8 + 1))] []))
   False)
 (R (XE.exit 0) [.any] [])) := by kernel_rfl
theorem z150c118_0 : LOk Try.prog g150c118_0 (.block 0 (bodyAt (Try.f150.body.getD .skip) 0)) := by
  refine loop_blk (ι := Nat × Dat × Dat × Int × Int) (L := [(118, c118)]) (Λ := (fun _ => none)) (fuel := 8) (na := 0) (nt := 19) (nx := 0) (Lh := [0, 1, 7, 8]) (Le := [4]) (gl := []) (tabOk_cons k118 tabOk_nil) mix_ok noLam rfl (fun f x K => GG default (e150c118_0 x.1 x.2.1 x.2.2.1 x.2.2.2.1) K (l150c118_0 x.1 x.2.1 x.2.2.1 x.2.2.2.1 f x.2.2.2.2)) (fun x => [.ro [.str, .int .i64, .int .i64, .int .i64, .int .i64] x.1 x.2.1, .fn 118 [.rp [.str, .int .i64, .int .i64, .int .i64, .int .i64] x.2.2.1 0 0], .int .i64 x.2.2.2.1, .int .i64 x.2.2.2.2]) (fun x => []) (fun x K => gg_none) ?_ ?_
  · rintro f ⟨t0_0, t0_1, t1, t7, t8⟩ K hG
    have hG : GG default (e150c118_0 t0_0 t0_1 t1 t7) K (cond ((decide (t8 < t7))) (cond ((decide (0 ≤ t8 ∧ t8 < (↑t0_0 : Int)))) (cond ((m118 (t0_1.ss t8.toNat 0) (t0_1.ii t8.toNat (0 + 1)) (t0_1.ii t8.toNat (0 + 1 + 1)) (t0_1.ii t8.toNat (0 + 1 + 1 + 1)) (t0_1.ii t8.toNat (0 + 1 + 1 + 1 + 1)) t1)) (some (true, t8, default)) (l150c118_0 t0_0 t0_1 t1 t7 f (IntKind.i64.wrap (t8 + 1)))) none) (some (false, default, ()))) := hG
    refine propOf (y150c118_0 t0_0 t0_1 t1 t7 t8 _) ?_
    exact cnd_gg2 hG (fun h0 => cnd_gg h0 fun h1 => cnd_gg2 h1 (fun h2 => h2.2) (fun h2 => ⟨(t0_0, t0_1, t1, t7, (IntKind.i64.wrap (t8 + 1))), rfl, rfl, h2⟩)) (fun h0 => h0.2)
  · intro s k h
    unfold g150c118_0 at h
    split at h <;> try exact h.elim
    rename_i e1
    rw [needs_iff] at h
    exact ⟨_, e1, _, (_, _, _, _, _), rfl, rfl, h.1 _ (List.mem_singleton.2 rfl), h.2⟩
theorem x150c118 (na0 : Nat) (da0 : Dat) (da1c0 : Dat) (R : SV → List Blk → List Blk → Prop) : exec Try.prog [(118, c118)] (lamOf [(0, g150c118_0)]) 8 (Try.f150.body.getD .skip) (initS Try.f150.ntmps [.ro [.str, .int .i64, .int .i64, .int .i64, .int .i64] na0 da0, .fn 118 [.rp [.str, .int .i64, .int .i64, .int .i64, .int .i64] da1c0 0 0]] 0 (memOf [])) (retK Try.prog Try.f150.results.toList (outK 0 (List.range 0) [] (.k) fun v U N => R v U N)) =
 (cnd (((o150c118_0 na0 da0 da1c0 (↑na0 : Int) 0).isSome))
 (cnd ((((o150c118_0 na0 da0 da1c0 (↑na0 : Int) 0).getD default).1))
 (R (.int .i64 (((o150c118_0 na0 da0 da1c0 (↑na0 : Int) 0).getD default).2.1)) [] [])
 (R (.int .i64 (-1)) [] []))
  False) := by kernel_rfl
def m150c118 (na0 : Nat) (da0 : Dat) (da1c0 : Dat) : Int :=
 (cond ((((o150c118_0 na0 da0 da1c0 (↑na0 : Int) 0).getD default).1)) (((o150c118_0 na0 da0 da1c0 (↑na0 : Int) 0).getD default).2.1) (-1))
def n150c118 (na0 : Nat) (da0 : Dat) (da1c0 : Dat) : Bool :=
 ((((o150c118_0 na0 da0 da1c0 (↑na0 : Int) 0).isSome)) && true)
def q150c118 (r : Int) : SV × List Blk × List Blk := (.int .i64 r, [], [])
def g150c118 : List SV → List Blk → Option OpRes := fun vs bs => match vs, bs with
  | [.ro [.str, .int .i64, .int .i64, .int .i64, .int .i64] na0 da0, .fn 118 [.rp [.str, .int .i64, .int .i64, .int .i64, .int .i64] da1c0 0 0]], [] => some (resOf 0 (q150c118 (m150c118 na0 da0 da1c0)) [n150c118 na0 da0 da1c0])
  | _, _ => none
def c150c118 : Ctr := genC [.ro [.str, .int .i64, .int .i64, .int .i64, .int .i64], .f [.rp [.str, .int .i64, .int .i64, .int .i64, .int .i64]]] g150c118
theorem p150c118 (na0 : Nat) (da0 : Dat) (da1c0 : Dat) (hn : n150c118 na0 da0 da1c0 = true) : exec Try.prog [(118, c118)] (lamOf [(0, g150c118_0)]) 8 (Try.f150.body.getD .skip) (initS Try.f150.ntmps [.ro [.str, .int .i64, .int .i64, .int .i64, .int .i64] na0 da0, .fn 118 [.rp [.str, .int .i64, .int .i64, .int .i64, .int .i64] da1c0 0 0]] 0 (memOf [])) (retK Try.prog Try.f150.results.toList (outK 0 (List.range 0) [] (.k) fun v U N => (v, U, N) = (q150c118 (m150c118 na0 da0 da1c0)))) :=
  propOf (x150c118 na0 da0 da1c0 _) (cnd_need (and_l hn) (cnd_of (fun h0 => leaf_of (l := (((o150c118_0 na0 da0 da1c0 (↑na0 : Int) 0).getD default).2.1)) (condT h0 rfl) rfl) (fun h0 => leaf_of (l := (-1)) (condF h0 rfl) rfl)))
theorem k150c118 : CtrOk Try.prog c150c118 150 := ctr_of (tabOk_cons k118 tabOk_nil) mix_ok 8 (fn := Try.f150) (c := (Try.f150.body.getD .skip)) (grs := []) (rh := .k) (Λ := (lamOf [(0, g150c118_0)])) Try.func150 rfl (by kernel_rfl) (lam_of rfl (lams_cons z150c118_0 lams_nil)) fun vs bs q h hn => by
  unfold g150c118 at h
  split at h <;> cases h
  exact ⟨_, rfl, p150c118 _ _ _ (hn _ (List.mem_singleton.2 rfl))⟩
/-! ### slices.IndexFunc[[]int,int] -/
def l151c121_0 (t0_0 : Nat) (t0_1 : Dat) (t7 : Int) : Nat → Int → Option (Bool × (Int) × (Unit))
  | 0, _ => none
  | f + 1, t8 => (cond ((decide (t8 < t7))) (cond ((decide (0 ≤ t8 ∧ t8 < (↑t0_0 : Int)))) (cond ((m121 (t0_1.ii t8.toNat 0))) (some (true, t8, default)) (l151c121_0 t0_0 t0_1 t7 f (IntKind.i64.wrap (t8 + 1)))) none) (some (false, default, ())))
abbrev o151c121_0 (t0_0 : Nat) (t0_1 : Dat) (t7 : Int) (t8 : Int) : Option (Bool × (Int) × (Unit)) := l151c121_0 t0_0 t0_1 t7 (t0_0 + t7.toNat + t8.toNat + 8) t8
def e151c121_0 (t0_0 : Nat) (t0_1 : Dat) (t7 : Int) (r : Bool × (Int) × (Unit)) (K : XR) : Prop := cnd r.1 (K (XE.ret) [.int .i64 r.2.1] []) (K (XE.exit 0) [.any] [])
def g151c121_0 : LSum := fun s k => match czv 0 19 [0, 1, 7, 8] 0 [] s with
  | some ([.ro [.int .i64] t0_0 t0_1, .fn 121 [], .int .i64 t7, .int .i64 t8], []) => needs [(o151c121_0 t0_0 t0_1 t7 t8).isSome] (e151c121_0 t0_0 t0_1 t7 ((o151c121_0 t0_0 t0_1 t7 t8).getD default) fun e vs bs => inBlk 0 k e (mkSt 0 19 [4] vs 0 bs))
  | _ => False
theorem y151c121_0 (t0_0 : Nat) (t0_1 : Dat) (t7 : Int) (t8 : Int) (R : XR) : exec Try.prog [(121, c121)] (fun _ => none) 8 (unloop (bodyAt (Try.f151.body.getD .skip) 0)) (mkSt 0 19 [0, 1, 7, 8] [.ro [.int .i64] t0_0 t0_1, .fn 121 [], .int .i64 t7, .int .i64 t8] 0 []) (canonK 0 19 [0, 1, 7, 8] [4] 0 [] R) =
 (cnd ((decide (t8 < t7)))
 (cnd ((decide (0 ≤ t8 ∧ t8 < (↑t0_0 : Int))))
 (cnd ((m121 (t0_1.ii t8.toNat 0)))
 (R (XE.ret) [.int .i64 t8] [])
 (R (XE.normal) [.ro [.int .i64] t0_0 t0_1, .fn 121 [], .int .i64 t7, .int .i64 (IntKind.i64.wrap (t8 + 1))] []))
   False)
 (R (XE.exit 0) [.any] [])) := by kernel_rfl
theorem z151c121_0 : LOk Try.prog g151c121_0 (.block 0 (bodyAt (Try.f151.body.getD .skip) 0)) := by
  refine loop_blk (ι := Nat × Dat × Int × Int) (L := [(121, c121)]) (Λ := (fun _ => none)) (fuel := 8) (na := 0) (nt := 19) (nx := 0) (Lh := [0, 1, 7, 8]) (Le := [4]) (gl := []) (tabOk_cons k121 tabOk_nil) mix_ok noLam rfl (fun f x K => GG default (e151c121_0 x.1 x.2.1 x.2.2.1) K (l151c121_0 x.1 x.2.1 x.2.2.1 f x.2.2.2)) (fun x => [.ro [.int .i64] x.1 x.2.1, .fn 121 [], .int .i64 x.2.2.1, .int .i64 x.2.2.2]) (fun x => []) (fun x K => gg_none) ?_ ?_
  · rintro f ⟨t0_0, t0_1, t7, t8⟩ K hG
    have hG : GG default (e151c121_0 t0_0 t0_1 t7) K (cond ((decide (t8 < t7))) (cond ((decide (0 ≤ t8 ∧ t8 < (↑t0_0 : Int)))) (cond ((m121 (t0_1.ii t8.toNat 0))) (some (true, t8, default)) (l151c121_0 t0_0 t0_1 t7 f (IntKind.i64.wrap (t8 + 1)))) none) (some (false, default, ()))) := hG
    refine propOf (y151c121_0 t0_0 t0_1 t7 t8 _) ?_
    exact cnd_gg2 hG (fun h0 => cnd_gg h0 fun h1 => cnd_gg2 h1 (fun h2 => h2.2) (fun h2 => ⟨(t0_0, t0_1, t7, (IntKind.i64.wrap (t8 + 1))), rfl, rfl, h2⟩)) (fun h0 => h0.2)
  · intro s k h
    unfold g151c121_0 at h
    split at h <;> try exact h.elim
    rename_i e1
    rw [needs_iff] at h
    exact ⟨_, e1, _, (_, _, _, _), rfl, rfl, h.1 _ (List.mem_singleton.2 rfl), h.2⟩
theorem x151c121 (na0 : Nat) (da0 : Dat) (R : SV → List Blk → List Blk → Prop) : exec Try.prog [(121, c121)] (lamOf [(0, g151c121_0)]) 8 (Try.f151.body.getD .skip) (initS Try.f151.ntmps [.ro [.int .i64] na0 da0, .fn 121 []] 0 (memOf [])) (retK Try.prog Try.f151.results.toList (outK 0 (List.range 0) [] (.k) fun v U N => R v U N)) =
 (cnd (((o151c121_0 na0 da0 (↑na0 : Int) 0).isSome))
 (cnd ((((o151c121_0 na0 da0 (↑na0 : Int) 0).getD default).1))
 (R (.int .i64 (((o151c121_0 na0 da0 (↑na0 : Int) 0).getD default).2.1)) [] [])
 (R (.int .i64 (-1)) [] []))
  False) := by kernel_rfl
def m151c121 (na0 : Nat) (da0 : Dat) : Int :=
 (cond ((((o151c121_0 na0 da0 (↑na0 : Int) 0).getD default).1)) (((o151c121_0 na0 da0 (↑na0 : Int) 0).getD default).2.1) (-1))
def n151c121 (na0 : Nat) (da0 : Dat) : Bool :=
 ((((o151c121_0 na0 da0 (↑na0 : Int) 0).isSome)) && true)
def q151c121 (r : Int) : SV × List Blk × List Blk := (.int .i64 r, [], [])
def g151c121 : List SV → List Blk → Option OpRes := fun vs bs => match vs, bs with
  | [.ro [.int .i64] na0 da0, .fn 121 []], [] => some (resOf 0 (q151c121 (m151c121 na0 da0)) [n151c121 na0 da0])
  | _, _ => none
def c151c121 : Ctr := genC [.ro [.int .i64], .f []] g151c121
theorem p151c121 (na0 : Nat) (da0 : Dat) (hn : n151c121 na0 da0 = true) : exec Try.prog [(121, c121)] (lamOf [(0, g151c121_0)]) 8 (Try.f151.body.getD .skip) (initS Try.f151.ntmps [.ro [.int .i64] na0 da0, .fn 121 []] 0 (memOf [])) (retK Try.prog Try.f151.results.toList (outK 0 (List.range 0) [] (.k) fun v U N => (v, U, N) = (q151c121 (m151c121 na0 da0)))) :=
  propOf (x151c121 na0 da0 _) (cnd_need (and_l hn) (cnd_of (fun h0 => leaf_of (l := (((o151c121_0 na0 da0 (↑na0 : Int) 0).getD default).2.1)) (condT h0 rfl) rfl) (fun h0 => leaf_of (l := (-1)) (condF h0 rfl) rfl)))
theorem k151c121 : CtrOk Try.prog c151c121 151 := ctr_of (tabOk_cons k121 tabOk_nil) mix_ok 8 (fn := Try.f151) (c := (Try.f151.body.getD .skip)) (grs := []) (rh := .k) (Λ := (lamOf [(0, g151c121_0)])) Try.func151 rfl (by kernel_rfl) (lam_of rfl (lams_cons z151c121_0 lams_nil)) fun vs bs q h hn => by
  unfold g151c121 at h
  split at h <;> cases h
  exact ⟨_, rfl, p151c121 _ _ (hn _ (List.mem_singleton.2 rfl))⟩
/-! ### slices.IndexFunc[[]shotline/api.MixVessel,shotline/api.MixVessel] -/
def l142c143_0 (t0_0 : Nat) (t0_1 : Dat) (t1 : Dat) (t7 : Int) : Nat → Int → Option (Bool × (Int) × (Unit))
  | 0, _ => none
  | f + 1, t8 => (cond ((decide (t8 < t7))) (cond ((decide (0 ≤ t8 ∧ t8 < (↑t0_0 : Int)))) (cond ((m143 (t0_1.ss t8.toNat 0) (t0_1.ii t8.toNat (0 + 1)) (t0_1.ii t8.toNat (0 + 1 + 1)) t1)) (some (true, t8, default)) (l142c143_0 t0_0 t0_1 t1 t7 f (IntKind.i64.wrap (t8 + 1)))) none) (some (false, default, ())))
abbrev o142c143_0 (t0_0 : Nat) (t0_1 : Dat) (t1 : Dat) (t7 : Int) (t8 : Int) : Option (Bool × (Int) × (Unit)) := l142c143_0 t0_0 t0_1 t1 t7 (t0_0 + t7.toNat + t8.toNat + 8) t8
def e142c143_0 (t0_0 : Nat) (t0_1 : Dat) (t1 : Dat) (t7 : Int) (r : Bool × (Int) × (Unit)) (K : XR) : Prop := cnd r.1 (K (XE.ret) [.int .i64 r.2.1] []) (K (XE.exit 0) [.any] [])
def g142c143_0 : LSum := fun s k => match czv 0 19 [0, 1, 7, 8] 0 [] s with
  | some ([.ro [.str, .int .i64, .int .i64] t0_0 t0_1, .fn 143 [.rp [.str] t1 0 0], .int .i64 t7, .int .i64 t8], []) => needs [(o142c143_0 t0_0 t0_1 t1 t7 t8).isSome] (e142c143_0 t0_0 t0_1 t1 t7 ((o142c143_0 t0_0 t0_1 t1 t7 t8).getD default) fun e vs bs => inBlk 0 k e (mkSt 0 19 [4] vs 0 bs))
  | _ => False
theorem y142c143_0 (t0_0 : Nat) (t0_1 : Dat) (t1 : Dat) (t7 : Int) (t8 : Int) (R : XR) : exec Try.prog [(143, c143)] (fun _ => none) 8 (unloop (bodyAt (Try.f142.body.getD .skip) 0)) (mkSt 0 19 [0, 1, 7, 8] [.ro [.str, .int .i64, .int .i64] t0_0 t0_1, .fn 143 [.rp [.str] t1 0 0], .int .i64 t7, .int .i64 t8] 0 []) (canonK 0 19 [0, 1, 7, 8] [4] 0 [] R) =
 (cnd ((decide (t8 < t7)))
 (cnd ((decide (0 ≤ t8 ∧ t8 < (↑t0_0 : Int))))
 (cnd ((m143 (t0_1.ss t8.toNat 0) (t0_1.ii t8.toNat (0 + 1)) (t0_1.ii t8.toNat (0 + 1 + 1)) t1))
 (R (XE.ret) [.int .i64 t8] [])
 (R (XE.normal) [.ro [.str, .int .i64, .int .i64] t0_0 t0_1, .fn 143 [.rp [.str] t1 0 0], .int .i64 t7, .int .i64 (IntKind.i64.wrap (t8 + 1))] []))
   False)
 (R (XE.exit 0) [.any] [])) := by kernel_rfl
theorem z142c143_0 : LOk Try.prog g142c143_0 (.block 0 (bodyAt (Try.f142.body.getD .skip) 0)) := by
  refine loop_blk (ι := Nat × Dat × Dat × Int × Int) (L := [(143, c143)]) (Λ := (fun _ => none)) (fuel := 8) (na := 0) (nt := 19) (nx := 0) (Lh := [0, 1, 7, 8]) (Le := [4]) (gl := []) (tabOk_cons k143 tabOk_nil) mix_ok noLam rfl (fun f x K => GG default (e142c143_0 x.1 x.2.1 x.2.2.1 x.2.2.2.1) K (l142c143_0 x.1 x.2.1 x.2.2.1 x.2.2.2.1 f x.2.2.2.2)) (fun x => [.ro [.str, .int .i64, .int .i64] x.1 x.2.1, .fn 143 [.rp [.str] x.2.2.1 0 0], .int .i64 x.2.2.2.1, .int .i64 x.2.2.2.2]) (fun x => []) (fun x K => gg_none) ?_ ?_
  · rintro f ⟨t0_0, t0_1, t1, t7, t8⟩ K hG
    have hG : GG default (e142c143_0 t0_0 t0_1 t1 t7) K (cond ((decide (t8 < t7))) (cond ((decide (0 ≤ t8 ∧ t8 < (↑t0_0 : Int)))) (cond ((m143 (t0_1.ss t8.toNat 0) (t0_1.ii t8.toNat (0 + 1)) (t0_1.ii t8.toNat (0 + 1 + 1)) t1)) (some (true, t8, default)) (l142c143_0 t0_0 t0_1 t1 t7 f (IntKind.i64.wrap (t8 + 1)))) none) (some (false, default, ()))) := hG
    refine propOf (y142c143_0 t0_0 t0_1 t1 t7 t8 _) ?_
    exact cnd_gg2 hG (fun h0 => cnd_gg h0 fun h1 => cnd_gg2 h1 (fun h2 => h2.2) (fun h2 => ⟨(t0_0, t0_1, t1, t7, (IntKind.i64.wrap (t8 + 1))), rfl, rfl, h2⟩)) (fun h0 => h0.2)
  · intro s k h
    unfold g142c143_0 at h
    split at h <;> try exact h.elim
    rename_i e1
    rw [needs_iff] at h
    exact ⟨_, e1, _, (_, _, _, _, _), rfl, rfl, h.1 _ (List.mem_singleton.2 rfl), h.2⟩
theorem x142c143 (na0 : Nat) (da0 : Dat) (da1c0 : Dat) (R : SV → List Blk → List Blk → Prop) : exec Try.prog [(143, c143)] (lamOf [(0, g142c143_0)]) 8 (Try.f142.body.getD .skip) (initS Try.f142.ntmps [.ro [.str, .int .i64, .int .i64] na0 da0, .fn 143 [.rp [.str] da1c0 0 0]] 0 (memOf [])) (retK Try.prog Try.f142.results.toList (outK 0 (List.range 0) [] (.k) fun v U N => R v U N)) =
 (cnd (((o142c143_0 na0 da0 da1c0 (↑na0 : Int) 0).isSome))
 (cnd ((((o142c143_0 na0 da0 da1c0 (↑na0 : Int) 0).getD default).1))
 (R (.int .i64 (((o142c143_0 na0 da0 da1c0 (↑na0 : Int) 0).getD default).2.1)) [] [])
 (R (.int .i64 (-1)) [] []))
  False) := by kernel_rfl
def m142c143 (na0 : Nat) (da0 : Dat) (da1c0 : Dat) : Int :=
 (cond ((((o142c143_0 na0 da0 da1c0 (↑na0 : Int) 0).getD default).1)) (((o142c143_0 na0 da0 da1c0 (↑na0 : Int) 0).getD default).2.1) (-1))
def n142c143 (na0 : Nat) (da0 : Dat) (da1c0 : Dat) : Bool :=
 ((((o142c143_0 na0 da0 da1c0 (↑na0 : Int) 0).isSome)) && true)
def q142c143 (r : Int) : SV × List Blk × List Blk := (.int .i64 r, [], [])
def g142c143 : List SV → List Blk → Option OpRes := fun vs bs => match vs, bs with
  | [.ro [.str, .int .i64, .int .i64] na0 da0, .fn 143 [.rp [.str] da1c0 0 0]], [] => some (resOf 0 (q142c143 (m142c143 na0 da0 da1c0)) [n142c143 na0 da0 da1c0])
  | _, _ => none
def c142c143 : Ctr := genC [.ro [.str, .int .i64, .int .i64], .f [.rp [.str]]] g142c143
theorem p142c143 (na0 : Nat) (da0 : Dat) (da1c0 : Dat) (hn : n142c143 na0 da0 da1c0 = true) : exec Try.prog [(143, c143)] (lamOf [(0, g142c143_0)]) 8 (Try.f142.body.getD .skip) (initS Try.f142.ntmps [.ro [.str, .int .i64, .int .i64] na0 da0, .fn 143 [.rp [.str] da1c0 0 0]] 0 (memOf [])) (retK Try.prog Try.f142.results.toList (outK 0 (List.range 0) [] (.k) fun v U N => (v, U, N) = (q142c143 (m142c143 na0 da0 da1c0)))) :=
  propOf (x142c143 na0 da0 da1c0 _) (cnd_need (and_l hn) (cnd_of (fun h0 => leaf_of (l := (((o142c143_0 na0 da0 da1c0 (↑na0 : Int) 0).getD default).2.1)) (condT h0 rfl) rfl) (fun h0 => leaf_of (l := (-1)) (condF h0 rfl) rfl)))
theorem k142c143 : CtrOk Try.prog c142c143 142 := ctr_of (tabOk_cons k143 tabOk_nil) mix_ok 8 (fn := Try.f142) (c := (Try.f142.body.getD .skip)) (grs := []) (rh := .k) (Λ := (lamOf [(0, g142c143_0)])) Try.func142 rfl (by kernel_rfl) (lam_of rfl (lams_cons z142c143_0 lams_nil)) fun vs bs q h hn => by
  unfold g142c143 at h
  split at h <;> cases h
  exact ⟨_, rfl, p142c143 _ _ _ (hn _ (List.mem_singleton.2 rfl))⟩
/-! ### shotline/gas.CheckGas -/
theorem x88 (a0_0 : Int) (a0_1 : Int) (R : SV → List Blk → List Blk → Prop) : exec Try.prog [(132, c132), (133, c133)] (fun _ => none) 8 (Try.f88.body.getD .skip) (initS Try.f88.ntmps [.agg [.int .i64 a0_0, .int .i64 a0_1]] 0 (memOf [])) (retK Try.prog Try.f88.results.toList (outK 0 (List.range 0) [] (.k) fun v U N => R v U N)) =
 (cnd ((n132 2 (datS [.int .i64 (m133 a0_0 0 1000), .int .i64 (m133 a0_1 0 1000)] 1)))
 (cnd ((bif (decide (m132 2 (datS [.int .i64 (m133 a0_0 0 1000), .int .i64 (m133 a0_1 0 1000)] 1) = 0)) then false else true))
 (R (.int .i64 (m132 2 (datS [.int .i64 (m133 a0_0 0 1000), .int .i64 (m133 a0_1 0 1000)] 1))) [] [])
 (cnd ((decide (1000 < IntKind.i64.wrap (a0_0 + a0_1))))
 (R (.int .i64 23) [] [])
 (R (.int .i64 0) [] [])))
  False) := by kernel_rfl
def m88 (a0_0 : Int) (a0_1 : Int) : Int :=
 (cond ((bif (decide (m132 2 (datS [.int .i64 (m133 a0_0 0 1000), .int .i64 (m133 a0_1 0 1000)] 1) = 0)) then false else true)) (m132 2 (datS [.int .i64 (m133 a0_0 0 1000), .int .i64 (m133 a0_1 0 1000)] 1)) (cond ((decide (1000 < IntKind.i64.wrap (a0_0 + a0_1)))) 23 0))
def n88 (a0_0 : Int) (a0_1 : Int) : Bool :=
 (((n132 2 (datS [.int .i64 (m133 a0_0 0 1000), .int .i64 (m133 a0_1 0 1000)] 1))) && true)
def q88 (r : Int) : SV × List Blk × List Blk := (.int .i64 r, [], [])
def g88 : List SV → List Blk → Option OpRes := fun vs bs => match vs, bs with
  | [.agg [.int .i64 a0_0, .int .i64 a0_1]], [] => some (resOf 0 (q88 (m88 a0_0 a0_1)) [n88 a0_0 a0_1])
  | _, _ => none
def c88 : Ctr := genC [.k] g88
theorem p88 (a0_0 : Int) (a0_1 : Int) (hn : n88 a0_0 a0_1 = true) : exec Try.prog [(132, c132), (133, c133)] (fun _ => none) 8 (Try.f88.body.getD .skip) (initS Try.f88.ntmps [.agg [.int .i64 a0_0, .int .i64 a0_1]] 0 (memOf [])) (retK Try.prog Try.f88.results.toList (outK 0 (List.range 0) [] (.k) fun v U N => (v, U, N) = (q88 (m88 a0_0 a0_1)))) :=
  propOf (x88 a0_0 a0_1 _) (cnd_need (and_l hn) (cnd_of (fun h0 => leaf_of (l := (m132 2 (datS [.int .i64 (m133 a0_0 0 1000), .int .i64 (m133 a0_1 0 1000)] 1))) (condT h0 rfl) rfl) (fun h0 => cnd_of (fun h1 => leaf_of (l := 23) (condF h0 (condT h1 rfl)) rfl) (fun h1 => leaf_of (l := 0) (condF h0 (condF h1 rfl)) rfl))))
theorem k88 : CtrOk Try.prog c88 88 := ctr_of (tabOk_cons k132 (tabOk_cons k133 tabOk_nil)) mix_ok 8 (fn := Try.f88) (c := (Try.f88.body.getD .skip)) (grs := []) (rh := .k) (Λ := (fun _ => none)) Try.func88 rfl (by kernel_rfl) noLam fun vs bs q h hn => by
  unfold g88 at h
  split at h <;> cases h
  exact ⟨_, rfl, p88 _ _ (hn _ (List.mem_singleton.2 rfl))⟩
/-! ### shotline/shotlineref06.CheckFill -/
theorem x110 (a0_0 : Int) (a0_1 : Int) (a0_2 : ByteArray) (a0_3 : ByteArray) (a0_4 : Int) (a0_5 : Int) (a0_6 : Int) (a0_7 : Bool) (R : SV → List Blk → List Blk → Prop) : exec Try.prog [(32, c32), (91, c91)] (fun _ => none) 8 (Try.f110.body.getD .skip) (initS Try.f110.ntmps [.agg [.int .i64 a0_0, .int .i64 a0_1, .str a0_2, .str a0_3, .int .i64 a0_4, .int .i64 a0_5, .int .i64 a0_6, .bool a0_7]] 0 (memOf [])) (retK Try.prog Try.f110.results.toList (outK 0 (List.range 0) [] (.k) fun v U N => R v U N)) =
 (cnd ((bif (m32 a0_0 0 2) then false else true))
 (R (.int .i64 15) [] [])
 (cnd ((bif (bif (m32 a0_1 0 100000) then false else true) then true else (bif (m32 a0_6 1 1000000000) then false else true)))
 (R (.int .i64 2) [] [])
 (cnd ((bif (bif (decide (a0_0 = 0)) then (bif (decide (m91 a0_4 a0_5 = 0)) then false else true) else false) then true else (bif (bif (decide (a0_0 = 0)) then false else true) then (bif (bif (decide (a0_4 = 0)) then (bif (decide (a0_5 = 0)) then true else false) else false) then false else true) else false)))
 (R (.int .i64 2) [] [])
 (cnd ((bif (bif (bif (bif (decide (a0_0 = 0)) then (bif (decide (a0_2 = { data := #[] })) then false else true) else false) then true else (bif (decide (a0_0 = 2)) then (bif (decide (a0_3 = { data := #[] })) then false else true) else false)) then true else (bif (decide (a0_0 = 1)) then (decide (a0_2 = a0_3)) else false)) then true else (bif (bif (decide (a0_0 = 1)) then false else true) then a0_7 else false)))
 (R (.int .i64 3) [] [])
 (R (.int .i64 0) [] []))))) := by kernel_rfl
def m110 (a0_0 : Int) (a0_1 : Int) (a0_2 : ByteArray) (a0_3 : ByteArray) (a0_4 : Int) (a0_5 : Int) (a0_6 : Int) (a0_7 : Bool) : Int :=
 (cond ((bif (m32 a0_0 0 2) then false else true)) 15 (cond ((bif (bif (m32 a0_1 0 100000) then false else true) then true else (bif (m32 a0_6 1 1000000000) then false else true))) 2 (cond ((bif (bif (decide (a0_0 = 0)) then (bif (decide (m91 a0_4 a0_5 = 0)) then false else true) else false) then true else (bif (bif (decide (a0_0 = 0)) then false else true) then (bif (bif (decide (a0_4 = 0)) then (bif (decide (a0_5 = 0)) then true else false) else false) then false else true) else false))) 2 (cond ((bif (bif (bif (bif (decide (a0_0 = 0)) then (bif (decide (a0_2 = { data := #[] })) then false else true) else false) then true else (bif (decide (a0_0 = 2)) then (bif (decide (a0_3 = { data := #[] })) then false else true) else false)) then true else (bif (decide (a0_0 = 1)) then (decide (a0_2 = a0_3)) else false)) then true else (bif (bif (decide (a0_0 = 1)) then false else true) then a0_7 else false))) 3 0))))
def q110 (r : Int) : SV × List Blk × List Blk := (.int .i64 r, [], [])
def g110 : List SV → List Blk → Option OpRes := fun vs bs => match vs, bs with
  | [.agg [.int .i64 a0_0, .int .i64 a0_1, .str a0_2, .str a0_3, .int .i64 a0_4, .int .i64 a0_5, .int .i64 a0_6, .bool a0_7]], [] => some (resOf 0 (q110 (m110 a0_0 a0_1 a0_2 a0_3 a0_4 a0_5 a0_6 a0_7)) [])
  | _, _ => none
def c110 : Ctr := genC [.k] g110
theorem p110 (a0_0 : Int) (a0_1 : Int) (a0_2 : ByteArray) (a0_3 : ByteArray) (a0_4 : Int) (a0_5 : Int) (a0_6 : Int) (a0_7 : Bool) : exec Try.prog [(32, c32), (91, c91)] (fun _ => none) 8 (Try.f110.body.getD .skip) (initS Try.f110.ntmps [.agg [.int .i64 a0_0, .int .i64 a0_1, .str a0_2, .str a0_3, .int .i64 a0_4, .int .i64 a0_5, .int .i64 a0_6, .bool a0_7]] 0 (memOf [])) (retK Try.prog Try.f110.results.toList (outK 0 (List.range 0) [] (.k) fun v U N => (v, U, N) = (q110 (m110 a0_0 a0_1 a0_2 a0_3 a0_4 a0_5 a0_6 a0_7)))) :=
  propOf (x110 a0_0 a0_1 a0_2 a0_3 a0_4 a0_5 a0_6 a0_7 _) (cnd_of (fun h0 => leaf_of (l := 15) (condT h0 rfl) rfl) (fun h0 => cnd_of (fun h1 => leaf_of (l := 2) (condF h0 (condT h1 rfl)) rfl) (fun h1 => cnd_of (fun h2 => leaf_of (l := 2) (condF h0 (condF h1 (condT h2 rfl))) rfl) (fun h2 => cnd_of (fun h3 => leaf_of (l := 3) (condF h0 (condF h1 (condF h2 (condT h3 rfl)))) rfl) (fun h3 => leaf_of (l := 0) (condF h0 (condF h1 (condF h2 (condF h3 rfl)))) rfl)))))
theorem k110 : CtrOk Try.prog c110 110 := ctr_of (tabOk_cons k32 (tabOk_cons k91 tabOk_nil)) mix_ok 8 (fn := Try.f110) (c := (Try.f110.body.getD .skip)) (grs := []) (rh := .k) (Λ := (fun _ => none)) Try.func110 rfl (by kernel_rfl) noLam fun vs bs q h _ => by
  unfold g110 at h
  split at h <;> cases h
  exact ⟨_, rfl, p110 _ _ _ _ _ _ _ _⟩
/-! ### (*shotline/mix.store).above -/
theorem x128 (da0 : Dat) (a1 : Int) (a2 : Int) (a3 : Int) (a4 : Int) (R : SV → List Blk → List Blk → Prop) : exec Try.prog [] (fun _ => none) 8 (Try.f128.body.getD .skip) (initS Try.f128.ntmps [.rp [.sl [.str, .int .i64, .int .i64], .sl [.int .i64, .int .i64, .int .i64], .int .i64, .int .i64, .int .i64, .int .i64, .int .i64, .int .i64, .int .i64] da0 0 0, .int .i64 a1, .int .i64 a2, .int .i64 a3, .int .i64 a4] 0 (memOf [])) (retK Try.prog Try.f128.results.toList (outK 0 (List.range 0) [] (.k) fun v U N => R v U N)) =
 (cnd ((decide (0 ≤ a3 ∧ a3 < (↑(da0.sn 0 0) : Int))))
 (cnd ((decide (0 ≤ a1 ∧ a1 < (↑(da0.sn 0 0) : Int))))
 (R (.bool (decide (IntKind.i64.wrap (a4 * (da0.sub 0 0).ii a1.toNat (0 + 1)) < IntKind.i64.wrap (a2 * (da0.sub 0 0).ii a3.toNat (0 + 1))))) [] [])
   False)
  False) := by kernel_rfl
def m128 (da0 : Dat) (a1 : Int) (a2 : Int) (a3 : Int) (a4 : Int) : Bool :=
 (decide (IntKind.i64.wrap (a4 * (da0.sub 0 0).ii a1.toNat (0 + 1)) < IntKind.i64.wrap (a2 * (da0.sub 0 0).ii a3.toNat (0 + 1))))
def n128 (da0 : Dat) (a1 : Int) (a2 : Int) (a3 : Int) (a4 : Int) : Bool :=
 (((decide (0 ≤ a3 ∧ a3 < (↑(da0.sn 0 0) : Int)))) && (((decide (0 ≤ a1 ∧ a1 < (↑(da0.sn 0 0) : Int)))) && true))
def q128 (r : Bool) : SV × List Blk × List Blk := (.bool r, [], [])
def g128 : List SV → List Blk → Option OpRes := fun vs bs => match vs, bs with
  | [.rp [.sl [.str, .int .i64, .int .i64], .sl [.int .i64, .int .i64, .int .i64], .int .i64, .int .i64, .int .i64, .int .i64, .int .i64, .int .i64, .int .i64] da0 0 0, .int .i64 a1, .int .i64 a2, .int .i64 a3, .int .i64 a4], [] => some (resOf 0 (q128 (m128 da0 a1 a2 a3 a4)) [n128 da0 a1 a2 a3 a4])
  | _, _ => none
def c128 : Ctr := genC [.rp [.sl [.str, .int .i64, .int .i64], .sl [.int .i64, .int .i64, .int .i64], .int .i64, .int .i64, .int .i64, .int .i64, .int .i64, .int .i64, .int .i64], .k, .k, .k, .k] g128
theorem p128 (da0 : Dat) (a1 : Int) (a2 : Int) (a3 : Int) (a4 : Int) (hn : n128 da0 a1 a2 a3 a4 = true) : exec Try.prog [] (fun _ => none) 8 (Try.f128.body.getD .skip) (initS Try.f128.ntmps [.rp [.sl [.str, .int .i64, .int .i64], .sl [.int .i64, .int .i64, .int .i64], .int .i64, .int .i64, .int .i64, .int .i64, .int .i64, .int .i64, .int .i64] da0 0 0, .int .i64 a1, .int .i64 a2, .int .i64 a3, .int .i64 a4] 0 (memOf [])) (retK Try.prog Try.f128.results.toList (outK 0 (List.range 0) [] (.k) fun v U N => (v, U, N) = (q128 (m128 da0 a1 a2 a3 a4)))) :=
  propOf (x128 da0 a1 a2 a3 a4 _) (cnd_need (and_l hn) (cnd_need (and_l (and_r hn)) (leaf_of (l := (decide (IntKind.i64.wrap (a4 * (da0.sub 0 0).ii a1.toNat (0 + 1)) < IntKind.i64.wrap (a2 * (da0.sub 0 0).ii a3.toNat (0 + 1))))) rfl rfl)))
theorem k128 : CtrOk Try.prog c128 128 := ctr_of tabOk_nil mix_ok 8 (fn := Try.f128) (c := (Try.f128.body.getD .skip)) (grs := []) (rh := .k) (Λ := (fun _ => none)) Try.func128 rfl (by kernel_rfl) noLam fun vs bs q h hn => by
  unfold g128 at h
  split at h <;> cases h
  exact ⟨_, rfl, p128 _ _ _ _ _ (hn _ (List.mem_singleton.2 rfl))⟩

/-! ### (shotline/mix.gases).share$1 -/
theorem x123 (a0 : Int) (a1 : Int) (da2 : Dat) (R : SV → List Blk → List Blk → Prop) : exec Try.prog [(124, c124)] (fun _ => none) 8 (Try.f123.body.getD .skip) (initS Try.f123.ntmps [.int .i64 a0, .int .i64 a1, .ra [.int .i64] 3 da2] 0 (memOf [])) (retK Try.prog Try.f123.results.toList (outK 0 (List.range 0) [] (.k) fun v U N => R v U N)) =
 (cnd ((decide (0 ≤ a1 ∧ a1 < (↑3 : Int))))
 (cnd ((decide (a1 < (↑3 : Int))))
 (cnd ((decide (0 ≤ a0 ∧ a0 < (↑3 : Int))))
 (cnd ((decide (a0 < (↑3 : Int))))
 (R (.int .i64 (m124 (da2.ii a1.toNat 0) (da2.ii a0.toNat 0))) [] [])
     False)
    False)
   False)
  False) := by kernel_rfl
def m123 (a0 : Int) (a1 : Int) (da2 : Dat) : Int :=
 (m124 (da2.ii a1.toNat 0) (da2.ii a0.toNat 0))
def n123 (a0 : Int) (a1 : Int) (da2 : Dat) : Bool :=
 (((decide (0 ≤ a1 ∧ a1 < (↑3 : Int)))) && (((decide (a1 < (↑3 : Int)))) && (((decide (0 ≤ a0 ∧ a0 < (↑3 : Int)))) && (((decide (a0 < (↑3 : Int)))) && true))))
def q123 (r : Int) : SV × List Blk × List Blk := (.int .i64 r, [], [])
def g123 : List SV → List Blk → Option OpRes := fun vs bs => match vs, bs with
  | [.int .i64 a0, .int .i64 a1, .ra [.int .i64] 3 da2], [] => some (resOf 0 (q123 (m123 a0 a1 da2)) [n123 a0 a1 da2])
  | _, _ => none
def c123 : Ctr := genC [.k, .k, .ra [.int .i64] 3] g123
theorem p123 (a0 : Int) (a1 : Int) (da2 : Dat) (hn : n123 a0 a1 da2 = true) : exec Try.prog [(124, c124)] (fun _ => none) 8 (Try.f123.body.getD .skip) (initS Try.f123.ntmps [.int .i64 a0, .int .i64 a1, .ra [.int .i64] 3 da2] 0 (memOf [])) (retK Try.prog Try.f123.results.toList (outK 0 (List.range 0) [] (.k) fun v U N => (v, U, N) = (q123 (m123 a0 a1 da2)))) :=
  propOf (x123 a0 a1 da2 _) (cnd_need (and_l hn) (cnd_need (and_l (and_r hn)) (cnd_need (and_l (and_r (and_r hn))) (cnd_need (and_l (and_r (and_r (and_r hn)))) (leaf_of (l := (m124 (da2.ii a1.toNat 0) (da2.ii a0.toNat 0))) rfl rfl)))))
theorem k123 : CtrOk Try.prog c123 123 := ctr_of (tabOk_cons k124 tabOk_nil) mix_ok 8 (fn := Try.f123) (c := (Try.f123.body.getD .skip)) (grs := []) (rh := .k) (Λ := (fun _ => none)) Try.func123 rfl (by kernel_rfl) noLam fun vs bs q h hn => by
  unfold g123 at h
  split at h <;> cases h
  exact ⟨_, rfl, p123 _ _ _ (hn _ (List.mem_singleton.2 rfl))⟩
/-! ### slices.ContainsFunc[[]shotline/api.MixSource,shotline/api.MixSource] -/
theorem x117c118 (na0 : Nat) (da0 : Dat) (da1c0 : Dat) (R : SV → List Blk → List Blk → Prop) : exec Try.prog [(118, c118), (150, c150c118)] (fun _ => none) 8 (Try.f117.body.getD .skip) (initS Try.f117.ntmps [.ro [.str, .int .i64, .int .i64, .int .i64, .int .i64] na0 da0, .fn 118 [.rp [.str, .int .i64, .int .i64, .int .i64, .int .i64] da1c0 0 0]] 0 (memOf [])) (retK Try.prog Try.f117.results.toList (outK 0 (List.range 0) [] (.k) fun v U N => R v U N)) =
 (cnd ((n150c118 na0 da0 da1c0))
 (R (.bool (decide (0 ≤ m150c118 na0 da0 da1c0))) [] [])
  False) := by kernel_rfl
def m117c118 (na0 : Nat) (da0 : Dat) (da1c0 : Dat) : Bool :=
 (decide (0 ≤ m150c118 na0 da0 da1c0))
def n117c118 (na0 : Nat) (da0 : Dat) (da1c0 : Dat) : Bool :=
 (((n150c118 na0 da0 da1c0)) && true)
def q117c118 (r : Bool) : SV × List Blk × List Blk := (.bool r, [], [])
def g117c118 : List SV → List Blk → Option OpRes := fun vs bs => match vs, bs with
  | [.ro [.str, .int .i64, .int .i64, .int .i64, .int .i64] na0 da0, .fn 118 [.rp [.str, .int .i64, .int .i64, .int .i64, .int .i64] da1c0 0 0]], [] => some (resOf 0 (q117c118 (m117c118 na0 da0 da1c0)) [n117c118 na0 da0 da1c0])
  | _, _ => none
def c117c118 : Ctr := genC [.ro [.str, .int .i64, .int .i64, .int .i64, .int .i64], .f [.rp [.str, .int .i64, .int .i64, .int .i64, .int .i64]]] g117c118
theorem p117c118 (na0 : Nat) (da0 : Dat) (da1c0 : Dat) (hn : n117c118 na0 da0 da1c0 = true) : exec Try.prog [(118, c118), (150, c150c118)] (fun _ => none) 8 (Try.f117.body.getD .skip) (initS Try.f117.ntmps [.ro [.str, .int .i64, .int .i64, .int .i64, .int .i64] na0 da0, .fn 118 [.rp [.str, .int .i64, .int .i64, .int .i64, .int .i64] da1c0 0 0]] 0 (memOf [])) (retK Try.prog Try.f117.results.toList (outK 0 (List.range 0) [] (.k) fun v U N => (v, U, N) = (q117c118 (m117c118 na0 da0 da1c0)))) :=
  propOf (x117c118 na0 da0 da1c0 _) (cnd_need (and_l hn) (leaf_of (l := (decide (0 ≤ m150c118 na0 da0 da1c0))) rfl rfl))
theorem k117c118 : CtrOk Try.prog c117c118 117 := ctr_of (tabOk_cons k118 (tabOk_cons k150c118 tabOk_nil)) mix_ok 8 (fn := Try.f117) (c := (Try.f117.body.getD .skip)) (grs := []) (rh := .k) (Λ := (fun _ => none)) Try.func117 rfl (by kernel_rfl) noLam fun vs bs q h hn => by
  unfold g117c118 at h
  split at h <;> cases h
  exact ⟨_, rfl, p117c118 _ _ _ (hn _ (List.mem_singleton.2 rfl))⟩
/-! ### slices.ContainsFunc[[]int,int] -/
theorem x120c121 (na0 : Nat) (da0 : Dat) (R : SV → List Blk → List Blk → Prop) : exec Try.prog [(121, c121), (151, c151c121)] (fun _ => none) 8 (Try.f120.body.getD .skip) (initS Try.f120.ntmps [.ro [.int .i64] na0 da0, .fn 121 []] 0 (memOf [])) (retK Try.prog Try.f120.results.toList (outK 0 (List.range 0) [] (.k) fun v U N => R v U N)) =
 (cnd ((n151c121 na0 da0))
 (R (.bool (decide (0 ≤ m151c121 na0 da0))) [] [])
  False) := by kernel_rfl
def m120c121 (na0 : Nat) (da0 : Dat) : Bool :=
 (decide (0 ≤ m151c121 na0 da0))
def n120c121 (na0 : Nat) (da0 : Dat) : Bool :=
 (((n151c121 na0 da0)) && true)
def q120c121 (r : Bool) : SV × List Blk × List Blk := (.bool r, [], [])
def g120c121 : List SV → List Blk → Option OpRes := fun vs bs => match vs, bs with
  | [.ro [.int .i64] na0 da0, .fn 121 []], [] => some (resOf 0 (q120c121 (m120c121 na0 da0)) [n120c121 na0 da0])
  | _, _ => none
def c120c121 : Ctr := genC [.ro [.int .i64], .f []] g120c121
theorem p120c121 (na0 : Nat) (da0 : Dat) (hn : n120c121 na0 da0 = true) : exec Try.prog [(121, c121), (151, c151c121)] (fun _ => none) 8 (Try.f120.body.getD .skip) (initS Try.f120.ntmps [.ro [.int .i64] na0 da0, .fn 121 []] 0 (memOf [])) (retK Try.prog Try.f120.results.toList (outK 0 (List.range 0) [] (.k) fun v U N => (v, U, N) = (q120c121 (m120c121 na0 da0)))) :=
  propOf (x120c121 na0 da0 _) (cnd_need (and_l hn) (leaf_of (l := (decide (0 ≤ m151c121 na0 da0))) rfl rfl))
theorem k120c121 : CtrOk Try.prog c120c121 120 := ctr_of (tabOk_cons k121 (tabOk_cons k151c121 tabOk_nil)) mix_ok 8 (fn := Try.f120) (c := (Try.f120.body.getD .skip)) (grs := []) (rh := .k) (Λ := (fun _ => none)) Try.func120 rfl (by kernel_rfl) noLam fun vs bs q h hn => by
  unfold g120c121 at h
  split at h <;> cases h
  exact ⟨_, rfl, p120c121 _ _ (hn _ (List.mem_singleton.2 rfl))⟩
/-! ### shotline/mix.vessel -/
theorem x105 (na0 : Nat) (da0 : Dat) (a1 : ByteArray) (R : SV → List Blk → List Blk → Prop) : exec Try.prog [(142, c142c143), (143, c143)] (fun _ => none) 8 (Try.f105.body.getD .skip) (initS Try.f105.ntmps [.ro [.str, .int .i64, .int .i64] na0 da0, .str a1] 0 (memOf [])) (retK Try.prog Try.f105.results.toList (outK 0 (List.range 0) [] (.k) fun v U N => R v U N)) =
 (cnd ((n142c143 na0 da0 (datC [SV.str a1])))
 (R (.int .i64 (m142c143 na0 da0 (datC [SV.str a1]))) [] [])
  False) := by kernel_rfl
def m105 (na0 : Nat) (da0 : Dat) (a1 : ByteArray) : Int :=
 (m142c143 na0 da0 (datC [SV.str a1]))
def n105 (na0 : Nat) (da0 : Dat) (a1 : ByteArray) : Bool :=
 (((n142c143 na0 da0 (datC [SV.str a1]))) && true)
def q105 (r : Int) : SV × List Blk × List Blk := (.int .i64 r, [], [])
def g105 : List SV → List Blk → Option OpRes := fun vs bs => match vs, bs with
  | [.ro [.str, .int .i64, .int .i64] na0 da0, .str a1], [] => some (resOf 0 (q105 (m105 na0 da0 a1)) [n105 na0 da0 a1])
  | _, _ => none
def c105 : Ctr := genC [.ro [.str, .int .i64, .int .i64], .k] g105
theorem p105 (na0 : Nat) (da0 : Dat) (a1 : ByteArray) (hn : n105 na0 da0 a1 = true) : exec Try.prog [(142, c142c143), (143, c143)] (fun _ => none) 8 (Try.f105.body.getD .skip) (initS Try.f105.ntmps [.ro [.str, .int .i64, .int .i64] na0 da0, .str a1] 0 (memOf [])) (retK Try.prog Try.f105.results.toList (outK 0 (List.range 0) [] (.k) fun v U N => (v, U, N) = (q105 (m105 na0 da0 a1)))) :=
  propOf (x105 na0 da0 a1 _) (cnd_need (and_l hn) (leaf_of (l := (m142c143 na0 da0 (datC [SV.str a1]))) rfl rfl))
theorem k105 : CtrOk Try.prog c105 105 := ctr_of (tabOk_cons k142c143 (tabOk_cons k143 tabOk_nil)) mix_ok 8 (fn := Try.f105) (c := (Try.f105.body.getD .skip)) (grs := []) (rh := .k) (Λ := (fun _ => none)) Try.func105 rfl (by kernel_rfl) noLam fun vs bs q h hn => by
  unfold g105 at h
  split at h <;> cases h
  exact ⟨_, rfl, p105 _ _ _ (hn _ (List.mem_singleton.2 rfl))⟩
/-! ### shotline/mix.alone -/
theorem x125 (a0_0 : Int) (a0_1 : Int) (a0_2 : ByteArray) (a0_3 : ByteArray) (a0_4 : Int) (a0_5 : Int) (a0_6 : Int) (a0_7 : Bool) (R : SV → List Blk → List Blk → Prop) : exec Try.prog [(83, c83), (88, c88), (126, c126), (127, c127)] (fun _ => none) 8 (Try.f125.body.getD .skip) (initS Try.f125.ntmps [.agg [.int .i64 a0_0, .int .i64 a0_1, .str a0_2, .str a0_3, .int .i64 a0_4, .int .i64 a0_5, .int .i64 a0_6, .bool a0_7]] 0 (memOf [])) (retK Try.prog Try.f125.results.toList (outK 0 (List.range 0) [] (.k) fun v U N => R v U N)) =
 (cnd ((bif (m83 a0_0 0 2) then false else true))
 (R (.int .i64 15) [] [])
 (cnd ((decide (a0_0 = 0)))
 (cnd ((n88 a0_4 a0_5))
 (cnd ((bif (bif (bif (m83 a0_1 0 100000) then false else true) then true else (bif (m83 a0_6 1 1000000000) then false else true)) then true else (bif (decide (m88 a0_4 a0_5 = 0)) then false else true)))
 (R (.int .i64 2) [] [])
 (cnd ((bif (bif (bif (bif (bif (m126 a0_0) then false else true) then (bif (decide (a0_2 = { data := #[] })) then false else true) else false) then true else (bif (bif (m127 a0_0) then false else true) then (bif (decide (a0_3 = { data := #[] })) then false else true) else false)) then true else (bif (decide (a0_0 = 1)) then (decide (a0_2 = a0_3)) else false)) then true else (bif a0_7 then (bif (decide (a0_0 = 1)) then false else true) else false)))
 (R (.int .i64 3) [] [])
 (R (.int .i64 0) [] [])))
    False)
 (cnd ((bif (bif (bif (m83 a0_1 0 100000) then false else true) then true else (bif (m83 a0_6 1 1000000000) then false else true)) then true else (bif (bif (decide (a0_4 = 0)) then (bif (decide (a0_5 = 0)) then true else false) else false) then false else true)))
 (R (.int .i64 2) [] [])
 (cnd ((bif (bif (bif (bif (bif (m126 a0_0) then false else true) then (bif (decide (a0_2 = { data := #[] })) then false else true) else false) then true else (bif (bif (m127 a0_0) then false else true) then (bif (decide (a0_3 = { data := #[] })) then false else true) else false)) then true else (bif (decide (a0_0 = 1)) then (decide (a0_2 = a0_3)) else false)) then true else (bif a0_7 then (bif (decide (a0_0 = 1)) then false else true) else false)))
 (R (.int .i64 3) [] [])
 (R (.int .i64 0) [] []))))) := by kernel_rfl
def m125 (a0_0 : Int) (a0_1 : Int) (a0_2 : ByteArray) (a0_3 : ByteArray) (a0_4 : Int) (a0_5 : Int) (a0_6 : Int) (a0_7 : Bool) : Int :=
 (cond ((bif (m83 a0_0 0 2) then false else true)) 15 (cond ((decide (a0_0 = 0))) (cond ((bif (bif (bif (m83 a0_1 0 100000) then false else true) then true else (bif (m83 a0_6 1 1000000000) then false else true)) then true else (bif (decide (m88 a0_4 a0_5 = 0)) then false else true))) 2 (cond ((bif (bif (bif (bif (bif (m126 a0_0) then false else true) then (bif (decide (a0_2 = { data := #[] })) then false else true) else false) then true else (bif (bif (m127 a0_0) then false else true) then (bif (decide (a0_3 = { data := #[] })) then false else true) else false)) then true else (bif (decide (a0_0 = 1)) then (decide (a0_2 = a0_3)) else false)) then true else (bif a0_7 then (bif (decide (a0_0 = 1)) then false else true) else false))) 3 0)) (cond ((bif (bif (bif (m83 a0_1 0 100000) then false else true) then true else (bif (m83 a0_6 1 1000000000) then false else true)) then true else (bif (bif (decide (a0_4 = 0)) then (bif (decide (a0_5 = 0)) then true else false) else false) then false else true))) 2 (cond ((bif (bif (bif (bif (bif (m126 a0_0) then false else true) then (bif (decide (a0_2 = { data := #[] })) then false else true) else false) then true else (bif (bif (m127 a0_0) then false else true) then (bif (decide (a0_3 = { data := #[] })) then false else true) else false)) then true else (bif (decide (a0_0 = 1)) then (decide (a0_2 = a0_3)) else false)) then true else (bif a0_7 then (bif (decide (a0_0 = 1)) then false else true) else false))) 3 0))))
def n125 (a0_0 : Int) (a0_1 : Int) (a0_2 : ByteArray) (a0_3 : ByteArray) (a0_4 : Int) (a0_5 : Int) (a0_6 : Int) (a0_7 : Bool) : Bool :=
 (cond ((bif (m83 a0_0 0 2) then false else true)) true (cond ((decide (a0_0 = 0))) (((n88 a0_4 a0_5)) && true) true))
def q125 (r : Int) : SV × List Blk × List Blk := (.int .i64 r, [], [])
def g125 : List SV → List Blk → Option OpRes := fun vs bs => match vs, bs with
  | [.agg [.int .i64 a0_0, .int .i64 a0_1, .str a0_2, .str a0_3, .int .i64 a0_4, .int .i64 a0_5, .int .i64 a0_6, .bool a0_7]], [] => some (resOf 0 (q125 (m125 a0_0 a0_1 a0_2 a0_3 a0_4 a0_5 a0_6 a0_7)) [n125 a0_0 a0_1 a0_2 a0_3 a0_4 a0_5 a0_6 a0_7])
  | _, _ => none
def c125 : Ctr := genC [.k] g125
theorem p125 (a0_0 : Int) (a0_1 : Int) (a0_2 : ByteArray) (a0_3 : ByteArray) (a0_4 : Int) (a0_5 : Int) (a0_6 : Int) (a0_7 : Bool) (hn : n125 a0_0 a0_1 a0_2 a0_3 a0_4 a0_5 a0_6 a0_7 = true) : exec Try.prog [(83, c83), (88, c88), (126, c126), (127, c127)] (fun _ => none) 8 (Try.f125.body.getD .skip) (initS Try.f125.ntmps [.agg [.int .i64 a0_0, .int .i64 a0_1, .str a0_2, .str a0_3, .int .i64 a0_4, .int .i64 a0_5, .int .i64 a0_6, .bool a0_7]] 0 (memOf [])) (retK Try.prog Try.f125.results.toList (outK 0 (List.range 0) [] (.k) fun v U N => (v, U, N) = (q125 (m125 a0_0 a0_1 a0_2 a0_3 a0_4 a0_5 a0_6 a0_7)))) :=
  propOf (x125 a0_0 a0_1 a0_2 a0_3 a0_4 a0_5 a0_6 a0_7 _) (cnd_of (fun h0 => leaf_of (l := 15) (condT h0 rfl) rfl) (fun h0 => cnd_of (fun h1 => cnd_need (and_l (cond_t h1 (cond_f h0 hn))) (cnd_of (fun h2 => leaf_of (l := 2) (condF h0 (condT h1 (condT h2 rfl))) rfl) (fun h2 => cnd_of (fun h3 => leaf_of (l := 3) (condF h0 (condT h1 (condF h2 (condT h3 rfl)))) rfl) (fun h3 => leaf_of (l := 0) (condF h0 (condT h1 (condF h2 (condF h3 rfl)))) rfl)))) (fun h1 => cnd_of (fun h2 => leaf_of (l := 2) (condF h0 (condF h1 (condT h2 rfl))) rfl) (fun h2 => cnd_of (fun h3 => leaf_of (l := 3) (condF h0 (condF h1 (condF h2 (condT h3 rfl)))) rfl) (fun h3 => leaf_of (l := 0) (condF h0 (condF h1 (condF h2 (condF h3 rfl)))) rfl)))))
theorem k125 : CtrOk Try.prog c125 125 := ctr_of (tabOk_cons k83 (tabOk_cons k88 (tabOk_cons k126 (tabOk_cons k127 tabOk_nil)))) mix_ok 8 (fn := Try.f125) (c := (Try.f125.body.getD .skip)) (grs := []) (rh := .k) (Λ := (fun _ => none)) Try.func125 rfl (by kernel_rfl) noLam fun vs bs q h hn => by
  unfold g125 at h
  split at h <;> cases h
  exact ⟨_, rfl, p125 _ _ _ _ _ _ _ _ (hn _ (List.mem_singleton.2 rfl))⟩
/-! ### slices.Clone[[]shotline/api.MixFill,shotline/api.MixFill] -/
theorem x87 (R : SV → List Blk → List Blk → Prop) : exec Try.prog [] (fun _ => none) 8 (Try.f87.body.getD .skip) (initS Try.f87.ntmps [.nsl] 0 (memOf [])) (retK Try.prog Try.f87.results.toList (outK 0 (List.range 0) [] .k fun v U N => R v U N)) = R .nsl [] [] := by kernel_rfl
theorem y87 (n : Nat) (d : Dat) (R : SV → List Blk → List Blk → Prop) : exec Try.prog [] (fun _ => none) 8 (Try.f87.body.getD .skip) (initS Try.f87.ntmps [.rn [.int .i64, .int .i64, .str, .str, .int .i64, .int .i64, .int .i64, .bool] n d] 0 (memOf [])) (retK Try.prog Try.f87.results.toList (outK 0 (List.range 0) [] .k fun v U N => R v U N)) = cnd (decide (0 ≤ 0)) (cnd (decide (0 + n ≤ 1073741824)) (R (.own 0 8 (0 + n)) [] [.row 37 [.int .i64, .int .i64, .str, .str, .int .i64, .int .i64, .int .i64, .bool] (0 + n) ((datS [] 8).app 0 d)]) False) False := by kernel_rfl
def c87 : Ctr := genC [.ro [.int .i64, .int .i64, .str, .str, .int .i64, .int .i64, .int .i64, .bool]] (cloneG 37 [.int .i64, .int .i64, .str, .str, .int .i64, .int .i64, .int .i64, .bool])
theorem k87 : CtrOk Try.prog c87 87 := ctr_clone tabOk_nil mix_ok 8 (fn := Try.f87) (c := (Try.f87.body.getD .skip)) (Λ := fun _ => none) Try.func87 rfl (by kernel_rfl) noLam (propOf (x87 _) rfl) fun n d hn => propOf (y87 n d _) (cnd_need (by simp) (cnd_need (by simpa using hn) ⟨datS [] 8, rfl⟩))
/-! ### shotline/mix.CheckVessels -/
def l50_0 (t0_0 : Nat) (t0_1 : Dat) (t8_1 : Dat) (t9 : Int) : Nat → Int → Option (Bool × (Int) × (Unit))
  | 0, _ => none
  | f + 1, t10 => (cond ((decide (t10 < t9))) (cond ((decide ((0 : Int) ≤ t10 ∧ t10 < (↑t0_0 : Int)))) (cond ((n104 (t8_1.ss t10.toNat 0))) (cond ((bif (m104 (t8_1.ss t10.toNat 0)) then false else true)) (some (true, 4, default)) (cond ((n105 t0_0 t0_1 (t8_1.ss t10.toNat 0))) (cond ((decide (m105 t0_0 t0_1 (t8_1.ss t10.toNat 0) < t10))) (some (true, 5, default)) (cond ((bif (bif (m83 (t8_1.ii t10.toNat (0 + 1)) 1 1000000) then false else true) then true else (bif (m83 (t8_1.ii t10.toNat (0 + 1 + 1)) 1 400000) then false else true))) (some (true, 2, default)) (l50_0 t0_0 t0_1 t8_1 t9 f (IntKind.i64.wrap (t10 + 1))))) none)) none) none) (some (false, default, ())))
abbrev o50_0 (t0_0 : Nat) (t0_1 : Dat) (t8_1 : Dat) (t9 : Int) (t10 : Int) : Option (Bool × (Int) × (Unit)) := l50_0 t0_0 t0_1 t8_1 t9 (t0_0 + t9.toNat + t10.toNat + 8) t10
def e50_0 (t0_0 : Nat) (t0_1 : Dat) (t8_1 : Dat) (t9 : Int) (r : Bool × (Int) × (Unit)) (K : XR) : Prop := cnd r.1 (K (XE.ret) [.int .i64 r.2.1] []) (K (XE.exit 0) [.any] [])
def g50_0 : LSum := fun s k => match czv 0 39 [0, 8, 9, 10] 0 [] s with
  | some ([.ro [.str, .int .i64, .int .i64] t0_0 t0_1, .ro [.str, .int .i64, .int .i64] t8_0 t8_1, .int .i64 t9, .int .i64 t10], []) => needs [decide (t0_0 = t8_0), (o50_0 t0_0 t0_1 t8_1 t9 t10).isSome] (e50_0 t0_0 t0_1 t8_1 t9 ((o50_0 t0_0 t0_1 t8_1 t9 t10).getD default) fun e vs bs => inBlk 0 k e (mkSt 0 39 [2] vs 0 bs))
  | _ => False
theorem y50_0 (t0_0 : Nat) (t0_1 : Dat) (t8_1 : Dat) (t9 : Int) (t10 : Int) (R : XR) : exec Try.prog [(83, c83), (104, c104), (105, c105)] (fun _ => none) 8 (unloop (bodyAt (Try.f50.body.getD .skip) 0)) (mkSt 0 39 [0, 8, 9, 10] [.ro [.str, .int .i64, .int .i64] t0_0 t0_1, .ro [.str, .int .i64, .int .i64] t0_0 t8_1, .int .i64 t9, .int .i64 t10] 0 []) (canonK 0 39 [0, 8, 9, 10] [2] 0 [] R) =
 (cnd ((decide (t10 < t9)))
 (cnd ((decide ((0 : Int) ≤ t10 ∧ t10 < (↑t0_0 : Int))))
 (cnd ((n104 (t8_1.ss t10.toNat 0)))
 (cnd ((bif (m104 (t8_1.ss t10.toNat 0)) then false else true))
 (R (XE.ret) [.int .i64 4] [])
 (cnd ((n105 t0_0 t0_1 (t8_1.ss t10.toNat 0)))
 (cnd ((decide (m105 t0_0 t0_1 (t8_1.ss t10.toNat 0) < t10)))
 (R (XE.ret) [.int .i64 5] [])
 (cnd ((bif (bif (m83 (t8_1.ii t10.toNat (0 + 1)) 1 1000000) then false else true) then true else (bif (m83 (t8_1.ii t10.toNat (0 + 1 + 1)) 1 400000) then false else true)))
 (R (XE.ret) [.int .i64 2] [])
 (R (XE.normal) [.ro [.str, .int .i64, .int .i64] t0_0 t0_1, .ro [.str, .int .i64, .int .i64] t0_0 t8_1, .int .i64 t9, .int .i64 (IntKind.i64.wrap (t10 + 1))] [])))
      False))
    False)
   False)
 (R (XE.exit 0) [.any] [])) := by kernel_rfl
theorem z50_0 : LOk Try.prog g50_0 (.block 0 (bodyAt (Try.f50.body.getD .skip) 0)) := by
  refine loop_blk (ι := Nat × Dat × Dat × Int × Int) (L := [(83, c83), (104, c104), (105, c105)]) (Λ := (fun _ => none)) (fuel := 8) (na := 0) (nt := 39) (nx := 0) (Lh := [0, 8, 9, 10]) (Le := [2]) (gl := []) (tabOk_cons k83 (tabOk_cons k104 (tabOk_cons k105 tabOk_nil))) mix_ok noLam rfl (fun f x K => GG default (e50_0 x.1 x.2.1 x.2.2.1 x.2.2.2.1) K (l50_0 x.1 x.2.1 x.2.2.1 x.2.2.2.1 f x.2.2.2.2)) (fun x => [.ro [.str, .int .i64, .int .i64] x.1 x.2.1, .ro [.str, .int .i64, .int .i64] x.1 x.2.2.1, .int .i64 x.2.2.2.1, .int .i64 x.2.2.2.2]) (fun x => []) (fun x K => gg_none) ?_ ?_
  · rintro f ⟨t0_0, t0_1, t8_1, t9, t10⟩ K hG
    have hG : GG default (e50_0 t0_0 t0_1 t8_1 t9) K (cond ((decide (t10 < t9))) (cond ((decide ((0 : Int) ≤ t10 ∧ t10 < (↑t0_0 : Int)))) (cond ((n104 (t8_1.ss t10.toNat 0))) (cond ((bif (m104 (t8_1.ss t10.toNat 0)) then false else true)) (some (true, 4, default)) (cond ((n105 t0_0 t0_1 (t8_1.ss t10.toNat 0))) (cond ((decide (m105 t0_0 t0_1 (t8_1.ss t10.toNat 0) < t10))) (some (true, 5, default)) (cond ((bif (bif (m83 (t8_1.ii t10.toNat (0 + 1)) 1 1000000) then false else true) then true else (bif (m83 (t8_1.ii t10.toNat (0 + 1 + 1)) 1 400000) then false else true))) (some (true, 2, default)) (l50_0 t0_0 t0_1 t8_1 t9 f (IntKind.i64.wrap (t10 + 1))))) none)) none) none) (some (false, default, ()))) := hG
    refine propOf (y50_0 t0_0 t0_1 t8_1 t9 t10 _) ?_
    exact cnd_gg2 hG (fun h0 => cnd_gg h0 fun h1 => cnd_gg h1 fun h2 => cnd_gg2 h2 (fun h3 => h3.2) (fun h3 => cnd_gg h3 fun h4 => cnd_gg2 h4 (fun h5 => h5.2) (fun h5 => cnd_gg2 h5 (fun h6 => h6.2) (fun h6 => ⟨(t0_0, t0_1, t8_1, t9, (IntKind.i64.wrap (t10 + 1))), rfl, rfl, h6⟩)))) (fun h0 => h0.2)
  · intro s k h
    unfold g50_0 at h
    split at h <;> try exact h.elim
    rename_i e1
    rw [needs_iff] at h
    have hq := h.1
    simp only [List.mem_cons, forall_eq_or_imp, decide_eq_true_eq, List.not_mem_nil, false_imp_iff, implies_true, and_true] at hq
    obtain ⟨rfl, hq⟩ := hq
    exact ⟨_, e1, _, (_, _, _, _, _), rfl, rfl, hq, h.2⟩
theorem x50 (na0 : Nat) (da0 : Dat) (R : SV → List Blk → List Blk → Prop) : exec Try.prog [(83, c83), (104, c104), (105, c105)] (lamOf [(0, g50_0)]) 8 (Try.f50.body.getD .skip) (initS Try.f50.ntmps [.ro [.str, .int .i64, .int .i64] na0 da0] 0 (memOf [])) (retK Try.prog Try.f50.results.toList (outK 0 (List.range 0) [] (.k) fun v U N => R v U N)) =
 (cnd ((decide ((20 : Int) < (↑na0 : Int))))
 (R (.int .i64 8) [] [])
 (cnd ((decide (na0 = na0)))
 (cnd (((o50_0 na0 da0 da0 (↑na0 : Int) 0).isSome))
 (cnd ((((o50_0 na0 da0 da0 (↑na0 : Int) 0).getD default).1))
 (R (.int .i64 (((o50_0 na0 da0 da0 (↑na0 : Int) 0).getD default).2.1)) [] [])
 (R (.int .i64 0) [] []))
    False)
   False)) := by kernel_rfl
def m50 (na0 : Nat) (da0 : Dat) : Int :=
 (cond ((decide ((20 : Int) < (↑na0 : Int)))) 8 (cond ((((o50_0 na0 da0 da0 (↑na0 : Int) 0).getD default).1)) (((o50_0 na0 da0 da0 (↑na0 : Int) 0).getD default).2.1) 0))
def n50 (na0 : Nat) (da0 : Dat) : Bool :=
 (cond ((decide ((20 : Int) < (↑na0 : Int)))) true ((((o50_0 na0 da0 da0 (↑na0 : Int) 0).isSome)) && true))
def q50 (r : Int) : SV × List Blk × List Blk := (.int .i64 r, [], [])
def g50 : List SV → List Blk → Option OpRes := fun vs bs => match vs, bs with
  | [.ro [.str, .int .i64, .int .i64] na0 da0], [] => some (resOf 0 (q50 (m50 na0 da0)) [n50 na0 da0])
  | _, _ => none
def c50 : Ctr := genC [.ro [.str, .int .i64, .int .i64]] g50
theorem p50 (na0 : Nat) (da0 : Dat) (hn : n50 na0 da0 = true) : exec Try.prog [(83, c83), (104, c104), (105, c105)] (lamOf [(0, g50_0)]) 8 (Try.f50.body.getD .skip) (initS Try.f50.ntmps [.ro [.str, .int .i64, .int .i64] na0 da0] 0 (memOf [])) (retK Try.prog Try.f50.results.toList (outK 0 (List.range 0) [] (.k) fun v U N => (v, U, N) = (q50 (m50 na0 da0)))) :=
  propOf (x50 na0 da0 _) (cnd_of (fun h0 => leaf_of (l := 8) (condT h0 rfl) rfl) (fun h0 => cnd_need (decide_eq_true rfl) (cnd_need (and_l (cond_f h0 hn)) (cnd_of (fun h1 => leaf_of (l := (((o50_0 na0 da0 da0 (↑na0 : Int) 0).getD default).2.1)) (condF h0 (condT h1 rfl)) rfl) (fun h1 => leaf_of (l := 0) (condF h0 (condF h1 rfl)) rfl)))))
theorem k50 : CtrOk Try.prog c50 50 := ctr_of (tabOk_cons k83 (tabOk_cons k104 (tabOk_cons k105 tabOk_nil))) mix_ok 8 (fn := Try.f50) (c := (Try.f50.body.getD .skip)) (grs := []) (rh := .k) (Λ := (lamOf [(0, g50_0)])) Try.func50 rfl (by kernel_rfl) (lam_of rfl (lams_cons z50_0 lams_nil)) fun vs bs q h hn => by
  unfold g50 at h
  split at h <;> cases h
  exact ⟨_, rfl, p50 _ _ (hn _ (List.mem_singleton.2 rfl))⟩
/-! ### shotline/shotlineref06.CheckVessels -/
def l51_0 (t0_0 : Nat) (t0_1 : Dat) : Nat → Int → Option (Bool × (Int) × (Unit))
  | 0, _ => none
  | f + 1, t3 => (cond ((decide (t3 < (↑t0_0 : Int)))) (cond ((decide (0 ≤ t3 ∧ t3 < (↑t0_0 : Int)))) (cond ((n90 (t0_1.ss t3.toNat 0))) (cond ((bif (m90 (t0_1.ss t3.toNat 0)) then false else true)) (some (true, 4, default)) (cond ((decide ((0 : Int) ≤ (0 : Int) ∧ (0 : Int) ≤ t3 ∧ t3 ≤ (↑t0_0 : Int)))) (cond ((decide (0 ≤ t3 ∧ t3 < (↑t0_0 : Int)))) (cond ((n23 (t3 - 0).toNat t0_1 (t0_1.ss t3.toNat 0))) (cond ((decide (0 ≤ m23 (t3 - 0).toNat t0_1 (t0_1.ss t3.toNat 0)))) (some (true, 5, default)) (cond ((decide (0 ≤ t3 ∧ t3 < (↑t0_0 : Int)))) (cond ((bif (bif (bif (bif (m32 (t0_1.ii t3.toNat (0 + 1)) 1 1000000) then false else true) then false else true) then false else true) then true else (decide (0 ≤ t3 ∧ t3 < (↑t0_0 : Int))))) (cond ((bif (bif (m32 (t0_1.ii t3.toNat (0 + 1)) 1 1000000) then false else true) then true else (bif (m32 (t0_1.ii t3.toNat (0 + 1 + 1)) 1 400000) then false else true))) (some (true, 2, default)) (l51_0 t0_0 t0_1 f (IntKind.i64.wrap (t3 + 1)))) none) none)) none) none) none)) none) none) (some (false, default, ())))
abbrev o51_0 (t0_0 : Nat) (t0_1 : Dat) (t3 : Int) : Option (Bool × (Int) × (Unit)) := l51_0 t0_0 t0_1 (t0_0 + t3.toNat + 8) t3
def e51_0 (t0_0 : Nat) (t0_1 : Dat) (r : Bool × (Int) × (Unit)) (K : XR) : Prop := cnd r.1 (K (XE.ret) [.int .i64 r.2.1] []) (K (XE.exit 0) [.any] [])
def g51_0 : LSum := fun s k => match czv 0 46 [0, 3] 0 [] s with
  | some ([.ro [.str, .int .i64, .int .i64] t0_0 t0_1, .int .i64 t3], []) => needs [(o51_0 t0_0 t0_1 t3).isSome] (e51_0 t0_0 t0_1 ((o51_0 t0_0 t0_1 t3).getD default) fun e vs bs => inBlk 0 k e (mkSt 0 46 [2] vs 0 bs))
  | _ => False
theorem y51_0 (t0_0 : Nat) (t0_1 : Dat) (t3 : Int) (R : XR) : exec Try.prog [(32, c32), (23, c23), (90, c90)] (fun _ => none) 8 (unloop (bodyAt (Try.f51.body.getD .skip) 0)) (mkSt 0 46 [0, 3] [.ro [.str, .int .i64, .int .i64] t0_0 t0_1, .int .i64 t3] 0 []) (canonK 0 46 [0, 3] [2] 0 [] R) =
 (cnd ((decide (t3 < (↑t0_0 : Int))))
 (cnd ((decide (0 ≤ t3 ∧ t3 < (↑t0_0 : Int))))
 (cnd ((n90 (t0_1.ss t3.toNat 0)))
 (cnd ((bif (m90 (t0_1.ss t3.toNat 0)) then false else true))
 (R (XE.ret) [.int .i64 4] [])
 (cnd ((decide ((0 : Int) ≤ (0 : Int) ∧ (0 : Int) ≤ t3 ∧ t3 ≤ (↑t0_0 : Int))))
 (cnd ((decide (0 ≤ t3 ∧ t3 < (↑t0_0 : Int))))
 (cnd ((n23 (t3 - 0).toNat t0_1 (t0_1.ss t3.toNat 0)))
 (cnd ((decide (0 ≤ m23 (t3 - 0).toNat t0_1 (t0_1.ss t3.toNat 0))))
 (R (XE.ret) [.int .i64 5] [])
 (cnd ((decide (0 ≤ t3 ∧ t3 < (↑t0_0 : Int))))
 (cnd ((bif (bif (bif (bif (m32 (t0_1.ii t3.toNat (0 + 1)) 1 1000000) then false else true) then false else true) then false else true) then true else (decide (0 ≤ t3 ∧ t3 < (↑t0_0 : Int)))))
 (cnd ((bif (bif (m32 (t0_1.ii t3.toNat (0 + 1)) 1 1000000) then false else true) then true else (bif (m32 (t0_1.ii t3.toNat (0 + 1 + 1)) 1 400000) then false else true)))
 (R (XE.ret) [.int .i64 2] [])
 (R (XE.normal) [.ro [.str, .int .i64, .int .i64] t0_0 t0_1, .int .i64 (IntKind.i64.wrap (t3 + 1))] []))
           False)
          False))
        False)
       False)
      False))
    False)
   False)
 (R (XE.exit 0) [.any] [])) := by kernel_rfl
theorem z51_0 : LOk Try.prog g51_0 (.block 0 (bodyAt (Try.f51.body.getD .skip) 0)) := by
  refine loop_blk (ι := Nat × Dat × Int) (L := [(32, c32), (23, c23), (90, c90)]) (Λ := (fun _ => none)) (fuel := 8) (na := 0) (nt := 46) (nx := 0) (Lh := [0, 3]) (Le := [2]) (gl := []) (tabOk_cons k32 (tabOk_cons k23 (tabOk_cons k90 tabOk_nil))) mix_ok noLam rfl (fun f x K => GG default (e51_0 x.1 x.2.1) K (l51_0 x.1 x.2.1 f x.2.2)) (fun x => [.ro [.str, .int .i64, .int .i64] x.1 x.2.1, .int .i64 x.2.2]) (fun x => []) (fun x K => gg_none) ?_ ?_
  · rintro f ⟨t0_0, t0_1, t3⟩ K hG
    have hG : GG default (e51_0 t0_0 t0_1) K (cond ((decide (t3 < (↑t0_0 : Int)))) (cond ((decide (0 ≤ t3 ∧ t3 < (↑t0_0 : Int)))) (cond ((n90 (t0_1.ss t3.toNat 0))) (cond ((bif (m90 (t0_1.ss t3.toNat 0)) then false else true)) (some (true, 4, default)) (cond ((decide ((0 : Int) ≤ (0 : Int) ∧ (0 : Int) ≤ t3 ∧ t3 ≤ (↑t0_0 : Int)))) (cond ((decide (0 ≤ t3 ∧ t3 < (↑t0_0 : Int)))) (cond ((n23 (t3 - 0).toNat t0_1 (t0_1.ss t3.toNat 0))) (cond ((decide (0 ≤ m23 (t3 - 0).toNat t0_1 (t0_1.ss t3.toNat 0)))) (some (true, 5, default)) (cond ((decide (0 ≤ t3 ∧ t3 < (↑t0_0 : Int)))) (cond ((bif (bif (bif (bif (m32 (t0_1.ii t3.toNat (0 + 1)) 1 1000000) then false else true) then false else true) then false else true) then true else (decide (0 ≤ t3 ∧ t3 < (↑t0_0 : Int))))) (cond ((bif (bif (m32 (t0_1.ii t3.toNat (0 + 1)) 1 1000000) then false else true) then true else (bif (m32 (t0_1.ii t3.toNat (0 + 1 + 1)) 1 400000) then false else true))) (some (true, 2, default)) (l51_0 t0_0 t0_1 f (IntKind.i64.wrap (t3 + 1)))) none) none)) none) none) none)) none) none) (some (false, default, ()))) := hG
    refine propOf (y51_0 t0_0 t0_1 t3 _) ?_
    exact cnd_gg2 hG (fun h0 => cnd_gg h0 fun h1 => cnd_gg h1 fun h2 => cnd_gg2 h2 (fun h3 => h3.2) (fun h3 => cnd_gg h3 fun h4 => cnd_gg h4 fun h5 => cnd_gg h5 fun h6 => cnd_gg2 h6 (fun h7 => h7.2) (fun h7 => cnd_gg h7 fun h8 => cnd_gg h8 fun h9 => cnd_gg2 h9 (fun h10 => h10.2) (fun h10 => ⟨(t0_0, t0_1, (IntKind.i64.wrap (t3 + 1))), rfl, rfl, h10⟩)))) (fun h0 => h0.2)
  · intro s k h
    unfold g51_0 at h
    split at h <;> try exact h.elim
    rename_i e1
    rw [needs_iff] at h
    exact ⟨_, e1, _, (_, _, _), rfl, rfl, h.1 _ (List.mem_singleton.2 rfl), h.2⟩
theorem x51 (na0 : Nat) (da0 : Dat) (R : SV → List Blk → List Blk → Prop) : exec Try.prog [(32, c32), (23, c23), (90, c90)] (lamOf [(0, g51_0)]) 8 (Try.f51.body.getD .skip) (initS Try.f51.ntmps [.ro [.str, .int .i64, .int .i64] na0 da0] 0 (memOf [])) (retK Try.prog Try.f51.results.toList (outK 0 (List.range 0) [] (.k) fun v U N => R v U N)) =
 (cnd ((decide ((20 : Int) < (↑na0 : Int))))
 (R (.int .i64 8) [] [])
 (cnd (((o51_0 na0 da0 0).isSome))
 (cnd ((((o51_0 na0 da0 0).getD default).1))
 (R (.int .i64 (((o51_0 na0 da0 0).getD default).2.1)) [] [])
 (R (.int .i64 0) [] []))
   False)) := by kernel_rfl
def m51 (na0 : Nat) (da0 : Dat) : Int :=
 (cond ((decide ((20 : Int) < (↑na0 : Int)))) 8 (cond ((((o51_0 na0 da0 0).getD default).1)) (((o51_0 na0 da0 0).getD default).2.1) 0))
def n51 (na0 : Nat) (da0 : Dat) : Bool :=
 (cond ((decide ((20 : Int) < (↑na0 : Int)))) true ((((o51_0 na0 da0 0).isSome)) && true))
def q51 (r : Int) : SV × List Blk × List Blk := (.int .i64 r, [], [])
def g51 : List SV → List Blk → Option OpRes := fun vs bs => match vs, bs with
  | [.ro [.str, .int .i64, .int .i64] na0 da0], [] => some (resOf 0 (q51 (m51 na0 da0)) [n51 na0 da0])
  | _, _ => none
def c51 : Ctr := genC [.ro [.str, .int .i64, .int .i64]] g51
theorem p51 (na0 : Nat) (da0 : Dat) (hn : n51 na0 da0 = true) : exec Try.prog [(32, c32), (23, c23), (90, c90)] (lamOf [(0, g51_0)]) 8 (Try.f51.body.getD .skip) (initS Try.f51.ntmps [.ro [.str, .int .i64, .int .i64] na0 da0] 0 (memOf [])) (retK Try.prog Try.f51.results.toList (outK 0 (List.range 0) [] (.k) fun v U N => (v, U, N) = (q51 (m51 na0 da0)))) :=
  propOf (x51 na0 da0 _) (cnd_of (fun h0 => leaf_of (l := 8) (condT h0 rfl) rfl) (fun h0 => cnd_need (and_l (cond_f h0 hn)) (cnd_of (fun h1 => leaf_of (l := (((o51_0 na0 da0 0).getD default).2.1)) (condF h0 (condT h1 rfl)) rfl) (fun h1 => leaf_of (l := 0) (condF h0 (condF h1 rfl)) rfl))))
theorem k51 : CtrOk Try.prog c51 51 := ctr_of (tabOk_cons k32 (tabOk_cons k23 (tabOk_cons k90 tabOk_nil))) mix_ok 8 (fn := Try.f51) (c := (Try.f51.body.getD .skip)) (grs := []) (rh := .k) (Λ := (lamOf [(0, g51_0)])) Try.func51 rfl (by kernel_rfl) (lam_of rfl (lams_cons z51_0 lams_nil)) fun vs bs q h hn => by
  unfold g51 at h
  split at h <;> cases h
  exact ⟨_, rfl, p51 _ _ (hn _ (List.mem_singleton.2 rfl))⟩
/-! ### shotline/shotlinelaw06.Room -/
theorem x76  (R : SV → List Blk → List Blk → Prop) : exec Try.prog [] (fun _ => none) 8 (Try.f76.body.getD .skip) (initS Try.f76.ntmps [] 0 (memOf [])) (retK Try.prog Try.f76.results.toList (outK 0 (List.range 0) [] (.ro [.str, .int .i64, .int .i64]) fun v U N => R v U N)) =
 (R (.ro [.str, .int .i64, .int .i64] 2 (datS [SV.str { data := #[98, 97, 110, 107] }, .int .i64 50000, .int .i64 300000, SV.str { data := #[115, 49, 50] }, .int .i64 12000, .int .i64 232000] 3)) [] []) := by kernel_rfl
def m76  : Dat :=
 (datS [SV.str { data := #[98, 97, 110, 107] }, .int .i64 50000, .int .i64 300000, SV.str { data := #[115, 49, 50] }, .int .i64 12000, .int .i64 232000] 3)
def q76 (r : Dat) : SV × List Blk × List Blk := (.ro [.str, .int .i64, .int .i64] 2 r, [], [])
def g76 : List SV → List Blk → Option OpRes := fun vs bs => match vs, bs with
  | [], [] => some (resOf 0 (q76 (m76)) [])
  | _, _ => none
def c76 : Ctr := genC [] g76
theorem p76  : exec Try.prog [] (fun _ => none) 8 (Try.f76.body.getD .skip) (initS Try.f76.ntmps [] 0 (memOf [])) (retK Try.prog Try.f76.results.toList (outK 0 (List.range 0) [] (.ro [.str, .int .i64, .int .i64]) fun v U N => (v, U, N) = (q76 (m76)))) :=
  propOf (x76  _) (leaf_of (l := (datS [SV.str { data := #[98, 97, 110, 107] }, .int .i64 50000, .int .i64 300000, SV.str { data := #[115, 49, 50] }, .int .i64 12000, .int .i64 232000] 3)) rfl rfl)
theorem k76 : CtrOk Try.prog c76 76 := ctr_of tabOk_nil mix_ok 8 (fn := Try.f76) (c := (Try.f76.body.getD .skip)) (grs := []) (rh := .ro [.str, .int .i64, .int .i64]) (Λ := (fun _ => none)) Try.func76 rfl (by kernel_rfl) noLam fun vs bs q h _ => by
  unfold g76 at h
  split at h <;> cases h
  exact ⟨_, rfl, p76 ⟩
/-! ### shotline/shotlinelaw06.Diary -/
theorem x77  (R : SV → List Blk → List Blk → Prop) : exec Try.prog [] (fun _ => none) 8 (Try.f77.body.getD .skip) (initS Try.f77.ntmps [] 0 (memOf [])) (retK Try.prog Try.f77.results.toList (outK 0 (List.range 0) [] (.ro [.int .i64, .int .i64, .str, .str, .int .i64, .int .i64, .int .i64, .bool]) fun v U N => R v U N)) =
 (R (.ro [.int .i64, .int .i64, .str, .str, .int .i64, .int .i64, .int .i64, .bool] 2 (datS [.int .i64 0, .int .i64 1, SV.str { data := #[] }, SV.str { data := #[98, 97, 110, 107] }, .int .i64 210, .int .i64 0, .int .i64 10000000, SV.bool false, .int .i64 1, .int .i64 1, SV.str { data := #[98, 97, 110, 107] }, SV.str { data := #[115, 49, 50] }, .int .i64 0, .int .i64 0, .int .i64 1900000, SV.bool false] 8)) [] []) := by kernel_rfl
def m77  : Dat :=
 (datS [.int .i64 0, .int .i64 1, SV.str { data := #[] }, SV.str { data := #[98, 97, 110, 107] }, .int .i64 210, .int .i64 0, .int .i64 10000000, SV.bool false, .int .i64 1, .int .i64 1, SV.str { data := #[98, 97, 110, 107] }, SV.str { data := #[115, 49, 50] }, .int .i64 0, .int .i64 0, .int .i64 1900000, SV.bool false] 8)
def q77 (r : Dat) : SV × List Blk × List Blk := (.ro [.int .i64, .int .i64, .str, .str, .int .i64, .int .i64, .int .i64, .bool] 2 r, [], [])
def g77 : List SV → List Blk → Option OpRes := fun vs bs => match vs, bs with
  | [], [] => some (resOf 0 (q77 (m77)) [])
  | _, _ => none
def c77 : Ctr := genC [] g77
theorem p77  : exec Try.prog [] (fun _ => none) 8 (Try.f77.body.getD .skip) (initS Try.f77.ntmps [] 0 (memOf [])) (retK Try.prog Try.f77.results.toList (outK 0 (List.range 0) [] (.ro [.int .i64, .int .i64, .str, .str, .int .i64, .int .i64, .int .i64, .bool]) fun v U N => (v, U, N) = (q77 (m77)))) :=
  propOf (x77  _) (leaf_of (l := (datS [.int .i64 0, .int .i64 1, SV.str { data := #[] }, SV.str { data := #[98, 97, 110, 107] }, .int .i64 210, .int .i64 0, .int .i64 10000000, SV.bool false, .int .i64 1, .int .i64 1, SV.str { data := #[98, 97, 110, 107] }, SV.str { data := #[115, 49, 50] }, .int .i64 0, .int .i64 0, .int .i64 1900000, SV.bool false] 8)) rfl rfl)
theorem k77 : CtrOk Try.prog c77 77 := ctr_of tabOk_nil mix_ok 8 (fn := Try.f77) (c := (Try.f77.body.getD .skip)) (grs := []) (rh := .ro [.int .i64, .int .i64, .str, .str, .int .i64, .int .i64, .int .i64, .bool]) (Λ := (fun _ => none)) Try.func77 rfl (by kernel_rfl) noLam fun vs bs q h _ => by
  unfold g77 at h
  split at h <;> cases h
  exact ⟨_, rfl, p77 ⟩
/-! ### shotline/shotlinelaw06.Nitrox -/
theorem x78  (R : SV → List Blk → List Blk → Prop) : exec Try.prog [] (fun _ => none) 8 (Try.f78.body.getD .skip) (initS Try.f78.ntmps [] 0 (memOf [])) (retK Try.prog Try.f78.results.toList (outK 0 (List.range 0) [] (.t [.ro [.str, .int .i64, .int .i64, .int .i64, .int .i64], .k, .k, .k, .k, .k, .k, .k, .k]) fun v U N => R v U N)) =
 (R (.agg [.ro [.str, .int .i64, .int .i64, .int .i64, .int .i64] 2 (datS [SV.str { data := #[97, 105, 114] }, .int .i64 210, .int .i64 0, .int .i64 2, .int .i64 10000, SV.str { data := #[111, 50] }, .int .i64 1000, .int .i64 0, .int .i64 50, .int .i64 5000] 5), .int .i64 0, .int .i64 0, .int .i64 0, .int .i64 790, .int .i64 320, .int .i64 340, .int .i64 0, .int .i64 0]) [] []) := by kernel_rfl
def m78  : Dat × Int × Int × Int × Int × Int × Int × Int × Int :=
 ((datS [SV.str { data := #[97, 105, 114] }, .int .i64 210, .int .i64 0, .int .i64 2, .int .i64 10000, SV.str { data := #[111, 50] }, .int .i64 1000, .int .i64 0, .int .i64 50, .int .i64 5000] 5), 0, 0, 0, 790, 320, 340, 0, 0)
def q78 (r : Dat × Int × Int × Int × Int × Int × Int × Int × Int) : SV × List Blk × List Blk := (.agg [.ro [.str, .int .i64, .int .i64, .int .i64, .int .i64] 2 r.1, .int .i64 r.2.1, .int .i64 r.2.2.1, .int .i64 r.2.2.2.1, .int .i64 r.2.2.2.2.1, .int .i64 r.2.2.2.2.2.1, .int .i64 r.2.2.2.2.2.2.1, .int .i64 r.2.2.2.2.2.2.2.1, .int .i64 r.2.2.2.2.2.2.2.2], [], [])
def g78 : List SV → List Blk → Option OpRes := fun vs bs => match vs, bs with
  | [], [] => some (resOf 0 (q78 (m78)) [])
  | _, _ => none
def c78 : Ctr := genC [] g78
theorem p78  : exec Try.prog [] (fun _ => none) 8 (Try.f78.body.getD .skip) (initS Try.f78.ntmps [] 0 (memOf [])) (retK Try.prog Try.f78.results.toList (outK 0 (List.range 0) [] (.t [.ro [.str, .int .i64, .int .i64, .int .i64, .int .i64], .k, .k, .k, .k, .k, .k, .k, .k]) fun v U N => (v, U, N) = (q78 (m78)))) :=
  propOf (x78  _) (leaf_of (l := ((datS [SV.str { data := #[97, 105, 114] }, .int .i64 210, .int .i64 0, .int .i64 2, .int .i64 10000, SV.str { data := #[111, 50] }, .int .i64 1000, .int .i64 0, .int .i64 50, .int .i64 5000] 5), 0, 0, 0, 790, 320, 340, 0, 0)) rfl rfl)
theorem k78 : CtrOk Try.prog c78 78 := ctr_of tabOk_nil mix_ok 8 (fn := Try.f78) (c := (Try.f78.body.getD .skip)) (grs := []) (rh := .t [.ro [.str, .int .i64, .int .i64, .int .i64, .int .i64], .k, .k, .k, .k, .k, .k, .k, .k]) (Λ := (fun _ => none)) Try.func78 rfl (by kernel_rfl) noLam fun vs bs q h _ => by
  unfold g78 at h
  split at h <;> cases h
  exact ⟨_, rfl, p78 ⟩
/-! ### shotline/mix.checkContent -/
theorem x81 (a0_0 : Int) (a0_1 : Int) (a0_2 : Int) (R : SV → List Blk → List Blk → Prop) : exec Try.prog [(82, c82), (84, c84), (120, c120c121), (121, c121)] (fun _ => none) 8 (Try.f81.body.getD .skip) (initS Try.f81.ntmps [.agg [.int .i64 a0_0, .int .i64 a0_1, .int .i64 a0_2]] 0 (memOf [])) (retK Try.prog Try.f81.results.toList (outK 0 (List.range 0) [] (.k) fun v U N => R v U N)) =
 (cnd ((n120c121 ((↑3 : Int) - 0).toNat (datS [.int .i64 (m82 a0_0 a0_1 a0_2).1, .int .i64 (m82 a0_0 a0_1 a0_2).2.1, .int .i64 (m82 a0_0 a0_1 a0_2).2.2] 1)))
 (cnd ((bif (m120c121 ((↑3 : Int) - 0).toNat (datS [.int .i64 (m82 a0_0 a0_1 a0_2).1, .int .i64 (m82 a0_0 a0_1 a0_2).2.1, .int .i64 (m82 a0_0 a0_1 a0_2).2.2] 1)) then true else (decide ((1000000000 : Int) < m84 (m82 a0_0 a0_1 a0_2).1 (m82 a0_0 a0_1 a0_2).2.1 (m82 a0_0 a0_1 a0_2).2.2))))
 (R (.int .i64 2) [] [])
 (R (.int .i64 0) [] []))
  False) := by kernel_rfl
noncomputable def m81 (a0_0 : Int) (a0_1 : Int) (a0_2 : Int) : Int :=
 (cond ((bif (m120c121 ((↑3 : Int) - 0).toNat (datS [.int .i64 (m82 a0_0 a0_1 a0_2).1, .int .i64 (m82 a0_0 a0_1 a0_2).2.1, .int .i64 (m82 a0_0 a0_1 a0_2).2.2] 1)) then true else (decide ((1000000000 : Int) < m84 (m82 a0_0 a0_1 a0_2).1 (m82 a0_0 a0_1 a0_2).2.1 (m82 a0_0 a0_1 a0_2).2.2)))) 2 0)
noncomputable def n81 (a0_0 : Int) (a0_1 : Int) (a0_2 : Int) : Bool :=
 (((n120c121 ((↑3 : Int) - 0).toNat (datS [.int .i64 (m82 a0_0 a0_1 a0_2).1, .int .i64 (m82 a0_0 a0_1 a0_2).2.1, .int .i64 (m82 a0_0 a0_1 a0_2).2.2] 1))) && true)
noncomputable def q81 (r : Int) : SV × List Blk × List Blk := (.int .i64 r, [], [])
noncomputable def g81 : List SV → List Blk → Option OpRes := fun vs bs => match vs, bs with
  | [.agg [.int .i64 a0_0, .int .i64 a0_1, .int .i64 a0_2]], [] => some (resOf 0 (q81 (m81 a0_0 a0_1 a0_2)) [n81 a0_0 a0_1 a0_2])
  | _, _ => none
noncomputable def c81 : Ctr := genC [.k] g81
theorem p81 (a0_0 : Int) (a0_1 : Int) (a0_2 : Int) (hn : n81 a0_0 a0_1 a0_2 = true) : exec Try.prog [(82, c82), (84, c84), (120, c120c121), (121, c121)] (fun _ => none) 8 (Try.f81.body.getD .skip) (initS Try.f81.ntmps [.agg [.int .i64 a0_0, .int .i64 a0_1, .int .i64 a0_2]] 0 (memOf [])) (retK Try.prog Try.f81.results.toList (outK 0 (List.range 0) [] (.k) fun v U N => (v, U, N) = (q81 (m81 a0_0 a0_1 a0_2)))) :=
  propOf (x81 a0_0 a0_1 a0_2 _) (cnd_need (and_l hn) (cnd_of (fun h0 => leaf_of (l := 2) (condT h0 rfl) rfl) (fun h0 => leaf_of (l := 0) (condF h0 rfl) rfl)))
theorem k81 : CtrOk Try.prog c81 81 := ctr_of (tabOk_cons k82 (tabOk_cons k84 (tabOk_cons k120c121 (tabOk_cons k121 tabOk_nil)))) mix_ok 8 (fn := Try.f81) (c := (Try.f81.body.getD .skip)) (grs := []) (rh := .k) (Λ := (fun _ => none)) Try.func81 rfl (by kernel_rfl) noLam fun vs bs q h hn => by
  unfold g81 at h
  split at h <;> cases h
  exact ⟨_, rfl, p81 _ _ _ (hn _ (List.mem_singleton.2 rfl))⟩
/-! ### shotline/mix.CheckTask -/
noncomputable def l75_1 (t19_0 : Nat) (t19_1 : Dat) (t20 : Int) (b0_1 : Dat) (b0_2 : Int) (b0_3 : Int) (b0_4 : Int) (b0_5 : Int) (b0_6 : Int) (b0_7 : Int) (b0_8 : Int) (b0_9 : Int) : Nat → Int → Option (Bool × (Int) × (Unit))
  | 0, _ => none
  | f + 1, t21 => (cond ((decide (t21 < t20))) (cond ((decide (0 ≤ t21 ∧ t21 < (↑t19_0 : Int)))) (cond ((n104 (t19_1.ss t21.toNat 0))) (cond ((bif (m104 (t19_1.ss t21.toNat 0)) then false else true)) (some (true, 4, default)) (cond ((decide ((0 : Int) ≤ (0 : Int) ∧ (0 : Int) ≤ t21 ∧ t21 ≤ (↑t19_0 : Int)))) (cond ((n117c118 (t21 - 0).toNat b0_1 (datC [SV.str (t19_1.ss t21.toNat 0), .int .i64 (t19_1.ii t21.toNat (0 + 1)), .int .i64 (t19_1.ii t21.toNat (0 + 1 + 1)), .int .i64 (t19_1.ii t21.toNat (0 + 1 + 1 + 1)), .int .i64 (t19_1.ii t21.toNat (0 + 1 + 1 + 1 + 1))]))) (cond ((m117c118 (t21 - 0).toNat b0_1 (datC [SV.str (t19_1.ss t21.toNat 0), .int .i64 (t19_1.ii t21.toNat (0 + 1)), .int .i64 (t19_1.ii t21.toNat (0 + 1 + 1)), .int .i64 (t19_1.ii t21.toNat (0 + 1 + 1 + 1)), .int .i64 (t19_1.ii t21.toNat (0 + 1 + 1 + 1 + 1))]))) (some (true, 5, default)) (cond ((n88 (t19_1.ii t21.toNat (0 + 1)) (t19_1.ii t21.toNat (0 + 1 + 1)))) (cond ((bif (decide (m88 (t19_1.ii t21.toNat (0 + 1)) (t19_1.ii t21.toNat (0 + 1 + 1)) = 0)) then false else true)) (some (true, (m88 (t19_1.ii t21.toNat (0 + 1)) (t19_1.ii t21.toNat (0 + 1 + 1))), default)) (cond ((bif (bif (m83 (t19_1.ii t21.toNat (0 + 1 + 1 + 1)) 0 1000) then false else true) then true else (bif (m83 (t19_1.ii t21.toNat (0 + 1 + 1 + 1 + 1)) 0 10000000) then false else true))) (some (true, 2, default)) (l75_1 t19_0 t19_1 t20 b0_1 b0_2 b0_3 b0_4 b0_5 b0_6 b0_7 b0_8 b0_9 f (IntKind.i64.wrap (t21 + 1))))) none)) none) none)) none) none) (some (false, default, ())))
noncomputable abbrev o75_1 (t19_0 : Nat) (t19_1 : Dat) (t20 : Int) (b0_1 : Dat) (b0_2 : Int) (b0_3 : Int) (b0_4 : Int) (b0_5 : Int) (b0_6 : Int) (b0_7 : Int) (b0_8 : Int) (b0_9 : Int) (t21 : Int) : Option (Bool × (Int) × (Unit)) := l75_1 t19_0 t19_1 t20 b0_1 b0_2 b0_3 b0_4 b0_5 b0_6 b0_7 b0_8 b0_9 (t19_0 + t20.toNat + t21.toNat + b0_2.toNat + b0_3.toNat + b0_4.toNat + b0_5.toNat + b0_6.toNat + b0_7.toNat + b0_8.toNat + b0_9.toNat + 8) t21
noncomputable def e75_1 (t19_0 : Nat) (t19_1 : Dat) (t20 : Int) (b0_1 : Dat) (b0_2 : Int) (b0_3 : Int) (b0_4 : Int) (b0_5 : Int) (b0_6 : Int) (b0_7 : Int) (b0_8 : Int) (b0_9 : Int) (r : Bool × (Int) × (Unit)) (K : XR) : Prop := cnd r.1 (K (XE.ret) [.ptr 0 0, .int .i64 r.2.1] [.cells 65 [.ro [.str, .int .i64, .int .i64, .int .i64, .int .i64] t19_0 b0_1, .int .i64 b0_2, .int .i64 b0_3, .int .i64 b0_4, .int .i64 b0_5, .int .i64 b0_6, .int .i64 b0_7, .int .i64 b0_8, .int .i64 b0_9]]) (K (XE.exit 1) [.ptr 0 0, .any] [.cells 65 [.ro [.str, .int .i64, .int .i64, .int .i64, .int .i64] t19_0 b0_1, .int .i64 b0_2, .int .i64 b0_3, .int .i64 b0_4, .int .i64 b0_5, .int .i64 b0_6, .int .i64 b0_7, .int .i64 b0_8, .int .i64 b0_9]])
noncomputable def g75_1 : LSum := fun s k => match czv 0 79 [1, 19, 20, 21] 1 [] s with
  | some ([.ptr 0 0, .ro [.str, .int .i64, .int .i64, .int .i64, .int .i64] t19_0 t19_1, .int .i64 t20, .int .i64 t21], [.cells 65 [.ro [.str, .int .i64, .int .i64, .int .i64, .int .i64] b0_0 b0_1, .int .i64 b0_2, .int .i64 b0_3, .int .i64 b0_4, .int .i64 b0_5, .int .i64 b0_6, .int .i64 b0_7, .int .i64 b0_8, .int .i64 b0_9]]) => needs [decide (t19_0 = b0_0), (o75_1 t19_0 t19_1 t20 b0_1 b0_2 b0_3 b0_4 b0_5 b0_6 b0_7 b0_8 b0_9 t21).isSome] (e75_1 t19_0 t19_1 t20 b0_1 b0_2 b0_3 b0_4 b0_5 b0_6 b0_7 b0_8 b0_9 ((o75_1 t19_0 t19_1 t20 b0_1 b0_2 b0_3 b0_4 b0_5 b0_6 b0_7 b0_8 b0_9 t21).getD default) fun e vs bs => inBlk 1 k e (mkSt 0 79 [1, 2] vs 1 bs))
  | _ => False
theorem y75_1 (t19_0 : Nat) (t19_1 : Dat) (t20 : Int) (t21 : Int) (b0_1 : Dat) (b0_2 : Int) (b0_3 : Int) (b0_4 : Int) (b0_5 : Int) (b0_6 : Int) (b0_7 : Int) (b0_8 : Int) (b0_9 : Int) (R : XR) : exec Try.prog [(81, c81), (82, c82), (83, c83), (84, c84), (104, c104), (88, c88), (117, c117c118), (118, c118), (119, c119)] (fun _ => none) 8 (unloop (bodyAt (Try.f75.body.getD .skip) 1)) (mkSt 0 79 [1, 19, 20, 21] [.ptr 0 0, .ro [.str, .int .i64, .int .i64, .int .i64, .int .i64] t19_0 t19_1, .int .i64 t20, .int .i64 t21] 1 [.cells 65 [.ro [.str, .int .i64, .int .i64, .int .i64, .int .i64] t19_0 b0_1, .int .i64 b0_2, .int .i64 b0_3, .int .i64 b0_4, .int .i64 b0_5, .int .i64 b0_6, .int .i64 b0_7, .int .i64 b0_8, .int .i64 b0_9]]) (canonK 0 79 [1, 19, 20, 21] [1, 2] 1 [] R) =
 (cnd ((decide (t21 < t20)))
 (cnd ((decide (0 ≤ t21 ∧ t21 < (↑t19_0 : Int))))
 (cnd ((n104 (t19_1.ss t21.toNat 0)))
 (cnd ((bif (m104 (t19_1.ss t21.toNat 0)) then false else true))
 (R (XE.ret) [.ptr 0 0, .int .i64 4] [.cells 65 [.ro [.str, .int .i64, .int .i64, .int .i64, .int .i64] t19_0 b0_1, .int .i64 b0_2, .int .i64 b0_3, .int .i64 b0_4, .int .i64 b0_5, .int .i64 b0_6, .int .i64 b0_7, .int .i64 b0_8, .int .i64 b0_9]])
 (cnd ((decide ((0 : Int) ≤ (0 : Int) ∧ (0 : Int) ≤ t21 ∧ t21 ≤ (↑t19_0 : Int))))
 (cnd ((n117c118 (t21 - 0).toNat b0_1 (datC [SV.str (t19_1.ss t21.toNat 0), .int .i64 (t19_1.ii t21.toNat (0 + 1)), .int .i64 (t19_1.ii t21.toNat (0 + 1 + 1)), .int .i64 (t19_1.ii t21.toNat (0 + 1 + 1 + 1)), .int .i64 (t19_1.ii t21.toNat (0 + 1 + 1 + 1 + 1))])))
 (cnd ((m117c118 (t21 - 0).toNat b0_1 (datC [SV.str (t19_1.ss t21.toNat 0), .int .i64 (t19_1.ii t21.toNat (0 + 1)), .int .i64 (t19_1.ii t21.toNat (0 + 1 + 1)), .int .i64 (t19_1.ii t21.toNat (0 + 1 + 1 + 1)), .int .i64 (t19_1.ii t21.toNat (0 + 1 + 1 + 1 + 1))])))
 (R (XE.ret) [.ptr 0 0, .int .i64 5] [.cells 65 [.ro [.str, .int .i64, .int .i64, .int .i64, .int .i64] t19_0 b0_1, .int .i64 b0_2, .int .i64 b0_3, .int .i64 b0_4, .int .i64 b0_5, .int .i64 b0_6, .int .i64 b0_7, .int .i64 b0_8, .int .i64 b0_9]])
 (cnd ((n88 (t19_1.ii t21.toNat (0 + 1)) (t19_1.ii t21.toNat (0 + 1 + 1))))
 (cnd ((bif (decide (m88 (t19_1.ii t21.toNat (0 + 1)) (t19_1.ii t21.toNat (0 + 1 + 1)) = 0)) then false else true))
 (R (XE.ret) [.ptr 0 0, .int .i64 (m88 (t19_1.ii t21.toNat (0 + 1)) (t19_1.ii t21.toNat (0 + 1 + 1)))] [.cells 65 [.ro [.str, .int .i64, .int .i64, .int .i64, .int .i64] t19_0 b0_1, .int .i64 b0_2, .int .i64 b0_3, .int .i64 b0_4, .int .i64 b0_5, .int .i64 b0_6, .int .i64 b0_7, .int .i64 b0_8, .int .i64 b0_9]])
 (cnd ((bif (bif (m83 (t19_1.ii t21.toNat (0 + 1 + 1 + 1)) 0 1000) then false else true) then true else (bif (m83 (t19_1.ii t21.toNat (0 + 1 + 1 + 1 + 1)) 0 10000000) then false else true)))
 (R (XE.ret) [.ptr 0 0, .int .i64 2] [.cells 65 [.ro [.str, .int .i64, .int .i64, .int .i64, .int .i64] t19_0 b0_1, .int .i64 b0_2, .int .i64 b0_3, .int .i64 b0_4, .int .i64 b0_5, .int .i64 b0_6, .int .i64 b0_7, .int .i64 b0_8, .int .i64 b0_9]])
 (R (XE.normal) [.ptr 0 0, .ro [.str, .int .i64, .int .i64, .int .i64, .int .i64] t19_0 t19_1, .int .i64 t20, .int .i64 (IntKind.i64.wrap (t21 + 1))] [.cells 65 [.ro [.str, .int .i64, .int .i64, .int .i64, .int .i64] t19_0 b0_1, .int .i64 b0_2, .int .i64 b0_3, .int .i64 b0_4, .int .i64 b0_5, .int .i64 b0_6, .int .i64 b0_7, .int .i64 b0_8, .int .i64 b0_9]])))
         False))
       False)
      False))
    False)
   False)
 (R (XE.exit 1) [.ptr 0 0, .any] [.cells 65 [.ro [.str, .int .i64, .int .i64, .int .i64, .int .i64] t19_0 b0_1, .int .i64 b0_2, .int .i64 b0_3, .int .i64 b0_4, .int .i64 b0_5, .int .i64 b0_6, .int .i64 b0_7, .int .i64 b0_8, .int .i64 b0_9]])) := by kernel_rfl
theorem z75_1 : LOk Try.prog g75_1 (.block 1 (bodyAt (Try.f75.body.getD .skip) 1)) := by
  refine loop_blk (ι := Nat × Dat × Int × Int × Dat × Int × Int × Int × Int × Int × Int × Int × Int) (L := [(81, c81), (82, c82), (83, c83), (84, c84), (104, c104), (88, c88), (117, c117c118), (118, c118), (119, c119)]) (Λ := (fun _ => none)) (fuel := 8) (na := 0) (nt := 79) (nx := 1) (Lh := [1, 19, 20, 21]) (Le := [1, 2]) (gl := []) (tabOk_cons k81 (tabOk_cons k82 (tabOk_cons k83 (tabOk_cons k84 (tabOk_cons k104 (tabOk_cons k88 (tabOk_cons k117c118 (tabOk_cons k118 (tabOk_cons k119 tabOk_nil))))))))) mix_ok noLam rfl (fun f x K => GG default (e75_1 x.1 x.2.1 x.2.2.1 x.2.2.2.2.1 x.2.2.2.2.2.1 x.2.2.2.2.2.2.1 x.2.2.2.2.2.2.2.1 x.2.2.2.2.2.2.2.2.1 x.2.2.2.2.2.2.2.2.2.1 x.2.2.2.2.2.2.2.2.2.2.1 x.2.2.2.2.2.2.2.2.2.2.2.1 x.2.2.2.2.2.2.2.2.2.2.2.2) K (l75_1 x.1 x.2.1 x.2.2.1 x.2.2.2.2.1 x.2.2.2.2.2.1 x.2.2.2.2.2.2.1 x.2.2.2.2.2.2.2.1 x.2.2.2.2.2.2.2.2.1 x.2.2.2.2.2.2.2.2.2.1 x.2.2.2.2.2.2.2.2.2.2.1 x.2.2.2.2.2.2.2.2.2.2.2.1 x.2.2.2.2.2.2.2.2.2.2.2.2 f x.2.2.2.1)) (fun x => [.ptr 0 0, .ro [.str, .int .i64, .int .i64, .int .i64, .int .i64] x.1 x.2.1, .int .i64 x.2.2.1, .int .i64 x.2.2.2.1]) (fun x => [.cells 65 [.ro [.str, .int .i64, .int .i64, .int .i64, .int .i64] x.1 x.2.2.2.2.1, .int .i64 x.2.2.2.2.2.1, .int .i64 x.2.2.2.2.2.2.1, .int .i64 x.2.2.2.2.2.2.2.1, .int .i64 x.2.2.2.2.2.2.2.2.1, .int .i64 x.2.2.2.2.2.2.2.2.2.1, .int .i64 x.2.2.2.2.2.2.2.2.2.2.1, .int .i64 x.2.2.2.2.2.2.2.2.2.2.2.1, .int .i64 x.2.2.2.2.2.2.2.2.2.2.2.2]]) (fun x K => gg_none) ?_ ?_
  · rintro f ⟨t19_0, t19_1, t20, t21, b0_1, b0_2, b0_3, b0_4, b0_5, b0_6, b0_7, b0_8, b0_9⟩ K hG
    have hG : GG default (e75_1 t19_0 t19_1 t20 b0_1 b0_2 b0_3 b0_4 b0_5 b0_6 b0_7 b0_8 b0_9) K (cond ((decide (t21 < t20))) (cond ((decide (0 ≤ t21 ∧ t21 < (↑t19_0 : Int)))) (cond ((n104 (t19_1.ss t21.toNat 0))) (cond ((bif (m104 (t19_1.ss t21.toNat 0)) then false else true)) (some (true, 4, default)) (cond ((decide ((0 : Int) ≤ (0 : Int) ∧ (0 : Int) ≤ t21 ∧ t21 ≤ (↑t19_0 : Int)))) (cond ((n117c118 (t21 - 0).toNat b0_1 (datC [SV.str (t19_1.ss t21.toNat 0), .int .i64 (t19_1.ii t21.toNat (0 + 1)), .int .i64 (t19_1.ii t21.toNat (0 + 1 + 1)), .int .i64 (t19_1.ii t21.toNat (0 + 1 + 1 + 1)), .int .i64 (t19_1.ii t21.toNat (0 + 1 + 1 + 1 + 1))]))) (cond ((m117c118 (t21 - 0).toNat b0_1 (datC [SV.str (t19_1.ss t21.toNat 0), .int .i64 (t19_1.ii t21.toNat (0 + 1)), .int .i64 (t19_1.ii t21.toNat (0 + 1 + 1)), .int .i64 (t19_1.ii t21.toNat (0 + 1 + 1 + 1)), .int .i64 (t19_1.ii t21.toNat (0 + 1 + 1 + 1 + 1))]))) (some (true, 5, default)) (cond ((n88 (t19_1.ii t21.toNat (0 + 1)) (t19_1.ii t21.toNat (0 + 1 + 1)))) (cond ((bif (decide (m88 (t19_1.ii t21.toNat (0 + 1)) (t19_1.ii t21.toNat (0 + 1 + 1)) = 0)) then false else true)) (some (true, (m88 (t19_1.ii t21.toNat (0 + 1)) (t19_1.ii t21.toNat (0 + 1 + 1))), default)) (cond ((bif (bif (m83 (t19_1.ii t21.toNat (0 + 1 + 1 + 1)) 0 1000) then false else true) then true else (bif (m83 (t19_1.ii t21.toNat (0 + 1 + 1 + 1 + 1)) 0 10000000) then false else true))) (some (true, 2, default)) (l75_1 t19_0 t19_1 t20 b0_1 b0_2 b0_3 b0_4 b0_5 b0_6 b0_7 b0_8 b0_9 f (IntKind.i64.wrap (t21 + 1))))) none)) none) none)) none) none) (some (false, default, ()))) := hG
    refine propOf (y75_1 t19_0 t19_1 t20 t21 b0_1 b0_2 b0_3 b0_4 b0_5 b0_6 b0_7 b0_8 b0_9 _) ?_
    exact cnd_gg2 hG (fun h0 => cnd_gg h0 fun h1 => cnd_gg h1 fun h2 => cnd_gg2 h2 (fun h3 => h3.2) (fun h3 => cnd_gg h3 fun h4 => cnd_gg h4 fun h5 => cnd_gg2 h5 (fun h6 => h6.2) (fun h6 => cnd_gg h6 fun h7 => cnd_gg2 h7 (fun h8 => h8.2) (fun h8 => cnd_gg2 h8 (fun h9 => h9.2) (fun h9 => ⟨(t19_0, t19_1, t20, (IntKind.i64.wrap (t21 + 1)), b0_1, b0_2, b0_3, b0_4, b0_5, b0_6, b0_7, b0_8, b0_9), rfl, rfl, h9⟩))))) (fun h0 => h0.2)
  · intro s k h
    unfold g75_1 at h
    split at h <;> try exact h.elim
    rename_i e1
    rw [needs_iff] at h
    have hq := h.1
    simp only [List.mem_cons, forall_eq_or_imp, decide_eq_true_eq, List.not_mem_nil, false_imp_iff, implies_true, and_true] at hq
    obtain ⟨rfl, hq⟩ := hq
    exact ⟨_, e1, _, (_, _, _, _, _, _, _, _, _, _, _, _, _), rfl, rfl, hq, h.2⟩
theorem x75 (na0_0 : Nat) (da0_0 : Dat) (a0_1 : Int) (a0_2 : Int) (a0_3 : Int) (a0_4 : Int) (a0_5 : Int) (a0_6 : Int) (a0_7 : Int) (a0_8 : Int) (R : SV → List Blk → List Blk → Prop) : exec Try.prog [(81, c81), (82, c82), (83, c83), (84, c84), (104, c104), (88, c88), (117, c117c118), (118, c118), (119, c119)] (lamOf [(1, g75_1)]) 8 (Try.f75.body.getD .skip) (initS Try.f75.ntmps [.agg [.ro [.str, .int .i64, .int .i64, .int .i64, .int .i64] na0_0 da0_0, .int .i64 a0_1, .int .i64 a0_2, .int .i64 a0_3, .int .i64 a0_4, .int .i64 a0_5, .int .i64 a0_6, .int .i64 a0_7, .int .i64 a0_8]] 0 (memOf [])) (retK Try.prog Try.f75.results.toList (outK 0 (List.range 0) [] (.k) fun v U N => R v U N)) =
 (cnd ((decide ((↑na0_0 : Int) = 0)))
 (R (.int .i64 10) [] [])
 (cnd ((decide (5 < (↑na0_0 : Int))))
 (R (.int .i64 8) [] [])
 (cnd ((decide (na0_0 = na0_0)))
 (cnd (((o75_1 na0_0 da0_0 (↑na0_0 : Int) da0_0 a0_1 a0_2 a0_3 a0_4 a0_5 a0_6 a0_7 a0_8 0).isSome))
 (cnd ((((o75_1 na0_0 da0_0 (↑na0_0 : Int) da0_0 a0_1 a0_2 a0_3 a0_4 a0_5 a0_6 a0_7 a0_8 0).getD default).1))
 (R (.int .i64 (((o75_1 na0_0 da0_0 (↑na0_0 : Int) da0_0 a0_1 a0_2 a0_3 a0_4 a0_5 a0_6 a0_7 a0_8 0).getD default).2.1)) [] [])
 (cnd ((n81 a0_1 a0_2 a0_3))
 (cnd ((bif (decide (m81 a0_1 a0_2 a0_3 = 0)) then false else true))
 (R (.int .i64 (m81 a0_1 a0_2 a0_3)) [] [])
 (cnd ((bif (m83 a0_4 (imax 1 (m84 (m82 a0_1 a0_2 a0_3).1 (m82 a0_1 a0_2 a0_3).2.1 (m82 a0_1 a0_2 a0_3).2.2)) 10000000) then false else true))
 (R (.int .i64 2) [] [])
 (cnd ((bif (decide (m119 a0_5 a0_6 = 0)) then false else true))
 (R (.int .i64 (m119 a0_5 a0_6)) [] [])
 (R (.int .i64 (m119 a0_7 a0_8)) [] []))))
       False))
     False)
    False))) := by kernel_rfl
noncomputable def m75 (na0_0 : Nat) (da0_0 : Dat) (a0_1 : Int) (a0_2 : Int) (a0_3 : Int) (a0_4 : Int) (a0_5 : Int) (a0_6 : Int) (a0_7 : Int) (a0_8 : Int) : Int :=
 (cond ((decide ((↑na0_0 : Int) = 0))) 10 (cond ((decide (5 < (↑na0_0 : Int)))) 8 (cond ((((o75_1 na0_0 da0_0 (↑na0_0 : Int) da0_0 a0_1 a0_2 a0_3 a0_4 a0_5 a0_6 a0_7 a0_8 0).getD default).1)) (((o75_1 na0_0 da0_0 (↑na0_0 : Int) da0_0 a0_1 a0_2 a0_3 a0_4 a0_5 a0_6 a0_7 a0_8 0).getD default).2.1) (cond ((bif (decide (m81 a0_1 a0_2 a0_3 = 0)) then false else true)) (m81 a0_1 a0_2 a0_3) (cond ((bif (m83 a0_4 (imax 1 (m84 (m82 a0_1 a0_2 a0_3).1 (m82 a0_1 a0_2 a0_3).2.1 (m82 a0_1 a0_2 a0_3).2.2)) 10000000) then false else true)) 2 (cond ((bif (decide (m119 a0_5 a0_6 = 0)) then false else true)) (m119 a0_5 a0_6) (m119 a0_7 a0_8)))))))
noncomputable def n75 (na0_0 : Nat) (da0_0 : Dat) (a0_1 : Int) (a0_2 : Int) (a0_3 : Int) (a0_4 : Int) (a0_5 : Int) (a0_6 : Int) (a0_7 : Int) (a0_8 : Int) : Bool :=
 (cond ((decide ((↑na0_0 : Int) = 0))) true (cond ((decide (5 < (↑na0_0 : Int)))) true ((((o75_1 na0_0 da0_0 (↑na0_0 : Int) da0_0 a0_1 a0_2 a0_3 a0_4 a0_5 a0_6 a0_7 a0_8 0).isSome)) && (cond ((((o75_1 na0_0 da0_0 (↑na0_0 : Int) da0_0 a0_1 a0_2 a0_3 a0_4 a0_5 a0_6 a0_7 a0_8 0).getD default).1)) true (((n81 a0_1 a0_2 a0_3)) && true)))))
noncomputable def q75 (r : Int) : SV × List Blk × List Blk := (.int .i64 r, [], [])
noncomputable def g75 : List SV → List Blk → Option OpRes := fun vs bs => match vs, bs with
  | [.agg [.ro [.str, .int .i64, .int .i64, .int .i64, .int .i64] na0_0 da0_0, .int .i64 a0_1, .int .i64 a0_2, .int .i64 a0_3, .int .i64 a0_4, .int .i64 a0_5, .int .i64 a0_6, .int .i64 a0_7, .int .i64 a0_8]], [] => some (resOf 0 (q75 (m75 na0_0 da0_0 a0_1 a0_2 a0_3 a0_4 a0_5 a0_6 a0_7 a0_8)) [n75 na0_0 da0_0 a0_1 a0_2 a0_3 a0_4 a0_5 a0_6 a0_7 a0_8])
  | _, _ => none
noncomputable def c75 : Ctr := genC [.a [.ro [.str, .int .i64, .int .i64, .int .i64, .int .i64], .k, .k, .k, .k, .k, .k, .k, .k]] g75
theorem p75 (na0_0 : Nat) (da0_0 : Dat) (a0_1 : Int) (a0_2 : Int) (a0_3 : Int) (a0_4 : Int) (a0_5 : Int) (a0_6 : Int) (a0_7 : Int) (a0_8 : Int) (hn : n75 na0_0 da0_0 a0_1 a0_2 a0_3 a0_4 a0_5 a0_6 a0_7 a0_8 = true) : exec Try.prog [(81, c81), (82, c82), (83, c83), (84, c84), (104, c104), (88, c88), (117, c117c118), (118, c118), (119, c119)] (lamOf [(1, g75_1)]) 8 (Try.f75.body.getD .skip) (initS Try.f75.ntmps [.agg [.ro [.str, .int .i64, .int .i64, .int .i64, .int .i64] na0_0 da0_0, .int .i64 a0_1, .int .i64 a0_2, .int .i64 a0_3, .int .i64 a0_4, .int .i64 a0_5, .int .i64 a0_6, .int .i64 a0_7, .int .i64 a0_8]] 0 (memOf [])) (retK Try.prog Try.f75.results.toList (outK 0 (List.range 0) [] (.k) fun v U N => (v, U, N) = (q75 (m75 na0_0 da0_0 a0_1 a0_2 a0_3 a0_4 a0_5 a0_6 a0_7 a0_8)))) :=
  propOf (x75 na0_0 da0_0 a0_1 a0_2 a0_3 a0_4 a0_5 a0_6 a0_7 a0_8 _) (cnd_of (fun h0 => leaf_of (l := 10) (condT h0 rfl) rfl) (fun h0 => cnd_of (fun h1 => leaf_of (l := 8) (condF h0 (condT h1 rfl)) rfl) (fun h1 => cnd_need (decide_eq_true rfl) (cnd_need (and_l (cond_f h1 (cond_f h0 hn))) (cnd_of (fun h2 => leaf_of (l := (((o75_1 na0_0 da0_0 (↑na0_0 : Int) da0_0 a0_1 a0_2 a0_3 a0_4 a0_5 a0_6 a0_7 a0_8 0).getD default).2.1)) (condF h0 (condF h1 (condT h2 rfl))) rfl) (fun h2 => cnd_need (and_l (cond_f h2 (and_r (cond_f h1 (cond_f h0 hn))))) (cnd_of (fun h3 => leaf_of (l := (m81 a0_1 a0_2 a0_3)) (condF h0 (condF h1 (condF h2 (condT h3 rfl)))) rfl) (fun h3 => cnd_of (fun h4 => leaf_of (l := 2) (condF h0 (condF h1 (condF h2 (condF h3 (condT h4 rfl))))) rfl) (fun h4 => cnd_of (fun h5 => leaf_of (l := (m119 a0_5 a0_6)) (condF h0 (condF h1 (condF h2 (condF h3 (condF h4 (condT h5 rfl)))))) rfl) (fun h5 => leaf_of (l := (m119 a0_7 a0_8)) (condF h0 (condF h1 (condF h2 (condF h3 (condF h4 (condF h5 rfl)))))) rfl))))))))))
theorem k75 : CtrOk Try.prog c75 75 := ctr_of (tabOk_cons k81 (tabOk_cons k82 (tabOk_cons k83 (tabOk_cons k84 (tabOk_cons k104 (tabOk_cons k88 (tabOk_cons k117c118 (tabOk_cons k118 (tabOk_cons k119 tabOk_nil))))))))) mix_ok 8 (fn := Try.f75) (c := (Try.f75.body.getD .skip)) (grs := []) (rh := .k) (Λ := (lamOf [(1, g75_1)])) Try.func75 rfl (by kernel_rfl) (lam_of rfl (lams_cons z75_1 lams_nil)) fun vs bs q h hn => by
  unfold g75 at h
  split at h <;> cases h
  exact ⟨_, rfl, p75 _ _ _ _ _ _ _ _ _ _ (hn _ (List.mem_singleton.2 rfl))⟩
/-! ### (*shotline/mix.asked).cost -/
noncomputable def l97_1 (t0 : Dat) (t33_0 : Nat) (t33_1 : Dat) (t34 : Int) (b0_0 : Nat) (b0_1 : Dat) (b0_2 : Int) : Nat → Int → Int → Int → Int → Int → Option (Bool × (Int × Int × Int × Int × Int × Int) × (Int × Int × Int × Int))
  | 0, _, _, _, _, _ => none
  | f + 1, t6, t7, t8, t9, t35 => (cond ((decide (t35 < t34))) (cond ((decide (0 ≤ t35 ∧ t35 < (↑t33_0 : Int)))) (cond ((decide (0 ≤ t35 ∧ t35 < (↑b0_0 : Int)))) (cond ((bif (m83 (b0_1.ii t35.toNat 0) 0 (IntKind.i64.wrap (b0_2 * t33_1.ii t35.toNat (0 + 1 + 1 + 1 + 1)))) then false else true)) (some (true, (0, 20, t6, t7, t8, t9), default)) (l97_1 t0 t33_0 t33_1 t34 b0_0 b0_1 b0_2 f (IntKind.i64.wrap (t6 + IntKind.i64.wrap (b0_1.ii t35.toNat 0 * t33_1.ii t35.toNat (0 + 1 + 1 + 1)))) (IntKind.i64.wrap (t7 + b0_1.ii t35.toNat 0)) (IntKind.i64.wrap (t8 + IntKind.i64.wrap (b0_1.ii t35.toNat 0 * t33_1.ii t35.toNat (0 + 1)))) (IntKind.i64.wrap (t9 + IntKind.i64.wrap (b0_1.ii t35.toNat 0 * t33_1.ii t35.toNat (0 + 1 + 1)))) (IntKind.i64.wrap (t35 + 1)))) none) none) (some (false, default, (t6, t7, t8, t9))))
noncomputable abbrev o97_1 (t0 : Dat) (t33_0 : Nat) (t33_1 : Dat) (t34 : Int) (b0_0 : Nat) (b0_1 : Dat) (b0_2 : Int) (t6 : Int) (t7 : Int) (t8 : Int) (t9 : Int) (t35 : Int) : Option (Bool × (Int × Int × Int × Int × Int × Int) × (Int × Int × Int × Int)) := l97_1 t0 t33_0 t33_1 t34 b0_0 b0_1 b0_2 (t6.toNat + t7.toNat + t8.toNat + t9.toNat + t33_0 + t34.toNat + t35.toNat + b0_0 + b0_2.toNat + 8) t6 t7 t8 t9 t35
noncomputable def e97_1 (t0 : Dat) (t33_0 : Nat) (t33_1 : Dat) (t34 : Int) (b0_0 : Nat) (b0_1 : Dat) (b0_2 : Int) (r : Bool × (Int × Int × Int × Int × Int × Int) × (Int × Int × Int × Int)) (K : XR) : Prop := cnd r.1 (K (XE.ret) [.rp [.sl [.str, .int .i64, .int .i64, .int .i64, .int .i64], .int .i64, .int .i64, .int .i64, .int .i64, .int .i64, .int .i64, .int .i64, .int .i64, .int .i64, .int .i64, .int .i64, .int .i64, .int .i64] t0 0 0, .ptr 0 0, .int .i64 r.2.1.1, .int .i64 r.2.1.2.1, .int .i64 r.2.1.2.2.1, .int .i64 r.2.1.2.2.2.1, .int .i64 r.2.1.2.2.2.2.1, .int .i64 r.2.1.2.2.2.2.2] [.cells 71 [.ro [.int .i64] b0_0 b0_1, .int .i64 b0_2]]) (K (XE.exit 1) [.rp [.sl [.str, .int .i64, .int .i64, .int .i64, .int .i64], .int .i64, .int .i64, .int .i64, .int .i64, .int .i64, .int .i64, .int .i64, .int .i64, .int .i64, .int .i64, .int .i64, .int .i64, .int .i64] t0 0 0, .ptr 0 0, .any, .any, .int .i64 r.2.2.1, .int .i64 r.2.2.2.1, .int .i64 r.2.2.2.2.1, .int .i64 r.2.2.2.2.2] [.cells 71 [.ro [.int .i64] b0_0 b0_1, .int .i64 b0_2]])
noncomputable def g97_1 : LSum := fun s k => match czv 0 129 [0, 3, 6, 7, 8, 9, 33, 34, 35] 1 [] s with
  | some ([.rp [.sl [.str, .int .i64, .int .i64, .int .i64, .int .i64], .int .i64, .int .i64, .int .i64, .int .i64, .int .i64, .int .i64, .int .i64, .int .i64, .int .i64, .int .i64, .int .i64, .int .i64, .int .i64] t0 0 0, .ptr 0 0, .int .i64 t6, .int .i64 t7, .int .i64 t8, .int .i64 t9, .ro [.str, .int .i64, .int .i64, .int .i64, .int .i64] t33_0 t33_1, .int .i64 t34, .int .i64 t35], [.cells 71 [.ro [.int .i64] b0_0 b0_1, .int .i64 b0_2]]) => needs [(o97_1 t0 t33_0 t33_1 t34 b0_0 b0_1 b0_2 t6 t7 t8 t9 t35).isSome] (e97_1 t0 t33_0 t33_1 t34 b0_0 b0_1 b0_2 ((o97_1 t0 t33_0 t33_1 t34 b0_0 b0_1 b0_2 t6 t7 t8 t9 t35).getD default) fun e vs bs => inBlk 1 k e (mkSt 0 129 [0, 3, 4, 5, 6, 7, 8, 9] vs 1 bs))
  | _ => False
theorem y97_1 (t0 : Dat) (t6 : Int) (t7 : Int) (t8 : Int) (t9 : Int) (t33_0 : Nat) (t33_1 : Dat) (t34 : Int) (t35 : Int) (b0_0 : Nat) (b0_1 : Dat) (b0_2 : Int) (R : XR) : exec Try.prog [(83, c83)] (fun _ => none) 8 (unloop (bodyAt (Try.f97.body.getD .skip) 1)) (mkSt 0 129 [0, 3, 6, 7, 8, 9, 33, 34, 35] [.rp [.sl [.str, .int .i64, .int .i64, .int .i64, .int .i64], .int .i64, .int .i64, .int .i64, .int .i64, .int .i64, .int .i64, .int .i64, .int .i64, .int .i64, .int .i64, .int .i64, .int .i64, .int .i64] t0 0 0, .ptr 0 0, .int .i64 t6, .int .i64 t7, .int .i64 t8, .int .i64 t9, .ro [.str, .int .i64, .int .i64, .int .i64, .int .i64] t33_0 t33_1, .int .i64 t34, .int .i64 t35] 1 [.cells 71 [.ro [.int .i64] b0_0 b0_1, .int .i64 b0_2]]) (canonK 0 129 [0, 3, 6, 7, 8, 9, 33, 34, 35] [0, 3, 4, 5, 6, 7, 8, 9] 1 [] R) =
 (cnd ((decide (t35 < t34)))
 (cnd ((decide (0 ≤ t35 ∧ t35 < (↑t33_0 : Int))))
 (cnd ((decide (0 ≤ t35 ∧ t35 < (↑b0_0 : Int))))
 (cnd ((bif (m83 (b0_1.ii t35.toNat 0) 0 (IntKind.i64.wrap (b0_2 * t33_1.ii t35.toNat (0 + 1 + 1 + 1 + 1)))) then false else true))
 (R (XE.ret) [.rp [.sl [.str, .int .i64, .int .i64, .int .i64, .int .i64], .int .i64, .int .i64, .int .i64, .int .i64, .int .i64, .int .i64, .int .i64, .int .i64, .int .i64, .int .i64, .int .i64, .int .i64, .int .i64] t0 0 0, .ptr 0 0, .int .i64 0, .int .i64 20, .int .i64 t6, .int .i64 t7, .int .i64 t8, .int .i64 t9] [.cells 71 [.ro [.int .i64] b0_0 b0_1, .int .i64 b0_2]])
 (R (XE.normal) [.rp [.sl [.str, .int .i64, .int .i64, .int .i64, .int .i64], .int .i64, .int .i64, .int .i64, .int .i64, .int .i64, .int .i64, .int .i64, .int .i64, .int .i64, .int .i64, .int .i64, .int .i64, .int .i64] t0 0 0, .ptr 0 0, .int .i64 (IntKind.i64.wrap (t6 + IntKind.i64.wrap (b0_1.ii t35.toNat 0 * t33_1.ii t35.toNat (0 + 1 + 1 + 1)))), .int .i64 (IntKind.i64.wrap (t7 + b0_1.ii t35.toNat 0)), .int .i64 (IntKind.i64.wrap (t8 + IntKind.i64.wrap (b0_1.ii t35.toNat 0 * t33_1.ii t35.toNat (0 + 1)))), .int .i64 (IntKind.i64.wrap (t9 + IntKind.i64.wrap (b0_1.ii t35.toNat 0 * t33_1.ii t35.toNat (0 + 1 + 1)))), .ro [.str, .int .i64, .int .i64, .int .i64, .int .i64] t33_0 t33_1, .int .i64 t34, .int .i64 (IntKind.i64.wrap (t35 + 1))] [.cells 71 [.ro [.int .i64] b0_0 b0_1, .int .i64 b0_2]]))
    False)
   False)
 (R (XE.exit 1) [.rp [.sl [.str, .int .i64, .int .i64, .int .i64, .int .i64], .int .i64, .int .i64, .int .i64, .int .i64, .int .i64, .int .i64, .int .i64, .int .i64, .int .i64, .int .i64, .int .i64, .int .i64, .int .i64] t0 0 0, .ptr 0 0, .any, .any, .int .i64 t6, .int .i64 t7, .int .i64 t8, .int .i64 t9] [.cells 71 [.ro [.int .i64] b0_0 b0_1, .int .i64 b0_2]])) := by kernel_rfl
theorem z97_1 : LOk Try.prog g97_1 (.block 1 (bodyAt (Try.f97.body.getD .skip) 1)) := by
  refine loop_blk (ι := Dat × Int × Int × Int × Int × Nat × Dat × Int × Int × Nat × Dat × Int) (L := [(83, c83)]) (Λ := (fun _ => none)) (fuel := 8) (na := 0) (nt := 129) (nx := 1) (Lh := [0, 3, 6, 7, 8, 9, 33, 34, 35]) (Le := [0, 3, 4, 5, 6, 7, 8, 9]) (gl := []) (tabOk_cons k83 tabOk_nil) mix_ok noLam rfl (fun f x K => GG default (e97_1 x.1 x.2.2.2.2.2.1 x.2.2.2.2.2.2.1 x.2.2.2.2.2.2.2.1 x.2.2.2.2.2.2.2.2.2.1 x.2.2.2.2.2.2.2.2.2.2.1 x.2.2.2.2.2.2.2.2.2.2.2) K (l97_1 x.1 x.2.2.2.2.2.1 x.2.2.2.2.2.2.1 x.2.2.2.2.2.2.2.1 x.2.2.2.2.2.2.2.2.2.1 x.2.2.2.2.2.2.2.2.2.2.1 x.2.2.2.2.2.2.2.2.2.2.2 f x.2.1 x.2.2.1 x.2.2.2.1 x.2.2.2.2.1 x.2.2.2.2.2.2.2.2.1)) (fun x => [.rp [.sl [.str, .int .i64, .int .i64, .int .i64, .int .i64], .int .i64, .int .i64, .int .i64, .int .i64, .int .i64, .int .i64, .int .i64, .int .i64, .int .i64, .int .i64, .int .i64, .int .i64, .int .i64] x.1 0 0, .ptr 0 0, .int .i64 x.2.1, .int .i64 x.2.2.1, .int .i64 x.2.2.2.1, .int .i64 x.2.2.2.2.1, .ro [.str, .int .i64, .int .i64, .int .i64, .int .i64] x.2.2.2.2.2.1 x.2.2.2.2.2.2.1, .int .i64 x.2.2.2.2.2.2.2.1, .int .i64 x.2.2.2.2.2.2.2.2.1]) (fun x => [.cells 71 [.ro [.int .i64] x.2.2.2.2.2.2.2.2.2.1 x.2.2.2.2.2.2.2.2.2.2.1, .int .i64 x.2.2.2.2.2.2.2.2.2.2.2]]) (fun x K => gg_none) ?_ ?_
  · rintro f ⟨t0, t6, t7, t8, t9, t33_0, t33_1, t34, t35, b0_0, b0_1, b0_2⟩ K hG
    have hG : GG default (e97_1 t0 t33_0 t33_1 t34 b0_0 b0_1 b0_2) K (cond ((decide (t35 < t34))) (cond ((decide (0 ≤ t35 ∧ t35 < (↑t33_0 : Int)))) (cond ((decide (0 ≤ t35 ∧ t35 < (↑b0_0 : Int)))) (cond ((bif (m83 (b0_1.ii t35.toNat 0) 0 (IntKind.i64.wrap (b0_2 * t33_1.ii t35.toNat (0 + 1 + 1 + 1 + 1)))) then false else true)) (some (true, (0, 20, t6, t7, t8, t9), default)) (l97_1 t0 t33_0 t33_1 t34 b0_0 b0_1 b0_2 f (IntKind.i64.wrap (t6 + IntKind.i64.wrap (b0_1.ii t35.toNat 0 * t33_1.ii t35.toNat (0 + 1 + 1 + 1)))) (IntKind.i64.wrap (t7 + b0_1.ii t35.toNat 0)) (IntKind.i64.wrap (t8 + IntKind.i64.wrap (b0_1.ii t35.toNat 0 * t33_1.ii t35.toNat (0 + 1)))) (IntKind.i64.wrap (t9 + IntKind.i64.wrap (b0_1.ii t35.toNat 0 * t33_1.ii t35.toNat (0 + 1 + 1)))) (IntKind.i64.wrap (t35 + 1)))) none) none) (some (false, default, (t6, t7, t8, t9)))) := hG
    refine propOf (y97_1 t0 t6 t7 t8 t9 t33_0 t33_1 t34 t35 b0_0 b0_1 b0_2 _) ?_
    exact cnd_gg2 hG (fun h0 => cnd_gg h0 fun h1 => cnd_gg h1 fun h2 => cnd_gg2 h2 (fun h3 => h3.2) (fun h3 => ⟨(t0, (IntKind.i64.wrap (t6 + IntKind.i64.wrap (b0_1.ii t35.toNat 0 * t33_1.ii t35.toNat (0 + 1 + 1 + 1)))), (IntKind.i64.wrap (t7 + b0_1.ii t35.toNat 0)), (IntKind.i64.wrap (t8 + IntKind.i64.wrap (b0_1.ii t35.toNat 0 * t33_1.ii t35.toNat (0 + 1)))), (IntKind.i64.wrap (t9 + IntKind.i64.wrap (b0_1.ii t35.toNat 0 * t33_1.ii t35.toNat (0 + 1 + 1)))), t33_0, t33_1, t34, (IntKind.i64.wrap (t35 + 1)), b0_0, b0_1, b0_2), rfl, rfl, h3⟩)) (fun h0 => h0.2)
  · intro s k h
    unfold g97_1 at h
    split at h <;> try exact h.elim
    rename_i e1
    rw [needs_iff] at h
    exact ⟨_, e1, _, (_, _, _, _, _, _, _, _, _, _, _, _), rfl, rfl, h.1 _ (List.mem_singleton.2 rfl), h.2⟩
theorem x97 (da0 : Dat) (na1_0 : Nat) (da1_0 : Dat) (a1_1 : Int) (R : SV → List Blk → List Blk → Prop) : exec Try.prog [(83, c83)] (lamOf [(1, g97_1)]) 8 (Try.f97.body.getD .skip) (initS Try.f97.ntmps [.rp [.sl [.str, .int .i64, .int .i64, .int .i64, .int .i64], .int .i64, .int .i64, .int .i64, .int .i64, .int .i64, .int .i64, .int .i64, .int .i64, .int .i64, .int .i64, .int .i64, .int .i64, .int .i64] da0 0 0, .agg [.ro [.int .i64] na1_0 da1_0, .int .i64 a1_1]] 0 (memOf [])) (retK Try.prog Try.f97.results.toList (outK 0 (List.range 0) [] (.k) fun v U N => R v U N)) =
 (cnd ((bif (decide ((↑na1_0 : Int) = (↑(da0.sn 0 0) : Int))) then false else true))
 (R (.tup [.int .i64 0, .int .i64 10]) [] [])
 (cnd ((bif (m83 a1_1 1 1000000) then false else true))
 (R (.tup [.int .i64 0, .int .i64 2]) [] [])
 (cnd (((o97_1 da0 (da0.sn 0 0) (da0.sub 0 0) (↑(da0.sn 0 0) : Int) na1_0 da1_0 a1_1 0 0 0 0 0).isSome))
 (cnd ((((o97_1 da0 (da0.sn 0 0) (da0.sub 0 0) (↑(da0.sn 0 0) : Int) na1_0 da1_0 a1_1 0 0 0 0 0).getD default).1))
 (R (.tup [.int .i64 (((o97_1 da0 (da0.sn 0 0) (da0.sub 0 0) (↑(da0.sn 0 0) : Int) na1_0 da1_0 a1_1 0 0 0 0 0).getD default).2.1.1), .int .i64 (((o97_1 da0 (da0.sn 0 0) (da0.sub 0 0) (↑(da0.sn 0 0) : Int) na1_0 da1_0 a1_1 0 0 0 0 0).getD default).2.1.2.1)]) [] [])
 (cnd ((bif (decide (((o97_1 da0 (da0.sn 0 0) (da0.sub 0 0) (↑(da0.sn 0 0) : Int) na1_0 da1_0 a1_1 0 0 0 0 0).getD default).2.2.2.1 = IntKind.i64.wrap (a1_1 * da0.ii 0 (0 + 1 + 1 + 1 + 1 + 1 + 1 + 1 + 1 + 1)))) then false else true))
 (R (.tup [.int .i64 0, .int .i64 23]) [] [])
 (cnd ((bif (bif (m83 ((o97_1 da0 (da0.sn 0 0) (da0.sub 0 0) (↑(da0.sn 0 0) : Int) na1_0 da1_0 a1_1 0 0 0 0 0).getD default).2.2.2.2.1 (IntKind.i64.wrap (a1_1 * da0.ii 0 (0 + 1 + 1 + 1 + 1 + 1 + 1 + 1 + 1 + 1 + 1))) (IntKind.i64.wrap (a1_1 * da0.ii 0 (0 + 1 + 1 + 1 + 1 + 1 + 1 + 1 + 1 + 1 + 1 + 1)))) then false else true) then true else (bif (m83 ((o97_1 da0 (da0.sn 0 0) (da0.sub 0 0) (↑(da0.sn 0 0) : Int) na1_0 da1_0 a1_1 0 0 0 0 0).getD default).2.2.2.2.2 (IntKind.i64.wrap (a1_1 * da0.ii 0 (0 + 1 + 1 + 1 + 1 + 1 + 1 + 1 + 1 + 1 + 1 + 1 + 1))) (IntKind.i64.wrap (a1_1 * da0.ii 0 (0 + 1 + 1 + 1 + 1 + 1 + 1 + 1 + 1 + 1 + 1 + 1 + 1 + 1)))) then false else true)))
 (R (.tup [.int .i64 0, .int .i64 26]) [] [])
 (R (.tup [.int .i64 (((o97_1 da0 (da0.sn 0 0) (da0.sub 0 0) (↑(da0.sn 0 0) : Int) na1_0 da1_0 a1_1 0 0 0 0 0).getD default).2.2.1), .int .i64 0]) [] []))))
    False))) := by kernel_rfl
noncomputable def m97 (da0 : Dat) (na1_0 : Nat) (da1_0 : Dat) (a1_1 : Int) : Int × Int :=
 (cond ((bif (decide ((↑na1_0 : Int) = (↑(da0.sn 0 0) : Int))) then false else true)) (0, 10) (cond ((bif (m83 a1_1 1 1000000) then false else true)) (0, 2) (cond ((((o97_1 da0 (da0.sn 0 0) (da0.sub 0 0) (↑(da0.sn 0 0) : Int) na1_0 da1_0 a1_1 0 0 0 0 0).getD default).1)) ((((o97_1 da0 (da0.sn 0 0) (da0.sub 0 0) (↑(da0.sn 0 0) : Int) na1_0 da1_0 a1_1 0 0 0 0 0).getD default).2.1.1), (((o97_1 da0 (da0.sn 0 0) (da0.sub 0 0) (↑(da0.sn 0 0) : Int) na1_0 da1_0 a1_1 0 0 0 0 0).getD default).2.1.2.1)) (cond ((bif (decide (((o97_1 da0 (da0.sn 0 0) (da0.sub 0 0) (↑(da0.sn 0 0) : Int) na1_0 da1_0 a1_1 0 0 0 0 0).getD default).2.2.2.1 = IntKind.i64.wrap (a1_1 * da0.ii 0 (0 + 1 + 1 + 1 + 1 + 1 + 1 + 1 + 1 + 1)))) then false else true)) (0, 23) (cond ((bif (bif (m83 ((o97_1 da0 (da0.sn 0 0) (da0.sub 0 0) (↑(da0.sn 0 0) : Int) na1_0 da1_0 a1_1 0 0 0 0 0).getD default).2.2.2.2.1 (IntKind.i64.wrap (a1_1 * da0.ii 0 (0 + 1 + 1 + 1 + 1 + 1 + 1 + 1 + 1 + 1 + 1))) (IntKind.i64.wrap (a1_1 * da0.ii 0 (0 + 1 + 1 + 1 + 1 + 1 + 1 + 1 + 1 + 1 + 1 + 1)))) then false else true) then true else (bif (m83 ((o97_1 da0 (da0.sn 0 0) (da0.sub 0 0) (↑(da0.sn 0 0) : Int) na1_0 da1_0 a1_1 0 0 0 0 0).getD default).2.2.2.2.2 (IntKind.i64.wrap (a1_1 * da0.ii 0 (0 + 1 + 1 + 1 + 1 + 1 + 1 + 1 + 1 + 1 + 1 + 1 + 1))) (IntKind.i64.wrap (a1_1 * da0.ii 0 (0 + 1 + 1 + 1 + 1 + 1 + 1 + 1 + 1 + 1 + 1 + 1 + 1 + 1)))) then false else true))) (0, 26) ((((o97_1 da0 (da0.sn 0 0) (da0.sub 0 0) (↑(da0.sn 0 0) : Int) na1_0 da1_0 a1_1 0 0 0 0 0).getD default).2.2.1), 0))))))
noncomputable def n97 (da0 : Dat) (na1_0 : Nat) (da1_0 : Dat) (a1_1 : Int) : Bool :=
 (cond ((bif (decide ((↑na1_0 : Int) = (↑(da0.sn 0 0) : Int))) then false else true)) true (cond ((bif (m83 a1_1 1 1000000) then false else true)) true ((((o97_1 da0 (da0.sn 0 0) (da0.sub 0 0) (↑(da0.sn 0 0) : Int) na1_0 da1_0 a1_1 0 0 0 0 0).isSome)) && true)))
noncomputable def q97 (r : Int × Int) : SV × List Blk × List Blk := (.tup [.int .i64 r.1, .int .i64 r.2], [], [])
noncomputable def g97 : List SV → List Blk → Option OpRes := fun vs bs => match vs, bs with
  | [.rp [.sl [.str, .int .i64, .int .i64, .int .i64, .int .i64], .int .i64, .int .i64, .int .i64, .int .i64, .int .i64, .int .i64, .int .i64, .int .i64, .int .i64, .int .i64, .int .i64, .int .i64, .int .i64] da0 0 0, .agg [.ro [.int .i64] na1_0 da1_0, .int .i64 a1_1]], [] => some (resOf 0 (q97 (m97 da0 na1_0 da1_0 a1_1)) [n97 da0 na1_0 da1_0 a1_1])
  | _, _ => none
noncomputable def c97 : Ctr := genC [.rp [.sl [.str, .int .i64, .int .i64, .int .i64, .int .i64], .int .i64, .int .i64, .int .i64, .int .i64, .int .i64, .int .i64, .int .i64, .int .i64, .int .i64, .int .i64, .int .i64, .int .i64, .int .i64], .a [.ro [.int .i64], .k]] g97
theorem p97 (da0 : Dat) (na1_0 : Nat) (da1_0 : Dat) (a1_1 : Int) (hn : n97 da0 na1_0 da1_0 a1_1 = true) : exec Try.prog [(83, c83)] (lamOf [(1, g97_1)]) 8 (Try.f97.body.getD .skip) (initS Try.f97.ntmps [.rp [.sl [.str, .int .i64, .int .i64, .int .i64, .int .i64], .int .i64, .int .i64, .int .i64, .int .i64, .int .i64, .int .i64, .int .i64, .int .i64, .int .i64, .int .i64, .int .i64, .int .i64, .int .i64] da0 0 0, .agg [.ro [.int .i64] na1_0 da1_0, .int .i64 a1_1]] 0 (memOf [])) (retK Try.prog Try.f97.results.toList (outK 0 (List.range 0) [] (.k) fun v U N => (v, U, N) = (q97 (m97 da0 na1_0 da1_0 a1_1)))) :=
  propOf (x97 da0 na1_0 da1_0 a1_1 _) (cnd_of (fun h0 => leaf_of (l := (0, 10)) (condT h0 rfl) rfl) (fun h0 => cnd_of (fun h1 => leaf_of (l := (0, 2)) (condF h0 (condT h1 rfl)) rfl) (fun h1 => cnd_need (and_l (cond_f h1 (cond_f h0 hn))) (cnd_of (fun h2 => leaf_of (l := ((((o97_1 da0 (da0.sn 0 0) (da0.sub 0 0) (↑(da0.sn 0 0) : Int) na1_0 da1_0 a1_1 0 0 0 0 0).getD default).2.1.1), (((o97_1 da0 (da0.sn 0 0) (da0.sub 0 0) (↑(da0.sn 0 0) : Int) na1_0 da1_0 a1_1 0 0 0 0 0).getD default).2.1.2.1))) (condF h0 (condF h1 (condT h2 rfl))) rfl) (fun h2 => cnd_of (fun h3 => leaf_of (l := (0, 23)) (condF h0 (condF h1 (condF h2 (condT h3 rfl)))) rfl) (fun h3 => cnd_of (fun h4 => leaf_of (l := (0, 26)) (condF h0 (condF h1 (condF h2 (condF h3 (condT h4 rfl))))) rfl) (fun h4 => leaf_of (l := ((((o97_1 da0 (da0.sn 0 0) (da0.sub 0 0) (↑(da0.sn 0 0) : Int) na1_0 da1_0 a1_1 0 0 0 0 0).getD default).2.2.1), 0)) (condF h0 (condF h1 (condF h2 (condF h3 (condF h4 rfl))))) rfl)))))))
theorem k97 : CtrOk Try.prog c97 97 := ctr_of (tabOk_cons k83 tabOk_nil) mix_ok 8 (fn := Try.f97) (c := (Try.f97.body.getD .skip)) (grs := []) (rh := .k) (Λ := (lamOf [(1, g97_1)])) Try.func97 rfl (by kernel_rfl) (lam_of rfl (lams_cons z97_1 lams_nil)) fun vs bs q h hn => by
  unfold g97 at h
  split at h <;> cases h
  exact ⟨_, rfl, p97 _ _ _ _ (hn _ (List.mem_singleton.2 rfl))⟩
/-! ### slices.insertionSortCmpFunc[int] -/
noncomputable def l161c123_2 (t1 : Int) (t2 : Int) (t3 : Dat) (t8 : Int) : Nat → Int → Dat → Option (Dat)
  | 0, _, _ => none
  | f + 1, t9, b0_0 => (cond ((bif (bif (decide (t1 < t9)) then false else true) then true else (decide (0 ≤ t9 ∧ t9 < (↑3 : Int))))) (cond ((bif (bif (decide (t1 < t9)) then false else true) then true else (decide (t9.toNat < 3)))) (cond ((bif (bif (decide (t1 < t9)) then false else true) then true else (decide (0 ≤ IntKind.i64.wrap (t9 - 1) ∧ IntKind.i64.wrap (t9 - 1) < (↑3 : Int))))) (cond ((bif (bif (decide (t1 < t9)) then false else true) then true else (decide ((IntKind.i64.wrap (t9 - 1)).toNat < 3)))) (cond ((bif (bif (decide (t1 < t9)) then false else true) then true else (n123 (b0_0.ii t9.toNat 0) (b0_0.ii (IntKind.i64.wrap (t9 - 1)).toNat 0) t3))) (cond ((bif (decide (t1 < t9)) then (decide (m123 (b0_0.ii t9.toNat 0) (b0_0.ii (IntKind.i64.wrap (t9 - 1)).toNat 0) t3 < 0)) else false)) (cond ((decide (0 ≤ IntKind.i64.wrap (t9 - 1) ∧ IntKind.i64.wrap (t9 - 1) < (↑3 : Int)))) (cond ((decide ((IntKind.i64.wrap (t9 - 1)).toNat < 3))) (cond ((decide (0 ≤ t9 ∧ t9 < (↑3 : Int)))) (cond ((decide (t9.toNat < 3))) (cond ((decide (0 ≤ t9 ∧ t9 < (↑3 : Int)))) (cond ((decide (t9.toNat < 3))) (cond ((decide (0 ≤ IntKind.i64.wrap (t9 - 1) ∧ IntKind.i64.wrap (t9 - 1) < (↑3 : Int)))) (cond ((decide ((IntKind.i64.wrap (t9 - 1)).toNat < 3))) (l161c123_2 t1 t2 t3 t8 f (IntKind.i64.wrap (t9 - 1)) ((b0_0.upd t9.toNat 0 [.int .i64 (b0_0.ii (IntKind.i64.wrap (t9 - 1)).toNat 0)]).upd (IntKind.i64.wrap (t9 - 1)).toNat 0 [.int .i64 (b0_0.ii t9.toNat 0)])) none) none) none) none) none) none) none) none) (some b0_0)) none) none) none) none) none)
noncomputable abbrev o161c123_2 (t1 : Int) (t2 : Int) (t3 : Dat) (t8 : Int) (t9 : Int) (b0_0 : Dat) : Option (Dat) := l161c123_2 t1 t2 t3 t8 (t1.toNat + t2.toNat + t8.toNat + t9.toNat + 8) t9 b0_0
noncomputable def e161c123_2 (t1 : Int) (t2 : Int) (t3 : Dat) (t8 : Int) (r : Dat) (K : XR) : Prop := K (XE.exit 2) [.own 0 1 3, .int .i64 t1, .int .i64 t2, .fn 123 [.ra [.int .i64] 3 t3], .int .i64 t8] [.row 3 [.int .i64] 3 r]
noncomputable def g161c123_2 : LSum := fun s k => match czv 1 53 [0, 1, 2, 3, 8, 9] 1 [] s with
  | some ([.own 0 1 3, .int .i64 t1, .int .i64 t2, .fn 123 [.ra [.int .i64] 3 t3], .int .i64 t8, .int .i64 t9], [.row 3 [.int .i64] 3 b0_0]) => needs [(o161c123_2 t1 t2 t3 t8 t9 b0_0).isSome] (e161c123_2 t1 t2 t3 t8 ((o161c123_2 t1 t2 t3 t8 t9 b0_0).getD default) fun e vs bs => inBlk 2 k e (mkSt 1 53 [0, 1, 2, 3, 8] vs 1 bs))
  | _ => False
theorem y161c123_2 (t1 : Int) (t2 : Int) (t3 : Dat) (t8 : Int) (t9 : Int) (b0_0 : Dat) (R : XR) : exec Try.prog [(123, c123)] (fun _ => none) 8 (unloop (bodyAt (Try.f161.body.getD .skip) 2)) (mkSt 1 53 [0, 1, 2, 3, 8, 9] [.own 0 1 3, .int .i64 t1, .int .i64 t2, .fn 123 [.ra [.int .i64] 3 t3], .int .i64 t8, .int .i64 t9] 1 [.row 3 [.int .i64] 3 b0_0]) (canonK 1 53 [0, 1, 2, 3, 8, 9] [0, 1, 2, 3, 8] 1 [] R) =
 (cnd ((bif (bif (decide (t1 < t9)) then false else true) then true else (decide (0 ≤ t9 ∧ t9 < (↑3 : Int)))))
 (cnd ((bif (bif (decide (t1 < t9)) then false else true) then true else (decide (t9.toNat < 3))))
 (cnd ((bif (bif (decide (t1 < t9)) then false else true) then true else (decide (0 ≤ IntKind.i64.wrap (t9 - 1) ∧ IntKind.i64.wrap (t9 - 1) < (↑3 : Int)))))
 (cnd ((bif (bif (decide (t1 < t9)) then false else true) then true else (decide ((IntKind.i64.wrap (t9 - 1)).toNat < 3))))
 (cnd ((bif (bif (decide (t1 < t9)) then false else true) then true else (n123 (b0_0.ii t9.toNat 0) (b0_0.ii (IntKind.i64.wrap (t9 - 1)).toNat 0) t3)))
 (cnd ((bif (decide (t1 < t9)) then (decide (m123 (b0_0.ii t9.toNat 0) (b0_0.ii (IntKind.i64.wrap (t9 - 1)).toNat 0) t3 < 0)) else false))
 (cnd ((decide (0 ≤ IntKind.i64.wrap (t9 - 1) ∧ IntKind.i64.wrap (t9 - 1) < (↑3 : Int))))
 (cnd ((decide ((IntKind.i64.wrap (t9 - 1)).toNat < 3)))
 (cnd ((decide (0 ≤ t9 ∧ t9 < (↑3 : Int))))
 (cnd ((decide (t9.toNat < 3)))
 (cnd ((decide (0 ≤ t9 ∧ t9 < (↑3 : Int))))
 (cnd ((decide (t9.toNat < 3)))
 (cnd ((decide (0 ≤ IntKind.i64.wrap (t9 - 1) ∧ IntKind.i64.wrap (t9 - 1) < (↑3 : Int))))
 (cnd ((decide ((IntKind.i64.wrap (t9 - 1)).toNat < 3)))
 (R (XE.normal) [.own 0 1 3, .int .i64 t1, .int .i64 t2, .fn 123 [.ra [.int .i64] 3 t3], .int .i64 t8, .int .i64 (IntKind.i64.wrap (t9 - 1))] [.row 3 [.int .i64] 3 ((b0_0.upd t9.toNat 0 [.int .i64 (b0_0.ii (IntKind.i64.wrap (t9 - 1)).toNat 0)]).upd (IntKind.i64.wrap (t9 - 1)).toNat 0 [.int .i64 (b0_0.ii t9.toNat 0)])])
               False)
              False)
             False)
            False)
           False)
          False)
         False)
        False)
 (R (XE.exit 2) [.own 0 1 3, .int .i64 t1, .int .i64 t2, .fn 123 [.ra [.int .i64] 3 t3], .int .i64 t8] [.row 3 [.int .i64] 3 b0_0]))
      False)
     False)
    False)
   False)
  False) := by kernel_rfl
theorem z161c123_2 : LOk Try.prog g161c123_2 (.block 2 (bodyAt (Try.f161.body.getD .skip) 2)) := by
  refine loop_blk (ι := Int × Int × Dat × Int × Int × Dat) (L := [(123, c123)]) (Λ := (fun _ => none)) (fuel := 8) (na := 1) (nt := 53) (nx := 1) (Lh := [0, 1, 2, 3, 8, 9]) (Le := [0, 1, 2, 3, 8]) (gl := []) (tabOk_cons k123 tabOk_nil) mix_ok noLam rfl (fun f x K => GG default (e161c123_2 x.1 x.2.1 x.2.2.1 x.2.2.2.1) K (l161c123_2 x.1 x.2.1 x.2.2.1 x.2.2.2.1 f x.2.2.2.2.1 x.2.2.2.2.2)) (fun x => [.own 0 1 3, .int .i64 x.1, .int .i64 x.2.1, .fn 123 [.ra [.int .i64] 3 x.2.2.1], .int .i64 x.2.2.2.1, .int .i64 x.2.2.2.2.1]) (fun x => [.row 3 [.int .i64] 3 x.2.2.2.2.2]) (fun x K => gg_none) ?_ ?_
  · rintro f ⟨t1, t2, t3, t8, t9, b0_0⟩ K hG
    have hG : GG default (e161c123_2 t1 t2 t3 t8) K (cond ((bif (bif (decide (t1 < t9)) then false else true) then true else (decide (0 ≤ t9 ∧ t9 < (↑3 : Int))))) (cond ((bif (bif (decide (t1 < t9)) then false else true) then true else (decide (t9.toNat < 3)))) (cond ((bif (bif (decide (t1 < t9)) then false else true) then true else (decide (0 ≤ IntKind.i64.wrap (t9 - 1) ∧ IntKind.i64.wrap (t9 - 1) < (↑3 : Int))))) (cond ((bif (bif (decide (t1 < t9)) then false else true) then true else (decide ((IntKind.i64.wrap (t9 - 1)).toNat < 3)))) (cond ((bif (bif (decide (t1 < t9)) then false else true) then true else (n123 (b0_0.ii t9.toNat 0) (b0_0.ii (IntKind.i64.wrap (t9 - 1)).toNat 0) t3))) (cond ((bif (decide (t1 < t9)) then (decide (m123 (b0_0.ii t9.toNat 0) (b0_0.ii (IntKind.i64.wrap (t9 - 1)).toNat 0) t3 < 0)) else false)) (cond ((decide (0 ≤ IntKind.i64.wrap (t9 - 1) ∧ IntKind.i64.wrap (t9 - 1) < (↑3 : Int)))) (cond ((decide ((IntKind.i64.wrap (t9 - 1)).toNat < 3))) (cond ((decide (0 ≤ t9 ∧ t9 < (↑3 : Int)))) (cond ((decide (t9.toNat < 3))) (cond ((decide (0 ≤ t9 ∧ t9 < (↑3 : Int)))) (cond ((decide (t9.toNat < 3))) (cond ((decide (0 ≤ IntKind.i64.wrap (t9 - 1) ∧ IntKind.i64.wrap (t9 - 1) < (↑3 : Int)))) (cond ((decide ((IntKind.i64.wrap (t9 - 1)).toNat < 3))) (l161c123_2 t1 t2 t3 t8 f (IntKind.i64.wrap (t9 - 1)) ((b0_0.upd t9.toNat 0 [.int .i64 (b0_0.ii (IntKind.i64.wrap (t9 - 1)).toNat 0)]).upd (IntKind.i64.wrap (t9 - 1)).toNat 0 [.int .i64 (b0_0.ii t9.toNat 0)])) none) none) none) none) none) none) none) none) (some b0_0)) none) none) none) none) none) := hG
    refine propOf (y161c123_2 t1 t2 t3 t8 t9 b0_0 _) ?_
    exact cnd_gg hG fun h0 => cnd_gg h0 fun h1 => cnd_gg h1 fun h2 => cnd_gg h2 fun h3 => cnd_gg h3 fun h4 => cnd_gg2 h4 (fun h5 => cnd_gg h5 fun h6 => cnd_gg h6 fun h7 => cnd_gg h7 fun h8 => cnd_gg h8 fun h9 => cnd_gg h9 fun h10 => cnd_gg h10 fun h11 => cnd_gg h11 fun h12 => cnd_gg h12 fun h13 => ⟨(t1, t2, t3, t8, (IntKind.i64.wrap (t9 - 1)), ((b0_0.upd t9.toNat 0 [.int .i64 (b0_0.ii (IntKind.i64.wrap (t9 - 1)).toNat 0)]).upd (IntKind.i64.wrap (t9 - 1)).toNat 0 [.int .i64 (b0_0.ii t9.toNat 0)])), rfl, rfl, h13⟩) (fun h5 => h5.2)
  · intro s k h
    unfold g161c123_2 at h
    split at h <;> try exact h.elim
    rename_i e1
    rw [needs_iff] at h
    exact ⟨_, e1, _, (_, _, _, _, _, _), rfl, rfl, h.1 _ (List.mem_singleton.2 rfl), h.2⟩
noncomputable def l161c123_0 (t1 : Int) (t2 : Int) (t3 : Dat) : Nat → Int → Dat → Option (Dat)
  | 0, _, _ => none
  | f + 1, t8, b0_0 => (cond ((decide (t8 < t2))) (cond (((o161c123_2 t1 t2 t3 t8 t8 b0_0).isSome)) (l161c123_0 t1 t2 t3 f (IntKind.i64.wrap (t8 + 1)) ((o161c123_2 t1 t2 t3 t8 t8 b0_0).getD default)) none) (some b0_0))
noncomputable abbrev o161c123_0 (t1 : Int) (t2 : Int) (t3 : Dat) (t8 : Int) (b0_0 : Dat) : Option (Dat) := l161c123_0 t1 t2 t3 (t1.toNat + t2.toNat + t8.toNat + 8) t8 b0_0
noncomputable def e161c123_0 (t1 : Int) (t2 : Int) (t3 : Dat) (r : Dat) (K : XR) : Prop := K (XE.exit 0) [] [.row 3 [.int .i64] 3 r]
noncomputable def g161c123_0 : LSum := fun s k => match czv 1 53 [0, 1, 2, 3, 8] 1 [] s with
  | some ([.own 0 1 3, .int .i64 t1, .int .i64 t2, .fn 123 [.ra [.int .i64] 3 t3], .int .i64 t8], [.row 3 [.int .i64] 3 b0_0]) => needs [(o161c123_0 t1 t2 t3 t8 b0_0).isSome] (e161c123_0 t1 t2 t3 ((o161c123_0 t1 t2 t3 t8 b0_0).getD default) fun e vs bs => inBlk 0 k e (mkSt 1 53 [] vs 1 bs))
  | _ => False
theorem y161c123_0 (t1 : Int) (t2 : Int) (t3 : Dat) (t8 : Int) (b0_0 : Dat) (R : XR) : exec Try.prog [(123, c123)] (lamOf [(2, g161c123_2)]) 8 (unloop (bodyAt (Try.f161.body.getD .skip) 0)) (mkSt 1 53 [0, 1, 2, 3, 8] [.own 0 1 3, .int .i64 t1, .int .i64 t2, .fn 123 [.ra [.int .i64] 3 t3], .int .i64 t8] 1 [.row 3 [.int .i64] 3 b0_0]) (canonK 1 53 [0, 1, 2, 3, 8] [] 1 [] R) =
 (cnd ((decide (t8 < t2)))
 (cnd (((o161c123_2 t1 t2 t3 t8 t8 b0_0).isSome))
 (R (XE.normal) [.own 0 1 3, .int .i64 t1, .int .i64 t2, .fn 123 [.ra [.int .i64] 3 t3], .int .i64 (IntKind.i64.wrap (t8 + 1))] [.row 3 [.int .i64] 3 ((o161c123_2 t1 t2 t3 t8 t8 b0_0).getD default)])
   False)
 (R (XE.exit 0) [] [.row 3 [.int .i64] 3 b0_0])) := by kernel_rfl
theorem z161c123_0 : LOk Try.prog g161c123_0 (.block 0 (bodyAt (Try.f161.body.getD .skip) 0)) := by
  refine loop_blk (ι := Int × Int × Dat × Int × Dat) (L := [(123, c123)]) (Λ := (lamOf [(2, g161c123_2)])) (fuel := 8) (na := 1) (nt := 53) (nx := 1) (Lh := [0, 1, 2, 3, 8]) (Le := []) (gl := []) (tabOk_cons k123 tabOk_nil) mix_ok (lam_of rfl (lams_cons z161c123_2 lams_nil)) rfl (fun f x K => GG default (e161c123_0 x.1 x.2.1 x.2.2.1) K (l161c123_0 x.1 x.2.1 x.2.2.1 f x.2.2.2.1 x.2.2.2.2)) (fun x => [.own 0 1 3, .int .i64 x.1, .int .i64 x.2.1, .fn 123 [.ra [.int .i64] 3 x.2.2.1], .int .i64 x.2.2.2.1]) (fun x => [.row 3 [.int .i64] 3 x.2.2.2.2]) (fun x K => gg_none) ?_ ?_
  · rintro f ⟨t1, t2, t3, t8, b0_0⟩ K hG
    have hG : GG default (e161c123_0 t1 t2 t3) K (cond ((decide (t8 < t2))) (cond (((o161c123_2 t1 t2 t3 t8 t8 b0_0).isSome)) (l161c123_0 t1 t2 t3 f (IntKind.i64.wrap (t8 + 1)) ((o161c123_2 t1 t2 t3 t8 t8 b0_0).getD default)) none) (some b0_0)) := hG
    refine propOf (y161c123_0 t1 t2 t3 t8 b0_0 _) ?_
    exact cnd_gg2 hG (fun h0 => cnd_gg h0 fun h1 => ⟨(t1, t2, t3, (IntKind.i64.wrap (t8 + 1)), ((o161c123_2 t1 t2 t3 t8 t8 b0_0).getD default)), rfl, rfl, h1⟩) (fun h0 => h0.2)
  · intro s k h
    unfold g161c123_0 at h
    split at h <;> try exact h.elim
    rename_i e1
    rw [needs_iff] at h
    exact ⟨_, e1, _, (_, _, _, _, _), rfl, rfl, h.1 _ (List.mem_singleton.2 rfl), h.2⟩
theorem x161c123 (da0 : Dat) (da3c0 : Dat) (R : SV → List Blk → List Blk → Prop) : exec Try.prog [(123, c123)] (lamOf [(2, g161c123_2), (0, g161c123_0)]) 8 (Try.f161.body.getD .skip) (initS Try.f161.ntmps [.own 0 1 3, .int .i64 0, .int .i64 3, .fn 123 [.ra [.int .i64] 3 da3c0]] 1 (memOf [.row 3 [.int .i64] 3 da0])) (retK Try.prog Try.f161.results.toList (outK 1 (List.range 1) [] (.k) fun v U N => R v U N)) =
 (cnd (((o161c123_0 0 3 da3c0 (IntKind.i64.wrap (0 + 1)) da0).isSome))
 (R (.tup []) [.row 3 [.int .i64] 3 ((o161c123_0 0 3 da3c0 (IntKind.i64.wrap (0 + 1)) da0).getD default)] [])
  False) := by kernel_rfl
noncomputable def m161c123 (da0 : Dat) (da3c0 : Dat) : Dat :=
 ((o161c123_0 0 3 da3c0 (IntKind.i64.wrap (0 + 1)) da0).getD default)
noncomputable def n161c123 (da0 : Dat) (da3c0 : Dat) : Bool :=
 ((((o161c123_0 0 3 da3c0 (IntKind.i64.wrap (0 + 1)) da0).isSome)) && true)
noncomputable def q161c123 (r : Dat) : SV × List Blk × List Blk := (.tup [], [.row 3 [.int .i64] 3 r], [])
noncomputable def g161c123 : List SV → List Blk → Option OpRes := fun vs bs => match vs, bs with
  | [.own 0 1 3, .int .i64 0, .int .i64 3, .fn 123 [.ra [.int .i64] 3 da3c0]], [.row 3 [.int .i64] 3 da0] => some (resOf 1 (q161c123 (m161c123 da0 da3c0)) [n161c123 da0 da3c0])
  | _, _ => none
noncomputable def c161c123 : Ctr := genC [.k, .k, .k, .f [.ra [.int .i64] 3]] g161c123
theorem p161c123 (da0 : Dat) (da3c0 : Dat) (hn : n161c123 da0 da3c0 = true) : exec Try.prog [(123, c123)] (lamOf [(2, g161c123_2), (0, g161c123_0)]) 8 (Try.f161.body.getD .skip) (initS Try.f161.ntmps [.own 0 1 3, .int .i64 0, .int .i64 3, .fn 123 [.ra [.int .i64] 3 da3c0]] 1 (memOf [.row 3 [.int .i64] 3 da0])) (retK Try.prog Try.f161.results.toList (outK 1 (List.range 1) [] (.k) fun v U N => (v, U, N) = (q161c123 (m161c123 da0 da3c0)))) :=
  propOf (x161c123 da0 da3c0 _) (cnd_need (and_l hn) (leaf_of (l := ((o161c123_0 0 3 da3c0 (IntKind.i64.wrap (0 + 1)) da0).getD default)) rfl rfl))
theorem k161c123 : CtrOk Try.prog c161c123 161 := ctr_of (tabOk_cons k123 tabOk_nil) mix_ok 8 (fn := Try.f161) (c := (Try.f161.body.getD .skip)) (grs := []) (rh := .k) (Λ := (lamOf [(2, g161c123_2), (0, g161c123_0)])) Try.func161 rfl (by kernel_rfl) (lam_of rfl (lams_cons z161c123_2 (lams_cons z161c123_0 lams_nil))) fun vs bs q h hn => by
  unfold g161c123 at h
  split at h <;> cases h
  exact ⟨_, rfl, p161c123 _ _ (hn _ (List.mem_singleton.2 rfl))⟩

/-! ### slices.stableCmpFunc[int] -/
theorem x152c123 (da0 : Dat) (da2c0 : Dat) (R : SV → List Blk → List Blk → Prop) : exec Try.prog [(123, c123), (161, c161c123)] (fun _ => none) 8 (Try.f152.body.getD .skip) (initS Try.f152.ntmps [.own 0 1 3, .int .i64 3, .fn 123 [.ra [.int .i64] 3 da2c0]] 1 (memOf [.row 3 [.int .i64] 3 da0])) (retK Try.prog Try.f152.results.toList (outK 1 (List.range 1) [] (.k) fun v U N => R v U N)) =
 (cnd ((n161c123 da0 da2c0))
 (R (.tup []) [.row 3 [.int .i64] 3 (m161c123 da0 da2c0)] [])
  False) := by kernel_rfl
noncomputable def m152c123 (da0 : Dat) (da2c0 : Dat) : Dat :=
 (m161c123 da0 da2c0)
noncomputable def n152c123 (da0 : Dat) (da2c0 : Dat) : Bool :=
 (((n161c123 da0 da2c0)) && true)
noncomputable def q152c123 (r : Dat) : SV × List Blk × List Blk := (.tup [], [.row 3 [.int .i64] 3 r], [])
noncomputable def g152c123 : List SV → List Blk → Option OpRes := fun vs bs => match vs, bs with
  | [.own 0 1 3, .int .i64 3, .fn 123 [.ra [.int .i64] 3 da2c0]], [.row 3 [.int .i64] 3 da0] => some (resOf 1 (q152c123 (m152c123 da0 da2c0)) [n152c123 da0 da2c0])
  | _, _ => none
noncomputable def c152c123 : Ctr := genC [.k, .k, .f [.ra [.int .i64] 3]] g152c123
theorem p152c123 (da0 : Dat) (da2c0 : Dat) (hn : n152c123 da0 da2c0 = true) : exec Try.prog [(123, c123), (161, c161c123)] (fun _ => none) 8 (Try.f152.body.getD .skip) (initS Try.f152.ntmps [.own 0 1 3, .int .i64 3, .fn 123 [.ra [.int .i64] 3 da2c0]] 1 (memOf [.row 3 [.int .i64] 3 da0])) (retK Try.prog Try.f152.results.toList (outK 1 (List.range 1) [] (.k) fun v U N => (v, U, N) = (q152c123 (m152c123 da0 da2c0)))) :=
  propOf (x152c123 da0 da2c0 _) (cnd_need (and_l hn) (leaf_of (l := (m161c123 da0 da2c0)) rfl rfl))
theorem k152c123 : CtrOk Try.prog c152c123 152 := ctr_of (tabOk_cons k123 (tabOk_cons k161c123 tabOk_nil)) mix_ok 8 (fn := Try.f152) (c := (Try.f152.body.getD .skip)) (grs := []) (rh := .k) (Λ := (fun _ => none)) Try.func152 rfl (by kernel_rfl) noLam fun vs bs q h hn => by
  unfold g152c123 at h
  split at h <;> cases h
  exact ⟨_, rfl, p152c123 _ _ (hn _ (List.mem_singleton.2 rfl))⟩
/-! ### shotline/shotlineref06.Share -/
noncomputable def l45_2 (b0_0 : Int) (b0_1 : Int) (b0_2 : Int) (b1_0 : Int) (b1_1 : Int) (b1_2 : Int) (b2_0 : Int) (b2_1 : Int) (b2_2 : Int) : Nat → Int → Int → Int → Int → Int → Int → Int → Option (Int × Int × Int × Int × Int × Int)
  | 0, _, _, _, _, _, _, _ => none
  | f + 1, t9, b3_0, b3_1, b3_2, b4_0, b4_1, b4_2 => (cond ((decide ((0 : Int) < t9))) (cond ((decide (b4_0 < b4_1))) (cond ((decide (b4_1 < b4_2))) (l45_2 b0_0 b0_1 b0_2 b1_0 b1_1 b1_2 b2_0 b2_1 b2_2 f (IntKind.i64.wrap (t9 - 1)) b3_0 b3_1 (IntKind.i64.wrap (b3_2 + 1)) b4_0 b4_1 (-1)) (l45_2 b0_0 b0_1 b0_2 b1_0 b1_1 b1_2 b2_0 b2_1 b2_2 f (IntKind.i64.wrap (t9 - 1)) b3_0 (IntKind.i64.wrap (b3_1 + 1)) b3_2 b4_0 (-1) b4_2)) (cond ((decide (b4_0 < b4_2))) (l45_2 b0_0 b0_1 b0_2 b1_0 b1_1 b1_2 b2_0 b2_1 b2_2 f (IntKind.i64.wrap (t9 - 1)) b3_0 b3_1 (IntKind.i64.wrap (b3_2 + 1)) b4_0 b4_1 (-1)) (l45_2 b0_0 b0_1 b0_2 b1_0 b1_1 b1_2 b2_0 b2_1 b2_2 f (IntKind.i64.wrap (t9 - 1)) (IntKind.i64.wrap (b3_0 + 1)) b3_1 b3_2 (-1) b4_1 b4_2))) (some (b3_0, b3_1, b3_2, b4_0, b4_1, b4_2)))
noncomputable abbrev o45_2 (b0_0 : Int) (b0_1 : Int) (b0_2 : Int) (b1_0 : Int) (b1_1 : Int) (b1_2 : Int) (b2_0 : Int) (b2_1 : Int) (b2_2 : Int) (t9 : Int) (b3_0 : Int) (b3_1 : Int) (b3_2 : Int) (b4_0 : Int) (b4_1 : Int) (b4_2 : Int) : Option (Int × Int × Int × Int × Int × Int) := l45_2 b0_0 b0_1 b0_2 b1_0 b1_1 b1_2 b2_0 b2_1 b2_2 (t9.toNat + b0_0.toNat + b0_1.toNat + b0_2.toNat + b1_0.toNat + b1_1.toNat + b1_2.toNat + b2_0.toNat + b2_1.toNat + b2_2.toNat + b3_0.toNat + b3_1.toNat + b3_2.toNat + b4_0.toNat + b4_1.toNat + b4_2.toNat + 8) t9 b3_0 b3_1 b3_2 b4_0 b4_1 b4_2
noncomputable def e45_2 (b0_0 : Int) (b0_1 : Int) (b0_2 : Int) (b1_0 : Int) (b1_1 : Int) (b1_2 : Int) (b2_0 : Int) (b2_1 : Int) (b2_2 : Int) (r : Int × Int × Int × Int × Int × Int) (K : XR) : Prop := K (XE.exit 2) [.ptr 1 0, .ptr 3 0] [.cells 39 [.int .i64 b0_0, .int .i64 b0_1, .int .i64 b0_2], .cells 39 [.int .i64 b1_0, .int .i64 b1_1, .int .i64 b1_2], .cells 56 [.int .i64 b2_0, .int .i64 b2_1, .int .i64 b2_2], .cells 56 [.int .i64 r.1, .int .i64 r.2.1, .int .i64 r.2.2.1], .cells 56 [.int .i64 r.2.2.2.1, .int .i64 r.2.2.2.2.1, .int .i64 r.2.2.2.2.2]]
noncomputable def g45_2 : LSum := fun s k => match czv 0 84 [4, 7, 8, 9] 5 [] s with
  | some ([.ptr 1 0, .ptr 3 0, .ptr 4 0, .int .i64 t9], [.cells 39 [.int .i64 b0_0, .int .i64 b0_1, .int .i64 b0_2], .cells 39 [.int .i64 b1_0, .int .i64 b1_1, .int .i64 b1_2], .cells 56 [.int .i64 b2_0, .int .i64 b2_1, .int .i64 b2_2], .cells 56 [.int .i64 b3_0, .int .i64 b3_1, .int .i64 b3_2], .cells 56 [.int .i64 b4_0, .int .i64 b4_1, .int .i64 b4_2]]) => needs [(o45_2 b0_0 b0_1 b0_2 b1_0 b1_1 b1_2 b2_0 b2_1 b2_2 t9 b3_0 b3_1 b3_2 b4_0 b4_1 b4_2).isSome] (e45_2 b0_0 b0_1 b0_2 b1_0 b1_1 b1_2 b2_0 b2_1 b2_2 ((o45_2 b0_0 b0_1 b0_2 b1_0 b1_1 b1_2 b2_0 b2_1 b2_2 t9 b3_0 b3_1 b3_2 b4_0 b4_1 b4_2).getD default) fun e vs bs => inBlk 2 k e (mkSt 0 84 [4, 7] vs 5 bs))
  | _ => False
theorem y45_2 (t9 : Int) (b0_0 : Int) (b0_1 : Int) (b0_2 : Int) (b1_0 : Int) (b1_1 : Int) (b1_2 : Int) (b2_0 : Int) (b2_1 : Int) (b2_2 : Int) (b3_0 : Int) (b3_1 : Int) (b3_2 : Int) (b4_0 : Int) (b4_1 : Int) (b4_2 : Int) (R : XR) : exec Try.prog [(29, c29)] (fun _ => none) 8 (unloop (bodyAt (Try.f45.body.getD .skip) 2)) (mkSt 0 84 [4, 7, 8, 9] [.ptr 1 0, .ptr 3 0, .ptr 4 0, .int .i64 t9] 5 [.cells 39 [.int .i64 b0_0, .int .i64 b0_1, .int .i64 b0_2], .cells 39 [.int .i64 b1_0, .int .i64 b1_1, .int .i64 b1_2], .cells 56 [.int .i64 b2_0, .int .i64 b2_1, .int .i64 b2_2], .cells 56 [.int .i64 b3_0, .int .i64 b3_1, .int .i64 b3_2], .cells 56 [.int .i64 b4_0, .int .i64 b4_1, .int .i64 b4_2]]) (canonK 0 84 [4, 7, 8, 9] [4, 7] 5 [] R) =
 (cnd ((decide ((0 : Int) < t9)))
 (cnd ((decide (b4_0 < b4_1)))
 (cnd ((decide (b4_1 < b4_2)))
 (R (XE.normal) [.ptr 1 0, .ptr 3 0, .ptr 4 0, .int .i64 (IntKind.i64.wrap (t9 - 1))] [.cells 39 [.int .i64 b0_0, .int .i64 b0_1, .int .i64 b0_2], .cells 39 [.int .i64 b1_0, .int .i64 b1_1, .int .i64 b1_2], .cells 56 [.int .i64 b2_0, .int .i64 b2_1, .int .i64 b2_2], .cells 56 [.int .i64 b3_0, .int .i64 b3_1, .int .i64 (IntKind.i64.wrap (b3_2 + 1))], .cells 56 [.int .i64 b4_0, .int .i64 b4_1, .int .i64 (-1)]])
 (R (XE.normal) [.ptr 1 0, .ptr 3 0, .ptr 4 0, .int .i64 (IntKind.i64.wrap (t9 - 1))] [.cells 39 [.int .i64 b0_0, .int .i64 b0_1, .int .i64 b0_2], .cells 39 [.int .i64 b1_0, .int .i64 b1_1, .int .i64 b1_2], .cells 56 [.int .i64 b2_0, .int .i64 b2_1, .int .i64 b2_2], .cells 56 [.int .i64 b3_0, .int .i64 (IntKind.i64.wrap (b3_1 + 1)), .int .i64 b3_2], .cells 56 [.int .i64 b4_0, .int .i64 (-1), .int .i64 b4_2]]))
 (cnd ((decide (b4_0 < b4_2)))
 (R (XE.normal) [.ptr 1 0, .ptr 3 0, .ptr 4 0, .int .i64 (IntKind.i64.wrap (t9 - 1))] [.cells 39 [.int .i64 b0_0, .int .i64 b0_1, .int .i64 b0_2], .cells 39 [.int .i64 b1_0, .int .i64 b1_1, .int .i64 b1_2], .cells 56 [.int .i64 b2_0, .int .i64 b2_1, .int .i64 b2_2], .cells 56 [.int .i64 b3_0, .int .i64 b3_1, .int .i64 (IntKind.i64.wrap (b3_2 + 1))], .cells 56 [.int .i64 b4_0, .int .i64 b4_1, .int .i64 (-1)]])
 (R (XE.normal) [.ptr 1 0, .ptr 3 0, .ptr 4 0, .int .i64 (IntKind.i64.wrap (t9 - 1))] [.cells 39 [.int .i64 b0_0, .int .i64 b0_1, .int .i64 b0_2], .cells 39 [.int .i64 b1_0, .int .i64 b1_1, .int .i64 b1_2], .cells 56 [.int .i64 b2_0, .int .i64 b2_1, .int .i64 b2_2], .cells 56 [.int .i64 (IntKind.i64.wrap (b3_0 + 1)), .int .i64 b3_1, .int .i64 b3_2], .cells 56 [.int .i64 (-1), .int .i64 b4_1, .int .i64 b4_2]])))
 (R (XE.exit 2) [.ptr 1 0, .ptr 3 0] [.cells 39 [.int .i64 b0_0, .int .i64 b0_1, .int .i64 b0_2], .cells 39 [.int .i64 b1_0, .int .i64 b1_1, .int .i64 b1_2], .cells 56 [.int .i64 b2_0, .int .i64 b2_1, .int .i64 b2_2], .cells 56 [.int .i64 b3_0, .int .i64 b3_1, .int .i64 b3_2], .cells 56 [.int .i64 b4_0, .int .i64 b4_1, .int .i64 b4_2]])) := by kernel_rfl
theorem z45_2 : LOk Try.prog g45_2 (.block 2 (bodyAt (Try.f45.body.getD .skip) 2)) := by
  refine loop_blk (ι := Int × Int × Int × Int × Int × Int × Int × Int × Int × Int × Int × Int × Int × Int × Int × Int) (L := [(29, c29)]) (Λ := (fun _ => none)) (fuel := 8) (na := 0) (nt := 84) (nx := 5) (Lh := [4, 7, 8, 9]) (Le := [4, 7]) (gl := []) (tabOk_cons k29 tabOk_nil) mix_ok noLam rfl (fun f x K => GG default (e45_2 x.2.1 x.2.2.1 x.2.2.2.1 x.2.2.2.2.1 x.2.2.2.2.2.1 x.2.2.2.2.2.2.1 x.2.2.2.2.2.2.2.1 x.2.2.2.2.2.2.2.2.1 x.2.2.2.2.2.2.2.2.2.1) K (l45_2 x.2.1 x.2.2.1 x.2.2.2.1 x.2.2.2.2.1 x.2.2.2.2.2.1 x.2.2.2.2.2.2.1 x.2.2.2.2.2.2.2.1 x.2.2.2.2.2.2.2.2.1 x.2.2.2.2.2.2.2.2.2.1 f x.1 x.2.2.2.2.2.2.2.2.2.2.1 x.2.2.2.2.2.2.2.2.2.2.2.1 x.2.2.2.2.2.2.2.2.2.2.2.2.1 x.2.2.2.2.2.2.2.2.2.2.2.2.2.1 x.2.2.2.2.2.2.2.2.2.2.2.2.2.2.1 x.2.2.2.2.2.2.2.2.2.2.2.2.2.2.2)) (fun x => [.ptr 1 0, .ptr 3 0, .ptr 4 0, .int .i64 x.1]) (fun x => [.cells 39 [.int .i64 x.2.1, .int .i64 x.2.2.1, .int .i64 x.2.2.2.1], .cells 39 [.int .i64 x.2.2.2.2.1, .int .i64 x.2.2.2.2.2.1, .int .i64 x.2.2.2.2.2.2.1], .cells 56 [.int .i64 x.2.2.2.2.2.2.2.1, .int .i64 x.2.2.2.2.2.2.2.2.1, .int .i64 x.2.2.2.2.2.2.2.2.2.1], .cells 56 [.int .i64 x.2.2.2.2.2.2.2.2.2.2.1, .int .i64 x.2.2.2.2.2.2.2.2.2.2.2.1, .int .i64 x.2.2.2.2.2.2.2.2.2.2.2.2.1], .cells 56 [.int .i64 x.2.2.2.2.2.2.2.2.2.2.2.2.2.1, .int .i64 x.2.2.2.2.2.2.2.2.2.2.2.2.2.2.1, .int .i64 x.2.2.2.2.2.2.2.2.2.2.2.2.2.2.2]]) (fun x K => gg_none) ?_ ?_
  · rintro f ⟨t9, b0_0, b0_1, b0_2, b1_0, b1_1, b1_2, b2_0, b2_1, b2_2, b3_0, b3_1, b3_2, b4_0, b4_1, b4_2⟩ K hG
    have hG : GG default (e45_2 b0_0 b0_1 b0_2 b1_0 b1_1 b1_2 b2_0 b2_1 b2_2) K (cond ((decide ((0 : Int) < t9))) (cond ((decide (b4_0 < b4_1))) (cond ((decide (b4_1 < b4_2))) (l45_2 b0_0 b0_1 b0_2 b1_0 b1_1 b1_2 b2_0 b2_1 b2_2 f (IntKind.i64.wrap (t9 - 1)) b3_0 b3_1 (IntKind.i64.wrap (b3_2 + 1)) b4_0 b4_1 (-1)) (l45_2 b0_0 b0_1 b0_2 b1_0 b1_1 b1_2 b2_0 b2_1 b2_2 f (IntKind.i64.wrap (t9 - 1)) b3_0 (IntKind.i64.wrap (b3_1 + 1)) b3_2 b4_0 (-1) b4_2)) (cond ((decide (b4_0 < b4_2))) (l45_2 b0_0 b0_1 b0_2 b1_0 b1_1 b1_2 b2_0 b2_1 b2_2 f (IntKind.i64.wrap (t9 - 1)) b3_0 b3_1 (IntKind.i64.wrap (b3_2 + 1)) b4_0 b4_1 (-1)) (l45_2 b0_0 b0_1 b0_2 b1_0 b1_1 b1_2 b2_0 b2_1 b2_2 f (IntKind.i64.wrap (t9 - 1)) (IntKind.i64.wrap (b3_0 + 1)) b3_1 b3_2 (-1) b4_1 b4_2))) (some (b3_0, b3_1, b3_2, b4_0, b4_1, b4_2))) := hG
    refine propOf (y45_2 t9 b0_0 b0_1 b0_2 b1_0 b1_1 b1_2 b2_0 b2_1 b2_2 b3_0 b3_1 b3_2 b4_0 b4_1 b4_2 _) ?_
    exact cnd_gg2 hG (fun h0 => cnd_gg2 h0 (fun h1 => cnd_gg2 h1 (fun h2 => ⟨((IntKind.i64.wrap (t9 - 1)), b0_0, b0_1, b0_2, b1_0, b1_1, b1_2, b2_0, b2_1, b2_2, b3_0, b3_1, (IntKind.i64.wrap (b3_2 + 1)), b4_0, b4_1, (-1)), rfl, rfl, h2⟩) (fun h2 => ⟨((IntKind.i64.wrap (t9 - 1)), b0_0, b0_1, b0_2, b1_0, b1_1, b1_2, b2_0, b2_1, b2_2, b3_0, (IntKind.i64.wrap (b3_1 + 1)), b3_2, b4_0, (-1), b4_2), rfl, rfl, h2⟩)) (fun h1 => cnd_gg2 h1 (fun h2 => ⟨((IntKind.i64.wrap (t9 - 1)), b0_0, b0_1, b0_2, b1_0, b1_1, b1_2, b2_0, b2_1, b2_2, b3_0, b3_1, (IntKind.i64.wrap (b3_2 + 1)), b4_0, b4_1, (-1)), rfl, rfl, h2⟩) (fun h2 => ⟨((IntKind.i64.wrap (t9 - 1)), b0_0, b0_1, b0_2, b1_0, b1_1, b1_2, b2_0, b2_1, b2_2, (IntKind.i64.wrap (b3_0 + 1)), b3_1, b3_2, (-1), b4_1, b4_2), rfl, rfl, h2⟩))) (fun h0 => h0.2)
  · intro s k h
    unfold g45_2 at h
    split at h <;> try exact h.elim
    rename_i e1
    rw [needs_iff] at h
    exact ⟨_, e1, _, (_, _, _, _, _, _, _, _, _, _, _, _, _, _, _, _), rfl, rfl, h.1 _ (List.mem_singleton.2 rfl), h.2⟩
theorem x45 (a0_0 : Int) (a0_1 : Int) (a0_2 : Int) (a1 : Int) (R : SV → List Blk → List Blk → Prop) : exec Try.prog [(29, c29)] (lamOf [(2, g45_2)]) 8 (Try.f45.body.getD .skip) (initS Try.f45.ntmps [.agg [.int .i64 a0_0, .int .i64 a0_1, .int .i64 a0_2], .int .i64 a1] 0 (memOf [])) (retK Try.prog Try.f45.results.toList (outK 0 (List.range 0) [] (.k) fun v U N => R v U N)) =
 (cnd ((decide (m29 a0_0 a0_1 a0_2 = 0)))
 (R (.agg [.int .i64 0, .int .i64 0, .int .i64 0]) [] [])
 (cnd ((bif (decide (m29 a0_0 a0_1 a0_2 = 0)) then false else true))
 (cnd ((bif (decide (m29 a0_0 a0_1 a0_2 = 0)) then false else true))
 (cnd ((bif (decide (m29 a0_0 a0_1 a0_2 = 0)) then false else true))
 (cnd ((bif (decide (m29 a0_0 a0_1 a0_2 = 0)) then false else true))
 (cnd ((bif (decide (m29 a0_0 a0_1 a0_2 = 0)) then false else true))
 (cnd ((bif (decide (m29 a0_0 a0_1 a0_2 = 0)) then false else true))
 (cnd (((o45_2 a0_0 a0_1 a0_2 0 0 0 a0_0 a0_1 a0_2 (IntKind.i64.wrap (IntKind.i64.wrap (IntKind.i64.wrap (a1 - IntKind.i64.wrap ((IntKind.i64.wrap (a0_0 * a1)).tdiv (m29 a0_0 a0_1 a0_2))) - IntKind.i64.wrap ((IntKind.i64.wrap (a0_1 * a1)).tdiv (m29 a0_0 a0_1 a0_2))) - IntKind.i64.wrap ((IntKind.i64.wrap (a0_2 * a1)).tdiv (m29 a0_0 a0_1 a0_2)))) (IntKind.i64.wrap ((IntKind.i64.wrap (a0_0 * a1)).tdiv (m29 a0_0 a0_1 a0_2))) (IntKind.i64.wrap ((IntKind.i64.wrap (a0_1 * a1)).tdiv (m29 a0_0 a0_1 a0_2))) (IntKind.i64.wrap ((IntKind.i64.wrap (a0_2 * a1)).tdiv (m29 a0_0 a0_1 a0_2))) ((IntKind.i64.wrap (a0_0 * a1)).tmod (m29 a0_0 a0_1 a0_2)) ((IntKind.i64.wrap (a0_1 * a1)).tmod (m29 a0_0 a0_1 a0_2)) ((IntKind.i64.wrap (a0_2 * a1)).tmod (m29 a0_0 a0_1 a0_2))).isSome))
 (R (.agg [.int .i64 (((o45_2 a0_0 a0_1 a0_2 0 0 0 a0_0 a0_1 a0_2 (IntKind.i64.wrap (IntKind.i64.wrap (IntKind.i64.wrap (a1 - IntKind.i64.wrap ((IntKind.i64.wrap (a0_0 * a1)).tdiv (m29 a0_0 a0_1 a0_2))) - IntKind.i64.wrap ((IntKind.i64.wrap (a0_1 * a1)).tdiv (m29 a0_0 a0_1 a0_2))) - IntKind.i64.wrap ((IntKind.i64.wrap (a0_2 * a1)).tdiv (m29 a0_0 a0_1 a0_2)))) (IntKind.i64.wrap ((IntKind.i64.wrap (a0_0 * a1)).tdiv (m29 a0_0 a0_1 a0_2))) (IntKind.i64.wrap ((IntKind.i64.wrap (a0_1 * a1)).tdiv (m29 a0_0 a0_1 a0_2))) (IntKind.i64.wrap ((IntKind.i64.wrap (a0_2 * a1)).tdiv (m29 a0_0 a0_1 a0_2))) ((IntKind.i64.wrap (a0_0 * a1)).tmod (m29 a0_0 a0_1 a0_2)) ((IntKind.i64.wrap (a0_1 * a1)).tmod (m29 a0_0 a0_1 a0_2)) ((IntKind.i64.wrap (a0_2 * a1)).tmod (m29 a0_0 a0_1 a0_2))).getD default).1), .int .i64 (((o45_2 a0_0 a0_1 a0_2 0 0 0 a0_0 a0_1 a0_2 (IntKind.i64.wrap (IntKind.i64.wrap (IntKind.i64.wrap (a1 - IntKind.i64.wrap ((IntKind.i64.wrap (a0_0 * a1)).tdiv (m29 a0_0 a0_1 a0_2))) - IntKind.i64.wrap ((IntKind.i64.wrap (a0_1 * a1)).tdiv (m29 a0_0 a0_1 a0_2))) - IntKind.i64.wrap ((IntKind.i64.wrap (a0_2 * a1)).tdiv (m29 a0_0 a0_1 a0_2)))) (IntKind.i64.wrap ((IntKind.i64.wrap (a0_0 * a1)).tdiv (m29 a0_0 a0_1 a0_2))) (IntKind.i64.wrap ((IntKind.i64.wrap (a0_1 * a1)).tdiv (m29 a0_0 a0_1 a0_2))) (IntKind.i64.wrap ((IntKind.i64.wrap (a0_2 * a1)).tdiv (m29 a0_0 a0_1 a0_2))) ((IntKind.i64.wrap (a0_0 * a1)).tmod (m29 a0_0 a0_1 a0_2)) ((IntKind.i64.wrap (a0_1 * a1)).tmod (m29 a0_0 a0_1 a0_2)) ((IntKind.i64.wrap (a0_2 * a1)).tmod (m29 a0_0 a0_1 a0_2))).getD default).2.1), .int .i64 (((o45_2 a0_0 a0_1 a0_2 0 0 0 a0_0 a0_1 a0_2 (IntKind.i64.wrap (IntKind.i64.wrap (IntKind.i64.wrap (a1 - IntKind.i64.wrap ((IntKind.i64.wrap (a0_0 * a1)).tdiv (m29 a0_0 a0_1 a0_2))) - IntKind.i64.wrap ((IntKind.i64.wrap (a0_1 * a1)).tdiv (m29 a0_0 a0_1 a0_2))) - IntKind.i64.wrap ((IntKind.i64.wrap (a0_2 * a1)).tdiv (m29 a0_0 a0_1 a0_2)))) (IntKind.i64.wrap ((IntKind.i64.wrap (a0_0 * a1)).tdiv (m29 a0_0 a0_1 a0_2))) (IntKind.i64.wrap ((IntKind.i64.wrap (a0_1 * a1)).tdiv (m29 a0_0 a0_1 a0_2))) (IntKind.i64.wrap ((IntKind.i64.wrap (a0_2 * a1)).tdiv (m29 a0_0 a0_1 a0_2))) ((IntKind.i64.wrap (a0_0 * a1)).tmod (m29 a0_0 a0_1 a0_2)) ((IntKind.i64.wrap (a0_1 * a1)).tmod (m29 a0_0 a0_1 a0_2)) ((IntKind.i64.wrap (a0_2 * a1)).tmod (m29 a0_0 a0_1 a0_2))).getD default).2.2.1)]) [] [])
         False)
        False)
       False)
      False)
     False)
    False)
   False)) := by kernel_rfl
noncomputable def m45 (a0_0 : Int) (a0_1 : Int) (a0_2 : Int) (a1 : Int) : Int × Int × Int :=
 (cond ((decide (m29 a0_0 a0_1 a0_2 = 0))) (0, 0, 0) ((((o45_2 a0_0 a0_1 a0_2 0 0 0 a0_0 a0_1 a0_2 (IntKind.i64.wrap (IntKind.i64.wrap (IntKind.i64.wrap (a1 - IntKind.i64.wrap ((IntKind.i64.wrap (a0_0 * a1)).tdiv (m29 a0_0 a0_1 a0_2))) - IntKind.i64.wrap ((IntKind.i64.wrap (a0_1 * a1)).tdiv (m29 a0_0 a0_1 a0_2))) - IntKind.i64.wrap ((IntKind.i64.wrap (a0_2 * a1)).tdiv (m29 a0_0 a0_1 a0_2)))) (IntKind.i64.wrap ((IntKind.i64.wrap (a0_0 * a1)).tdiv (m29 a0_0 a0_1 a0_2))) (IntKind.i64.wrap ((IntKind.i64.wrap (a0_1 * a1)).tdiv (m29 a0_0 a0_1 a0_2))) (IntKind.i64.wrap ((IntKind.i64.wrap (a0_2 * a1)).tdiv (m29 a0_0 a0_1 a0_2))) ((IntKind.i64.wrap (a0_0 * a1)).tmod (m29 a0_0 a0_1 a0_2)) ((IntKind.i64.wrap (a0_1 * a1)).tmod (m29 a0_0 a0_1 a0_2)) ((IntKind.i64.wrap (a0_2 * a1)).tmod (m29 a0_0 a0_1 a0_2))).getD default).1), (((o45_2 a0_0 a0_1 a0_2 0 0 0 a0_0 a0_1 a0_2 (IntKind.i64.wrap (IntKind.i64.wrap (IntKind.i64.wrap (a1 - IntKind.i64.wrap ((IntKind.i64.wrap (a0_0 * a1)).tdiv (m29 a0_0 a0_1 a0_2))) - IntKind.i64.wrap ((IntKind.i64.wrap (a0_1 * a1)).tdiv (m29 a0_0 a0_1 a0_2))) - IntKind.i64.wrap ((IntKind.i64.wrap (a0_2 * a1)).tdiv (m29 a0_0 a0_1 a0_2)))) (IntKind.i64.wrap ((IntKind.i64.wrap (a0_0 * a1)).tdiv (m29 a0_0 a0_1 a0_2))) (IntKind.i64.wrap ((IntKind.i64.wrap (a0_1 * a1)).tdiv (m29 a0_0 a0_1 a0_2))) (IntKind.i64.wrap ((IntKind.i64.wrap (a0_2 * a1)).tdiv (m29 a0_0 a0_1 a0_2))) ((IntKind.i64.wrap (a0_0 * a1)).tmod (m29 a0_0 a0_1 a0_2)) ((IntKind.i64.wrap (a0_1 * a1)).tmod (m29 a0_0 a0_1 a0_2)) ((IntKind.i64.wrap (a0_2 * a1)).tmod (m29 a0_0 a0_1 a0_2))).getD default).2.1), (((o45_2 a0_0 a0_1 a0_2 0 0 0 a0_0 a0_1 a0_2 (IntKind.i64.wrap (IntKind.i64.wrap (IntKind.i64.wrap (a1 - IntKind.i64.wrap ((IntKind.i64.wrap (a0_0 * a1)).tdiv (m29 a0_0 a0_1 a0_2))) - IntKind.i64.wrap ((IntKind.i64.wrap (a0_1 * a1)).tdiv (m29 a0_0 a0_1 a0_2))) - IntKind.i64.wrap ((IntKind.i64.wrap (a0_2 * a1)).tdiv (m29 a0_0 a0_1 a0_2)))) (IntKind.i64.wrap ((IntKind.i64.wrap (a0_0 * a1)).tdiv (m29 a0_0 a0_1 a0_2))) (IntKind.i64.wrap ((IntKind.i64.wrap (a0_1 * a1)).tdiv (m29 a0_0 a0_1 a0_2))) (IntKind.i64.wrap ((IntKind.i64.wrap (a0_2 * a1)).tdiv (m29 a0_0 a0_1 a0_2))) ((IntKind.i64.wrap (a0_0 * a1)).tmod (m29 a0_0 a0_1 a0_2)) ((IntKind.i64.wrap (a0_1 * a1)).tmod (m29 a0_0 a0_1 a0_2)) ((IntKind.i64.wrap (a0_2 * a1)).tmod (m29 a0_0 a0_1 a0_2))).getD default).2.2.1)))
noncomputable def n45 (a0_0 : Int) (a0_1 : Int) (a0_2 : Int) (a1 : Int) : Bool :=
 (cond ((decide (m29 a0_0 a0_1 a0_2 = 0))) true (((bif (decide (m29 a0_0 a0_1 a0_2 = 0)) then false else true)) && (((bif (decide (m29 a0_0 a0_1 a0_2 = 0)) then false else true)) && (((bif (decide (m29 a0_0 a0_1 a0_2 = 0)) then false else true)) && (((bif (decide (m29 a0_0 a0_1 a0_2 = 0)) then false else true)) && (((bif (decide (m29 a0_0 a0_1 a0_2 = 0)) then false else true)) && (((bif (decide (m29 a0_0 a0_1 a0_2 = 0)) then false else true)) && ((((o45_2 a0_0 a0_1 a0_2 0 0 0 a0_0 a0_1 a0_2 (IntKind.i64.wrap (IntKind.i64.wrap (IntKind.i64.wrap (a1 - IntKind.i64.wrap ((IntKind.i64.wrap (a0_0 * a1)).tdiv (m29 a0_0 a0_1 a0_2))) - IntKind.i64.wrap ((IntKind.i64.wrap (a0_1 * a1)).tdiv (m29 a0_0 a0_1 a0_2))) - IntKind.i64.wrap ((IntKind.i64.wrap (a0_2 * a1)).tdiv (m29 a0_0 a0_1 a0_2)))) (IntKind.i64.wrap ((IntKind.i64.wrap (a0_0 * a1)).tdiv (m29 a0_0 a0_1 a0_2))) (IntKind.i64.wrap ((IntKind.i64.wrap (a0_1 * a1)).tdiv (m29 a0_0 a0_1 a0_2))) (IntKind.i64.wrap ((IntKind.i64.wrap (a0_2 * a1)).tdiv (m29 a0_0 a0_1 a0_2))) ((IntKind.i64.wrap (a0_0 * a1)).tmod (m29 a0_0 a0_1 a0_2)) ((IntKind.i64.wrap (a0_1 * a1)).tmod (m29 a0_0 a0_1 a0_2)) ((IntKind.i64.wrap (a0_2 * a1)).tmod (m29 a0_0 a0_1 a0_2))).isSome)) && true))))))))
noncomputable def q45 (r : Int × Int × Int) : SV × List Blk × List Blk := (.agg [.int .i64 r.1, .int .i64 r.2.1, .int .i64 r.2.2], [], [])
noncomputable def g45 : List SV → List Blk → Option OpRes := fun vs bs => match vs, bs with
  | [.agg [.int .i64 a0_0, .int .i64 a0_1, .int .i64 a0_2], .int .i64 a1], [] => some (resOf 0 (q45 (m45 a0_0 a0_1 a0_2 a1)) [n45 a0_0 a0_1 a0_2 a1])
  | _, _ => none
noncomputable def c45 : Ctr := genC [.k, .k] g45
theorem p45 (a0_0 : Int) (a0_1 : Int) (a0_2 : Int) (a1 : Int) (hn : n45 a0_0 a0_1 a0_2 a1 = true) : exec Try.prog [(29, c29)] (lamOf [(2, g45_2)]) 8 (Try.f45.body.getD .skip) (initS Try.f45.ntmps [.agg [.int .i64 a0_0, .int .i64 a0_1, .int .i64 a0_2], .int .i64 a1] 0 (memOf [])) (retK Try.prog Try.f45.results.toList (outK 0 (List.range 0) [] (.k) fun v U N => (v, U, N) = (q45 (m45 a0_0 a0_1 a0_2 a1)))) :=
  propOf (x45 a0_0 a0_1 a0_2 a1 _) (cnd_of (fun h0 => leaf_of (l := (0, 0, 0)) (condT h0 rfl) rfl) (fun h0 => cnd_need (and_l (cond_f h0 hn)) (cnd_need (and_l (and_r (cond_f h0 hn))) (cnd_need (and_l (and_r (and_r (cond_f h0 hn)))) (cnd_need (and_l (and_r (and_r (and_r (cond_f h0 hn))))) (cnd_need (and_l (and_r (and_r (and_r (and_r (cond_f h0 hn)))))) (cnd_need (and_l (and_r (and_r (and_r (and_r (and_r (cond_f h0 hn))))))) (cnd_need (and_l (and_r (and_r (and_r (and_r (and_r (and_r (cond_f h0 hn)))))))) (leaf_of (l := ((((o45_2 a0_0 a0_1 a0_2 0 0 0 a0_0 a0_1 a0_2 (IntKind.i64.wrap (IntKind.i64.wrap (IntKind.i64.wrap (a1 - IntKind.i64.wrap ((IntKind.i64.wrap (a0_0 * a1)).tdiv (m29 a0_0 a0_1 a0_2))) - IntKind.i64.wrap ((IntKind.i64.wrap (a0_1 * a1)).tdiv (m29 a0_0 a0_1 a0_2))) - IntKind.i64.wrap ((IntKind.i64.wrap (a0_2 * a1)).tdiv (m29 a0_0 a0_1 a0_2)))) (IntKind.i64.wrap ((IntKind.i64.wrap (a0_0 * a1)).tdiv (m29 a0_0 a0_1 a0_2))) (IntKind.i64.wrap ((IntKind.i64.wrap (a0_1 * a1)).tdiv (m29 a0_0 a0_1 a0_2))) (IntKind.i64.wrap ((IntKind.i64.wrap (a0_2 * a1)).tdiv (m29 a0_0 a0_1 a0_2))) ((IntKind.i64.wrap (a0_0 * a1)).tmod (m29 a0_0 a0_1 a0_2)) ((IntKind.i64.wrap (a0_1 * a1)).tmod (m29 a0_0 a0_1 a0_2)) ((IntKind.i64.wrap (a0_2 * a1)).tmod (m29 a0_0 a0_1 a0_2))).getD default).1), (((o45_2 a0_0 a0_1 a0_2 0 0 0 a0_0 a0_1 a0_2 (IntKind.i64.wrap (IntKind.i64.wrap (IntKind.i64.wrap (a1 - IntKind.i64.wrap ((IntKind.i64.wrap (a0_0 * a1)).tdiv (m29 a0_0 a0_1 a0_2))) - IntKind.i64.wrap ((IntKind.i64.wrap (a0_1 * a1)).tdiv (m29 a0_0 a0_1 a0_2))) - IntKind.i64.wrap ((IntKind.i64.wrap (a0_2 * a1)).tdiv (m29 a0_0 a0_1 a0_2)))) (IntKind.i64.wrap ((IntKind.i64.wrap (a0_0 * a1)).tdiv (m29 a0_0 a0_1 a0_2))) (IntKind.i64.wrap ((IntKind.i64.wrap (a0_1 * a1)).tdiv (m29 a0_0 a0_1 a0_2))) (IntKind.i64.wrap ((IntKind.i64.wrap (a0_2 * a1)).tdiv (m29 a0_0 a0_1 a0_2))) ((IntKind.i64.wrap (a0_0 * a1)).tmod (m29 a0_0 a0_1 a0_2)) ((IntKind.i64.wrap (a0_1 * a1)).tmod (m29 a0_0 a0_1 a0_2)) ((IntKind.i64.wrap (a0_2 * a1)).tmod (m29 a0_0 a0_1 a0_2))).getD default).2.1), (((o45_2 a0_0 a0_1 a0_2 0 0 0 a0_0 a0_1 a0_2 (IntKind.i64.wrap (IntKind.i64.wrap (IntKind.i64.wrap (a1 - IntKind.i64.wrap ((IntKind.i64.wrap (a0_0 * a1)).tdiv (m29 a0_0 a0_1 a0_2))) - IntKind.i64.wrap ((IntKind.i64.wrap (a0_1 * a1)).tdiv (m29 a0_0 a0_1 a0_2))) - IntKind.i64.wrap ((IntKind.i64.wrap (a0_2 * a1)).tdiv (m29 a0_0 a0_1 a0_2)))) (IntKind.i64.wrap ((IntKind.i64.wrap (a0_0 * a1)).tdiv (m29 a0_0 a0_1 a0_2))) (IntKind.i64.wrap ((IntKind.i64.wrap (a0_1 * a1)).tdiv (m29 a0_0 a0_1 a0_2))) (IntKind.i64.wrap ((IntKind.i64.wrap (a0_2 * a1)).tdiv (m29 a0_0 a0_1 a0_2))) ((IntKind.i64.wrap (a0_0 * a1)).tmod (m29 a0_0 a0_1 a0_2)) ((IntKind.i64.wrap (a0_1 * a1)).tmod (m29 a0_0 a0_1 a0_2)) ((IntKind.i64.wrap (a0_2 * a1)).tmod (m29 a0_0 a0_1 a0_2))).getD default).2.2.1))) (condF h0 rfl) rfl)))))))))
theorem k45 : CtrOk Try.prog c45 45 := ctr_of (tabOk_cons k29 tabOk_nil) mix_ok 8 (fn := Try.f45) (c := (Try.f45.body.getD .skip)) (grs := []) (rh := .k) (Λ := (lamOf [(2, g45_2)])) Try.func45 rfl (by kernel_rfl) (lam_of rfl (lams_cons z45_2 lams_nil)) fun vs bs q h hn => by
  unfold g45 at h
  split at h <;> cases h
  exact ⟨_, rfl, p45 _ _ _ _ (hn _ (List.mem_singleton.2 rfl))⟩
/-! ### shotline/mix.ask$1 -/
theorem x134 (a0_0 : Int) (a0_1 : Int) (a1 : Int) (da2 : Dat) (R : SV → List Blk → List Blk → Prop) : exec Try.prog [] (fun _ => none) 8 (Try.f134.body.getD .skip) (initS Try.f134.ntmps [.agg [.int .i64 a0_0, .int .i64 a0_1], .int .i64 a1, .rp [.sl [.str, .int .i64, .int .i64, .int .i64, .int .i64], .int .i64, .int .i64, .int .i64, .int .i64, .int .i64, .int .i64, .int .i64, .int .i64] da2 0 0] 0 (memOf [])) (retK Try.prog Try.f134.results.toList (outK 0 (List.range 0) [] (.k) fun v U N => R v U N)) =
 (R (.agg [.int .i64 (IntKind.i64.wrap (IntKind.i64.wrap (a0_0 * da2.ii 0 (0 + 1 + 1 + 1 + 1)) - IntKind.i64.wrap (1000 * a1))), .int .i64 (IntKind.i64.wrap (IntKind.i64.wrap (a0_1 * da2.ii 0 (0 + 1 + 1 + 1 + 1)) - IntKind.i64.wrap (1000 * a1)))]) [] []) := by kernel_rfl
noncomputable def m134 (a0_0 : Int) (a0_1 : Int) (a1 : Int) (da2 : Dat) : Int × Int :=
 ((IntKind.i64.wrap (IntKind.i64.wrap (a0_0 * da2.ii 0 (0 + 1 + 1 + 1 + 1)) - IntKind.i64.wrap (1000 * a1))), (IntKind.i64.wrap (IntKind.i64.wrap (a0_1 * da2.ii 0 (0 + 1 + 1 + 1 + 1)) - IntKind.i64.wrap (1000 * a1))))
noncomputable def q134 (r : Int × Int) : SV × List Blk × List Blk := (.agg [.int .i64 r.1, .int .i64 r.2], [], [])
noncomputable def g134 : List SV → List Blk → Option OpRes := fun vs bs => match vs, bs with
  | [.agg [.int .i64 a0_0, .int .i64 a0_1], .int .i64 a1, .rp [.sl [.str, .int .i64, .int .i64, .int .i64, .int .i64], .int .i64, .int .i64, .int .i64, .int .i64, .int .i64, .int .i64, .int .i64, .int .i64] da2 0 0], [] => some (resOf 0 (q134 (m134 a0_0 a0_1 a1 da2)) [])
  | _, _ => none
noncomputable def c134 : Ctr := genC [.k, .k, .rp [.sl [.str, .int .i64, .int .i64, .int .i64, .int .i64], .int .i64, .int .i64, .int .i64, .int .i64, .int .i64, .int .i64, .int .i64, .int .i64]] g134
theorem p134 (a0_0 : Int) (a0_1 : Int) (a1 : Int) (da2 : Dat) : exec Try.prog [] (fun _ => none) 8 (Try.f134.body.getD .skip) (initS Try.f134.ntmps [.agg [.int .i64 a0_0, .int .i64 a0_1], .int .i64 a1, .rp [.sl [.str, .int .i64, .int .i64, .int .i64, .int .i64], .int .i64, .int .i64, .int .i64, .int .i64, .int .i64, .int .i64, .int .i64, .int .i64] da2 0 0] 0 (memOf [])) (retK Try.prog Try.f134.results.toList (outK 0 (List.range 0) [] (.k) fun v U N => (v, U, N) = (q134 (m134 a0_0 a0_1 a1 da2)))) :=
  propOf (x134 a0_0 a0_1 a1 da2 _) (leaf_of (l := ((IntKind.i64.wrap (IntKind.i64.wrap (a0_0 * da2.ii 0 (0 + 1 + 1 + 1 + 1)) - IntKind.i64.wrap (1000 * a1))), (IntKind.i64.wrap (IntKind.i64.wrap (a0_1 * da2.ii 0 (0 + 1 + 1 + 1 + 1)) - IntKind.i64.wrap (1000 * a1))))) rfl rfl)
theorem k134 : CtrOk Try.prog c134 134 := ctr_of tabOk_nil mix_ok 8 (fn := Try.f134) (c := (Try.f134.body.getD .skip)) (grs := []) (rh := .k) (Λ := (fun _ => none)) Try.func134 rfl (by kernel_rfl) noLam fun vs bs q h _ => by
  unfold g134 at h
  split at h <;> cases h
  exact ⟨_, rfl, p134 _ _ _ _⟩

/-! ### slices.SortStableFunc[[]int,int] -/
theorem x122c123 (da0 : Dat) (da1c0 : Dat) (R : SV → List Blk → List Blk → Prop) : exec Try.prog [(123, c123), (152, c152c123)] (fun _ => none) 8 (Try.f122.body.getD .skip) (initS Try.f122.ntmps [.own 0 1 3, .fn 123 [.ra [.int .i64] 3 da1c0]] 1 (memOf [.row 3 [.int .i64] 3 da0])) (retK Try.prog Try.f122.results.toList (outK 1 (List.range 1) [] (.k) fun v U N => R v U N)) =
 (cnd ((n152c123 da0 da1c0))
 (R (.tup []) [.row 3 [.int .i64] 3 (m152c123 da0 da1c0)] [])
  False) := by kernel_rfl
noncomputable def m122c123 (da0 : Dat) (da1c0 : Dat) : Dat :=
 (m152c123 da0 da1c0)
noncomputable def n122c123 (da0 : Dat) (da1c0 : Dat) : Bool :=
 (((n152c123 da0 da1c0)) && true)
noncomputable def q122c123 (r : Dat) : SV × List Blk × List Blk := (.tup [], [.row 3 [.int .i64] 3 r], [])
noncomputable def g122c123 : List SV → List Blk → Option OpRes := fun vs bs => match vs, bs with
  | [.own 0 1 3, .fn 123 [.ra [.int .i64] 3 da1c0]], [.row 3 [.int .i64] 3 da0] => some (resOf 1 (q122c123 (m122c123 da0 da1c0)) [n122c123 da0 da1c0])
  | _, _ => none
noncomputable def c122c123 : Ctr := genC [.k, .f [.ra [.int .i64] 3]] g122c123
theorem p122c123 (da0 : Dat) (da1c0 : Dat) (hn : n122c123 da0 da1c0 = true) : exec Try.prog [(123, c123), (152, c152c123)] (fun _ => none) 8 (Try.f122.body.getD .skip) (initS Try.f122.ntmps [.own 0 1 3, .fn 123 [.ra [.int .i64] 3 da1c0]] 1 (memOf [.row 3 [.int .i64] 3 da0])) (retK Try.prog Try.f122.results.toList (outK 1 (List.range 1) [] (.k) fun v U N => (v, U, N) = (q122c123 (m122c123 da0 da1c0)))) :=
  propOf (x122c123 da0 da1c0 _) (cnd_need (and_l hn) (leaf_of (l := (m152c123 da0 da1c0)) rfl rfl))
theorem k122c123 : CtrOk Try.prog c122c123 122 := ctr_of (tabOk_cons k123 (tabOk_cons k152c123 tabOk_nil)) mix_ok 8 (fn := Try.f122) (c := (Try.f122.body.getD .skip)) (grs := []) (rh := .k) (Λ := (fun _ => none)) Try.func122 rfl (by kernel_rfl) noLam fun vs bs q h hn => by
  unfold g122c123 at h
  split at h <;> cases h
  exact ⟨_, rfl, p122c123 _ _ (hn _ (List.mem_singleton.2 rfl))⟩
end Go.Proofs.Ytmndejpcpfkajaa
