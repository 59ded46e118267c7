/-
  Contracts of functions: models, equations by the kernel, contracts. Conditions: none.
-/
import Derived.Test.YtmjcegbnbnbceaaBase
import Derived.KernelRfl
namespace Go.Proofs.Ytmjcegbnbnbceaa
open Go Go.Sy
set_option linter.unusedVariables false
set_option maxRecDepth 100000
attribute [local irreducible] Go.IntKind.wrap Int.tdiv Int.tmod Int.fdiv
/-! ### shotline/shotlinebase.Within -/
theorem x18 (a0 : Int) (a1 : Int) (a2 : Int) (R : SV → List Blk → List Blk → Prop) : exec Try.prog [] (fun _ => none) 8 (Try.f18.body.getD .skip) (initS Try.f18.ntmps [.int .i64 a0, .int .i64 a1, .int .i64 a2] 0 (memOf [])) (retK Try.prog Try.f18.results.toList (outK 0 (List.range 0) [] (.k) fun v U N => R v U N)) =
  (R (.bool (bif (decide (a1 ≤ a0)) then (decide (a0 ≤ a2)) else false)) [] []) := by kernel_rfl
def m18 (a0 : Int) (a1 : Int) (a2 : Int) : Bool :=
  (bif (decide (a1 ≤ a0)) then (decide (a0 ≤ a2)) else false)
def q18 (r : Bool) : SV × List Blk × List Blk := (.bool r, [], [])
def g18 : List SV → List Blk → Option OpRes := fun vs bs => match vs, bs with
  | [.int .i64 a0, .int .i64 a1, .int .i64 a2], [] => some (resOf 0 (q18 (m18 a0 a1 a2)) [])
  | _, _ => none
def c18 : Ctr := genC [.k, .k, .k] g18
theorem p18 (a0 : Int) (a1 : Int) (a2 : Int) : exec Try.prog [] (fun _ => none) 8 (Try.f18.body.getD .skip) (initS Try.f18.ntmps [.int .i64 a0, .int .i64 a1, .int .i64 a2] 0 (memOf [])) (retK Try.prog Try.f18.results.toList (outK 0 (List.range 0) [] (.k) fun v U N => (v, U, N) = (q18 (m18 a0 a1 a2)))) :=
  propOf (x18 a0 a1 a2 _) (leaf_of (l := (bif (decide (a1 ≤ a0)) then (decide (a0 ≤ a2)) else false)) rfl rfl)
theorem k18 : CtrOk Try.prog c18 18 := ctr_of tabOk_nil mix_ok 8 (fn := Try.f18) (c := (Try.f18.body.getD .skip)) (grs := []) (rh := .k) (Λ := (fun _ => none)) Try.func18 rfl (by kernel_rfl) noLam fun vs bs q h _ => by
  unfold g18 at h
  split at h <;> cases h
  exact ⟨_, rfl, p18 _ _ _⟩
/-! ### shotline/shotlineref06.Sum -/
theorem x19 (a0_0 : Int) (a0_1 : Int) (a0_2 : Int) (R : SV → List Blk → List Blk → Prop) : exec Try.prog [] (fun _ => none) 8 (Try.f19.body.getD .skip) (initS Try.f19.ntmps [.agg [.int .i64 a0_0, .int .i64 a0_1, .int .i64 a0_2]] 0 (memOf [])) (retK Try.prog Try.f19.results.toList (outK 0 (List.range 0) [] (.k) fun v U N => R v U N)) =
  (R (.int .i64 (IntKind.i64.wrap (IntKind.i64.wrap (a0_0 + a0_1) + a0_2))) [] []) := by kernel_rfl
def m19 (a0_0 : Int) (a0_1 : Int) (a0_2 : Int) : Int :=
  (IntKind.i64.wrap (IntKind.i64.wrap (a0_0 + a0_1) + a0_2))
def q19 (r : Int) : SV × List Blk × List Blk := (.int .i64 r, [], [])
def g19 : List SV → List Blk → Option OpRes := fun vs bs => match vs, bs with
  | [.agg [.int .i64 a0_0, .int .i64 a0_1, .int .i64 a0_2]], [] => some (resOf 0 (q19 (m19 a0_0 a0_1 a0_2)) [])
  | _, _ => none
def c19 : Ctr := genC [.k] g19
theorem p19 (a0_0 : Int) (a0_1 : Int) (a0_2 : Int) : exec Try.prog [] (fun _ => none) 8 (Try.f19.body.getD .skip) (initS Try.f19.ntmps [.agg [.int .i64 a0_0, .int .i64 a0_1, .int .i64 a0_2]] 0 (memOf [])) (retK Try.prog Try.f19.results.toList (outK 0 (List.range 0) [] (.k) fun v U N => (v, U, N) = (q19 (m19 a0_0 a0_1 a0_2)))) :=
  propOf (x19 a0_0 a0_1 a0_2 _) (leaf_of (l := (IntKind.i64.wrap (IntKind.i64.wrap (a0_0 + a0_1) + a0_2))) rfl rfl)
theorem k19 : CtrOk Try.prog c19 19 := ctr_of tabOk_nil mix_ok 8 (fn := Try.f19) (c := (Try.f19.body.getD .skip)) (grs := []) (rh := .k) (Λ := (fun _ => none)) Try.func19 rfl (by kernel_rfl) noLam fun vs bs q h _ => by
  unfold g19 at h
  split at h <;> cases h
  exact ⟨_, rfl, p19 _ _ _⟩
/-! ### shotline/shotlineref06.Minus -/
theorem x21 (a0_0 : Int) (a0_1 : Int) (a0_2 : Int) (a1_0 : Int) (a1_1 : Int) (a1_2 : Int) (R : SV → List Blk → List Blk → Prop) : exec Try.prog [] (fun _ => none) 8 (Try.f21.body.getD .skip) (initS Try.f21.ntmps [.agg [.int .i64 a0_0, .int .i64 a0_1, .int .i64 a0_2], .agg [.int .i64 a1_0, .int .i64 a1_1, .int .i64 a1_2]] 0 (memOf [])) (retK Try.prog Try.f21.results.toList (outK 0 (List.range 0) [] (.k) fun v U N => R v U N)) =
  (R (.agg [.int .i64 (IntKind.i64.wrap (a0_0 - a1_0)), .int .i64 (IntKind.i64.wrap (a0_1 - a1_1)), .int .i64 (IntKind.i64.wrap (a0_2 - a1_2))]) [] []) := by kernel_rfl
def m21 (a0_0 : Int) (a0_1 : Int) (a0_2 : Int) (a1_0 : Int) (a1_1 : Int) (a1_2 : Int) : Int × Int × Int :=
  ((IntKind.i64.wrap (a0_0 - a1_0)), (IntKind.i64.wrap (a0_1 - a1_1)), (IntKind.i64.wrap (a0_2 - a1_2)))
def q21 (r : Int × Int × Int) : SV × List Blk × List Blk := (.agg [.int .i64 r.1, .int .i64 r.2.1, .int .i64 r.2.2], [], [])
def g21 : List SV → List Blk → Option OpRes := fun vs bs => match vs, bs with
  | [.agg [.int .i64 a0_0, .int .i64 a0_1, .int .i64 a0_2], .agg [.int .i64 a1_0, .int .i64 a1_1, .int .i64 a1_2]], [] => some (resOf 0 (q21 (m21 a0_0 a0_1 a0_2 a1_0 a1_1 a1_2)) [])
  | _, _ => none
def c21 : Ctr := genC [.k, .k] g21
theorem p21 (a0_0 : Int) (a0_1 : Int) (a0_2 : Int) (a1_0 : Int) (a1_1 : Int) (a1_2 : Int) : exec Try.prog [] (fun _ => none) 8 (Try.f21.body.getD .skip) (initS Try.f21.ntmps [.agg [.int .i64 a0_0, .int .i64 a0_1, .int .i64 a0_2], .agg [.int .i64 a1_0, .int .i64 a1_1, .int .i64 a1_2]] 0 (memOf [])) (retK Try.prog Try.f21.results.toList (outK 0 (List.range 0) [] (.k) fun v U N => (v, U, N) = (q21 (m21 a0_0 a0_1 a0_2 a1_0 a1_1 a1_2)))) :=
  propOf (x21 a0_0 a0_1 a0_2 a1_0 a1_1 a1_2 _) (leaf_of (l := ((IntKind.i64.wrap (a0_0 - a1_0)), (IntKind.i64.wrap (a0_1 - a1_1)), (IntKind.i64.wrap (a0_2 - a1_2)))) rfl rfl)
theorem k21 : CtrOk Try.prog c21 21 := ctr_of tabOk_nil mix_ok 8 (fn := Try.f21) (c := (Try.f21.body.getD .skip)) (grs := []) (rh := .k) (Λ := (fun _ => none)) Try.func21 rfl (by kernel_rfl) noLam fun vs bs q h _ => by
  unfold g21 at h
  split at h <;> cases h
  exact ⟨_, rfl, p21 _ _ _ _ _ _⟩
/-! ### shotline/shotlinebase.Size -/
theorem x22 (a0 : Int) (R : SV → List Blk → List Blk → Prop) : exec Try.prog [] (fun _ => none) 8 (Try.f22.body.getD .skip) (initS Try.f22.ntmps [.int .i64 a0] 0 (memOf [])) (retK Try.prog Try.f22.results.toList (outK 0 (List.range 0) [] (.k) fun v U N => R v U N)) =
  (R (.int .i64 (imax a0 (IntKind.i64.wrap (0 - a0)))) [] []) := by kernel_rfl
def m22 (a0 : Int) : Int :=
  (imax a0 (IntKind.i64.wrap (0 - a0)))
def q22 (r : Int) : SV × List Blk × List Blk := (.int .i64 r, [], [])
def g22 : List SV → List Blk → Option OpRes := fun vs bs => match vs, bs with
  | [.int .i64 a0], [] => some (resOf 0 (q22 (m22 a0)) [])
  | _, _ => none
def c22 : Ctr := genC [.k] g22
theorem p22 (a0 : Int) : exec Try.prog [] (fun _ => none) 8 (Try.f22.body.getD .skip) (initS Try.f22.ntmps [.int .i64 a0] 0 (memOf [])) (retK Try.prog Try.f22.results.toList (outK 0 (List.range 0) [] (.k) fun v U N => (v, U, N) = (q22 (m22 a0)))) :=
  propOf (x22 a0 _) (leaf_of (l := (imax a0 (IntKind.i64.wrap (0 - a0)))) rfl rfl)
theorem k22 : CtrOk Try.prog c22 22 := ctr_of tabOk_nil mix_ok 8 (fn := Try.f22) (c := (Try.f22.body.getD .skip)) (grs := []) (rh := .k) (Λ := (fun _ => none)) Try.func22 rfl (by kernel_rfl) noLam fun vs bs q h _ => by
  unfold g22 at h
  split at h <;> cases h
  exact ⟨_, rfl, p22 _⟩
/-! ### shotline/shotlineref06.Plus -/
theorem x32 (a0_0 : Int) (a0_1 : Int) (a0_2 : Int) (a1_0 : Int) (a1_1 : Int) (a1_2 : Int) (R : SV → List Blk → List Blk → Prop) : exec Try.prog [] (fun _ => none) 8 (Try.f32.body.getD .skip) (initS Try.f32.ntmps [.agg [.int .i64 a0_0, .int .i64 a0_1, .int .i64 a0_2], .agg [.int .i64 a1_0, .int .i64 a1_1, .int .i64 a1_2]] 0 (memOf [])) (retK Try.prog Try.f32.results.toList (outK 0 (List.range 0) [] (.k) fun v U N => R v U N)) =
  (R (.agg [.int .i64 (IntKind.i64.wrap (a0_0 + a1_0)), .int .i64 (IntKind.i64.wrap (a0_1 + a1_1)), .int .i64 (IntKind.i64.wrap (a0_2 + a1_2))]) [] []) := by kernel_rfl
def m32 (a0_0 : Int) (a0_1 : Int) (a0_2 : Int) (a1_0 : Int) (a1_1 : Int) (a1_2 : Int) : Int × Int × Int :=
  ((IntKind.i64.wrap (a0_0 + a1_0)), (IntKind.i64.wrap (a0_1 + a1_1)), (IntKind.i64.wrap (a0_2 + a1_2)))
def q32 (r : Int × Int × Int) : SV × List Blk × List Blk := (.agg [.int .i64 r.1, .int .i64 r.2.1, .int .i64 r.2.2], [], [])
def g32 : List SV → List Blk → Option OpRes := fun vs bs => match vs, bs with
  | [.agg [.int .i64 a0_0, .int .i64 a0_1, .int .i64 a0_2], .agg [.int .i64 a1_0, .int .i64 a1_1, .int .i64 a1_2]], [] => some (resOf 0 (q32 (m32 a0_0 a0_1 a0_2 a1_0 a1_1 a1_2)) [])
  | _, _ => none
def c32 : Ctr := genC [.k, .k] g32
theorem p32 (a0_0 : Int) (a0_1 : Int) (a0_2 : Int) (a1_0 : Int) (a1_1 : Int) (a1_2 : Int) : exec Try.prog [] (fun _ => none) 8 (Try.f32.body.getD .skip) (initS Try.f32.ntmps [.agg [.int .i64 a0_0, .int .i64 a0_1, .int .i64 a0_2], .agg [.int .i64 a1_0, .int .i64 a1_1, .int .i64 a1_2]] 0 (memOf [])) (retK Try.prog Try.f32.results.toList (outK 0 (List.range 0) [] (.k) fun v U N => (v, U, N) = (q32 (m32 a0_0 a0_1 a0_2 a1_0 a1_1 a1_2)))) :=
  propOf (x32 a0_0 a0_1 a0_2 a1_0 a1_1 a1_2 _) (leaf_of (l := ((IntKind.i64.wrap (a0_0 + a1_0)), (IntKind.i64.wrap (a0_1 + a1_1)), (IntKind.i64.wrap (a0_2 + a1_2)))) rfl rfl)
theorem k32 : CtrOk Try.prog c32 32 := ctr_of tabOk_nil mix_ok 8 (fn := Try.f32) (c := (Try.f32.body.getD .skip)) (grs := []) (rh := .k) (Λ := (fun _ => none)) Try.func32 rfl (by kernel_rfl) noLam fun vs bs q h _ => by
  unfold g32 at h
  split at h <;> cases h
  exact ⟨_, rfl, p32 _ _ _ _ _ _⟩
/-! ### shotline/mix.gasesOf -/
theorem x72 (a0_0 : Int) (a0_1 : Int) (a0_2 : Int) (R : SV → List Blk → List Blk → Prop) : exec Try.prog [] (fun _ => none) 8 (Try.f72.body.getD .skip) (initS Try.f72.ntmps [.agg [.int .i64 a0_0, .int .i64 a0_1, .int .i64 a0_2]] 0 (memOf [])) (retK Try.prog Try.f72.results.toList (outK 0 (List.range 0) [] (.k) fun v U N => R v U N)) =
  (R (.agg [.int .i64 a0_0, .int .i64 a0_1, .int .i64 a0_2]) [] []) := by kernel_rfl
def m72 (a0_0 : Int) (a0_1 : Int) (a0_2 : Int) : Int × Int × Int :=
  (a0_0, a0_1, a0_2)
def q72 (r : Int × Int × Int) : SV × List Blk × List Blk := (.agg [.int .i64 r.1, .int .i64 r.2.1, .int .i64 r.2.2], [], [])
def g72 : List SV → List Blk → Option OpRes := fun vs bs => match vs, bs with
  | [.agg [.int .i64 a0_0, .int .i64 a0_1, .int .i64 a0_2]], [] => some (resOf 0 (q72 (m72 a0_0 a0_1 a0_2)) [])
  | _, _ => none
def c72 : Ctr := genC [.k] g72
theorem p72 (a0_0 : Int) (a0_1 : Int) (a0_2 : Int) : exec Try.prog [] (fun _ => none) 8 (Try.f72.body.getD .skip) (initS Try.f72.ntmps [.agg [.int .i64 a0_0, .int .i64 a0_1, .int .i64 a0_2]] 0 (memOf [])) (retK Try.prog Try.f72.results.toList (outK 0 (List.range 0) [] (.k) fun v U N => (v, U, N) = (q72 (m72 a0_0 a0_1 a0_2)))) :=
  propOf (x72 a0_0 a0_1 a0_2 _) (leaf_of (l := (a0_0, a0_1, a0_2)) rfl rfl)
theorem k72 : CtrOk Try.prog c72 72 := ctr_of tabOk_nil mix_ok 8 (fn := Try.f72) (c := (Try.f72.body.getD .skip)) (grs := []) (rh := .k) (Λ := (fun _ => none)) Try.func72 rfl (by kernel_rfl) noLam fun vs bs q h _ => by
  unfold g72 at h
  split at h <;> cases h
  exact ⟨_, rfl, p72 _ _ _⟩
/-! ### shotline/mix.within -/
theorem x73 (a0 : Int) (a1 : Int) (a2 : Int) (R : SV → List Blk → List Blk → Prop) : exec Try.prog [] (fun _ => none) 8 (Try.f73.body.getD .skip) (initS Try.f73.ntmps [.int .i64 a0, .int .i64 a1, .int .i64 a2] 0 (memOf [])) (retK Try.prog Try.f73.results.toList (outK 0 (List.range 0) [] (.k) fun v U N => R v U N)) =
  (R (.bool (bif (decide (a1 ≤ a0)) then (decide (a0 ≤ a2)) else false)) [] []) := by kernel_rfl
def m73 (a0 : Int) (a1 : Int) (a2 : Int) : Bool :=
  (bif (decide (a1 ≤ a0)) then (decide (a0 ≤ a2)) else false)
def q73 (r : Bool) : SV × List Blk × List Blk := (.bool r, [], [])
def g73 : List SV → List Blk → Option OpRes := fun vs bs => match vs, bs with
  | [.int .i64 a0, .int .i64 a1, .int .i64 a2], [] => some (resOf 0 (q73 (m73 a0 a1 a2)) [])
  | _, _ => none
def c73 : Ctr := genC [.k, .k, .k] g73
theorem p73 (a0 : Int) (a1 : Int) (a2 : Int) : exec Try.prog [] (fun _ => none) 8 (Try.f73.body.getD .skip) (initS Try.f73.ntmps [.int .i64 a0, .int .i64 a1, .int .i64 a2] 0 (memOf [])) (retK Try.prog Try.f73.results.toList (outK 0 (List.range 0) [] (.k) fun v U N => (v, U, N) = (q73 (m73 a0 a1 a2)))) :=
  propOf (x73 a0 a1 a2 _) (leaf_of (l := (bif (decide (a1 ≤ a0)) then (decide (a0 ≤ a2)) else false)) rfl rfl)
theorem k73 : CtrOk Try.prog c73 73 := ctr_of tabOk_nil mix_ok 8 (fn := Try.f73) (c := (Try.f73.body.getD .skip)) (grs := []) (rh := .k) (Λ := (fun _ => none)) Try.func73 rfl (by kernel_rfl) noLam fun vs bs q h _ => by
  unfold g73 at h
  split at h <;> cases h
  exact ⟨_, rfl, p73 _ _ _⟩
/-! ### (shotline/mix.gases).sum -/
theorem x74 (a0_0 : Int) (a0_1 : Int) (a0_2 : Int) (R : SV → List Blk → List Blk → Prop) : exec Try.prog [] (fun _ => none) 8 (Try.f74.body.getD .skip) (initS Try.f74.ntmps [.agg [.int .i64 a0_0, .int .i64 a0_1, .int .i64 a0_2]] 0 (memOf [])) (retK Try.prog Try.f74.results.toList (outK 0 (List.range 0) [] (.k) fun v U N => R v U N)) =
  (R (.int .i64 (IntKind.i64.wrap (IntKind.i64.wrap (a0_0 + a0_1) + a0_2))) [] []) := by kernel_rfl
def m74 (a0_0 : Int) (a0_1 : Int) (a0_2 : Int) : Int :=
  (IntKind.i64.wrap (IntKind.i64.wrap (a0_0 + a0_1) + a0_2))
def q74 (r : Int) : SV × List Blk × List Blk := (.int .i64 r, [], [])
def g74 : List SV → List Blk → Option OpRes := fun vs bs => match vs, bs with
  | [.agg [.int .i64 a0_0, .int .i64 a0_1, .int .i64 a0_2]], [] => some (resOf 0 (q74 (m74 a0_0 a0_1 a0_2)) [])
  | _, _ => none
def c74 : Ctr := genC [.k] g74
theorem p74 (a0_0 : Int) (a0_1 : Int) (a0_2 : Int) : exec Try.prog [] (fun _ => none) 8 (Try.f74.body.getD .skip) (initS Try.f74.ntmps [.agg [.int .i64 a0_0, .int .i64 a0_1, .int .i64 a0_2]] 0 (memOf [])) (retK Try.prog Try.f74.results.toList (outK 0 (List.range 0) [] (.k) fun v U N => (v, U, N) = (q74 (m74 a0_0 a0_1 a0_2)))) :=
  propOf (x74 a0_0 a0_1 a0_2 _) (leaf_of (l := (IntKind.i64.wrap (IntKind.i64.wrap (a0_0 + a0_1) + a0_2))) rfl rfl)
theorem k74 : CtrOk Try.prog c74 74 := ctr_of tabOk_nil mix_ok 8 (fn := Try.f74) (c := (Try.f74.body.getD .skip)) (grs := []) (rh := .k) (Λ := (fun _ => none)) Try.func74 rfl (by kernel_rfl) noLam fun vs bs q h _ => by
  unfold g74 at h
  split at h <;> cases h
  exact ⟨_, rfl, p74 _ _ _⟩
/-! ### (shotline/mix.gases).content -/
theorem x76 (a0_0 : Int) (a0_1 : Int) (a0_2 : Int) (R : SV → List Blk → List Blk → Prop) : exec Try.prog [] (fun _ => none) 8 (Try.f76.body.getD .skip) (initS Try.f76.ntmps [.agg [.int .i64 a0_0, .int .i64 a0_1, .int .i64 a0_2]] 0 (memOf [])) (retK Try.prog Try.f76.results.toList (outK 0 (List.range 0) [] (.k) fun v U N => R v U N)) =
  (R (.agg [.int .i64 a0_0, .int .i64 a0_1, .int .i64 a0_2]) [] []) := by kernel_rfl
def m76 (a0_0 : Int) (a0_1 : Int) (a0_2 : Int) : Int × Int × Int :=
  (a0_0, a0_1, a0_2)
def q76 (r : Int × Int × Int) : SV × List Blk × List Blk := (.agg [.int .i64 r.1, .int .i64 r.2.1, .int .i64 r.2.2], [], [])
def g76 : List SV → List Blk → Option OpRes := fun vs bs => match vs, bs with
  | [.agg [.int .i64 a0_0, .int .i64 a0_1, .int .i64 a0_2]], [] => some (resOf 0 (q76 (m76 a0_0 a0_1 a0_2)) [])
  | _, _ => none
def c76 : Ctr := genC [.k] g76
theorem p76 (a0_0 : Int) (a0_1 : Int) (a0_2 : Int) : exec Try.prog [] (fun _ => none) 8 (Try.f76.body.getD .skip) (initS Try.f76.ntmps [.agg [.int .i64 a0_0, .int .i64 a0_1, .int .i64 a0_2]] 0 (memOf [])) (retK Try.prog Try.f76.results.toList (outK 0 (List.range 0) [] (.k) fun v U N => (v, U, N) = (q76 (m76 a0_0 a0_1 a0_2)))) :=
  propOf (x76 a0_0 a0_1 a0_2 _) (leaf_of (l := (a0_0, a0_1, a0_2)) rfl rfl)
theorem k76 : CtrOk Try.prog c76 76 := ctr_of tabOk_nil mix_ok 8 (fn := Try.f76) (c := (Try.f76.body.getD .skip)) (grs := []) (rh := .k) (Λ := (fun _ => none)) Try.func76 rfl (by kernel_rfl) noLam fun vs bs q h _ => by
  unfold g76 at h
  split at h <;> cases h
  exact ⟨_, rfl, p76 _ _ _⟩
/-! ### shotline/mix.rounded -/
theorem x86 (a0 : Int) (a1 : Int) (R : SV → List Blk → List Blk → Prop) : exec Try.prog [] (fun _ => none) 8 (Try.f86.body.getD .skip) (initS Try.f86.ntmps [.int .i64 a0, .int .i64 a1] 0 (memOf [])) (retK Try.prog Try.f86.results.toList (outK 0 (List.range 0) [] (.k) fun v U N => R v U N)) =
  (cnd ((bif (decide (a1 = 0)) then false else true))
  (cnd ((bif (decide (a1 = 0)) then false else true))
   (R (.agg [.int .i64 (IntKind.i64.wrap (a0.tdiv a1)), .int .i64 (IntKind.i64.wrap ((IntKind.i64.wrap (IntKind.i64.wrap (a0 + a1) - 1)).tdiv a1))]) [] [])
   False)
  False) := by kernel_rfl
def m86 (a0 : Int) (a1 : Int) : Int × Int :=
  ((IntKind.i64.wrap (a0.tdiv a1)), (IntKind.i64.wrap ((IntKind.i64.wrap (IntKind.i64.wrap (a0 + a1) - 1)).tdiv a1)))
def n86 (a0 : Int) (a1 : Int) : Bool :=
  (((bif (decide (a1 = 0)) then false else true)) && (((bif (decide (a1 = 0)) then false else true)) && true))
def q86 (r : Int × Int) : SV × List Blk × List Blk := (.agg [.int .i64 r.1, .int .i64 r.2], [], [])
def g86 : List SV → List Blk → Option OpRes := fun vs bs => match vs, bs with
  | [.int .i64 a0, .int .i64 a1], [] => some (resOf 0 (q86 (m86 a0 a1)) [n86 a0 a1])
  | _, _ => none
def c86 : Ctr := genC [.k, .k] g86
theorem p86 (a0 : Int) (a1 : Int) (hn : n86 a0 a1 = true) : exec Try.prog [] (fun _ => none) 8 (Try.f86.body.getD .skip) (initS Try.f86.ntmps [.int .i64 a0, .int .i64 a1] 0 (memOf [])) (retK Try.prog Try.f86.results.toList (outK 0 (List.range 0) [] (.k) fun v U N => (v, U, N) = (q86 (m86 a0 a1)))) :=
  propOf (x86 a0 a1 _) (cnd_need (and_l hn) (cnd_need (and_l (and_r hn)) (leaf_of (l := ((IntKind.i64.wrap (a0.tdiv a1)), (IntKind.i64.wrap ((IntKind.i64.wrap (IntKind.i64.wrap (a0 + a1) - 1)).tdiv a1)))) rfl rfl)))
theorem k86 : CtrOk Try.prog c86 86 := ctr_of tabOk_nil mix_ok 8 (fn := Try.f86) (c := (Try.f86.body.getD .skip)) (grs := []) (rh := .k) (Λ := (fun _ => none)) Try.func86 rfl (by kernel_rfl) noLam fun vs bs q h hn => by
  unfold g86 at h
  split at h <;> cases h
  exact ⟨_, rfl, p86 _ _ (hn _ (List.mem_singleton.2 rfl))⟩
/-! ### shotline/shotlinebase.Floor -/
theorem x93 (a0 : Int) (a1 : Int) (R : SV → List Blk → List Blk → Prop) : exec Try.prog [] (fun _ => none) 8 (Try.f93.body.getD .skip) (initS Try.f93.ntmps [.int .i64 a0, .int .i64 a1] 0 (memOf [])) (retK Try.prog Try.f93.results.toList (outK 0 (List.range 0) [] (.k) fun v U N => R v U N)) =
  (cnd ((bif (decide (a1 = 0)) then false else true))
  (cnd ((bif (decide (a1 = 0)) then false else true))
   (cnd ((decide (a0.tmod a1 < 0)))
    (R (.int .i64 (IntKind.i64.wrap (IntKind.i64.wrap (a0.tdiv a1) - 1))) [] [])
    (R (.int .i64 (IntKind.i64.wrap (a0.tdiv a1))) [] []))
   False)
  False) := by kernel_rfl
def m93 (a0 : Int) (a1 : Int) : Int :=
  (cond ((decide (a0.tmod a1 < 0))) (IntKind.i64.wrap (IntKind.i64.wrap (a0.tdiv a1) - 1)) (IntKind.i64.wrap (a0.tdiv a1)))
def n93 (a0 : Int) (a1 : Int) : Bool :=
  (((bif (decide (a1 = 0)) then false else true)) && (((bif (decide (a1 = 0)) then false else true)) && true))
def q93 (r : Int) : SV × List Blk × List Blk := (.int .i64 r, [], [])
def g93 : List SV → List Blk → Option OpRes := fun vs bs => match vs, bs with
  | [.int .i64 a0, .int .i64 a1], [] => some (resOf 0 (q93 (m93 a0 a1)) [n93 a0 a1])
  | _, _ => none
def c93 : Ctr := genC [.k, .k] g93
theorem p93 (a0 : Int) (a1 : Int) (hn : n93 a0 a1 = true) : exec Try.prog [] (fun _ => none) 8 (Try.f93.body.getD .skip) (initS Try.f93.ntmps [.int .i64 a0, .int .i64 a1] 0 (memOf [])) (retK Try.prog Try.f93.results.toList (outK 0 (List.range 0) [] (.k) fun v U N => (v, U, N) = (q93 (m93 a0 a1)))) :=
  propOf (x93 a0 a1 _) (cnd_need (and_l hn) (cnd_need (and_l (and_r hn)) (cnd_of (fun h0 => leaf_of (l := (IntKind.i64.wrap (IntKind.i64.wrap (a0.tdiv a1) - 1))) (condT h0 rfl) rfl) (fun h0 => leaf_of (l := (IntKind.i64.wrap (a0.tdiv a1))) (condF h0 rfl) rfl))))
theorem k93 : CtrOk Try.prog c93 93 := ctr_of tabOk_nil mix_ok 8 (fn := Try.f93) (c := (Try.f93.body.getD .skip)) (grs := []) (rh := .k) (Λ := (fun _ => none)) Try.func93 rfl (by kernel_rfl) noLam fun vs bs q h hn => by
  unfold g93 at h
  split at h <;> cases h
  exact ⟨_, rfl, p93 _ _ (hn _ (List.mem_singleton.2 rfl))⟩
/-! ### shotline/mix.takes -/
theorem x120 (a0 : Int) (R : SV → List Blk → List Blk → Prop) : exec Try.prog [] (fun _ => none) 8 (Try.f120.body.getD .skip) (initS Try.f120.ntmps [.int .i64 a0] 0 (memOf [])) (retK Try.prog Try.f120.results.toList (outK 0 (List.range 0) [] (.k) fun v U N => R v U N)) =
  (R (.bool (bif (decide (a0 = 0)) then false else true)) [] []) := by kernel_rfl
def m120 (a0 : Int) : Bool :=
  (bif (decide (a0 = 0)) then false else true)
def q120 (r : Bool) : SV × List Blk × List Blk := (.bool r, [], [])
def g120 : List SV → List Blk → Option OpRes := fun vs bs => match vs, bs with
  | [.int .i64 a0], [] => some (resOf 0 (q120 (m120 a0)) [])
  | _, _ => none
def c120 : Ctr := genC [.k] g120
theorem p120 (a0 : Int) : exec Try.prog [] (fun _ => none) 8 (Try.f120.body.getD .skip) (initS Try.f120.ntmps [.int .i64 a0] 0 (memOf [])) (retK Try.prog Try.f120.results.toList (outK 0 (List.range 0) [] (.k) fun v U N => (v, U, N) = (q120 (m120 a0)))) :=
  propOf (x120 a0 _) (leaf_of (l := (bif (decide (a0 = 0)) then false else true)) rfl rfl)
theorem k120 : CtrOk Try.prog c120 120 := ctr_of tabOk_nil mix_ok 8 (fn := Try.f120) (c := (Try.f120.body.getD .skip)) (grs := []) (rh := .k) (Λ := (fun _ => none)) Try.func120 rfl (by kernel_rfl) noLam fun vs bs q h _ => by
  unfold g120 at h
  split at h <;> cases h
  exact ⟨_, rfl, p120 _⟩
/-! ### shotline/mix.puts -/
theorem x121 (a0 : Int) (R : SV → List Blk → List Blk → Prop) : exec Try.prog [] (fun _ => none) 8 (Try.f121.body.getD .skip) (initS Try.f121.ntmps [.int .i64 a0] 0 (memOf [])) (retK Try.prog Try.f121.results.toList (outK 0 (List.range 0) [] (.k) fun v U N => R v U N)) =
  (R (.bool (bif (decide (a0 = 2)) then false else true)) [] []) := by kernel_rfl
def m121 (a0 : Int) : Bool :=
  (bif (decide (a0 = 2)) then false else true)
def q121 (r : Bool) : SV × List Blk × List Blk := (.bool r, [], [])
def g121 : List SV → List Blk → Option OpRes := fun vs bs => match vs, bs with
  | [.int .i64 a0], [] => some (resOf 0 (q121 (m121 a0)) [])
  | _, _ => none
def c121 : Ctr := genC [.k] g121
theorem p121 (a0 : Int) : exec Try.prog [] (fun _ => none) 8 (Try.f121.body.getD .skip) (initS Try.f121.ntmps [.int .i64 a0] 0 (memOf [])) (retK Try.prog Try.f121.results.toList (outK 0 (List.range 0) [] (.k) fun v U N => (v, U, N) = (q121 (m121 a0)))) :=
  propOf (x121 a0 _) (leaf_of (l := (bif (decide (a0 = 2)) then false else true)) rfl rfl)
theorem k121 : CtrOk Try.prog c121 121 := ctr_of tabOk_nil mix_ok 8 (fn := Try.f121) (c := (Try.f121.body.getD .skip)) (grs := []) (rh := .k) (Λ := (fun _ => none)) Try.func121 rfl (by kernel_rfl) noLam fun vs bs q h _ => by
  unfold g121 at h
  split at h <;> cases h
  exact ⟨_, rfl, p121 _⟩
/-! ### shotline/mix.fresh -/
theorem x123 (a0_0 : Int) (a0_1 : Int) (a1 : Int) (R : SV → List Blk → List Blk → Prop) : exec Try.prog [] (fun _ => none) 8 (Try.f123.body.getD .skip) (initS Try.f123.ntmps [.agg [.int .i64 a0_0, .int .i64 a0_1], .int .i64 a1] 0 (memOf [])) (retK Try.prog Try.f123.results.toList (outK 0 (List.range 0) [] (.k) fun v U N => R v U N)) =
  (R (.agg [.int .i64 (IntKind.i64.wrap ((IntKind.i64.wrap (a1 * a0_0)).tdiv 1000)), .int .i64 (IntKind.i64.wrap ((IntKind.i64.wrap (a1 * a0_1)).tdiv 1000)), .int .i64 (IntKind.i64.wrap (IntKind.i64.wrap (a1 - IntKind.i64.wrap ((IntKind.i64.wrap (a1 * a0_0)).tdiv 1000)) - IntKind.i64.wrap ((IntKind.i64.wrap (a1 * a0_1)).tdiv 1000)))]) [] []) := by kernel_rfl
def m123 (a0_0 : Int) (a0_1 : Int) (a1 : Int) : Int × Int × Int :=
  ((IntKind.i64.wrap ((IntKind.i64.wrap (a1 * a0_0)).tdiv 1000)), (IntKind.i64.wrap ((IntKind.i64.wrap (a1 * a0_1)).tdiv 1000)), (IntKind.i64.wrap (IntKind.i64.wrap (a1 - IntKind.i64.wrap ((IntKind.i64.wrap (a1 * a0_0)).tdiv 1000)) - IntKind.i64.wrap ((IntKind.i64.wrap (a1 * a0_1)).tdiv 1000))))
def q123 (r : Int × Int × Int) : SV × List Blk × List Blk := (.agg [.int .i64 r.1, .int .i64 r.2.1, .int .i64 r.2.2], [], [])
def g123 : List SV → List Blk → Option OpRes := fun vs bs => match vs, bs with
  | [.agg [.int .i64 a0_0, .int .i64 a0_1], .int .i64 a1], [] => some (resOf 0 (q123 (m123 a0_0 a0_1 a1)) [])
  | _, _ => none
def c123 : Ctr := genC [.k, .k] g123
theorem p123 (a0_0 : Int) (a0_1 : Int) (a1 : Int) : exec Try.prog [] (fun _ => none) 8 (Try.f123.body.getD .skip) (initS Try.f123.ntmps [.agg [.int .i64 a0_0, .int .i64 a0_1], .int .i64 a1] 0 (memOf [])) (retK Try.prog Try.f123.results.toList (outK 0 (List.range 0) [] (.k) fun v U N => (v, U, N) = (q123 (m123 a0_0 a0_1 a1)))) :=
  propOf (x123 a0_0 a0_1 a1 _) (leaf_of (l := ((IntKind.i64.wrap ((IntKind.i64.wrap (a1 * a0_0)).tdiv 1000)), (IntKind.i64.wrap ((IntKind.i64.wrap (a1 * a0_1)).tdiv 1000)), (IntKind.i64.wrap (IntKind.i64.wrap (a1 - IntKind.i64.wrap ((IntKind.i64.wrap (a1 * a0_0)).tdiv 1000)) - IntKind.i64.wrap ((IntKind.i64.wrap (a1 * a0_1)).tdiv 1000))))) rfl rfl)
theorem k123 : CtrOk Try.prog c123 123 := ctr_of tabOk_nil mix_ok 8 (fn := Try.f123) (c := (Try.f123.body.getD .skip)) (grs := []) (rh := .k) (Λ := (fun _ => none)) Try.func123 rfl (by kernel_rfl) noLam fun vs bs q h _ => by
  unfold g123 at h
  split at h <;> cases h
  exact ⟨_, rfl, p123 _ _ _⟩
/-! ### (shotline/mix.gases).less -/
theorem x124 (a0_0 : Int) (a0_1 : Int) (a0_2 : Int) (a1_0 : Int) (a1_1 : Int) (a1_2 : Int) (R : SV → List Blk → List Blk → Prop) : exec Try.prog [] (fun _ => none) 8 (Try.f124.body.getD .skip) (initS Try.f124.ntmps [.agg [.int .i64 a0_0, .int .i64 a0_1, .int .i64 a0_2], .agg [.int .i64 a1_0, .int .i64 a1_1, .int .i64 a1_2]] 0 (memOf [])) (retK Try.prog Try.f124.results.toList (outK 0 (List.range 0) [] (.k) fun v U N => R v U N)) =
  (R (.agg [.int .i64 (IntKind.i64.wrap (a0_0 - a1_0)), .int .i64 (IntKind.i64.wrap (a0_1 - a1_1)), .int .i64 (IntKind.i64.wrap (a0_2 - a1_2))]) [] []) := by kernel_rfl
def m124 (a0_0 : Int) (a0_1 : Int) (a0_2 : Int) (a1_0 : Int) (a1_1 : Int) (a1_2 : Int) : Int × Int × Int :=
  ((IntKind.i64.wrap (a0_0 - a1_0)), (IntKind.i64.wrap (a0_1 - a1_1)), (IntKind.i64.wrap (a0_2 - a1_2)))
def q124 (r : Int × Int × Int) : SV × List Blk × List Blk := (.agg [.int .i64 r.1, .int .i64 r.2.1, .int .i64 r.2.2], [], [])
def g124 : List SV → List Blk → Option OpRes := fun vs bs => match vs, bs with
  | [.agg [.int .i64 a0_0, .int .i64 a0_1, .int .i64 a0_2], .agg [.int .i64 a1_0, .int .i64 a1_1, .int .i64 a1_2]], [] => some (resOf 0 (q124 (m124 a0_0 a0_1 a0_2 a1_0 a1_1 a1_2)) [])
  | _, _ => none
def c124 : Ctr := genC [.k, .k] g124
theorem p124 (a0_0 : Int) (a0_1 : Int) (a0_2 : Int) (a1_0 : Int) (a1_1 : Int) (a1_2 : Int) : exec Try.prog [] (fun _ => none) 8 (Try.f124.body.getD .skip) (initS Try.f124.ntmps [.agg [.int .i64 a0_0, .int .i64 a0_1, .int .i64 a0_2], .agg [.int .i64 a1_0, .int .i64 a1_1, .int .i64 a1_2]] 0 (memOf [])) (retK Try.prog Try.f124.results.toList (outK 0 (List.range 0) [] (.k) fun v U N => (v, U, N) = (q124 (m124 a0_0 a0_1 a0_2 a1_0 a1_1 a1_2)))) :=
  propOf (x124 a0_0 a0_1 a0_2 a1_0 a1_1 a1_2 _) (leaf_of (l := ((IntKind.i64.wrap (a0_0 - a1_0)), (IntKind.i64.wrap (a0_1 - a1_1)), (IntKind.i64.wrap (a0_2 - a1_2)))) rfl rfl)
theorem k124 : CtrOk Try.prog c124 124 := ctr_of tabOk_nil mix_ok 8 (fn := Try.f124) (c := (Try.f124.body.getD .skip)) (grs := []) (rh := .k) (Λ := (fun _ => none)) Try.func124 rfl (by kernel_rfl) noLam fun vs bs q h _ => by
  unfold g124 at h
  split at h <;> cases h
  exact ⟨_, rfl, p124 _ _ _ _ _ _⟩
/-! ### (shotline/mix.gases).plus -/
theorem x125 (a0_0 : Int) (a0_1 : Int) (a0_2 : Int) (a1_0 : Int) (a1_1 : Int) (a1_2 : Int) (R : SV → List Blk → List Blk → Prop) : exec Try.prog [] (fun _ => none) 8 (Try.f125.body.getD .skip) (initS Try.f125.ntmps [.agg [.int .i64 a0_0, .int .i64 a0_1, .int .i64 a0_2], .agg [.int .i64 a1_0, .int .i64 a1_1, .int .i64 a1_2]] 0 (memOf [])) (retK Try.prog Try.f125.results.toList (outK 0 (List.range 0) [] (.k) fun v U N => R v U N)) =
  (R (.agg [.int .i64 (IntKind.i64.wrap (a0_0 + a1_0)), .int .i64 (IntKind.i64.wrap (a0_1 + a1_1)), .int .i64 (IntKind.i64.wrap (a0_2 + a1_2))]) [] []) := by kernel_rfl
def m125 (a0_0 : Int) (a0_1 : Int) (a0_2 : Int) (a1_0 : Int) (a1_1 : Int) (a1_2 : Int) : Int × Int × Int :=
  ((IntKind.i64.wrap (a0_0 + a1_0)), (IntKind.i64.wrap (a0_1 + a1_1)), (IntKind.i64.wrap (a0_2 + a1_2)))
def q125 (r : Int × Int × Int) : SV × List Blk × List Blk := (.agg [.int .i64 r.1, .int .i64 r.2.1, .int .i64 r.2.2], [], [])
def g125 : List SV → List Blk → Option OpRes := fun vs bs => match vs, bs with
  | [.agg [.int .i64 a0_0, .int .i64 a0_1, .int .i64 a0_2], .agg [.int .i64 a1_0, .int .i64 a1_1, .int .i64 a1_2]], [] => some (resOf 0 (q125 (m125 a0_0 a0_1 a0_2 a1_0 a1_1 a1_2)) [])
  | _, _ => none
def c125 : Ctr := genC [.k, .k] g125
theorem p125 (a0_0 : Int) (a0_1 : Int) (a0_2 : Int) (a1_0 : Int) (a1_1 : Int) (a1_2 : Int) : exec Try.prog [] (fun _ => none) 8 (Try.f125.body.getD .skip) (initS Try.f125.ntmps [.agg [.int .i64 a0_0, .int .i64 a0_1, .int .i64 a0_2], .agg [.int .i64 a1_0, .int .i64 a1_1, .int .i64 a1_2]] 0 (memOf [])) (retK Try.prog Try.f125.results.toList (outK 0 (List.range 0) [] (.k) fun v U N => (v, U, N) = (q125 (m125 a0_0 a0_1 a0_2 a1_0 a1_1 a1_2)))) :=
  propOf (x125 a0_0 a0_1 a0_2 a1_0 a1_1 a1_2 _) (leaf_of (l := ((IntKind.i64.wrap (a0_0 + a1_0)), (IntKind.i64.wrap (a0_1 + a1_1)), (IntKind.i64.wrap (a0_2 + a1_2)))) rfl rfl)
theorem k125 : CtrOk Try.prog c125 125 := ctr_of tabOk_nil mix_ok 8 (fn := Try.f125) (c := (Try.f125.body.getD .skip)) (grs := []) (rh := .k) (Λ := (fun _ => none)) Try.func125 rfl (by kernel_rfl) noLam fun vs bs q h _ => by
  unfold g125 at h
  split at h <;> cases h
  exact ⟨_, rfl, p125 _ _ _ _ _ _⟩
/-! ### shotline/shotlineref06.Pure -/
theorem x126 (a0_0 : Int) (a0_1 : Int) (a1 : Int) (R : SV → List Blk → List Blk → Prop) : exec Try.prog [] (fun _ => none) 8 (Try.f126.body.getD .skip) (initS Try.f126.ntmps [.agg [.int .i64 a0_0, .int .i64 a0_1], .int .i64 a1] 0 (memOf [])) (retK Try.prog Try.f126.results.toList (outK 0 (List.range 0) [] (.k) fun v U N => R v U N)) =
  (R (.agg [.int .i64 (IntKind.i64.wrap ((IntKind.i64.wrap (a1 * a0_0)).tdiv 1000)), .int .i64 (IntKind.i64.wrap ((IntKind.i64.wrap (a1 * a0_1)).tdiv 1000)), .int .i64 (IntKind.i64.wrap (IntKind.i64.wrap (a1 - IntKind.i64.wrap ((IntKind.i64.wrap (a1 * a0_0)).tdiv 1000)) - IntKind.i64.wrap ((IntKind.i64.wrap (a1 * a0_1)).tdiv 1000)))]) [] []) := by kernel_rfl
def m126 (a0_0 : Int) (a0_1 : Int) (a1 : Int) : Int × Int × Int :=
  ((IntKind.i64.wrap ((IntKind.i64.wrap (a1 * a0_0)).tdiv 1000)), (IntKind.i64.wrap ((IntKind.i64.wrap (a1 * a0_1)).tdiv 1000)), (IntKind.i64.wrap (IntKind.i64.wrap (a1 - IntKind.i64.wrap ((IntKind.i64.wrap (a1 * a0_0)).tdiv 1000)) - IntKind.i64.wrap ((IntKind.i64.wrap (a1 * a0_1)).tdiv 1000))))
def q126 (r : Int × Int × Int) : SV × List Blk × List Blk := (.agg [.int .i64 r.1, .int .i64 r.2.1, .int .i64 r.2.2], [], [])
def g126 : List SV → List Blk → Option OpRes := fun vs bs => match vs, bs with
  | [.agg [.int .i64 a0_0, .int .i64 a0_1], .int .i64 a1], [] => some (resOf 0 (q126 (m126 a0_0 a0_1 a1)) [])
  | _, _ => none
def c126 : Ctr := genC [.k, .k] g126
theorem p126 (a0_0 : Int) (a0_1 : Int) (a1 : Int) : exec Try.prog [] (fun _ => none) 8 (Try.f126.body.getD .skip) (initS Try.f126.ntmps [.agg [.int .i64 a0_0, .int .i64 a0_1], .int .i64 a1] 0 (memOf [])) (retK Try.prog Try.f126.results.toList (outK 0 (List.range 0) [] (.k) fun v U N => (v, U, N) = (q126 (m126 a0_0 a0_1 a1)))) :=
  propOf (x126 a0_0 a0_1 a1 _) (leaf_of (l := ((IntKind.i64.wrap ((IntKind.i64.wrap (a1 * a0_0)).tdiv 1000)), (IntKind.i64.wrap ((IntKind.i64.wrap (a1 * a0_1)).tdiv 1000)), (IntKind.i64.wrap (IntKind.i64.wrap (a1 - IntKind.i64.wrap ((IntKind.i64.wrap (a1 * a0_0)).tdiv 1000)) - IntKind.i64.wrap ((IntKind.i64.wrap (a1 * a0_1)).tdiv 1000))))) rfl rfl)
theorem k126 : CtrOk Try.prog c126 126 := ctr_of tabOk_nil mix_ok 8 (fn := Try.f126) (c := (Try.f126.body.getD .skip)) (grs := []) (rh := .k) (Λ := (fun _ => none)) Try.func126 rfl (by kernel_rfl) noLam fun vs bs q h _ => by
  unfold g126 at h
  split at h <;> cases h
  exact ⟨_, rfl, p126 _ _ _⟩
/-! ### cmp.isNaN[int] -/
theorem x143 (a0 : Int) (R : SV → List Blk → List Blk → Prop) : exec Try.prog [] (fun _ => none) 8 (Try.f143.body.getD .skip) (initS Try.f143.ntmps [.int .i64 a0] 0 (memOf [])) (retK Try.prog Try.f143.results.toList (outK 0 (List.range 0) [] (.k) fun v U N => R v U N)) =
  (R (.bool (bif (decide (a0 = a0)) then false else true)) [] []) := by kernel_rfl
def m143 (a0 : Int) : Bool :=
  (bif (decide (a0 = a0)) then false else true)
def q143 (r : Bool) : SV × List Blk × List Blk := (.bool r, [], [])
def g143 : List SV → List Blk → Option OpRes := fun vs bs => match vs, bs with
  | [.int .i64 a0], [] => some (resOf 0 (q143 (m143 a0)) [])
  | _, _ => none
def c143 : Ctr := genC [.k] g143
theorem p143 (a0 : Int) : exec Try.prog [] (fun _ => none) 8 (Try.f143.body.getD .skip) (initS Try.f143.ntmps [.int .i64 a0] 0 (memOf [])) (retK Try.prog Try.f143.results.toList (outK 0 (List.range 0) [] (.k) fun v U N => (v, U, N) = (q143 (m143 a0)))) :=
  propOf (x143 a0 _) (leaf_of (l := (bif (decide (a0 = a0)) then false else true)) rfl rfl)
theorem k143 : CtrOk Try.prog c143 143 := ctr_of tabOk_nil mix_ok 8 (fn := Try.f143) (c := (Try.f143.body.getD .skip)) (grs := []) (rh := .k) (Λ := (fun _ => none)) Try.func143 rfl (by kernel_rfl) noLam fun vs bs q h _ => by
  unfold g143 at h
  split at h <;> cases h
  exact ⟨_, rfl, p143 _⟩
/-! ### shotline/gas.within -/
theorem x144 (a0 : Int) (a1 : Int) (a2 : Int) (R : SV → List Blk → List Blk → Prop) : exec Try.prog [] (fun _ => none) 8 (Try.f144.body.getD .skip) (initS Try.f144.ntmps [.int .i64 a0, .int .i64 a1, .int .i64 a2] 0 (memOf [])) (retK Try.prog Try.f144.results.toList (outK 0 (List.range 0) [] (.k) fun v U N => R v U N)) =
  (R (.bool (bif (decide (a1 ≤ a0)) then (decide (a0 ≤ a2)) else false)) [] []) := by kernel_rfl
def m144 (a0 : Int) (a1 : Int) (a2 : Int) : Bool :=
  (bif (decide (a1 ≤ a0)) then (decide (a0 ≤ a2)) else false)
def q144 (r : Bool) : SV × List Blk × List Blk := (.bool r, [], [])
def g144 : List SV → List Blk → Option OpRes := fun vs bs => match vs, bs with
  | [.int .i64 a0, .int .i64 a1, .int .i64 a2], [] => some (resOf 0 (q144 (m144 a0 a1 a2)) [])
  | _, _ => none
def c144 : Ctr := genC [.k, .k, .k] g144
theorem p144 (a0 : Int) (a1 : Int) (a2 : Int) : exec Try.prog [] (fun _ => none) 8 (Try.f144.body.getD .skip) (initS Try.f144.ntmps [.int .i64 a0, .int .i64 a1, .int .i64 a2] 0 (memOf [])) (retK Try.prog Try.f144.results.toList (outK 0 (List.range 0) [] (.k) fun v U N => (v, U, N) = (q144 (m144 a0 a1 a2)))) :=
  propOf (x144 a0 a1 a2 _) (leaf_of (l := (bif (decide (a1 ≤ a0)) then (decide (a0 ≤ a2)) else false)) rfl rfl)
theorem k144 : CtrOk Try.prog c144 144 := ctr_of tabOk_nil mix_ok 8 (fn := Try.f144) (c := (Try.f144.body.getD .skip)) (grs := []) (rh := .k) (Λ := (fun _ => none)) Try.func144 rfl (by kernel_rfl) noLam fun vs bs q h _ => by
  unfold g144 at h
  split at h <;> cases h
  exact ⟨_, rfl, p144 _ _ _⟩
/-! ### shotline/mix.vessel$1 -/
theorem x116 (a0_0 : ByteArray) (a0_1 : Int) (a0_2 : Int) (da1 : Dat) (R : SV → List Blk → List Blk → Prop) : exec Try.prog [] (fun _ => none) 8 (Try.f116.body.getD .skip) (initS Try.f116.ntmps [.agg [.str a0_0, .int .i64 a0_1, .int .i64 a0_2], .rp [.str] da1 0 0] 0 (memOf [])) (retK Try.prog Try.f116.results.toList (outK 0 (List.range 0) [] (.k) fun v U N => R v U N)) =
  (R (.bool (decide (a0_0 = da1.ss 0 0))) [] []) := by kernel_rfl
def m116 (a0_0 : ByteArray) (a0_1 : Int) (a0_2 : Int) (da1 : Dat) : Bool :=
  (decide (a0_0 = da1.ss 0 0))
def q116 (r : Bool) : SV × List Blk × List Blk := (.bool r, [], [])
def g116 : List SV → List Blk → Option OpRes := fun vs bs => match vs, bs with
  | [.agg [.str a0_0, .int .i64 a0_1, .int .i64 a0_2], .rp [.str] da1 0 0], [] => some (resOf 0 (q116 (m116 a0_0 a0_1 a0_2 da1)) [])
  | _, _ => none
def c116 : Ctr := genC [.k, .rp [.str]] g116
theorem p116 (a0_0 : ByteArray) (a0_1 : Int) (a0_2 : Int) (da1 : Dat) : exec Try.prog [] (fun _ => none) 8 (Try.f116.body.getD .skip) (initS Try.f116.ntmps [.agg [.str a0_0, .int .i64 a0_1, .int .i64 a0_2], .rp [.str] da1 0 0] 0 (memOf [])) (retK Try.prog Try.f116.results.toList (outK 0 (List.range 0) [] (.k) fun v U N => (v, U, N) = (q116 (m116 a0_0 a0_1 a0_2 da1)))) :=
  propOf (x116 a0_0 a0_1 a0_2 da1 _) (leaf_of (l := (decide (a0_0 = da1.ss 0 0))) rfl rfl)
theorem k116 : CtrOk Try.prog c116 116 := ctr_of tabOk_nil mix_ok 8 (fn := Try.f116) (c := (Try.f116.body.getD .skip)) (grs := []) (rh := .k) (Λ := (fun _ => none)) Try.func116 rfl (by kernel_rfl) noLam fun vs bs q h _ => by
  unfold g116 at h
  split at h <;> cases h
  exact ⟨_, rfl, p116 _ _ _ _⟩
/-! ### shotline/mix.CheckTask$1 -/
theorem x108 (a0_0 : ByteArray) (a0_1 : Int) (a0_2 : Int) (a0_3 : Int) (a0_4 : Int) (da1 : Dat) (R : SV → List Blk → List Blk → Prop) : exec Try.prog [] (fun _ => none) 8 (Try.f108.body.getD .skip) (initS Try.f108.ntmps [.agg [.str a0_0, .int .i64 a0_1, .int .i64 a0_2, .int .i64 a0_3, .int .i64 a0_4], .rp [.str, .int .i64, .int .i64, .int .i64, .int .i64] da1 0 0] 0 (memOf [])) (retK Try.prog Try.f108.results.toList (outK 0 (List.range 0) [] (.k) fun v U N => R v U N)) =
  (R (.bool (decide (a0_0 = da1.ss 0 0))) [] []) := by kernel_rfl
def m108 (a0_0 : ByteArray) (a0_1 : Int) (a0_2 : Int) (a0_3 : Int) (a0_4 : Int) (da1 : Dat) : Bool :=
  (decide (a0_0 = da1.ss 0 0))
def q108 (r : Bool) : SV × List Blk × List Blk := (.bool r, [], [])
def g108 : List SV → List Blk → Option OpRes := fun vs bs => match vs, bs with
  | [.agg [.str a0_0, .int .i64 a0_1, .int .i64 a0_2, .int .i64 a0_3, .int .i64 a0_4], .rp [.str, .int .i64, .int .i64, .int .i64, .int .i64] da1 0 0], [] => some (resOf 0 (q108 (m108 a0_0 a0_1 a0_2 a0_3 a0_4 da1)) [])
  | _, _ => none
def c108 : Ctr := genC [.k, .rp [.str, .int .i64, .int .i64, .int .i64, .int .i64]] g108
theorem p108 (a0_0 : ByteArray) (a0_1 : Int) (a0_2 : Int) (a0_3 : Int) (a0_4 : Int) (da1 : Dat) : exec Try.prog [] (fun _ => none) 8 (Try.f108.body.getD .skip) (initS Try.f108.ntmps [.agg [.str a0_0, .int .i64 a0_1, .int .i64 a0_2, .int .i64 a0_3, .int .i64 a0_4], .rp [.str, .int .i64, .int .i64, .int .i64, .int .i64] da1 0 0] 0 (memOf [])) (retK Try.prog Try.f108.results.toList (outK 0 (List.range 0) [] (.k) fun v U N => (v, U, N) = (q108 (m108 a0_0 a0_1 a0_2 a0_3 a0_4 da1)))) :=
  propOf (x108 a0_0 a0_1 a0_2 a0_3 a0_4 da1 _) (leaf_of (l := (decide (a0_0 = da1.ss 0 0))) rfl rfl)
theorem k108 : CtrOk Try.prog c108 108 := ctr_of tabOk_nil mix_ok 8 (fn := Try.f108) (c := (Try.f108.body.getD .skip)) (grs := []) (rh := .k) (Λ := (fun _ => none)) Try.func108 rfl (by kernel_rfl) noLam fun vs bs q h _ => by
  unfold g108 at h
  split at h <;> cases h
  exact ⟨_, rfl, p108 _ _ _ _ _ _⟩
/-! ### shotline/shotlineref06.CheckContent -/
theorem x17 (a0_0 : Int) (a0_1 : Int) (a0_2 : Int) (R : SV → List Blk → List Blk → Prop) : exec Try.prog [(18, c18), (19, c19)] (fun _ => none) 8 (Try.f17.body.getD .skip) (initS Try.f17.ntmps [.agg [.int .i64 a0_0, .int .i64 a0_1, .int .i64 a0_2]] 0 (memOf [])) (retK Try.prog Try.f17.results.toList (outK 0 (List.range 0) [] (.k) fun v U N => R v U N)) =
  (cnd ((bif (bif (bif (bif (m18 a0_0 0 1000000000) then false else true) then true else (bif (m18 a0_1 0 1000000000) then false else true)) then true else (bif (m18 a0_2 0 1000000000) then false else true)) then true else (decide (1000000000 < m19 a0_0 a0_1 a0_2))))
  (R (.int .i64 2) [] [])
  (R (.int .i64 0) [] [])) := by kernel_rfl
def m17 (a0_0 : Int) (a0_1 : Int) (a0_2 : Int) : Int :=
  (cond ((bif (bif (bif (bif (m18 a0_0 0 1000000000) then false else true) then true else (bif (m18 a0_1 0 1000000000) then false else true)) then true else (bif (m18 a0_2 0 1000000000) then false else true)) then true else (decide (1000000000 < m19 a0_0 a0_1 a0_2)))) 2 0)
def q17 (r : Int) : SV × List Blk × List Blk := (.int .i64 r, [], [])
def g17 : List SV → List Blk → Option OpRes := fun vs bs => match vs, bs with
  | [.agg [.int .i64 a0_0, .int .i64 a0_1, .int .i64 a0_2]], [] => some (resOf 0 (q17 (m17 a0_0 a0_1 a0_2)) [])
  | _, _ => none
def c17 : Ctr := genC [.k] g17
theorem p17 (a0_0 : Int) (a0_1 : Int) (a0_2 : Int) : exec Try.prog [(18, c18), (19, c19)] (fun _ => none) 8 (Try.f17.body.getD .skip) (initS Try.f17.ntmps [.agg [.int .i64 a0_0, .int .i64 a0_1, .int .i64 a0_2]] 0 (memOf [])) (retK Try.prog Try.f17.results.toList (outK 0 (List.range 0) [] (.k) fun v U N => (v, U, N) = (q17 (m17 a0_0 a0_1 a0_2)))) :=
  propOf (x17 a0_0 a0_1 a0_2 _) (cnd_of (fun h0 => leaf_of (l := 2) (condT h0 rfl) rfl) (fun h0 => leaf_of (l := 0) (condF h0 rfl) rfl))
theorem k17 : CtrOk Try.prog c17 17 := ctr_of (tabOk_cons k18 (tabOk_cons k19 tabOk_nil)) mix_ok 8 (fn := Try.f17) (c := (Try.f17.body.getD .skip)) (grs := []) (rh := .k) (Λ := (fun _ => none)) Try.func17 rfl (by kernel_rfl) noLam fun vs bs q h _ => by
  unfold g17 at h
  split at h <;> cases h
  exact ⟨_, rfl, p17 _ _ _⟩
/-! ### shotline/shotlineref01.CheckGas -/
theorem x83 (a0_0 : Int) (a0_1 : Int) (R : SV → List Blk → List Blk → Prop) : exec Try.prog [(18, c18)] (fun _ => none) 8 (Try.f83.body.getD .skip) (initS Try.f83.ntmps [.agg [.int .i64 a0_0, .int .i64 a0_1]] 0 (memOf [])) (retK Try.prog Try.f83.results.toList (outK 0 (List.range 0) [] (.k) fun v U N => R v U N)) =
  (cnd ((bif (bif (m18 a0_0 0 1000) then false else true) then true else (bif (m18 a0_1 0 1000) then false else true)))
  (R (.int .i64 2) [] [])
  (cnd ((decide (1000 < IntKind.i64.wrap (a0_0 + a0_1))))
   (R (.int .i64 23) [] [])
   (R (.int .i64 0) [] []))) := by kernel_rfl
def m83 (a0_0 : Int) (a0_1 : Int) : Int :=
  (cond ((bif (bif (m18 a0_0 0 1000) then false else true) then true else (bif (m18 a0_1 0 1000) then false else true))) 2 (cond ((decide (1000 < IntKind.i64.wrap (a0_0 + a0_1)))) 23 0))
def q83 (r : Int) : SV × List Blk × List Blk := (.int .i64 r, [], [])
def g83 : List SV → List Blk → Option OpRes := fun vs bs => match vs, bs with
  | [.agg [.int .i64 a0_0, .int .i64 a0_1]], [] => some (resOf 0 (q83 (m83 a0_0 a0_1)) [])
  | _, _ => none
def c83 : Ctr := genC [.k] g83
theorem p83 (a0_0 : Int) (a0_1 : Int) : exec Try.prog [(18, c18)] (fun _ => none) 8 (Try.f83.body.getD .skip) (initS Try.f83.ntmps [.agg [.int .i64 a0_0, .int .i64 a0_1]] 0 (memOf [])) (retK Try.prog Try.f83.results.toList (outK 0 (List.range 0) [] (.k) fun v U N => (v, U, N) = (q83 (m83 a0_0 a0_1)))) :=
  propOf (x83 a0_0 a0_1 _) (cnd_of (fun h0 => leaf_of (l := 2) (condT h0 rfl) rfl) (fun h0 => cnd_of (fun h1 => leaf_of (l := 23) (condF h0 (condT h1 rfl)) rfl) (fun h1 => leaf_of (l := 0) (condF h0 (condF h1 rfl)) rfl)))
theorem k83 : CtrOk Try.prog c83 83 := ctr_of (tabOk_cons k18 tabOk_nil) mix_ok 8 (fn := Try.f83) (c := (Try.f83.body.getD .skip)) (grs := []) (rh := .k) (Λ := (fun _ => none)) Try.func83 rfl (by kernel_rfl) noLam fun vs bs q h _ => by
  unfold g83 at h
  split at h <;> cases h
  exact ⟨_, rfl, p83 _ _⟩
/-! ### shotline/shotlinebase.Ceil -/
theorem x94 (a0 : Int) (a1 : Int) (R : SV → List Blk → List Blk → Prop) : exec Try.prog [(93, c93)] (fun _ => none) 8 (Try.f94.body.getD .skip) (initS Try.f94.ntmps [.int .i64 a0, .int .i64 a1] 0 (memOf [])) (retK Try.prog Try.f94.results.toList (outK 0 (List.range 0) [] (.k) fun v U N => R v U N)) =
  (cnd ((n93 (IntKind.i64.wrap (0 - a0)) a1))
  (R (.int .i64 (IntKind.i64.wrap (0 - m93 (IntKind.i64.wrap (0 - a0)) a1))) [] [])
  False) := by kernel_rfl
def m94 (a0 : Int) (a1 : Int) : Int :=
  (IntKind.i64.wrap (0 - m93 (IntKind.i64.wrap (0 - a0)) a1))
def n94 (a0 : Int) (a1 : Int) : Bool :=
  (((n93 (IntKind.i64.wrap (0 - a0)) a1)) && true)
def q94 (r : Int) : SV × List Blk × List Blk := (.int .i64 r, [], [])
def g94 : List SV → List Blk → Option OpRes := fun vs bs => match vs, bs with
  | [.int .i64 a0, .int .i64 a1], [] => some (resOf 0 (q94 (m94 a0 a1)) [n94 a0 a1])
  | _, _ => none
def c94 : Ctr := genC [.k, .k] g94
theorem p94 (a0 : Int) (a1 : Int) (hn : n94 a0 a1 = true) : exec Try.prog [(93, c93)] (fun _ => none) 8 (Try.f94.body.getD .skip) (initS Try.f94.ntmps [.int .i64 a0, .int .i64 a1] 0 (memOf [])) (retK Try.prog Try.f94.results.toList (outK 0 (List.range 0) [] (.k) fun v U N => (v, U, N) = (q94 (m94 a0 a1)))) :=
  propOf (x94 a0 a1 _) (cnd_need (and_l hn) (leaf_of (l := (IntKind.i64.wrap (0 - m93 (IntKind.i64.wrap (0 - a0)) a1))) rfl rfl))
theorem k94 : CtrOk Try.prog c94 94 := ctr_of (tabOk_cons k93 tabOk_nil) mix_ok 8 (fn := Try.f94) (c := (Try.f94.body.getD .skip)) (grs := []) (rh := .k) (Λ := (fun _ => none)) Try.func94 rfl (by kernel_rfl) noLam fun vs bs q h hn => by
  unfold g94 at h
  split at h <;> cases h
  exact ⟨_, rfl, p94 _ _ (hn _ (List.mem_singleton.2 rfl))⟩
/-! ### shotline/mix.checkContent$1 -/
theorem x111 (a0 : Int) (R : SV → List Blk → List Blk → Prop) : exec Try.prog [(73, c73)] (fun _ => none) 8 (Try.f111.body.getD .skip) (initS Try.f111.ntmps [.int .i64 a0] 0 (memOf [])) (retK Try.prog Try.f111.results.toList (outK 0 (List.range 0) [] (.k) fun v U N => R v U N)) =
  (R (.bool (bif (m73 a0 0 1000000000) then false else true)) [] []) := by kernel_rfl
def m111 (a0 : Int) : Bool :=
  (bif (m73 a0 0 1000000000) then false else true)
def q111 (r : Bool) : SV × List Blk × List Blk := (.bool r, [], [])
def g111 : List SV → List Blk → Option OpRes := fun vs bs => match vs, bs with
  | [.int .i64 a0], [] => some (resOf 0 (q111 (m111 a0)) [])
  | _, _ => none
def c111 : Ctr := genC [.k] g111
theorem p111 (a0 : Int) : exec Try.prog [(73, c73)] (fun _ => none) 8 (Try.f111.body.getD .skip) (initS Try.f111.ntmps [.int .i64 a0] 0 (memOf [])) (retK Try.prog Try.f111.results.toList (outK 0 (List.range 0) [] (.k) fun v U N => (v, U, N) = (q111 (m111 a0)))) :=
  propOf (x111 a0 _) (leaf_of (l := (bif (m73 a0 0 1000000000) then false else true)) rfl rfl)
theorem k111 : CtrOk Try.prog c111 111 := ctr_of (tabOk_cons k73 tabOk_nil) mix_ok 8 (fn := Try.f111) (c := (Try.f111.body.getD .skip)) (grs := []) (rh := .k) (Λ := (fun _ => none)) Try.func111 rfl (by kernel_rfl) noLam fun vs bs q h _ => by
  unfold g111 at h
  split at h <;> cases h
  exact ⟨_, rfl, p111 _⟩
/-! ### cmp.Compare[int] -/
theorem x114 (a0 : Int) (a1 : Int) (R : SV → List Blk → List Blk → Prop) : exec Try.prog [(143, c143)] (fun _ => none) 8 (Try.f114.body.getD .skip) (initS Try.f114.ntmps [.int .i64 a0, .int .i64 a1] 0 (memOf [])) (retK Try.prog Try.f114.results.toList (outK 0 (List.range 0) [] (.k) fun v U N => R v U N)) =
  (cnd ((m143 a0))
  (cnd ((m143 a1))
   (R (.int .i64 0) [] [])
   (R (.int .i64 (-1)) [] []))
  (cnd ((m143 a1))
   (R (.int .i64 1) [] [])
   (cnd ((decide (a0 < a1)))
    (R (.int .i64 (-1)) [] [])
    (cnd ((decide (a1 < a0)))
     (R (.int .i64 1) [] [])
     (R (.int .i64 0) [] []))))) := by kernel_rfl
def m114 (a0 : Int) (a1 : Int) : Int :=
  (cond ((m143 a0)) (cond ((m143 a1)) 0 (-1)) (cond ((m143 a1)) 1 (cond ((decide (a0 < a1))) (-1) (cond ((decide (a1 < a0))) 1 0))))
def q114 (r : Int) : SV × List Blk × List Blk := (.int .i64 r, [], [])
def g114 : List SV → List Blk → Option OpRes := fun vs bs => match vs, bs with
  | [.int .i64 a0, .int .i64 a1], [] => some (resOf 0 (q114 (m114 a0 a1)) [])
  | _, _ => none
def c114 : Ctr := genC [.k, .k] g114
theorem p114 (a0 : Int) (a1 : Int) : exec Try.prog [(143, c143)] (fun _ => none) 8 (Try.f114.body.getD .skip) (initS Try.f114.ntmps [.int .i64 a0, .int .i64 a1] 0 (memOf [])) (retK Try.prog Try.f114.results.toList (outK 0 (List.range 0) [] (.k) fun v U N => (v, U, N) = (q114 (m114 a0 a1)))) :=
  propOf (x114 a0 a1 _) (cnd_of (fun h0 => cnd_of (fun h1 => leaf_of (l := 0) (condT h0 (condT h1 rfl)) rfl) (fun h1 => leaf_of (l := (-1)) (condT h0 (condF h1 rfl)) rfl)) (fun h0 => cnd_of (fun h1 => leaf_of (l := 1) (condF h0 (condT h1 rfl)) rfl) (fun h1 => cnd_of (fun h2 => leaf_of (l := (-1)) (condF h0 (condF h1 (condT h2 rfl))) rfl) (fun h2 => cnd_of (fun h3 => leaf_of (l := 1) (condF h0 (condF h1 (condF h2 (condT h3 rfl)))) rfl) (fun h3 => leaf_of (l := 0) (condF h0 (condF h1 (condF h2 (condF h3 rfl)))) rfl)))))
theorem k114 : CtrOk Try.prog c114 114 := ctr_of (tabOk_cons k143 tabOk_nil) mix_ok 8 (fn := Try.f114) (c := (Try.f114.body.getD .skip)) (grs := []) (rh := .k) (Λ := (fun _ => none)) Try.func114 rfl (by kernel_rfl) noLam fun vs bs q h _ => by
  unfold g114 at h
  split at h <;> cases h
  exact ⟨_, rfl, p114 _ _⟩
/-! ### shotline/gas.bound -/
theorem x118 (a0 : Int) (a1 : Int) (a2 : Int) (R : SV → List Blk → List Blk → Prop) : exec Try.prog [(144, c144)] (fun _ => none) 8 (Try.f118.body.getD .skip) (initS Try.f118.ntmps [.int .i64 a0, .int .i64 a1, .int .i64 a2] 0 (memOf [])) (retK Try.prog Try.f118.results.toList (outK 0 (List.range 0) [] (.k) fun v U N => R v U N)) =
  (cnd ((bif (m144 a0 a1 a2) then false else true))
  (R (.int .i64 2) [] [])
  (R (.int .i64 0) [] [])) := by kernel_rfl
def m118 (a0 : Int) (a1 : Int) (a2 : Int) : Int :=
  (cond ((bif (m144 a0 a1 a2) then false else true)) 2 0)
def q118 (r : Int) : SV × List Blk × List Blk := (.int .i64 r, [], [])
def g118 : List SV → List Blk → Option OpRes := fun vs bs => match vs, bs with
  | [.int .i64 a0, .int .i64 a1, .int .i64 a2], [] => some (resOf 0 (q118 (m118 a0 a1 a2)) [])
  | _, _ => none
def c118 : Ctr := genC [.k, .k, .k] g118
theorem p118 (a0 : Int) (a1 : Int) (a2 : Int) : exec Try.prog [(144, c144)] (fun _ => none) 8 (Try.f118.body.getD .skip) (initS Try.f118.ntmps [.int .i64 a0, .int .i64 a1, .int .i64 a2] 0 (memOf [])) (retK Try.prog Try.f118.results.toList (outK 0 (List.range 0) [] (.k) fun v U N => (v, U, N) = (q118 (m118 a0 a1 a2)))) :=
  propOf (x118 a0 a1 a2 _) (cnd_of (fun h0 => leaf_of (l := 2) (condT h0 rfl) rfl) (fun h0 => leaf_of (l := 0) (condF h0 rfl) rfl))
theorem k118 : CtrOk Try.prog c118 118 := ctr_of (tabOk_cons k144 tabOk_nil) mix_ok 8 (fn := Try.f118) (c := (Try.f118.body.getD .skip)) (grs := []) (rh := .k) (Λ := (fun _ => none)) Try.func118 rfl (by kernel_rfl) noLam fun vs bs q h _ => by
  unfold g118 at h
  split at h <;> cases h
  exact ⟨_, rfl, p118 _ _ _⟩
/-! ### shotline/mix.shares -/
theorem x109 (a0_0 : Int) (a0_1 : Int) (R : SV → List Blk → List Blk → Prop) : exec Try.prog [(73, c73)] (fun _ => none) 8 (Try.f109.body.getD .skip) (initS Try.f109.ntmps [.agg [.int .i64 a0_0, .int .i64 a0_1]] 0 (memOf [])) (retK Try.prog Try.f109.results.toList (outK 0 (List.range 0) [] (.k) fun v U N => R v U N)) =
  (cnd ((bif (bif (m73 a0_0 0 1000) then false else true) then true else (bif (m73 a0_1 0 1000) then false else true)))
  (R (.int .i64 2) [] [])
  (cnd ((decide (a0_1 < a0_0)))
   (R (.int .i64 9) [] [])
   (R (.int .i64 0) [] []))) := by kernel_rfl
def m109 (a0_0 : Int) (a0_1 : Int) : Int :=
  (cond ((bif (bif (m73 a0_0 0 1000) then false else true) then true else (bif (m73 a0_1 0 1000) then false else true))) 2 (cond ((decide (a0_1 < a0_0))) 9 0))
def q109 (r : Int) : SV × List Blk × List Blk := (.int .i64 r, [], [])
def g109 : List SV → List Blk → Option OpRes := fun vs bs => match vs, bs with
  | [.agg [.int .i64 a0_0, .int .i64 a0_1]], [] => some (resOf 0 (q109 (m109 a0_0 a0_1)) [])
  | _, _ => none
def c109 : Ctr := genC [.k] g109
theorem p109 (a0_0 : Int) (a0_1 : Int) : exec Try.prog [(73, c73)] (fun _ => none) 8 (Try.f109.body.getD .skip) (initS Try.f109.ntmps [.agg [.int .i64 a0_0, .int .i64 a0_1]] 0 (memOf [])) (retK Try.prog Try.f109.results.toList (outK 0 (List.range 0) [] (.k) fun v U N => (v, U, N) = (q109 (m109 a0_0 a0_1)))) :=
  propOf (x109 a0_0 a0_1 _) (cnd_of (fun h0 => leaf_of (l := 2) (condT h0 rfl) rfl) (fun h0 => cnd_of (fun h1 => leaf_of (l := 9) (condF h0 (condT h1 rfl)) rfl) (fun h1 => leaf_of (l := 0) (condF h0 (condF h1 rfl)) rfl)))
theorem k109 : CtrOk Try.prog c109 109 := ctr_of (tabOk_cons k73 tabOk_nil) mix_ok 8 (fn := Try.f109) (c := (Try.f109.body.getD .skip)) (grs := []) (rh := .k) (Λ := (fun _ => none)) Try.func109 rfl (by kernel_rfl) noLam fun vs bs q h _ => by
  unfold g109 at h
  split at h <;> cases h
  exact ⟨_, rfl, p109 _ _⟩
/-! ### shotline/shotlineref06.Find -/
/-! #### loop 0 -/
def l43_0 (t0_0 : Nat) (t0_1 : Dat) (t1 : ByteArray) : Nat → Int → Option (Bool × (Int) × (Unit))
  | 0, _ => none
  | f + 1, t5 => (cond ((decide (t5 < (↑t0_0 : Int)))) (cond ((decide (0 ≤ t5 ∧ t5 < (↑t0_0 : Int)))) (cond ((decide (t0_1.ss t5.toNat 0 = t1))) (some (true, t5, default)) (l43_0 t0_0 t0_1 t1 f (IntKind.i64.wrap (t5 + 1)))) none) (some (false, default, ())))
abbrev o43_0 (t0_0 : Nat) (t0_1 : Dat) (t1 : ByteArray) (t5 : Int) : Option (Bool × (Int) × (Unit)) := l43_0 t0_0 t0_1 t1 (t0_0 + t1.size + t5.toNat + 8) t5
def e43_0 (t0_0 : Nat) (t0_1 : Dat) (t1 : ByteArray) (r : Bool × (Int) × (Unit)) (K : XR) : Prop := cnd r.1 (K (XE.ret) [.int .i64 r.2.1] []) (K (XE.exit 0) [.any] [])
def g43_0 : LSum := fun s k => match czv 0 20 [0, 1, 5] 0 [] s with
  | some ([.ro [.str, .int .i64, .int .i64] t0_0 t0_1, .str t1, .int .i64 t5], []) => needs [(o43_0 t0_0 t0_1 t1 t5).isSome] (e43_0 t0_0 t0_1 t1 ((o43_0 t0_0 t0_1 t1 t5).getD default) fun e vs bs => inBlk 0 k e (mkSt 0 20 [4] vs 0 bs))
  | _ => False
theorem y43_0 (t0_0 : Nat) (t0_1 : Dat) (t1 : ByteArray) (t5 : Int) (R : XR) : exec Try.prog [] (fun _ => none) 8 (unloop (bodyAt (Try.f43.body.getD .skip) 0)) (mkSt 0 20 [0, 1, 5] [.ro [.str, .int .i64, .int .i64] t0_0 t0_1, .str t1, .int .i64 t5] 0 []) (canonK 0 20 [0, 1, 5] [4] 0 [] R) =
  (cnd ((decide (t5 < (↑t0_0 : Int))))
  (cnd ((decide (0 ≤ t5 ∧ t5 < (↑t0_0 : Int))))
   (cnd ((decide (t0_1.ss t5.toNat 0 = t1)))
    (R (XE.ret) [.int .i64 t5] [])
    (R (XE.normal) [.ro [.str, .int .i64, .int .i64] t0_0 t0_1, .str t1, .int .i64 (IntKind.i64.wrap (t5 + 1))] []))
   False)
  (R (XE.exit 0) [.any] [])) := by kernel_rfl
theorem z43_0 : LOk Try.prog g43_0 (.block 0 (bodyAt (Try.f43.body.getD .skip) 0)) := by
  refine loop_blk (ι := Nat × Dat × ByteArray × Int) (L := []) (Λ := (fun _ => none)) (fuel := 8) (na := 0) (nt := 20) (nx := 0) (Lh := [0, 1, 5]) (Le := [4]) (gl := []) tabOk_nil mix_ok noLam rfl (fun f x K => GG default (e43_0 x.1 x.2.1 x.2.2.1) K (l43_0 x.1 x.2.1 x.2.2.1 f x.2.2.2)) (fun x => [.ro [.str, .int .i64, .int .i64] x.1 x.2.1, .str x.2.2.1, .int .i64 x.2.2.2]) (fun x => []) (fun x K => gg_none) ?_ ?_
  · rintro f ⟨t0_0, t0_1, t1, t5⟩ K hG
    have hG : GG default (e43_0 t0_0 t0_1 t1) K (cond ((decide (t5 < (↑t0_0 : Int)))) (cond ((decide (0 ≤ t5 ∧ t5 < (↑t0_0 : Int)))) (cond ((decide (t0_1.ss t5.toNat 0 = t1))) (some (true, t5, default)) (l43_0 t0_0 t0_1 t1 f (IntKind.i64.wrap (t5 + 1)))) none) (some (false, default, ()))) := hG
    refine propOf (y43_0 t0_0 t0_1 t1 t5 _) ?_
    exact cnd_gg2 hG (fun h0 => cnd_gg h0 fun h1 => cnd_gg2 h1 (fun h2 => h2.2) (fun h2 => ⟨(t0_0, t0_1, t1, (IntKind.i64.wrap (t5 + 1))), rfl, rfl, h2⟩)) (fun h0 => h0.2)
  · intro s k h
    unfold g43_0 at h
    split at h <;> try exact h.elim
    rename_i e1
    rw [needs_iff] at h
    exact ⟨_, e1, _, (_, _, _, _), rfl, rfl, h.1 _ (List.mem_singleton.2 rfl), h.2⟩
theorem x43 (na0 : Nat) (da0 : Dat) (a1 : ByteArray) (R : SV → List Blk → List Blk → Prop) : exec Try.prog [] (lamOf [(0, g43_0)]) 8 (Try.f43.body.getD .skip) (initS Try.f43.ntmps [.ro [.str, .int .i64, .int .i64] na0 da0, .str a1] 0 (memOf [])) (retK Try.prog Try.f43.results.toList (outK 0 (List.range 0) [] (.k) fun v U N => R v U N)) =
  (cnd (((o43_0 na0 da0 a1 0).isSome))
  (cnd ((((o43_0 na0 da0 a1 0).getD default).fst))
   (R (.int .i64 (((o43_0 na0 da0 a1 0).getD default).snd.fst)) [] [])
   (R (.int .i64 (-1)) [] []))
  False) := by kernel_rfl
def m43 (na0 : Nat) (da0 : Dat) (a1 : ByteArray) : Int :=
  (cond ((((o43_0 na0 da0 a1 0).getD default).fst)) (((o43_0 na0 da0 a1 0).getD default).snd.fst) (-1))
def n43 (na0 : Nat) (da0 : Dat) (a1 : ByteArray) : Bool :=
  ((((o43_0 na0 da0 a1 0).isSome)) && true)
def q43 (r : Int) : SV × List Blk × List Blk := (.int .i64 r, [], [])
def g43 : List SV → List Blk → Option OpRes := fun vs bs => match vs, bs with
  | [.ro [.str, .int .i64, .int .i64] na0 da0, .str a1], [] => some (resOf 0 (q43 (m43 na0 da0 a1)) [n43 na0 da0 a1])
  | _, _ => none
def c43 : Ctr := genC [.ro [.str, .int .i64, .int .i64], .k] g43
theorem p43 (na0 : Nat) (da0 : Dat) (a1 : ByteArray) (hn : n43 na0 da0 a1 = true) : exec Try.prog [] (lamOf [(0, g43_0)]) 8 (Try.f43.body.getD .skip) (initS Try.f43.ntmps [.ro [.str, .int .i64, .int .i64] na0 da0, .str a1] 0 (memOf [])) (retK Try.prog Try.f43.results.toList (outK 0 (List.range 0) [] (.k) fun v U N => (v, U, N) = (q43 (m43 na0 da0 a1)))) :=
  propOf (x43 na0 da0 a1 _) (cnd_need (and_l hn) (cnd_of (fun h0 => leaf_of (l := (((o43_0 na0 da0 a1 0).getD default).snd.fst)) (condT h0 rfl) rfl) (fun h0 => leaf_of (l := (-1)) (condF h0 rfl) rfl)))
theorem k43 : CtrOk Try.prog c43 43 := ctr_of tabOk_nil mix_ok 8 (fn := Try.f43) (c := (Try.f43.body.getD .skip)) (grs := []) (rh := .k) (Λ := (lamOf [(0, g43_0)])) Try.func43 rfl (by kernel_rfl) (lam_of rfl (lams_cons z43_0 lams_nil)) fun vs bs q h hn => by
  unfold g43 at h
  split at h <;> cases h
  exact ⟨_, rfl, p43 _ _ _ (hn _ (List.mem_singleton.2 rfl))⟩
/-! ### shotline/gas.first -/
/-! #### loop 0 -/
def l117_0 (t5_0 : Nat) (t5_1 : Dat) (t6 : Int) : Nat → Int → Option (Bool × (Int) × (Unit))
  | 0, _ => none
  | f + 1, t7 => (cond ((decide (t7 < t6))) (cond ((decide (0 ≤ t7 ∧ t7 < (↑t5_0 : Int)))) (cond ((bif (decide (t5_1.ii t7.toNat 0 = 0)) then false else true)) (some (true, (t5_1.ii t7.toNat 0), default)) (l117_0 t5_0 t5_1 t6 f (IntKind.i64.wrap (t7 + 1)))) none) (some (false, default, ())))
abbrev o117_0 (t5_0 : Nat) (t5_1 : Dat) (t6 : Int) (t7 : Int) : Option (Bool × (Int) × (Unit)) := l117_0 t5_0 t5_1 t6 (t5_0 + t6.toNat + t7.toNat + 8) t7
def e117_0 (t5_0 : Nat) (t5_1 : Dat) (t6 : Int) (r : Bool × (Int) × (Unit)) (K : XR) : Prop := cnd r.1 (K (XE.ret) [.int .i64 r.2.1] []) (K (XE.exit 0) [.any] [])
def g117_0 : LSum := fun s k => match czv 0 15 [5, 6, 7] 0 [] s with
  | some ([.ro [.int .i64] t5_0 t5_1, .int .i64 t6, .int .i64 t7], []) => needs [(o117_0 t5_0 t5_1 t6 t7).isSome] (e117_0 t5_0 t5_1 t6 ((o117_0 t5_0 t5_1 t6 t7).getD default) fun e vs bs => inBlk 0 k e (mkSt 0 15 [2] vs 0 bs))
  | _ => False
theorem y117_0 (t5_0 : Nat) (t5_1 : Dat) (t6 : Int) (t7 : Int) (R : XR) : exec Try.prog [] (fun _ => none) 8 (unloop (bodyAt (Try.f117.body.getD .skip) 0)) (mkSt 0 15 [5, 6, 7] [.ro [.int .i64] t5_0 t5_1, .int .i64 t6, .int .i64 t7] 0 []) (canonK 0 15 [5, 6, 7] [2] 0 [] R) =
  (cnd ((decide (t7 < t6)))
  (cnd ((decide (0 ≤ t7 ∧ t7 < (↑t5_0 : Int))))
   (cnd ((bif (decide (t5_1.ii t7.toNat 0 = 0)) then false else true))
    (R (XE.ret) [.int .i64 (t5_1.ii t7.toNat 0)] [])
    (R (XE.normal) [.ro [.int .i64] t5_0 t5_1, .int .i64 t6, .int .i64 (IntKind.i64.wrap (t7 + 1))] []))
   False)
  (R (XE.exit 0) [.any] [])) := by kernel_rfl
theorem z117_0 : LOk Try.prog g117_0 (.block 0 (bodyAt (Try.f117.body.getD .skip) 0)) := by
  refine loop_blk (ι := Nat × Dat × Int × Int) (L := []) (Λ := (fun _ => none)) (fuel := 8) (na := 0) (nt := 15) (nx := 0) (Lh := [5, 6, 7]) (Le := [2]) (gl := []) tabOk_nil mix_ok noLam rfl (fun f x K => GG default (e117_0 x.1 x.2.1 x.2.2.1) K (l117_0 x.1 x.2.1 x.2.2.1 f x.2.2.2)) (fun x => [.ro [.int .i64] x.1 x.2.1, .int .i64 x.2.2.1, .int .i64 x.2.2.2]) (fun x => []) (fun x K => gg_none) ?_ ?_
  · rintro f ⟨t5_0, t5_1, t6, t7⟩ K hG
    have hG : GG default (e117_0 t5_0 t5_1 t6) K (cond ((decide (t7 < t6))) (cond ((decide (0 ≤ t7 ∧ t7 < (↑t5_0 : Int)))) (cond ((bif (decide (t5_1.ii t7.toNat 0 = 0)) then false else true)) (some (true, (t5_1.ii t7.toNat 0), default)) (l117_0 t5_0 t5_1 t6 f (IntKind.i64.wrap (t7 + 1)))) none) (some (false, default, ()))) := hG
    refine propOf (y117_0 t5_0 t5_1 t6 t7 _) ?_
    exact cnd_gg2 hG (fun h0 => cnd_gg h0 fun h1 => cnd_gg2 h1 (fun h2 => h2.2) (fun h2 => ⟨(t5_0, t5_1, t6, (IntKind.i64.wrap (t7 + 1))), rfl, rfl, h2⟩)) (fun h0 => h0.2)
  · intro s k h
    unfold g117_0 at h
    split at h <;> try exact h.elim
    rename_i e1
    rw [needs_iff] at h
    exact ⟨_, e1, _, (_, _, _, _), rfl, rfl, h.1 _ (List.mem_singleton.2 rfl), h.2⟩
theorem x117 (na0 : Nat) (da0 : Dat) (R : SV → List Blk → List Blk → Prop) : exec Try.prog [] (lamOf [(0, g117_0)]) 8 (Try.f117.body.getD .skip) (initS Try.f117.ntmps [.ro [.int .i64] na0 da0] 0 (memOf [])) (retK Try.prog Try.f117.results.toList (outK 0 (List.range 0) [] (.k) fun v U N => R v U N)) =
  (cnd (((o117_0 na0 da0 (↑na0 : Int) 0).isSome))
  (cnd ((((o117_0 na0 da0 (↑na0 : Int) 0).getD default).fst))
   (R (.int .i64 (((o117_0 na0 da0 (↑na0 : Int) 0).getD default).snd.fst)) [] [])
   (R (.int .i64 0) [] []))
  False) := by kernel_rfl
def m117 (na0 : Nat) (da0 : Dat) : Int :=
  (cond ((((o117_0 na0 da0 (↑na0 : Int) 0).getD default).fst)) (((o117_0 na0 da0 (↑na0 : Int) 0).getD default).snd.fst) 0)
def n117 (na0 : Nat) (da0 : Dat) : Bool :=
  ((((o117_0 na0 da0 (↑na0 : Int) 0).isSome)) && true)
def q117 (r : Int) : SV × List Blk × List Blk := (.int .i64 r, [], [])
def g117 : List SV → List Blk → Option OpRes := fun vs bs => match vs, bs with
  | [.ro [.int .i64] na0 da0], [] => some (resOf 0 (q117 (m117 na0 da0)) [n117 na0 da0])
  | _, _ => none
def c117 : Ctr := genC [.ro [.int .i64]] g117
theorem p117 (na0 : Nat) (da0 : Dat) (hn : n117 na0 da0 = true) : exec Try.prog [] (lamOf [(0, g117_0)]) 8 (Try.f117.body.getD .skip) (initS Try.f117.ntmps [.ro [.int .i64] na0 da0] 0 (memOf [])) (retK Try.prog Try.f117.results.toList (outK 0 (List.range 0) [] (.k) fun v U N => (v, U, N) = (q117 (m117 na0 da0)))) :=
  propOf (x117 na0 da0 _) (cnd_need (and_l hn) (cnd_of (fun h0 => leaf_of (l := (((o117_0 na0 da0 (↑na0 : Int) 0).getD default).snd.fst)) (condT h0 rfl) rfl) (fun h0 => leaf_of (l := 0) (condF h0 rfl) rfl)))
theorem k117 : CtrOk Try.prog c117 117 := ctr_of tabOk_nil mix_ok 8 (fn := Try.f117) (c := (Try.f117.body.getD .skip)) (grs := []) (rh := .k) (Λ := (lamOf [(0, g117_0)])) Try.func117 rfl (by kernel_rfl) (lam_of rfl (lams_cons z117_0 lams_nil)) fun vs bs q h hn => by
  unfold g117 at h
  split at h <;> cases h
  exact ⟨_, rfl, p117 _ _ (hn _ (List.mem_singleton.2 rfl))⟩
/-! ### shotline/mix.Matches$1 -/
theorem x82 (a0 : Int) (a1 : Int) (da2 : Dat) (da3 : Dat) (R : SV → List Blk → List Blk → Prop) : exec Try.prog [(74, c74)] (fun _ => none) 8 (Try.f82.body.getD .skip) (initS Try.f82.ntmps [.int .i64 a0, .int .i64 a1, .rp [.int .i64, .int .i64, .int .i64] da2 0 0, .rp [.int .i64] da3 0 0] 0 (memOf [])) (retK Try.prog Try.f82.results.toList (outK 0 (List.range 0) [] (.k) fun v U N => R v U N)) =
  (R (.bool (decide (imax (IntKind.i64.wrap (IntKind.i64.wrap (1000 * a0) - IntKind.i64.wrap (a1 * m74 (da2.ii 0 0) (da2.ii 0 (0 + 1)) (da2.ii 0 (0 + 1 + 1))))) (IntKind.i64.wrap (0 - IntKind.i64.wrap (IntKind.i64.wrap (1000 * a0) - IntKind.i64.wrap (a1 * m74 (da2.ii 0 0) (da2.ii 0 (0 + 1)) (da2.ii 0 (0 + 1 + 1)))))) ≤ IntKind.i64.wrap (da3.ii 0 0 * m74 (da2.ii 0 0) (da2.ii 0 (0 + 1)) (da2.ii 0 (0 + 1 + 1)))))) [] []) := by kernel_rfl
def m82 (a0 : Int) (a1 : Int) (da2 : Dat) (da3 : Dat) : Bool :=
  (decide (imax (IntKind.i64.wrap (IntKind.i64.wrap (1000 * a0) - IntKind.i64.wrap (a1 * m74 (da2.ii 0 0) (da2.ii 0 (0 + 1)) (da2.ii 0 (0 + 1 + 1))))) (IntKind.i64.wrap (0 - IntKind.i64.wrap (IntKind.i64.wrap (1000 * a0) - IntKind.i64.wrap (a1 * m74 (da2.ii 0 0) (da2.ii 0 (0 + 1)) (da2.ii 0 (0 + 1 + 1)))))) ≤ IntKind.i64.wrap (da3.ii 0 0 * m74 (da2.ii 0 0) (da2.ii 0 (0 + 1)) (da2.ii 0 (0 + 1 + 1)))))
def q82 (r : Bool) : SV × List Blk × List Blk := (.bool r, [], [])
def g82 : List SV → List Blk → Option OpRes := fun vs bs => match vs, bs with
  | [.int .i64 a0, .int .i64 a1, .rp [.int .i64, .int .i64, .int .i64] da2 0 0, .rp [.int .i64] da3 0 0], [] => some (resOf 0 (q82 (m82 a0 a1 da2 da3)) [])
  | _, _ => none
def c82 : Ctr := genC [.k, .k, .rp [.int .i64, .int .i64, .int .i64], .rp [.int .i64]] g82
theorem p82 (a0 : Int) (a1 : Int) (da2 : Dat) (da3 : Dat) : exec Try.prog [(74, c74)] (fun _ => none) 8 (Try.f82.body.getD .skip) (initS Try.f82.ntmps [.int .i64 a0, .int .i64 a1, .rp [.int .i64, .int .i64, .int .i64] da2 0 0, .rp [.int .i64] da3 0 0] 0 (memOf [])) (retK Try.prog Try.f82.results.toList (outK 0 (List.range 0) [] (.k) fun v U N => (v, U, N) = (q82 (m82 a0 a1 da2 da3)))) :=
  propOf (x82 a0 a1 da2 da3 _) (leaf_of (l := (decide (imax (IntKind.i64.wrap (IntKind.i64.wrap (1000 * a0) - IntKind.i64.wrap (a1 * m74 (da2.ii 0 0) (da2.ii 0 (0 + 1)) (da2.ii 0 (0 + 1 + 1))))) (IntKind.i64.wrap (0 - IntKind.i64.wrap (IntKind.i64.wrap (1000 * a0) - IntKind.i64.wrap (a1 * m74 (da2.ii 0 0) (da2.ii 0 (0 + 1)) (da2.ii 0 (0 + 1 + 1)))))) ≤ IntKind.i64.wrap (da3.ii 0 0 * m74 (da2.ii 0 0) (da2.ii 0 (0 + 1)) (da2.ii 0 (0 + 1 + 1)))))) rfl rfl)
theorem k82 : CtrOk Try.prog c82 82 := ctr_of (tabOk_cons k74 tabOk_nil) mix_ok 8 (fn := Try.f82) (c := (Try.f82.body.getD .skip)) (grs := []) (rh := .k) (Λ := (fun _ => none)) Try.func82 rfl (by kernel_rfl) noLam fun vs bs q h _ => by
  unfold g82 at h
  split at h <;> cases h
  exact ⟨_, rfl, p82 _ _ _ _⟩
/-! ### shotline/shotlinelaw06.Short -/
/-! #### loop 0 -/
def l23_0 (t0_0 : Nat) (t0_1 : Dat) (t1_0 : Nat) (t1_1 : Dat) : Nat → Int → Option (Bool × (Bool) × (Unit))
  | 0, _ => none
  | f + 1, t5 => (cond ((decide (t5 < (↑t0_0 : Int)))) (cond ((decide (0 ≤ t5 ∧ t5 < (↑t0_0 : Int)))) (cond ((decide (20 < (↑(t0_1.ss t5.toNat 0).size : Int)))) (some (true, false, default)) (l23_0 t0_0 t0_1 t1_0 t1_1 f (IntKind.i64.wrap (t5 + 1)))) none) (some (false, default, ())))
abbrev o23_0 (t0_0 : Nat) (t0_1 : Dat) (t1_0 : Nat) (t1_1 : Dat) (t5 : Int) : Option (Bool × (Bool) × (Unit)) := l23_0 t0_0 t0_1 t1_0 t1_1 (t0_0 + t1_0 + t5.toNat + 8) t5
def e23_0 (t0_0 : Nat) (t0_1 : Dat) (t1_0 : Nat) (t1_1 : Dat) (r : Bool × (Bool) × (Unit)) (K : XR) : Prop := cnd r.1 (K (XE.ret) [.ro [.str, .int .i64, .int .i64] t0_0 t0_1, .ro [.int .i64, .int .i64, .str, .str, .int .i64, .int .i64, .int .i64, .bool] t1_0 t1_1, .bool r.2.1] []) (K (XE.exit 0) [.ro [.str, .int .i64, .int .i64] t0_0 t0_1, .ro [.int .i64, .int .i64, .str, .str, .int .i64, .int .i64, .int .i64, .bool] t1_0 t1_1, .any] [])
def g23_0 : LSum := fun s k => match czv 0 70 [0, 1, 5] 0 [] s with
  | some ([.ro [.str, .int .i64, .int .i64] t0_0 t0_1, .ro [.int .i64, .int .i64, .str, .str, .int .i64, .int .i64, .int .i64, .bool] t1_0 t1_1, .int .i64 t5], []) => needs [(o23_0 t0_0 t0_1 t1_0 t1_1 t5).isSome] (e23_0 t0_0 t0_1 t1_0 t1_1 ((o23_0 t0_0 t0_1 t1_0 t1_1 t5).getD default) fun e vs bs => inBlk 0 k e (mkSt 0 70 [0, 1, 4] vs 0 bs))
  | _ => False
theorem y23_0 (t0_0 : Nat) (t0_1 : Dat) (t1_0 : Nat) (t1_1 : Dat) (t5 : Int) (R : XR) : exec Try.prog [] (fun _ => none) 8 (unloop (bodyAt (Try.f23.body.getD .skip) 0)) (mkSt 0 70 [0, 1, 5] [.ro [.str, .int .i64, .int .i64] t0_0 t0_1, .ro [.int .i64, .int .i64, .str, .str, .int .i64, .int .i64, .int .i64, .bool] t1_0 t1_1, .int .i64 t5] 0 []) (canonK 0 70 [0, 1, 5] [0, 1, 4] 0 [] R) =
  (cnd ((decide (t5 < (↑t0_0 : Int))))
  (cnd ((decide (0 ≤ t5 ∧ t5 < (↑t0_0 : Int))))
   (cnd ((decide (20 < (↑(t0_1.ss t5.toNat 0).size : Int))))
    (R (XE.ret) [.ro [.str, .int .i64, .int .i64] t0_0 t0_1, .ro [.int .i64, .int .i64, .str, .str, .int .i64, .int .i64, .int .i64, .bool] t1_0 t1_1, .bool false] [])
    (R (XE.normal) [.ro [.str, .int .i64, .int .i64] t0_0 t0_1, .ro [.int .i64, .int .i64, .str, .str, .int .i64, .int .i64, .int .i64, .bool] t1_0 t1_1, .int .i64 (IntKind.i64.wrap (t5 + 1))] []))
   False)
  (R (XE.exit 0) [.ro [.str, .int .i64, .int .i64] t0_0 t0_1, .ro [.int .i64, .int .i64, .str, .str, .int .i64, .int .i64, .int .i64, .bool] t1_0 t1_1, .any] [])) := by kernel_rfl
theorem z23_0 : LOk Try.prog g23_0 (.block 0 (bodyAt (Try.f23.body.getD .skip) 0)) := by
  refine loop_blk (ι := Nat × Dat × Nat × Dat × Int) (L := []) (Λ := (fun _ => none)) (fuel := 8) (na := 0) (nt := 70) (nx := 0) (Lh := [0, 1, 5]) (Le := [0, 1, 4]) (gl := []) tabOk_nil mix_ok noLam rfl (fun f x K => GG default (e23_0 x.1 x.2.1 x.2.2.1 x.2.2.2.1) K (l23_0 x.1 x.2.1 x.2.2.1 x.2.2.2.1 f x.2.2.2.2)) (fun x => [.ro [.str, .int .i64, .int .i64] x.1 x.2.1, .ro [.int .i64, .int .i64, .str, .str, .int .i64, .int .i64, .int .i64, .bool] x.2.2.1 x.2.2.2.1, .int .i64 x.2.2.2.2]) (fun x => []) (fun x K => gg_none) ?_ ?_
  · rintro f ⟨t0_0, t0_1, t1_0, t1_1, t5⟩ K hG
    have hG : GG default (e23_0 t0_0 t0_1 t1_0 t1_1) K (cond ((decide (t5 < (↑t0_0 : Int)))) (cond ((decide (0 ≤ t5 ∧ t5 < (↑t0_0 : Int)))) (cond ((decide (20 < (↑(t0_1.ss t5.toNat 0).size : Int)))) (some (true, false, default)) (l23_0 t0_0 t0_1 t1_0 t1_1 f (IntKind.i64.wrap (t5 + 1)))) none) (some (false, default, ()))) := hG
    refine propOf (y23_0 t0_0 t0_1 t1_0 t1_1 t5 _) ?_
    exact cnd_gg2 hG (fun h0 => cnd_gg h0 fun h1 => cnd_gg2 h1 (fun h2 => h2.2) (fun h2 => ⟨(t0_0, t0_1, t1_0, t1_1, (IntKind.i64.wrap (t5 + 1))), rfl, rfl, h2⟩)) (fun h0 => h0.2)
  · intro s k h
    unfold g23_0 at h
    split at h <;> try exact h.elim
    rename_i e1
    rw [needs_iff] at h
    exact ⟨_, e1, _, (_, _, _, _, _), rfl, rfl, h.1 _ (List.mem_singleton.2 rfl), h.2⟩
/-! #### loop 2 -/
def l23_2 (t0_0 : Nat) (t0_1 : Dat) (t1_0 : Nat) (t1_1 : Dat) : Nat → Int → Option (Bool × (Bool) × (Unit))
  | 0, _ => none
  | f + 1, t6 => (cond ((decide (t6 < (↑t1_0 : Int)))) (cond ((decide (0 ≤ t6 ∧ t6 < (↑t1_0 : Int)))) (cond ((bif (bif (bif (decide (20 < (↑(t1_1.ss t6.toNat (0 + 1 + 1)).size : Int))) then false else true) then false else true) then true else (decide (0 ≤ t6 ∧ t6 < (↑t1_0 : Int))))) (cond ((bif (decide (20 < (↑(t1_1.ss t6.toNat (0 + 1 + 1)).size : Int))) then true else (decide (20 < (↑(t1_1.ss t6.toNat (0 + 1 + 1 + 1)).size : Int))))) (some (true, false, default)) (l23_2 t0_0 t0_1 t1_0 t1_1 f (IntKind.i64.wrap (t6 + 1)))) none) none) (some (false, default, ())))
abbrev o23_2 (t0_0 : Nat) (t0_1 : Dat) (t1_0 : Nat) (t1_1 : Dat) (t6 : Int) : Option (Bool × (Bool) × (Unit)) := l23_2 t0_0 t0_1 t1_0 t1_1 (t0_0 + t1_0 + t6.toNat + 8) t6
def e23_2 (t0_0 : Nat) (t0_1 : Dat) (t1_0 : Nat) (t1_1 : Dat) (r : Bool × (Bool) × (Unit)) (K : XR) : Prop := cnd r.1 (K (XE.ret) [.ro [.str, .int .i64, .int .i64] t0_0 t0_1, .ro [.int .i64, .int .i64, .str, .str, .int .i64, .int .i64, .int .i64, .bool] t1_0 t1_1, .bool r.2.1] []) (K (XE.exit 2) [.ro [.str, .int .i64, .int .i64] t0_0 t0_1, .ro [.int .i64, .int .i64, .str, .str, .int .i64, .int .i64, .int .i64, .bool] t1_0 t1_1, .any] [])
def g23_2 : LSum := fun s k => match czv 0 70 [0, 1, 6] 0 [] s with
  | some ([.ro [.str, .int .i64, .int .i64] t0_0 t0_1, .ro [.int .i64, .int .i64, .str, .str, .int .i64, .int .i64, .int .i64, .bool] t1_0 t1_1, .int .i64 t6], []) => needs [(o23_2 t0_0 t0_1 t1_0 t1_1 t6).isSome] (e23_2 t0_0 t0_1 t1_0 t1_1 ((o23_2 t0_0 t0_1 t1_0 t1_1 t6).getD default) fun e vs bs => inBlk 2 k e (mkSt 0 70 [0, 1, 4] vs 0 bs))
  | _ => False
theorem y23_2 (t0_0 : Nat) (t0_1 : Dat) (t1_0 : Nat) (t1_1 : Dat) (t6 : Int) (R : XR) : exec Try.prog [] (lamOf [(0, g23_0)]) 8 (unloop (bodyAt (Try.f23.body.getD .skip) 2)) (mkSt 0 70 [0, 1, 6] [.ro [.str, .int .i64, .int .i64] t0_0 t0_1, .ro [.int .i64, .int .i64, .str, .str, .int .i64, .int .i64, .int .i64, .bool] t1_0 t1_1, .int .i64 t6] 0 []) (canonK 0 70 [0, 1, 6] [0, 1, 4] 0 [] R) =
  (cnd ((decide (t6 < (↑t1_0 : Int))))
  (cnd ((decide (0 ≤ t6 ∧ t6 < (↑t1_0 : Int))))
   (cnd ((bif (bif (bif (decide (20 < (↑(t1_1.ss t6.toNat (0 + 1 + 1)).size : Int))) then false else true) then false else true) then true else (decide (0 ≤ t6 ∧ t6 < (↑t1_0 : Int)))))
    (cnd ((bif (decide (20 < (↑(t1_1.ss t6.toNat (0 + 1 + 1)).size : Int))) then true else (decide (20 < (↑(t1_1.ss t6.toNat (0 + 1 + 1 + 1)).size : Int)))))
     (R (XE.ret) [.ro [.str, .int .i64, .int .i64] t0_0 t0_1, .ro [.int .i64, .int .i64, .str, .str, .int .i64, .int .i64, .int .i64, .bool] t1_0 t1_1, .bool false] [])
     (R (XE.normal) [.ro [.str, .int .i64, .int .i64] t0_0 t0_1, .ro [.int .i64, .int .i64, .str, .str, .int .i64, .int .i64, .int .i64, .bool] t1_0 t1_1, .int .i64 (IntKind.i64.wrap (t6 + 1))] []))
    False)
   False)
  (R (XE.exit 2) [.ro [.str, .int .i64, .int .i64] t0_0 t0_1, .ro [.int .i64, .int .i64, .str, .str, .int .i64, .int .i64, .int .i64, .bool] t1_0 t1_1, .any] [])) := by kernel_rfl
theorem z23_2 : LOk Try.prog g23_2 (.block 2 (bodyAt (Try.f23.body.getD .skip) 2)) := by
  refine loop_blk (ι := Nat × Dat × Nat × Dat × Int) (L := []) (Λ := (lamOf [(0, g23_0)])) (fuel := 8) (na := 0) (nt := 70) (nx := 0) (Lh := [0, 1, 6]) (Le := [0, 1, 4]) (gl := []) tabOk_nil mix_ok (lam_of rfl (lams_cons z23_0 lams_nil)) rfl (fun f x K => GG default (e23_2 x.1 x.2.1 x.2.2.1 x.2.2.2.1) K (l23_2 x.1 x.2.1 x.2.2.1 x.2.2.2.1 f x.2.2.2.2)) (fun x => [.ro [.str, .int .i64, .int .i64] x.1 x.2.1, .ro [.int .i64, .int .i64, .str, .str, .int .i64, .int .i64, .int .i64, .bool] x.2.2.1 x.2.2.2.1, .int .i64 x.2.2.2.2]) (fun x => []) (fun x K => gg_none) ?_ ?_
  · rintro f ⟨t0_0, t0_1, t1_0, t1_1, t6⟩ K hG
    have hG : GG default (e23_2 t0_0 t0_1 t1_0 t1_1) K (cond ((decide (t6 < (↑t1_0 : Int)))) (cond ((decide (0 ≤ t6 ∧ t6 < (↑t1_0 : Int)))) (cond ((bif (bif (bif (decide (20 < (↑(t1_1.ss t6.toNat (0 + 1 + 1)).size : Int))) then false else true) then false else true) then true else (decide (0 ≤ t6 ∧ t6 < (↑t1_0 : Int))))) (cond ((bif (decide (20 < (↑(t1_1.ss t6.toNat (0 + 1 + 1)).size : Int))) then true else (decide (20 < (↑(t1_1.ss t6.toNat (0 + 1 + 1 + 1)).size : Int))))) (some (true, false, default)) (l23_2 t0_0 t0_1 t1_0 t1_1 f (IntKind.i64.wrap (t6 + 1)))) none) none) (some (false, default, ()))) := hG
    refine propOf (y23_2 t0_0 t0_1 t1_0 t1_1 t6 _) ?_
    exact cnd_gg2 hG (fun h0 => cnd_gg h0 fun h1 => cnd_gg h1 fun h2 => cnd_gg2 h2 (fun h3 => h3.2) (fun h3 => ⟨(t0_0, t0_1, t1_0, t1_1, (IntKind.i64.wrap (t6 + 1))), rfl, rfl, h3⟩)) (fun h0 => h0.2)
  · intro s k h
    unfold g23_2 at h
    split at h <;> try exact h.elim
    rename_i e1
    rw [needs_iff] at h
    exact ⟨_, e1, _, (_, _, _, _, _), rfl, rfl, h.1 _ (List.mem_singleton.2 rfl), h.2⟩
theorem x23 (na0 : Nat) (da0 : Dat) (na1 : Nat) (da1 : Dat) (R : SV → List Blk → List Blk → Prop) : exec Try.prog [] (lamOf [(0, g23_0), (2, g23_2)]) 8 (Try.f23.body.getD .skip) (initS Try.f23.ntmps [.ro [.str, .int .i64, .int .i64] na0 da0, .ro [.int .i64, .int .i64, .str, .str, .int .i64, .int .i64, .int .i64, .bool] na1 da1] 0 (memOf [])) (retK Try.prog Try.f23.results.toList (outK 0 (List.range 0) [] (.k) fun v U N => R v U N)) =
  (cnd (((o23_0 na0 da0 na1 da1 0).isSome))
  (cnd ((((o23_0 na0 da0 na1 da1 0).getD default).fst))
   (R (.bool (((o23_0 na0 da0 na1 da1 0).getD default).snd.fst)) [] [])
   (cnd (((o23_2 na0 da0 na1 da1 0).isSome))
    (cnd ((((o23_2 na0 da0 na1 da1 0).getD default).fst))
     (R (.bool (((o23_2 na0 da0 na1 da1 0).getD default).snd.fst)) [] [])
     (R (.bool (bif (bif (decide ((↑na0 : Int) ≤ 5)) then true else (bif (decide (20 < (↑na0 : Int))) then (decide ((↑na0 : Int) ≤ 22)) else false)) then (bif (decide ((↑na1 : Int) ≤ 12)) then true else (bif (decide (200 < (↑na1 : Int))) then (decide ((↑na1 : Int) ≤ 202)) else false)) else false)) [] []))
    False))
  False) := by kernel_rfl
def m23 (na0 : Nat) (da0 : Dat) (na1 : Nat) (da1 : Dat) : Bool :=
  (cond ((((o23_0 na0 da0 na1 da1 0).getD default).fst)) (((o23_0 na0 da0 na1 da1 0).getD default).snd.fst) (cond ((((o23_2 na0 da0 na1 da1 0).getD default).fst)) (((o23_2 na0 da0 na1 da1 0).getD default).snd.fst) (bif (bif (decide ((↑na0 : Int) ≤ 5)) then true else (bif (decide (20 < (↑na0 : Int))) then (decide ((↑na0 : Int) ≤ 22)) else false)) then (bif (decide ((↑na1 : Int) ≤ 12)) then true else (bif (decide (200 < (↑na1 : Int))) then (decide ((↑na1 : Int) ≤ 202)) else false)) else false)))
def n23 (na0 : Nat) (da0 : Dat) (na1 : Nat) (da1 : Dat) : Bool :=
  ((((o23_0 na0 da0 na1 da1 0).isSome)) && (cond ((((o23_0 na0 da0 na1 da1 0).getD default).fst)) true ((((o23_2 na0 da0 na1 da1 0).isSome)) && true)))
def q23 (r : Bool) : SV × List Blk × List Blk := (.bool r, [], [])
def g23 : List SV → List Blk → Option OpRes := fun vs bs => match vs, bs with
  | [.ro [.str, .int .i64, .int .i64] na0 da0, .ro [.int .i64, .int .i64, .str, .str, .int .i64, .int .i64, .int .i64, .bool] na1 da1], [] => some (resOf 0 (q23 (m23 na0 da0 na1 da1)) [n23 na0 da0 na1 da1])
  | _, _ => none
def c23 : Ctr := genC [.ro [.str, .int .i64, .int .i64], .ro [.int .i64, .int .i64, .str, .str, .int .i64, .int .i64, .int .i64, .bool]] g23
theorem p23 (na0 : Nat) (da0 : Dat) (na1 : Nat) (da1 : Dat) (hn : n23 na0 da0 na1 da1 = true) : exec Try.prog [] (lamOf [(0, g23_0), (2, g23_2)]) 8 (Try.f23.body.getD .skip) (initS Try.f23.ntmps [.ro [.str, .int .i64, .int .i64] na0 da0, .ro [.int .i64, .int .i64, .str, .str, .int .i64, .int .i64, .int .i64, .bool] na1 da1] 0 (memOf [])) (retK Try.prog Try.f23.results.toList (outK 0 (List.range 0) [] (.k) fun v U N => (v, U, N) = (q23 (m23 na0 da0 na1 da1)))) :=
  propOf (x23 na0 da0 na1 da1 _) (cnd_need (and_l hn) (cnd_of (fun h0 => leaf_of (l := (((o23_0 na0 da0 na1 da1 0).getD default).snd.fst)) (condT h0 rfl) rfl) (fun h0 => cnd_need (and_l (cond_f h0 (and_r hn))) (cnd_of (fun h1 => leaf_of (l := (((o23_2 na0 da0 na1 da1 0).getD default).snd.fst)) (condF h0 (condT h1 rfl)) rfl) (fun h1 => leaf_of (l := (bif (bif (decide ((↑na0 : Int) ≤ 5)) then true else (bif (decide (20 < (↑na0 : Int))) then (decide ((↑na0 : Int) ≤ 22)) else false)) then (bif (decide ((↑na1 : Int) ≤ 12)) then true else (bif (decide (200 < (↑na1 : Int))) then (decide ((↑na1 : Int) ≤ 202)) else false)) else false)) (condF h0 (condF h1 rfl)) rfl)))))
theorem k23 : CtrOk Try.prog c23 23 := ctr_of tabOk_nil mix_ok 8 (fn := Try.f23) (c := (Try.f23.body.getD .skip)) (grs := []) (rh := .k) (Λ := (lamOf [(0, g23_0), (2, g23_2)])) Try.func23 rfl (by kernel_rfl) (lam_of rfl (lams_cons z23_0 (lams_cons z23_2 lams_nil))) fun vs bs q h hn => by
  unfold g23 at h
  split at h <;> cases h
  exact ⟨_, rfl, p23 _ _ _ _ (hn _ (List.mem_singleton.2 rfl))⟩
/-! ### shotline/mix.isName -/
/-! #### loop 0 -/
def l78_0 (t0 : ByteArray) (t6 : Int) : Nat → Int → Option (Bool × (Bool) × (Unit))
  | 0, _ => none
  | f + 1, t7 => (cond ((decide (t7 < t6))) (cond ((decide (0 ≤ t7 ∧ t7 < (↑t0.size : Int)))) (cond ((bif (bif (decide (97 ≤ byteAt t0 t7.toNat)) then false else true) then true else (decide (0 ≤ t7 ∧ t7 < (↑t0.size : Int))))) (cond ((bif (bif (bif (bif (decide (97 ≤ byteAt t0 t7.toNat)) then (decide (byteAt t0 t7.toNat ≤ 122)) else false) then false else true) then false else true) then true else (decide (0 ≤ t7 ∧ t7 < (↑t0.size : Int))))) (cond ((bif (bif (bif (bif (bif (decide (97 ≤ byteAt t0 t7.toNat)) then (decide (byteAt t0 t7.toNat ≤ 122)) else false) then false else true) then (decide (65 ≤ byteAt t0 t7.toNat)) else false) then false else true) then true else (decide (0 ≤ t7 ∧ t7 < (↑t0.size : Int))))) (cond ((bif (bif (bif (bif (bif (bif (decide (97 ≤ byteAt t0 t7.toNat)) then (decide (byteAt t0 t7.toNat ≤ 122)) else false) then true else (bif (decide (65 ≤ byteAt t0 t7.toNat)) then (decide (byteAt t0 t7.toNat ≤ 90)) else false)) then false else true) then (bif (decide (t7 = 0)) then false else true) else false) then false else true) then true else (decide (0 ≤ t7 ∧ t7 < (↑t0.size : Int))))) (cond ((bif (bif (bif (bif (bif (bif (bif (decide (97 ≤ byteAt t0 t7.toNat)) then (decide (byteAt t0 t7.toNat ≤ 122)) else false) then true else (bif (decide (65 ≤ byteAt t0 t7.toNat)) then (decide (byteAt t0 t7.toNat ≤ 90)) else false)) then false else true) then (bif (decide (t7 = 0)) then false else true) else false) then (bif (decide (byteAt t0 t7.toNat = 45)) then false else true) else false) then false else true) then true else (decide (0 ≤ t7 ∧ t7 < (↑t0.size : Int))))) (cond ((bif (bif (bif (bif (bif (bif (bif (bif (decide (97 ≤ byteAt t0 t7.toNat)) then (decide (byteAt t0 t7.toNat ≤ 122)) else false) then true else (bif (decide (65 ≤ byteAt t0 t7.toNat)) then (decide (byteAt t0 t7.toNat ≤ 90)) else false)) then false else true) then (bif (decide (t7 = 0)) then false else true) else false) then (bif (decide (byteAt t0 t7.toNat = 45)) then false else true) else false) then (bif (decide (byteAt t0 t7.toNat < 48)) then false else true) else false) then false else true) then true else (decide (0 ≤ t7 ∧ t7 < (↑t0.size : Int))))) (cond ((bif (bif (bif (bif (decide (97 ≤ byteAt t0 t7.toNat)) then (decide (byteAt t0 t7.toNat ≤ 122)) else false) then true else (bif (decide (65 ≤ byteAt t0 t7.toNat)) then (decide (byteAt t0 t7.toNat ≤ 90)) else false)) then false else true) then (bif (decide (t7 = 0)) then true else (bif (bif (decide (byteAt t0 t7.toNat = 45)) then false else true) then (bif (decide (byteAt t0 t7.toNat < 48)) then true else (decide (57 < byteAt t0 t7.toNat))) else false)) else false)) (some (true, false, default)) (l78_0 t0 t6 f (IntKind.i64.wrap (t7 + 1)))) none) none) none) none) none) none) none) (some (false, default, ())))
abbrev o78_0 (t0 : ByteArray) (t6 : Int) (t7 : Int) : Option (Bool × (Bool) × (Unit)) := l78_0 t0 t6 (t0.size + t6.toNat + t7.toNat + 8) t7
def e78_0 (t0 : ByteArray) (t6 : Int) (r : Bool × (Bool) × (Unit)) (K : XR) : Prop := cnd r.1 (K (XE.ret) [.str t0, .bool r.2.1] []) (K (XE.exit 0) [.str t0, .any] [])
def g78_0 : LSum := fun s k => match czv 0 64 [0, 6, 7] 0 [] s with
  | some ([.str t0, .int .i64 t6, .int .i64 t7], []) => needs [(o78_0 t0 t6 t7).isSome] (e78_0 t0 t6 ((o78_0 t0 t6 t7).getD default) fun e vs bs => inBlk 0 k e (mkSt 0 64 [0, 2] vs 0 bs))
  | _ => False
theorem y78_0 (t0 : ByteArray) (t6 : Int) (t7 : Int) (R : XR) : exec Try.prog [] (fun _ => none) 8 (unloop (bodyAt (Try.f78.body.getD .skip) 0)) (mkSt 0 64 [0, 6, 7] [.str t0, .int .i64 t6, .int .i64 t7] 0 []) (canonK 0 64 [0, 6, 7] [0, 2] 0 [] R) =
  (cnd ((decide (t7 < t6)))
  (cnd ((decide (0 ≤ t7 ∧ t7 < (↑t0.size : Int))))
   (cnd ((bif (bif (decide (97 ≤ byteAt t0 t7.toNat)) then false else true) then true else (decide (0 ≤ t7 ∧ t7 < (↑t0.size : Int)))))
    (cnd ((bif (bif (bif (bif (decide (97 ≤ byteAt t0 t7.toNat)) then (decide (byteAt t0 t7.toNat ≤ 122)) else false) then false else true) then false else true) then true else (decide (0 ≤ t7 ∧ t7 < (↑t0.size : Int)))))
     (cnd ((bif (bif (bif (bif (bif (decide (97 ≤ byteAt t0 t7.toNat)) then (decide (byteAt t0 t7.toNat ≤ 122)) else false) then false else true) then (decide (65 ≤ byteAt t0 t7.toNat)) else false) then false else true) then true else (decide (0 ≤ t7 ∧ t7 < (↑t0.size : Int)))))
      (cnd ((bif (bif (bif (bif (bif (bif (decide (97 ≤ byteAt t0 t7.toNat)) then (decide (byteAt t0 t7.toNat ≤ 122)) else false) then true else (bif (decide (65 ≤ byteAt t0 t7.toNat)) then (decide (byteAt t0 t7.toNat ≤ 90)) else false)) then false else true) then (bif (decide (t7 = 0)) then false else true) else false) then false else true) then true else (decide (0 ≤ t7 ∧ t7 < (↑t0.size : Int)))))
       (cnd ((bif (bif (bif (bif (bif (bif (bif (decide (97 ≤ byteAt t0 t7.toNat)) then (decide (byteAt t0 t7.toNat ≤ 122)) else false) then true else (bif (decide (65 ≤ byteAt t0 t7.toNat)) then (decide (byteAt t0 t7.toNat ≤ 90)) else false)) then false else true) then (bif (decide (t7 = 0)) then false else true) else false) then (bif (decide (byteAt t0 t7.toNat = 45)) then false else true) else false) then false else true) then true else (decide (0 ≤ t7 ∧ t7 < (↑t0.size : Int)))))
        (cnd ((bif (bif (bif (bif (bif (bif (bif (bif (decide (97 ≤ byteAt t0 t7.toNat)) then (decide (byteAt t0 t7.toNat ≤ 122)) else false) then true else (bif (decide (65 ≤ byteAt t0 t7.toNat)) then (decide (byteAt t0 t7.toNat ≤ 90)) else false)) then false else true) then (bif (decide (t7 = 0)) then false else true) else false) then (bif (decide (byteAt t0 t7.toNat = 45)) then false else true) else false) then (bif (decide (byteAt t0 t7.toNat < 48)) then false else true) else false) then false else true) then true else (decide (0 ≤ t7 ∧ t7 < (↑t0.size : Int)))))
         (cnd ((bif (bif (bif (bif (decide (97 ≤ byteAt t0 t7.toNat)) then (decide (byteAt t0 t7.toNat ≤ 122)) else false) then true else (bif (decide (65 ≤ byteAt t0 t7.toNat)) then (decide (byteAt t0 t7.toNat ≤ 90)) else false)) then false else true) then (bif (decide (t7 = 0)) then true else (bif (bif (decide (byteAt t0 t7.toNat = 45)) then false else true) then (bif (decide (byteAt t0 t7.toNat < 48)) then true else (decide (57 < byteAt t0 t7.toNat))) else false)) else false))
          (R (XE.ret) [.str t0, .bool false] [])
          (R (XE.normal) [.str t0, .int .i64 t6, .int .i64 (IntKind.i64.wrap (t7 + 1))] []))
         False)
        False)
       False)
      False)
     False)
    False)
   False)
  (R (XE.exit 0) [.str t0, .any] [])) := by kernel_rfl
theorem z78_0 : LOk Try.prog g78_0 (.block 0 (bodyAt (Try.f78.body.getD .skip) 0)) := by
  refine loop_blk (ι := ByteArray × Int × Int) (L := []) (Λ := (fun _ => none)) (fuel := 8) (na := 0) (nt := 64) (nx := 0) (Lh := [0, 6, 7]) (Le := [0, 2]) (gl := []) tabOk_nil mix_ok noLam rfl (fun f x K => GG default (e78_0 x.1 x.2.1) K (l78_0 x.1 x.2.1 f x.2.2)) (fun x => [.str x.1, .int .i64 x.2.1, .int .i64 x.2.2]) (fun x => []) (fun x K => gg_none) ?_ ?_
  · rintro f ⟨t0, t6, t7⟩ K hG
    have hG : GG default (e78_0 t0 t6) K (cond ((decide (t7 < t6))) (cond ((decide (0 ≤ t7 ∧ t7 < (↑t0.size : Int)))) (cond ((bif (bif (decide (97 ≤ byteAt t0 t7.toNat)) then false else true) then true else (decide (0 ≤ t7 ∧ t7 < (↑t0.size : Int))))) (cond ((bif (bif (bif (bif (decide (97 ≤ byteAt t0 t7.toNat)) then (decide (byteAt t0 t7.toNat ≤ 122)) else false) then false else true) then false else true) then true else (decide (0 ≤ t7 ∧ t7 < (↑t0.size : Int))))) (cond ((bif (bif (bif (bif (bif (decide (97 ≤ byteAt t0 t7.toNat)) then (decide (byteAt t0 t7.toNat ≤ 122)) else false) then false else true) then (decide (65 ≤ byteAt t0 t7.toNat)) else false) then false else true) then true else (decide (0 ≤ t7 ∧ t7 < (↑t0.size : Int))))) (cond ((bif (bif (bif (bif (bif (bif (decide (97 ≤ byteAt t0 t7.toNat)) then (decide (byteAt t0 t7.toNat ≤ 122)) else false) then true else (bif (decide (65 ≤ byteAt t0 t7.toNat)) then (decide (byteAt t0 t7.toNat ≤ 90)) else false)) then false else true) then (bif (decide (t7 = 0)) then false else true) else false) then false else true) then true else (decide (0 ≤ t7 ∧ t7 < (↑t0.size : Int))))) (cond ((bif (bif (bif (bif (bif (bif (bif (decide (97 ≤ byteAt t0 t7.toNat)) then (decide (byteAt t0 t7.toNat ≤ 122)) else false) then true else (bif (decide (65 ≤ byteAt t0 t7.toNat)) then (decide (byteAt t0 t7.toNat ≤ 90)) else false)) then false else true) then (bif (decide (t7 = 0)) then false else true) else false) then (bif (decide (byteAt t0 t7.toNat = 45)) then false else true) else false) then false else true) then true else (decide (0 ≤ t7 ∧ t7 < (↑t0.size : Int))))) (cond ((bif (bif (bif (bif (bif (bif (bif (bif (decide (97 ≤ byteAt t0 t7.toNat)) then (decide (byteAt t0 t7.toNat ≤ 122)) else false) then true else (bif (decide (65 ≤ byteAt t0 t7.toNat)) then (decide (byteAt t0 t7.toNat ≤ 90)) else false)) then false else true) then (bif (decide (t7 = 0)) then false else true) else false) then (bif (decide (byteAt t0 t7.toNat = 45)) then false else true) else false) then (bif (decide (byteAt t0 t7.toNat < 48)) then false else true) else false) then false else true) then true else (decide (0 ≤ t7 ∧ t7 < (↑t0.size : Int))))) (cond ((bif (bif (bif (bif (decide (97 ≤ byteAt t0 t7.toNat)) then (decide (byteAt t0 t7.toNat ≤ 122)) else false) then true else (bif (decide (65 ≤ byteAt t0 t7.toNat)) then (decide (byteAt t0 t7.toNat ≤ 90)) else false)) then false else true) then (bif (decide (t7 = 0)) then true else (bif (bif (decide (byteAt t0 t7.toNat = 45)) then false else true) then (bif (decide (byteAt t0 t7.toNat < 48)) then true else (decide (57 < byteAt t0 t7.toNat))) else false)) else false)) (some (true, false, default)) (l78_0 t0 t6 f (IntKind.i64.wrap (t7 + 1)))) none) none) none) none) none) none) none) (some (false, default, ()))) := hG
    refine propOf (y78_0 t0 t6 t7 _) ?_
    exact cnd_gg2 hG (fun h0 => cnd_gg h0 fun h1 => cnd_gg h1 fun h2 => cnd_gg h2 fun h3 => cnd_gg h3 fun h4 => cnd_gg h4 fun h5 => cnd_gg h5 fun h6 => cnd_gg h6 fun h7 => cnd_gg2 h7 (fun h8 => h8.2) (fun h8 => ⟨(t0, t6, (IntKind.i64.wrap (t7 + 1))), rfl, rfl, h8⟩)) (fun h0 => h0.2)
  · intro s k h
    unfold g78_0 at h
    split at h <;> try exact h.elim
    rename_i e1
    rw [needs_iff] at h
    exact ⟨_, e1, _, (_, _, _), rfl, rfl, h.1 _ (List.mem_singleton.2 rfl), h.2⟩
theorem x78 (a0 : ByteArray) (R : SV → List Blk → List Blk → Prop) : exec Try.prog [] (lamOf [(0, g78_0)]) 8 (Try.f78.body.getD .skip) (initS Try.f78.ntmps [.str a0] 0 (memOf [])) (retK Try.prog Try.f78.results.toList (outK 0 (List.range 0) [] (.k) fun v U N => R v U N)) =
  (cnd (((o78_0 a0 (↑a0.size : Int) 0).isSome))
  (cnd ((((o78_0 a0 (↑a0.size : Int) 0).getD default).fst))
   (R (.bool (((o78_0 a0 (↑a0.size : Int) 0).getD default).snd.fst)) [] [])
   (R (.bool (bif (bif (decide (a0 = { data := #[] })) then false else true) then (decide ((↑a0.size : Int) ≤ 12)) else false)) [] []))
  False) := by kernel_rfl
def m78 (a0 : ByteArray) : Bool :=
  (cond ((((o78_0 a0 (↑a0.size : Int) 0).getD default).fst)) (((o78_0 a0 (↑a0.size : Int) 0).getD default).snd.fst) (bif (bif (decide (a0 = { data := #[] })) then false else true) then (decide ((↑a0.size : Int) ≤ 12)) else false))
def n78 (a0 : ByteArray) : Bool :=
  ((((o78_0 a0 (↑a0.size : Int) 0).isSome)) && true)
def q78 (r : Bool) : SV × List Blk × List Blk := (.bool r, [], [])
def g78 : List SV → List Blk → Option OpRes := fun vs bs => match vs, bs with
  | [.str a0], [] => some (resOf 0 (q78 (m78 a0)) [n78 a0])
  | _, _ => none
def c78 : Ctr := genC [.k] g78
theorem p78 (a0 : ByteArray) (hn : n78 a0 = true) : exec Try.prog [] (lamOf [(0, g78_0)]) 8 (Try.f78.body.getD .skip) (initS Try.f78.ntmps [.str a0] 0 (memOf [])) (retK Try.prog Try.f78.results.toList (outK 0 (List.range 0) [] (.k) fun v U N => (v, U, N) = (q78 (m78 a0)))) :=
  propOf (x78 a0 _) (cnd_need (and_l hn) (cnd_of (fun h0 => leaf_of (l := (((o78_0 a0 (↑a0.size : Int) 0).getD default).snd.fst)) (condT h0 rfl) rfl) (fun h0 => leaf_of (l := (bif (bif (decide (a0 = { data := #[] })) then false else true) then (decide ((↑a0.size : Int) ≤ 12)) else false)) (condF h0 rfl) rfl)))
theorem k78 : CtrOk Try.prog c78 78 := ctr_of tabOk_nil mix_ok 8 (fn := Try.f78) (c := (Try.f78.body.getD .skip)) (grs := []) (rh := .k) (Λ := (lamOf [(0, g78_0)])) Try.func78 rfl (by kernel_rfl) (lam_of rfl (lams_cons z78_0 lams_nil)) fun vs bs q h hn => by
  unfold g78 at h
  split at h <;> cases h
  exact ⟨_, rfl, p78 _ (hn _ (List.mem_singleton.2 rfl))⟩
/-! ### shotline/shotlinebase.IsName -/
/-! #### loop 0 -/
def l80_0 (t0 : ByteArray) : Nat → Int → Option (Bool × (Bool) × (Unit))
  | 0, _ => none
  | f + 1, t3 => (cond ((decide (t3 < (↑t0.size : Int)))) (cond ((decide (0 ≤ t3 ∧ t3 < (↑t0.size : Int)))) (cond ((bif (bif (bif (bif (decide (97 ≤ byteAt t0 t3.toNat)) then (decide (byteAt t0 t3.toNat ≤ 122)) else false) then true else (bif (decide (65 ≤ byteAt t0 t3.toNat)) then (decide (byteAt t0 t3.toNat ≤ 90)) else false)) then false else true) then (bif (decide (t3 = 0)) then true else (bif (bif (decide (byteAt t0 t3.toNat = 45)) then false else true) then (bif (decide (byteAt t0 t3.toNat < 48)) then true else (decide (57 < byteAt t0 t3.toNat))) else false)) else false)) (some (true, false, default)) (l80_0 t0 f (IntKind.i64.wrap (t3 + 1)))) none) (some (false, default, ())))
abbrev o80_0 (t0 : ByteArray) (t3 : Int) : Option (Bool × (Bool) × (Unit)) := l80_0 t0 (t0.size + t3.toNat + 8) t3
def e80_0 (t0 : ByteArray) (r : Bool × (Bool) × (Unit)) (K : XR) : Prop := cnd r.1 (K (XE.ret) [.bool r.2.1] []) (K (XE.exit 0) [.any] [])
def g80_0 : LSum := fun s k => match czv 0 55 [0, 3] 0 [] s with
  | some ([.str t0, .int .i64 t3], []) => needs [(o80_0 t0 t3).isSome] (e80_0 t0 ((o80_0 t0 t3).getD default) fun e vs bs => inBlk 0 k e (mkSt 0 55 [2] vs 0 bs))
  | _ => False
theorem y80_0 (t0 : ByteArray) (t3 : Int) (R : XR) : exec Try.prog [] (fun _ => none) 8 (unloop (bodyAt (Try.f80.body.getD .skip) 0)) (mkSt 0 55 [0, 3] [.str t0, .int .i64 t3] 0 []) (canonK 0 55 [0, 3] [2] 0 [] R) =
  (cnd ((decide (t3 < (↑t0.size : Int))))
  (cnd ((decide (0 ≤ t3 ∧ t3 < (↑t0.size : Int))))
   (cnd ((bif (bif (bif (bif (decide (97 ≤ byteAt t0 t3.toNat)) then (decide (byteAt t0 t3.toNat ≤ 122)) else false) then true else (bif (decide (65 ≤ byteAt t0 t3.toNat)) then (decide (byteAt t0 t3.toNat ≤ 90)) else false)) then false else true) then (bif (decide (t3 = 0)) then true else (bif (bif (decide (byteAt t0 t3.toNat = 45)) then false else true) then (bif (decide (byteAt t0 t3.toNat < 48)) then true else (decide (57 < byteAt t0 t3.toNat))) else false)) else false))
    (R (XE.ret) [.bool false] [])
    (R (XE.normal) [.str t0, .int .i64 (IntKind.i64.wrap (t3 + 1))] []))
   False)
  (R (XE.exit 0) [.any] [])) := by kernel_rfl
theorem z80_0 : LOk Try.prog g80_0 (.block 0 (bodyAt (Try.f80.body.getD .skip) 0)) := by
  refine loop_blk (ι := ByteArray × Int) (L := []) (Λ := (fun _ => none)) (fuel := 8) (na := 0) (nt := 55) (nx := 0) (Lh := [0, 3]) (Le := [2]) (gl := []) tabOk_nil mix_ok noLam rfl (fun f x K => GG default (e80_0 x.1) K (l80_0 x.1 f x.2)) (fun x => [.str x.1, .int .i64 x.2]) (fun x => []) (fun x K => gg_none) ?_ ?_
  · rintro f ⟨t0, t3⟩ K hG
    have hG : GG default (e80_0 t0) K (cond ((decide (t3 < (↑t0.size : Int)))) (cond ((decide (0 ≤ t3 ∧ t3 < (↑t0.size : Int)))) (cond ((bif (bif (bif (bif (decide (97 ≤ byteAt t0 t3.toNat)) then (decide (byteAt t0 t3.toNat ≤ 122)) else false) then true else (bif (decide (65 ≤ byteAt t0 t3.toNat)) then (decide (byteAt t0 t3.toNat ≤ 90)) else false)) then false else true) then (bif (decide (t3 = 0)) then true else (bif (bif (decide (byteAt t0 t3.toNat = 45)) then false else true) then (bif (decide (byteAt t0 t3.toNat < 48)) then true else (decide (57 < byteAt t0 t3.toNat))) else false)) else false)) (some (true, false, default)) (l80_0 t0 f (IntKind.i64.wrap (t3 + 1)))) none) (some (false, default, ()))) := hG
    refine propOf (y80_0 t0 t3 _) ?_
    exact cnd_gg2 hG (fun h0 => cnd_gg h0 fun h1 => cnd_gg2 h1 (fun h2 => h2.2) (fun h2 => ⟨(t0, (IntKind.i64.wrap (t3 + 1))), rfl, rfl, h2⟩)) (fun h0 => h0.2)
  · intro s k h
    unfold g80_0 at h
    split at h <;> try exact h.elim
    rename_i e1
    rw [needs_iff] at h
    exact ⟨_, e1, _, (_, _), rfl, rfl, h.1 _ (List.mem_singleton.2 rfl), h.2⟩
theorem x80 (a0 : ByteArray) (R : SV → List Blk → List Blk → Prop) : exec Try.prog [] (lamOf [(0, g80_0)]) 8 (Try.f80.body.getD .skip) (initS Try.f80.ntmps [.str a0] 0 (memOf [])) (retK Try.prog Try.f80.results.toList (outK 0 (List.range 0) [] (.k) fun v U N => R v U N)) =
  (cnd ((bif (decide ((↑a0.size : Int) < 1)) then true else (decide (12 < (↑a0.size : Int)))))
  (R (.bool false) [] [])
  (cnd (((o80_0 a0 0).isSome))
   (cnd ((((o80_0 a0 0).getD default).fst))
    (R (.bool (((o80_0 a0 0).getD default).snd.fst)) [] [])
    (R (.bool true) [] []))
   False)) := by kernel_rfl
def m80 (a0 : ByteArray) : Bool :=
  (cond ((bif (decide ((↑a0.size : Int) < 1)) then true else (decide (12 < (↑a0.size : Int))))) false (cond ((((o80_0 a0 0).getD default).fst)) (((o80_0 a0 0).getD default).snd.fst) true))
def n80 (a0 : ByteArray) : Bool :=
  (cond ((bif (decide ((↑a0.size : Int) < 1)) then true else (decide (12 < (↑a0.size : Int))))) true ((((o80_0 a0 0).isSome)) && true))
def q80 (r : Bool) : SV × List Blk × List Blk := (.bool r, [], [])
def g80 : List SV → List Blk → Option OpRes := fun vs bs => match vs, bs with
  | [.str a0], [] => some (resOf 0 (q80 (m80 a0)) [n80 a0])
  | _, _ => none
def c80 : Ctr := genC [.k] g80
theorem p80 (a0 : ByteArray) (hn : n80 a0 = true) : exec Try.prog [] (lamOf [(0, g80_0)]) 8 (Try.f80.body.getD .skip) (initS Try.f80.ntmps [.str a0] 0 (memOf [])) (retK Try.prog Try.f80.results.toList (outK 0 (List.range 0) [] (.k) fun v U N => (v, U, N) = (q80 (m80 a0)))) :=
  propOf (x80 a0 _) (cnd_of (fun h0 => leaf_of (l := false) (condT h0 rfl) rfl) (fun h0 => cnd_need (and_l (cond_f h0 hn)) (cnd_of (fun h1 => leaf_of (l := (((o80_0 a0 0).getD default).snd.fst)) (condF h0 (condT h1 rfl)) rfl) (fun h1 => leaf_of (l := true) (condF h0 (condF h1 rfl)) rfl))))
theorem k80 : CtrOk Try.prog c80 80 := ctr_of tabOk_nil mix_ok 8 (fn := Try.f80) (c := (Try.f80.body.getD .skip)) (grs := []) (rh := .k) (Λ := (lamOf [(0, g80_0)])) Try.func80 rfl (by kernel_rfl) (lam_of rfl (lams_cons z80_0 lams_nil)) fun vs bs q h hn => by
  unfold g80 at h
  split at h <;> cases h
  exact ⟨_, rfl, p80 _ (hn _ (List.mem_singleton.2 rfl))⟩
/-! ### slices.IndexFunc[[]shotline/api.MixSource,shotline/api.MixSource] -/
/-! #### loop 0 -/
def l140c108_0 (t0_0 : Nat) (t0_1 : Dat) (t1 : Dat) (t7 : Int) : Nat → Int → Option (Bool × (Int) × (Unit))
  | 0, _ => none
  | f + 1, t8 => (cond ((decide (t8 < t7))) (cond ((decide (0 ≤ t8 ∧ t8 < (↑t0_0 : Int)))) (cond ((m108 (t0_1.ss t8.toNat 0) (t0_1.ii t8.toNat (0 + 1)) (t0_1.ii t8.toNat (0 + 1 + 1)) (t0_1.ii t8.toNat (0 + 1 + 1 + 1)) (t0_1.ii t8.toNat (0 + 1 + 1 + 1 + 1)) t1)) (some (true, t8, default)) (l140c108_0 t0_0 t0_1 t1 t7 f (IntKind.i64.wrap (t8 + 1)))) none) (some (false, default, ())))
abbrev o140c108_0 (t0_0 : Nat) (t0_1 : Dat) (t1 : Dat) (t7 : Int) (t8 : Int) : Option (Bool × (Int) × (Unit)) := l140c108_0 t0_0 t0_1 t1 t7 (t0_0 + t7.toNat + t8.toNat + 8) t8
def e140c108_0 (t0_0 : Nat) (t0_1 : Dat) (t1 : Dat) (t7 : Int) (r : Bool × (Int) × (Unit)) (K : XR) : Prop := cnd r.1 (K (XE.ret) [.int .i64 r.2.1] []) (K (XE.exit 0) [.any] [])
def g140c108_0 : LSum := fun s k => match czv 0 19 [0, 1, 7, 8] 0 [] s with
  | some ([.ro [.str, .int .i64, .int .i64, .int .i64, .int .i64] t0_0 t0_1, .fn 108 [.rp [.str, .int .i64, .int .i64, .int .i64, .int .i64] t1 0 0], .int .i64 t7, .int .i64 t8], []) => needs [(o140c108_0 t0_0 t0_1 t1 t7 t8).isSome] (e140c108_0 t0_0 t0_1 t1 t7 ((o140c108_0 t0_0 t0_1 t1 t7 t8).getD default) fun e vs bs => inBlk 0 k e (mkSt 0 19 [4] vs 0 bs))
  | _ => False
theorem y140c108_0 (t0_0 : Nat) (t0_1 : Dat) (t1 : Dat) (t7 : Int) (t8 : Int) (R : XR) : exec Try.prog [(108, c108)] (fun _ => none) 8 (unloop (bodyAt (Try.f140.body.getD .skip) 0)) (mkSt 0 19 [0, 1, 7, 8] [.ro [.str, .int .i64, .int .i64, .int .i64, .int .i64] t0_0 t0_1, .fn 108 [.rp [.str, .int .i64, .int .i64, .int .i64, .int .i64] t1 0 0], .int .i64 t7, .int .i64 t8] 0 []) (canonK 0 19 [0, 1, 7, 8] [4] 0 [] R) =
  (cnd ((decide (t8 < t7)))
  (cnd ((decide (0 ≤ t8 ∧ t8 < (↑t0_0 : Int))))
   (cnd ((m108 (t0_1.ss t8.toNat 0) (t0_1.ii t8.toNat (0 + 1)) (t0_1.ii t8.toNat (0 + 1 + 1)) (t0_1.ii t8.toNat (0 + 1 + 1 + 1)) (t0_1.ii t8.toNat (0 + 1 + 1 + 1 + 1)) t1))
    (R (XE.ret) [.int .i64 t8] [])
    (R (XE.normal) [.ro [.str, .int .i64, .int .i64, .int .i64, .int .i64] t0_0 t0_1, .fn 108 [.rp [.str, .int .i64, .int .i64, .int .i64, .int .i64] t1 0 0], .int .i64 t7, .int .i64 (IntKind.i64.wrap (t8 + 1))] []))
   False)
  (R (XE.exit 0) [.any] [])) := by kernel_rfl
theorem z140c108_0 : LOk Try.prog g140c108_0 (.block 0 (bodyAt (Try.f140.body.getD .skip) 0)) := by
  refine loop_blk (ι := Nat × Dat × Dat × Int × Int) (L := [(108, c108)]) (Λ := (fun _ => none)) (fuel := 8) (na := 0) (nt := 19) (nx := 0) (Lh := [0, 1, 7, 8]) (Le := [4]) (gl := []) (tabOk_cons k108 tabOk_nil) mix_ok noLam rfl (fun f x K => GG default (e140c108_0 x.1 x.2.1 x.2.2.1 x.2.2.2.1) K (l140c108_0 x.1 x.2.1 x.2.2.1 x.2.2.2.1 f x.2.2.2.2)) (fun x => [.ro [.str, .int .i64, .int .i64, .int .i64, .int .i64] x.1 x.2.1, .fn 108 [.rp [.str, .int .i64, .int .i64, .int .i64, .int .i64] x.2.2.1 0 0], .int .i64 x.2.2.2.1, .int .i64 x.2.2.2.2]) (fun x => []) (fun x K => gg_none) ?_ ?_
  · rintro f ⟨t0_0, t0_1, t1, t7, t8⟩ K hG
    have hG : GG default (e140c108_0 t0_0 t0_1 t1 t7) K (cond ((decide (t8 < t7))) (cond ((decide (0 ≤ t8 ∧ t8 < (↑t0_0 : Int)))) (cond ((m108 (t0_1.ss t8.toNat 0) (t0_1.ii t8.toNat (0 + 1)) (t0_1.ii t8.toNat (0 + 1 + 1)) (t0_1.ii t8.toNat (0 + 1 + 1 + 1)) (t0_1.ii t8.toNat (0 + 1 + 1 + 1 + 1)) t1)) (some (true, t8, default)) (l140c108_0 t0_0 t0_1 t1 t7 f (IntKind.i64.wrap (t8 + 1)))) none) (some (false, default, ()))) := hG
    refine propOf (y140c108_0 t0_0 t0_1 t1 t7 t8 _) ?_
    exact cnd_gg2 hG (fun h0 => cnd_gg h0 fun h1 => cnd_gg2 h1 (fun h2 => h2.2) (fun h2 => ⟨(t0_0, t0_1, t1, t7, (IntKind.i64.wrap (t8 + 1))), rfl, rfl, h2⟩)) (fun h0 => h0.2)
  · intro s k h
    unfold g140c108_0 at h
    split at h <;> try exact h.elim
    rename_i e1
    rw [needs_iff] at h
    exact ⟨_, e1, _, (_, _, _, _, _), rfl, rfl, h.1 _ (List.mem_singleton.2 rfl), h.2⟩
theorem x140c108 (na0 : Nat) (da0 : Dat) (da1c0 : Dat) (R : SV → List Blk → List Blk → Prop) : exec Try.prog [(108, c108)] (lamOf [(0, g140c108_0)]) 8 (Try.f140.body.getD .skip) (initS Try.f140.ntmps [.ro [.str, .int .i64, .int .i64, .int .i64, .int .i64] na0 da0, .fn 108 [.rp [.str, .int .i64, .int .i64, .int .i64, .int .i64] da1c0 0 0]] 0 (memOf [])) (retK Try.prog Try.f140.results.toList (outK 0 (List.range 0) [] (.k) fun v U N => R v U N)) =
  (cnd (((o140c108_0 na0 da0 da1c0 (↑na0 : Int) 0).isSome))
  (cnd ((((o140c108_0 na0 da0 da1c0 (↑na0 : Int) 0).getD default).fst))
   (R (.int .i64 (((o140c108_0 na0 da0 da1c0 (↑na0 : Int) 0).getD default).snd.fst)) [] [])
   (R (.int .i64 (-1)) [] []))
  False) := by kernel_rfl
def m140c108 (na0 : Nat) (da0 : Dat) (da1c0 : Dat) : Int :=
  (cond ((((o140c108_0 na0 da0 da1c0 (↑na0 : Int) 0).getD default).fst)) (((o140c108_0 na0 da0 da1c0 (↑na0 : Int) 0).getD default).snd.fst) (-1))
def n140c108 (na0 : Nat) (da0 : Dat) (da1c0 : Dat) : Bool :=
  ((((o140c108_0 na0 da0 da1c0 (↑na0 : Int) 0).isSome)) && true)
def q140c108 (r : Int) : SV × List Blk × List Blk := (.int .i64 r, [], [])
def g140c108 : List SV → List Blk → Option OpRes := fun vs bs => match vs, bs with
  | [.ro [.str, .int .i64, .int .i64, .int .i64, .int .i64] na0 da0, .fn 108 [.rp [.str, .int .i64, .int .i64, .int .i64, .int .i64] da1c0 0 0]], [] => some (resOf 0 (q140c108 (m140c108 na0 da0 da1c0)) [n140c108 na0 da0 da1c0])
  | _, _ => none
def c140c108 : Ctr := genC [.ro [.str, .int .i64, .int .i64, .int .i64, .int .i64], .f [.rp [.str, .int .i64, .int .i64, .int .i64, .int .i64]]] g140c108
theorem p140c108 (na0 : Nat) (da0 : Dat) (da1c0 : Dat) (hn : n140c108 na0 da0 da1c0 = true) : exec Try.prog [(108, c108)] (lamOf [(0, g140c108_0)]) 8 (Try.f140.body.getD .skip) (initS Try.f140.ntmps [.ro [.str, .int .i64, .int .i64, .int .i64, .int .i64] na0 da0, .fn 108 [.rp [.str, .int .i64, .int .i64, .int .i64, .int .i64] da1c0 0 0]] 0 (memOf [])) (retK Try.prog Try.f140.results.toList (outK 0 (List.range 0) [] (.k) fun v U N => (v, U, N) = (q140c108 (m140c108 na0 da0 da1c0)))) :=
  propOf (x140c108 na0 da0 da1c0 _) (cnd_need (and_l hn) (cnd_of (fun h0 => leaf_of (l := (((o140c108_0 na0 da0 da1c0 (↑na0 : Int) 0).getD default).snd.fst)) (condT h0 rfl) rfl) (fun h0 => leaf_of (l := (-1)) (condF h0 rfl) rfl)))
theorem k140c108 : CtrOk Try.prog c140c108 140 := ctr_of (tabOk_cons k108 tabOk_nil) mix_ok 8 (fn := Try.f140) (c := (Try.f140.body.getD .skip)) (grs := []) (rh := .k) (Λ := (lamOf [(0, g140c108_0)])) Try.func140 rfl (by kernel_rfl) (lam_of rfl (lams_cons z140c108_0 lams_nil)) fun vs bs q h hn => by
  unfold g140c108 at h
  split at h <;> cases h
  exact ⟨_, rfl, p140c108 _ _ _ (hn _ (List.mem_singleton.2 rfl))⟩
/-! ### slices.IndexFunc[[]int,int] -/
/-! #### loop 0 -/
def l141c111_0 (t0_0 : Nat) (t0_1 : Dat) (t7 : Int) : Nat → Int → Option (Bool × (Int) × (Unit))
  | 0, _ => none
  | f + 1, t8 => (cond ((decide (t8 < t7))) (cond ((decide (0 ≤ t8 ∧ t8 < (↑t0_0 : Int)))) (cond ((m111 (t0_1.ii t8.toNat 0))) (some (true, t8, default)) (l141c111_0 t0_0 t0_1 t7 f (IntKind.i64.wrap (t8 + 1)))) none) (some (false, default, ())))
abbrev o141c111_0 (t0_0 : Nat) (t0_1 : Dat) (t7 : Int) (t8 : Int) : Option (Bool × (Int) × (Unit)) := l141c111_0 t0_0 t0_1 t7 (t0_0 + t7.toNat + t8.toNat + 8) t8
def e141c111_0 (t0_0 : Nat) (t0_1 : Dat) (t7 : Int) (r : Bool × (Int) × (Unit)) (K : XR) : Prop := cnd r.1 (K (XE.ret) [.int .i64 r.2.1] []) (K (XE.exit 0) [.any] [])
def g141c111_0 : LSum := fun s k => match czv 0 19 [0, 1, 7, 8] 0 [] s with
  | some ([.ro [.int .i64] t0_0 t0_1, .fn 111 [], .int .i64 t7, .int .i64 t8], []) => needs [(o141c111_0 t0_0 t0_1 t7 t8).isSome] (e141c111_0 t0_0 t0_1 t7 ((o141c111_0 t0_0 t0_1 t7 t8).getD default) fun e vs bs => inBlk 0 k e (mkSt 0 19 [4] vs 0 bs))
  | _ => False
theorem y141c111_0 (t0_0 : Nat) (t0_1 : Dat) (t7 : Int) (t8 : Int) (R : XR) : exec Try.prog [(111, c111)] (fun _ => none) 8 (unloop (bodyAt (Try.f141.body.getD .skip) 0)) (mkSt 0 19 [0, 1, 7, 8] [.ro [.int .i64] t0_0 t0_1, .fn 111 [], .int .i64 t7, .int .i64 t8] 0 []) (canonK 0 19 [0, 1, 7, 8] [4] 0 [] R) =
  (cnd ((decide (t8 < t7)))
  (cnd ((decide (0 ≤ t8 ∧ t8 < (↑t0_0 : Int))))
   (cnd ((m111 (t0_1.ii t8.toNat 0)))
    (R (XE.ret) [.int .i64 t8] [])
    (R (XE.normal) [.ro [.int .i64] t0_0 t0_1, .fn 111 [], .int .i64 t7, .int .i64 (IntKind.i64.wrap (t8 + 1))] []))
   False)
  (R (XE.exit 0) [.any] [])) := by kernel_rfl
theorem z141c111_0 : LOk Try.prog g141c111_0 (.block 0 (bodyAt (Try.f141.body.getD .skip) 0)) := by
  refine loop_blk (ι := Nat × Dat × Int × Int) (L := [(111, c111)]) (Λ := (fun _ => none)) (fuel := 8) (na := 0) (nt := 19) (nx := 0) (Lh := [0, 1, 7, 8]) (Le := [4]) (gl := []) (tabOk_cons k111 tabOk_nil) mix_ok noLam rfl (fun f x K => GG default (e141c111_0 x.1 x.2.1 x.2.2.1) K (l141c111_0 x.1 x.2.1 x.2.2.1 f x.2.2.2)) (fun x => [.ro [.int .i64] x.1 x.2.1, .fn 111 [], .int .i64 x.2.2.1, .int .i64 x.2.2.2]) (fun x => []) (fun x K => gg_none) ?_ ?_
  · rintro f ⟨t0_0, t0_1, t7, t8⟩ K hG
    have hG : GG default (e141c111_0 t0_0 t0_1 t7) K (cond ((decide (t8 < t7))) (cond ((decide (0 ≤ t8 ∧ t8 < (↑t0_0 : Int)))) (cond ((m111 (t0_1.ii t8.toNat 0))) (some (true, t8, default)) (l141c111_0 t0_0 t0_1 t7 f (IntKind.i64.wrap (t8 + 1)))) none) (some (false, default, ()))) := hG
    refine propOf (y141c111_0 t0_0 t0_1 t7 t8 _) ?_
    exact cnd_gg2 hG (fun h0 => cnd_gg h0 fun h1 => cnd_gg2 h1 (fun h2 => h2.2) (fun h2 => ⟨(t0_0, t0_1, t7, (IntKind.i64.wrap (t8 + 1))), rfl, rfl, h2⟩)) (fun h0 => h0.2)
  · intro s k h
    unfold g141c111_0 at h
    split at h <;> try exact h.elim
    rename_i e1
    rw [needs_iff] at h
    exact ⟨_, e1, _, (_, _, _, _), rfl, rfl, h.1 _ (List.mem_singleton.2 rfl), h.2⟩
theorem x141c111 (na0 : Nat) (da0 : Dat) (R : SV → List Blk → List Blk → Prop) : exec Try.prog [(111, c111)] (lamOf [(0, g141c111_0)]) 8 (Try.f141.body.getD .skip) (initS Try.f141.ntmps [.ro [.int .i64] na0 da0, .fn 111 []] 0 (memOf [])) (retK Try.prog Try.f141.results.toList (outK 0 (List.range 0) [] (.k) fun v U N => R v U N)) =
  (cnd (((o141c111_0 na0 da0 (↑na0 : Int) 0).isSome))
  (cnd ((((o141c111_0 na0 da0 (↑na0 : Int) 0).getD default).fst))
   (R (.int .i64 (((o141c111_0 na0 da0 (↑na0 : Int) 0).getD default).snd.fst)) [] [])
   (R (.int .i64 (-1)) [] []))
  False) := by kernel_rfl
def m141c111 (na0 : Nat) (da0 : Dat) : Int :=
  (cond ((((o141c111_0 na0 da0 (↑na0 : Int) 0).getD default).fst)) (((o141c111_0 na0 da0 (↑na0 : Int) 0).getD default).snd.fst) (-1))
def n141c111 (na0 : Nat) (da0 : Dat) : Bool :=
  ((((o141c111_0 na0 da0 (↑na0 : Int) 0).isSome)) && true)
def q141c111 (r : Int) : SV × List Blk × List Blk := (.int .i64 r, [], [])
def g141c111 : List SV → List Blk → Option OpRes := fun vs bs => match vs, bs with
  | [.ro [.int .i64] na0 da0, .fn 111 []], [] => some (resOf 0 (q141c111 (m141c111 na0 da0)) [n141c111 na0 da0])
  | _, _ => none
def c141c111 : Ctr := genC [.ro [.int .i64], .f []] g141c111
theorem p141c111 (na0 : Nat) (da0 : Dat) (hn : n141c111 na0 da0 = true) : exec Try.prog [(111, c111)] (lamOf [(0, g141c111_0)]) 8 (Try.f141.body.getD .skip) (initS Try.f141.ntmps [.ro [.int .i64] na0 da0, .fn 111 []] 0 (memOf [])) (retK Try.prog Try.f141.results.toList (outK 0 (List.range 0) [] (.k) fun v U N => (v, U, N) = (q141c111 (m141c111 na0 da0)))) :=
  propOf (x141c111 na0 da0 _) (cnd_need (and_l hn) (cnd_of (fun h0 => leaf_of (l := (((o141c111_0 na0 da0 (↑na0 : Int) 0).getD default).snd.fst)) (condT h0 rfl) rfl) (fun h0 => leaf_of (l := (-1)) (condF h0 rfl) rfl)))
theorem k141c111 : CtrOk Try.prog c141c111 141 := ctr_of (tabOk_cons k111 tabOk_nil) mix_ok 8 (fn := Try.f141) (c := (Try.f141.body.getD .skip)) (grs := []) (rh := .k) (Λ := (lamOf [(0, g141c111_0)])) Try.func141 rfl (by kernel_rfl) (lam_of rfl (lams_cons z141c111_0 lams_nil)) fun vs bs q h hn => by
  unfold g141c111 at h
  split at h <;> cases h
  exact ⟨_, rfl, p141c111 _ _ (hn _ (List.mem_singleton.2 rfl))⟩
/-! ### slices.IndexFunc[[]shotline/api.MixVessel,shotline/api.MixVessel] -/
/-! #### loop 0 -/
def l115c116_0 (t0_0 : Nat) (t0_1 : Dat) (t1 : Dat) (t7 : Int) : Nat → Int → Option (Bool × (Int) × (Unit))
  | 0, _ => none
  | f + 1, t8 => (cond ((decide (t8 < t7))) (cond ((decide (0 ≤ t8 ∧ t8 < (↑t0_0 : Int)))) (cond ((m116 (t0_1.ss t8.toNat 0) (t0_1.ii t8.toNat (0 + 1)) (t0_1.ii t8.toNat (0 + 1 + 1)) t1)) (some (true, t8, default)) (l115c116_0 t0_0 t0_1 t1 t7 f (IntKind.i64.wrap (t8 + 1)))) none) (some (false, default, ())))
abbrev o115c116_0 (t0_0 : Nat) (t0_1 : Dat) (t1 : Dat) (t7 : Int) (t8 : Int) : Option (Bool × (Int) × (Unit)) := l115c116_0 t0_0 t0_1 t1 t7 (t0_0 + t7.toNat + t8.toNat + 8) t8
def e115c116_0 (t0_0 : Nat) (t0_1 : Dat) (t1 : Dat) (t7 : Int) (r : Bool × (Int) × (Unit)) (K : XR) : Prop := cnd r.1 (K (XE.ret) [.int .i64 r.2.1] []) (K (XE.exit 0) [.any] [])
def g115c116_0 : LSum := fun s k => match czv 0 19 [0, 1, 7, 8] 0 [] s with
  | some ([.ro [.str, .int .i64, .int .i64] t0_0 t0_1, .fn 116 [.rp [.str] t1 0 0], .int .i64 t7, .int .i64 t8], []) => needs [(o115c116_0 t0_0 t0_1 t1 t7 t8).isSome] (e115c116_0 t0_0 t0_1 t1 t7 ((o115c116_0 t0_0 t0_1 t1 t7 t8).getD default) fun e vs bs => inBlk 0 k e (mkSt 0 19 [4] vs 0 bs))
  | _ => False
theorem y115c116_0 (t0_0 : Nat) (t0_1 : Dat) (t1 : Dat) (t7 : Int) (t8 : Int) (R : XR) : exec Try.prog [(116, c116)] (fun _ => none) 8 (unloop (bodyAt (Try.f115.body.getD .skip) 0)) (mkSt 0 19 [0, 1, 7, 8] [.ro [.str, .int .i64, .int .i64] t0_0 t0_1, .fn 116 [.rp [.str] t1 0 0], .int .i64 t7, .int .i64 t8] 0 []) (canonK 0 19 [0, 1, 7, 8] [4] 0 [] R) =
  (cnd ((decide (t8 < t7)))
  (cnd ((decide (0 ≤ t8 ∧ t8 < (↑t0_0 : Int))))
   (cnd ((m116 (t0_1.ss t8.toNat 0) (t0_1.ii t8.toNat (0 + 1)) (t0_1.ii t8.toNat (0 + 1 + 1)) t1))
    (R (XE.ret) [.int .i64 t8] [])
    (R (XE.normal) [.ro [.str, .int .i64, .int .i64] t0_0 t0_1, .fn 116 [.rp [.str] t1 0 0], .int .i64 t7, .int .i64 (IntKind.i64.wrap (t8 + 1))] []))
   False)
  (R (XE.exit 0) [.any] [])) := by kernel_rfl
theorem z115c116_0 : LOk Try.prog g115c116_0 (.block 0 (bodyAt (Try.f115.body.getD .skip) 0)) := by
  refine loop_blk (ι := Nat × Dat × Dat × Int × Int) (L := [(116, c116)]) (Λ := (fun _ => none)) (fuel := 8) (na := 0) (nt := 19) (nx := 0) (Lh := [0, 1, 7, 8]) (Le := [4]) (gl := []) (tabOk_cons k116 tabOk_nil) mix_ok noLam rfl (fun f x K => GG default (e115c116_0 x.1 x.2.1 x.2.2.1 x.2.2.2.1) K (l115c116_0 x.1 x.2.1 x.2.2.1 x.2.2.2.1 f x.2.2.2.2)) (fun x => [.ro [.str, .int .i64, .int .i64] x.1 x.2.1, .fn 116 [.rp [.str] x.2.2.1 0 0], .int .i64 x.2.2.2.1, .int .i64 x.2.2.2.2]) (fun x => []) (fun x K => gg_none) ?_ ?_
  · rintro f ⟨t0_0, t0_1, t1, t7, t8⟩ K hG
    have hG : GG default (e115c116_0 t0_0 t0_1 t1 t7) K (cond ((decide (t8 < t7))) (cond ((decide (0 ≤ t8 ∧ t8 < (↑t0_0 : Int)))) (cond ((m116 (t0_1.ss t8.toNat 0) (t0_1.ii t8.toNat (0 + 1)) (t0_1.ii t8.toNat (0 + 1 + 1)) t1)) (some (true, t8, default)) (l115c116_0 t0_0 t0_1 t1 t7 f (IntKind.i64.wrap (t8 + 1)))) none) (some (false, default, ()))) := hG
    refine propOf (y115c116_0 t0_0 t0_1 t1 t7 t8 _) ?_
    exact cnd_gg2 hG (fun h0 => cnd_gg h0 fun h1 => cnd_gg2 h1 (fun h2 => h2.2) (fun h2 => ⟨(t0_0, t0_1, t1, t7, (IntKind.i64.wrap (t8 + 1))), rfl, rfl, h2⟩)) (fun h0 => h0.2)
  · intro s k h
    unfold g115c116_0 at h
    split at h <;> try exact h.elim
    rename_i e1
    rw [needs_iff] at h
    exact ⟨_, e1, _, (_, _, _, _, _), rfl, rfl, h.1 _ (List.mem_singleton.2 rfl), h.2⟩
theorem x115c116 (na0 : Nat) (da0 : Dat) (da1c0 : Dat) (R : SV → List Blk → List Blk → Prop) : exec Try.prog [(116, c116)] (lamOf [(0, g115c116_0)]) 8 (Try.f115.body.getD .skip) (initS Try.f115.ntmps [.ro [.str, .int .i64, .int .i64] na0 da0, .fn 116 [.rp [.str] da1c0 0 0]] 0 (memOf [])) (retK Try.prog Try.f115.results.toList (outK 0 (List.range 0) [] (.k) fun v U N => R v U N)) =
  (cnd (((o115c116_0 na0 da0 da1c0 (↑na0 : Int) 0).isSome))
  (cnd ((((o115c116_0 na0 da0 da1c0 (↑na0 : Int) 0).getD default).fst))
   (R (.int .i64 (((o115c116_0 na0 da0 da1c0 (↑na0 : Int) 0).getD default).snd.fst)) [] [])
   (R (.int .i64 (-1)) [] []))
  False) := by kernel_rfl
def m115c116 (na0 : Nat) (da0 : Dat) (da1c0 : Dat) : Int :=
  (cond ((((o115c116_0 na0 da0 da1c0 (↑na0 : Int) 0).getD default).fst)) (((o115c116_0 na0 da0 da1c0 (↑na0 : Int) 0).getD default).snd.fst) (-1))
def n115c116 (na0 : Nat) (da0 : Dat) (da1c0 : Dat) : Bool :=
  ((((o115c116_0 na0 da0 da1c0 (↑na0 : Int) 0).isSome)) && true)
def q115c116 (r : Int) : SV × List Blk × List Blk := (.int .i64 r, [], [])
def g115c116 : List SV → List Blk → Option OpRes := fun vs bs => match vs, bs with
  | [.ro [.str, .int .i64, .int .i64] na0 da0, .fn 116 [.rp [.str] da1c0 0 0]], [] => some (resOf 0 (q115c116 (m115c116 na0 da0 da1c0)) [n115c116 na0 da0 da1c0])
  | _, _ => none
def c115c116 : Ctr := genC [.ro [.str, .int .i64, .int .i64], .f [.rp [.str]]] g115c116
theorem p115c116 (na0 : Nat) (da0 : Dat) (da1c0 : Dat) (hn : n115c116 na0 da0 da1c0 = true) : exec Try.prog [(116, c116)] (lamOf [(0, g115c116_0)]) 8 (Try.f115.body.getD .skip) (initS Try.f115.ntmps [.ro [.str, .int .i64, .int .i64] na0 da0, .fn 116 [.rp [.str] da1c0 0 0]] 0 (memOf [])) (retK Try.prog Try.f115.results.toList (outK 0 (List.range 0) [] (.k) fun v U N => (v, U, N) = (q115c116 (m115c116 na0 da0 da1c0)))) :=
  propOf (x115c116 na0 da0 da1c0 _) (cnd_need (and_l hn) (cnd_of (fun h0 => leaf_of (l := (((o115c116_0 na0 da0 da1c0 (↑na0 : Int) 0).getD default).snd.fst)) (condT h0 rfl) rfl) (fun h0 => leaf_of (l := (-1)) (condF h0 rfl) rfl)))
theorem k115c116 : CtrOk Try.prog c115c116 115 := ctr_of (tabOk_cons k116 tabOk_nil) mix_ok 8 (fn := Try.f115) (c := (Try.f115.body.getD .skip)) (grs := []) (rh := .k) (Λ := (lamOf [(0, g115c116_0)])) Try.func115 rfl (by kernel_rfl) (lam_of rfl (lams_cons z115c116_0 lams_nil)) fun vs bs q h hn => by
  unfold g115c116 at h
  split at h <;> cases h
  exact ⟨_, rfl, p115c116 _ _ _ (hn _ (List.mem_singleton.2 rfl))⟩
/-! ### shotline/shotlineref06.Rounded -/
theorem x88 (a0 : Int) (a1 : Int) (R : SV → List Blk → List Blk → Prop) : exec Try.prog [(93, c93), (94, c94)] (fun _ => none) 8 (Try.f88.body.getD .skip) (initS Try.f88.ntmps [.int .i64 a0, .int .i64 a1] 0 (memOf [])) (retK Try.prog Try.f88.results.toList (outK 0 (List.range 0) [] (.k) fun v U N => R v U N)) =
  (cnd ((n93 a0 a1))
  (cnd ((n94 a0 a1))
   (R (.agg [.int .i64 (m93 a0 a1), .int .i64 (m94 a0 a1)]) [] [])
   False)
  False) := by kernel_rfl
def m88 (a0 : Int) (a1 : Int) : Int × Int :=
  ((m93 a0 a1), (m94 a0 a1))
def n88 (a0 : Int) (a1 : Int) : Bool :=
  (((n93 a0 a1)) && (((n94 a0 a1)) && true))
def q88 (r : Int × Int) : SV × List Blk × List Blk := (.agg [.int .i64 r.1, .int .i64 r.2], [], [])
def g88 : List SV → List Blk → Option OpRes := fun vs bs => match vs, bs with
  | [.int .i64 a0, .int .i64 a1], [] => some (resOf 0 (q88 (m88 a0 a1)) [n88 a0 a1])
  | _, _ => none
def c88 : Ctr := genC [.k, .k] g88
theorem p88 (a0 : Int) (a1 : Int) (hn : n88 a0 a1 = true) : exec Try.prog [(93, c93), (94, c94)] (fun _ => none) 8 (Try.f88.body.getD .skip) (initS Try.f88.ntmps [.int .i64 a0, .int .i64 a1] 0 (memOf [])) (retK Try.prog Try.f88.results.toList (outK 0 (List.range 0) [] (.k) fun v U N => (v, U, N) = (q88 (m88 a0 a1)))) :=
  propOf (x88 a0 a1 _) (cnd_need (and_l hn) (cnd_need (and_l (and_r hn)) (leaf_of (l := ((m93 a0 a1), (m94 a0 a1))) rfl rfl)))
theorem k88 : CtrOk Try.prog c88 88 := ctr_of (tabOk_cons k93 (tabOk_cons k94 tabOk_nil)) mix_ok 8 (fn := Try.f88) (c := (Try.f88.body.getD .skip)) (grs := []) (rh := .k) (Λ := (fun _ => none)) Try.func88 rfl (by kernel_rfl) noLam fun vs bs q h hn => by
  unfold g88 at h
  split at h <;> cases h
  exact ⟨_, rfl, p88 _ _ (hn _ (List.mem_singleton.2 rfl))⟩
/-! ### shotline/gas.CheckGas -/
theorem x81 (a0_0 : Int) (a0_1 : Int) (R : SV → List Blk → List Blk → Prop) : exec Try.prog [(117, c117), (118, c118)] (fun _ => none) 8 (Try.f81.body.getD .skip) (initS Try.f81.ntmps [.agg [.int .i64 a0_0, .int .i64 a0_1]] 0 (memOf [])) (retK Try.prog Try.f81.results.toList (outK 0 (List.range 0) [] (.k) fun v U N => R v U N)) =
  (cnd ((n117 2 (datS [SV.int IntKind.i64 (m118 a0_0 0 1000), SV.int IntKind.i64 (m118 a0_1 0 1000)] 1)))
  (cnd ((bif (decide (m117 2 (datS [SV.int IntKind.i64 (m118 a0_0 0 1000), SV.int IntKind.i64 (m118 a0_1 0 1000)] 1) = 0)) then false else true))
   (R (.int .i64 (m117 2 (datS [SV.int IntKind.i64 (m118 a0_0 0 1000), SV.int IntKind.i64 (m118 a0_1 0 1000)] 1))) [] [])
   (cnd ((decide (1000 < IntKind.i64.wrap (a0_0 + a0_1))))
    (R (.int .i64 23) [] [])
    (R (.int .i64 0) [] [])))
  False) := by kernel_rfl
def m81 (a0_0 : Int) (a0_1 : Int) : Int :=
  (cond ((bif (decide (m117 2 (datS [SV.int IntKind.i64 (m118 a0_0 0 1000), SV.int IntKind.i64 (m118 a0_1 0 1000)] 1) = 0)) then false else true)) (m117 2 (datS [SV.int IntKind.i64 (m118 a0_0 0 1000), SV.int IntKind.i64 (m118 a0_1 0 1000)] 1)) (cond ((decide (1000 < IntKind.i64.wrap (a0_0 + a0_1)))) 23 0))
def n81 (a0_0 : Int) (a0_1 : Int) : Bool :=
  (((n117 2 (datS [SV.int IntKind.i64 (m118 a0_0 0 1000), SV.int IntKind.i64 (m118 a0_1 0 1000)] 1))) && true)
def q81 (r : Int) : SV × List Blk × List Blk := (.int .i64 r, [], [])
def g81 : List SV → List Blk → Option OpRes := fun vs bs => match vs, bs with
  | [.agg [.int .i64 a0_0, .int .i64 a0_1]], [] => some (resOf 0 (q81 (m81 a0_0 a0_1)) [n81 a0_0 a0_1])
  | _, _ => none
def c81 : Ctr := genC [.k] g81
theorem p81 (a0_0 : Int) (a0_1 : Int) (hn : n81 a0_0 a0_1 = true) : exec Try.prog [(117, c117), (118, c118)] (fun _ => none) 8 (Try.f81.body.getD .skip) (initS Try.f81.ntmps [.agg [.int .i64 a0_0, .int .i64 a0_1]] 0 (memOf [])) (retK Try.prog Try.f81.results.toList (outK 0 (List.range 0) [] (.k) fun v U N => (v, U, N) = (q81 (m81 a0_0 a0_1)))) :=
  propOf (x81 a0_0 a0_1 _) (cnd_need (and_l hn) (cnd_of (fun h0 => leaf_of (l := (m117 2 (datS [SV.int IntKind.i64 (m118 a0_0 0 1000), SV.int IntKind.i64 (m118 a0_1 0 1000)] 1))) (condT h0 rfl) rfl) (fun h0 => cnd_of (fun h1 => leaf_of (l := 23) (condF h0 (condT h1 rfl)) rfl) (fun h1 => leaf_of (l := 0) (condF h0 (condF h1 rfl)) rfl))))
theorem k81 : CtrOk Try.prog c81 81 := ctr_of (tabOk_cons k117 (tabOk_cons k118 tabOk_nil)) mix_ok 8 (fn := Try.f81) (c := (Try.f81.body.getD .skip)) (grs := []) (rh := .k) (Λ := (fun _ => none)) Try.func81 rfl (by kernel_rfl) noLam fun vs bs q h hn => by
  unfold g81 at h
  split at h <;> cases h
  exact ⟨_, rfl, p81 _ _ (hn _ (List.mem_singleton.2 rfl))⟩
/-! ### shotline/shotlineref06.CheckFill -/
theorem x90 (a0_0 : Int) (a0_1 : Int) (a0_2 : ByteArray) (a0_3 : ByteArray) (a0_4 : Int) (a0_5 : Int) (a0_6 : Int) (a0_7 : Bool) (R : SV → List Blk → List Blk → Prop) : exec Try.prog [(18, c18), (83, c83)] (fun _ => none) 8 (Try.f90.body.getD .skip) (initS Try.f90.ntmps [.agg [.int .i64 a0_0, .int .i64 a0_1, .str a0_2, .str a0_3, .int .i64 a0_4, .int .i64 a0_5, .int .i64 a0_6, .bool a0_7]] 0 (memOf [])) (retK Try.prog Try.f90.results.toList (outK 0 (List.range 0) [] (.k) fun v U N => R v U N)) =
  (cnd ((bif (m18 a0_0 0 2) then false else true))
  (R (.int .i64 15) [] [])
  (cnd ((bif (bif (m18 a0_1 0 100000) then false else true) then true else (bif (m18 a0_6 1 1000000000) then false else true)))
   (R (.int .i64 2) [] [])
   (cnd ((bif (bif (decide (a0_0 = 0)) then (bif (decide (m83 a0_4 a0_5 = 0)) then false else true) else false) then true else (bif (bif (decide (a0_0 = 0)) then false else true) then (bif (bif (decide (a0_4 = 0)) then (bif (decide (a0_5 = 0)) then true else false) else false) then false else true) else false)))
    (R (.int .i64 2) [] [])
    (cnd ((bif (bif (bif (bif (decide (a0_0 = 0)) then (bif (decide (a0_2 = { data := #[] })) then false else true) else false) then true else (bif (decide (a0_0 = 2)) then (bif (decide (a0_3 = { data := #[] })) then false else true) else false)) then true else (bif (decide (a0_0 = 1)) then (decide (a0_2 = a0_3)) else false)) then true else (bif (bif (decide (a0_0 = 1)) then false else true) then a0_7 else false)))
     (R (.int .i64 3) [] [])
     (R (.int .i64 0) [] []))))) := by kernel_rfl
def m90 (a0_0 : Int) (a0_1 : Int) (a0_2 : ByteArray) (a0_3 : ByteArray) (a0_4 : Int) (a0_5 : Int) (a0_6 : Int) (a0_7 : Bool) : Int :=
  (cond ((bif (m18 a0_0 0 2) then false else true)) 15 (cond ((bif (bif (m18 a0_1 0 100000) then false else true) then true else (bif (m18 a0_6 1 1000000000) then false else true))) 2 (cond ((bif (bif (decide (a0_0 = 0)) then (bif (decide (m83 a0_4 a0_5 = 0)) then false else true) else false) then true else (bif (bif (decide (a0_0 = 0)) then false else true) then (bif (bif (decide (a0_4 = 0)) then (bif (decide (a0_5 = 0)) then true else false) else false) then false else true) else false))) 2 (cond ((bif (bif (bif (bif (decide (a0_0 = 0)) then (bif (decide (a0_2 = { data := #[] })) then false else true) else false) then true else (bif (decide (a0_0 = 2)) then (bif (decide (a0_3 = { data := #[] })) then false else true) else false)) then true else (bif (decide (a0_0 = 1)) then (decide (a0_2 = a0_3)) else false)) then true else (bif (bif (decide (a0_0 = 1)) then false else true) then a0_7 else false))) 3 0))))
def q90 (r : Int) : SV × List Blk × List Blk := (.int .i64 r, [], [])
def g90 : List SV → List Blk → Option OpRes := fun vs bs => match vs, bs with
  | [.agg [.int .i64 a0_0, .int .i64 a0_1, .str a0_2, .str a0_3, .int .i64 a0_4, .int .i64 a0_5, .int .i64 a0_6, .bool a0_7]], [] => some (resOf 0 (q90 (m90 a0_0 a0_1 a0_2 a0_3 a0_4 a0_5 a0_6 a0_7)) [])
  | _, _ => none
def c90 : Ctr := genC [.k] g90
theorem p90 (a0_0 : Int) (a0_1 : Int) (a0_2 : ByteArray) (a0_3 : ByteArray) (a0_4 : Int) (a0_5 : Int) (a0_6 : Int) (a0_7 : Bool) : exec Try.prog [(18, c18), (83, c83)] (fun _ => none) 8 (Try.f90.body.getD .skip) (initS Try.f90.ntmps [.agg [.int .i64 a0_0, .int .i64 a0_1, .str a0_2, .str a0_3, .int .i64 a0_4, .int .i64 a0_5, .int .i64 a0_6, .bool a0_7]] 0 (memOf [])) (retK Try.prog Try.f90.results.toList (outK 0 (List.range 0) [] (.k) fun v U N => (v, U, N) = (q90 (m90 a0_0 a0_1 a0_2 a0_3 a0_4 a0_5 a0_6 a0_7)))) :=
  propOf (x90 a0_0 a0_1 a0_2 a0_3 a0_4 a0_5 a0_6 a0_7 _) (cnd_of (fun h0 => leaf_of (l := 15) (condT h0 rfl) rfl) (fun h0 => cnd_of (fun h1 => leaf_of (l := 2) (condF h0 (condT h1 rfl)) rfl) (fun h1 => cnd_of (fun h2 => leaf_of (l := 2) (condF h0 (condF h1 (condT h2 rfl))) rfl) (fun h2 => cnd_of (fun h3 => leaf_of (l := 3) (condF h0 (condF h1 (condF h2 (condT h3 rfl)))) rfl) (fun h3 => leaf_of (l := 0) (condF h0 (condF h1 (condF h2 (condF h3 rfl)))) rfl)))))
theorem k90 : CtrOk Try.prog c90 90 := ctr_of (tabOk_cons k18 (tabOk_cons k83 tabOk_nil)) mix_ok 8 (fn := Try.f90) (c := (Try.f90.body.getD .skip)) (grs := []) (rh := .k) (Λ := (fun _ => none)) Try.func90 rfl (by kernel_rfl) noLam fun vs bs q h _ => by
  unfold g90 at h
  split at h <;> cases h
  exact ⟨_, rfl, p90 _ _ _ _ _ _ _ _⟩
/-! ### shotline/shotlineref06.Matches -/
theorem x34 (a0_0 : Int) (a0_1 : Int) (a0_2 : Int) (a1_0 : Int) (a1_1 : Int) (a2 : Int) (R : SV → List Blk → List Blk → Prop) : exec Try.prog [(17, c17), (18, c18), (19, c19), (83, c83)] (fun _ => none) 8 (Try.f34.body.getD .skip) (initS Try.f34.ntmps [.agg [.int .i64 a0_0, .int .i64 a0_1, .int .i64 a0_2], .agg [.int .i64 a1_0, .int .i64 a1_1], .int .i64 a2] 0 (memOf [])) (retK Try.prog Try.f34.results.toList (outK 0 (List.range 0) [] (.k) fun v U N => R v U N)) =
  (cnd ((bif (decide (m17 a0_0 a0_1 a0_2 = 0)) then false else true))
  (R (.tup [.bool false, .int .i64 (m17 a0_0 a0_1 a0_2)]) [] [])
  (cnd ((bif (decide (m83 a1_0 a1_1 = 0)) then false else true))
   (R (.tup [.bool false, .int .i64 (m83 a1_0 a1_1)]) [] [])
   (cnd ((decide (m19 a0_0 a0_1 a0_2 = 0)))
    (R (.tup [.bool false, .int .i64 11]) [] [])
    (cnd ((bif (m18 a2 0 1000) then false else true))
     (R (.tup [.bool false, .int .i64 2]) [] [])
     (R (.tup [.bool (bif (m18 (IntKind.i64.wrap (IntKind.i64.wrap (1000 * a0_0) - IntKind.i64.wrap (a1_0 * m19 a0_0 a0_1 a0_2))) (IntKind.i64.wrap (0 - IntKind.i64.wrap (a2 * m19 a0_0 a0_1 a0_2))) (IntKind.i64.wrap (a2 * m19 a0_0 a0_1 a0_2))) then (m18 (IntKind.i64.wrap (IntKind.i64.wrap (1000 * a0_1) - IntKind.i64.wrap (a1_1 * m19 a0_0 a0_1 a0_2))) (IntKind.i64.wrap (0 - IntKind.i64.wrap (a2 * m19 a0_0 a0_1 a0_2))) (IntKind.i64.wrap (a2 * m19 a0_0 a0_1 a0_2))) else false), .int .i64 0]) [] []))))) := by kernel_rfl
def m34 (a0_0 : Int) (a0_1 : Int) (a0_2 : Int) (a1_0 : Int) (a1_1 : Int) (a2 : Int) : Bool × Int :=
  (cond ((bif (decide (m17 a0_0 a0_1 a0_2 = 0)) then false else true)) (false, (m17 a0_0 a0_1 a0_2)) (cond ((bif (decide (m83 a1_0 a1_1 = 0)) then false else true)) (false, (m83 a1_0 a1_1)) (cond ((decide (m19 a0_0 a0_1 a0_2 = 0))) (false, 11) (cond ((bif (m18 a2 0 1000) then false else true)) (false, 2) ((bif (m18 (IntKind.i64.wrap (IntKind.i64.wrap (1000 * a0_0) - IntKind.i64.wrap (a1_0 * m19 a0_0 a0_1 a0_2))) (IntKind.i64.wrap (0 - IntKind.i64.wrap (a2 * m19 a0_0 a0_1 a0_2))) (IntKind.i64.wrap (a2 * m19 a0_0 a0_1 a0_2))) then (m18 (IntKind.i64.wrap (IntKind.i64.wrap (1000 * a0_1) - IntKind.i64.wrap (a1_1 * m19 a0_0 a0_1 a0_2))) (IntKind.i64.wrap (0 - IntKind.i64.wrap (a2 * m19 a0_0 a0_1 a0_2))) (IntKind.i64.wrap (a2 * m19 a0_0 a0_1 a0_2))) else false), 0)))))
def q34 (r : Bool × Int) : SV × List Blk × List Blk := (.tup [.bool r.1, .int .i64 r.2], [], [])
def g34 : List SV → List Blk → Option OpRes := fun vs bs => match vs, bs with
  | [.agg [.int .i64 a0_0, .int .i64 a0_1, .int .i64 a0_2], .agg [.int .i64 a1_0, .int .i64 a1_1], .int .i64 a2], [] => some (resOf 0 (q34 (m34 a0_0 a0_1 a0_2 a1_0 a1_1 a2)) [])
  | _, _ => none
def c34 : Ctr := genC [.k, .k, .k] g34
theorem p34 (a0_0 : Int) (a0_1 : Int) (a0_2 : Int) (a1_0 : Int) (a1_1 : Int) (a2 : Int) : exec Try.prog [(17, c17), (18, c18), (19, c19), (83, c83)] (fun _ => none) 8 (Try.f34.body.getD .skip) (initS Try.f34.ntmps [.agg [.int .i64 a0_0, .int .i64 a0_1, .int .i64 a0_2], .agg [.int .i64 a1_0, .int .i64 a1_1], .int .i64 a2] 0 (memOf [])) (retK Try.prog Try.f34.results.toList (outK 0 (List.range 0) [] (.k) fun v U N => (v, U, N) = (q34 (m34 a0_0 a0_1 a0_2 a1_0 a1_1 a2)))) :=
  propOf (x34 a0_0 a0_1 a0_2 a1_0 a1_1 a2 _) (cnd_of (fun h0 => leaf_of (l := (false, (m17 a0_0 a0_1 a0_2))) (condT h0 rfl) rfl) (fun h0 => cnd_of (fun h1 => leaf_of (l := (false, (m83 a1_0 a1_1))) (condF h0 (condT h1 rfl)) rfl) (fun h1 => cnd_of (fun h2 => leaf_of (l := (false, 11)) (condF h0 (condF h1 (condT h2 rfl))) rfl) (fun h2 => cnd_of (fun h3 => leaf_of (l := (false, 2)) (condF h0 (condF h1 (condF h2 (condT h3 rfl)))) rfl) (fun h3 => leaf_of (l := ((bif (m18 (IntKind.i64.wrap (IntKind.i64.wrap (1000 * a0_0) - IntKind.i64.wrap (a1_0 * m19 a0_0 a0_1 a0_2))) (IntKind.i64.wrap (0 - IntKind.i64.wrap (a2 * m19 a0_0 a0_1 a0_2))) (IntKind.i64.wrap (a2 * m19 a0_0 a0_1 a0_2))) then (m18 (IntKind.i64.wrap (IntKind.i64.wrap (1000 * a0_1) - IntKind.i64.wrap (a1_1 * m19 a0_0 a0_1 a0_2))) (IntKind.i64.wrap (0 - IntKind.i64.wrap (a2 * m19 a0_0 a0_1 a0_2))) (IntKind.i64.wrap (a2 * m19 a0_0 a0_1 a0_2))) else false), 0)) (condF h0 (condF h1 (condF h2 (condF h3 rfl)))) rfl)))))
theorem k34 : CtrOk Try.prog c34 34 := ctr_of (tabOk_cons k17 (tabOk_cons k18 (tabOk_cons k19 (tabOk_cons k83 tabOk_nil)))) mix_ok 8 (fn := Try.f34) (c := (Try.f34.body.getD .skip)) (grs := []) (rh := .k) (Λ := (fun _ => none)) Try.func34 rfl (by kernel_rfl) noLam fun vs bs q h _ => by
  unfold g34 at h
  split at h <;> cases h
  exact ⟨_, rfl, p34 _ _ _ _ _ _⟩
/-! ### (*shotline/mix.store).above -/
theorem x122 (da0 : Dat) (a1 : Int) (a2 : Int) (a3 : Int) (a4 : Int) (R : SV → List Blk → List Blk → Prop) : exec Try.prog [] (fun _ => none) 8 (Try.f122.body.getD .skip) (initS Try.f122.ntmps [.rp [.sl [.str, .int .i64, .int .i64], .sl [.int .i64, .int .i64, .int .i64], .int .i64, .int .i64, .int .i64, .int .i64, .int .i64, .int .i64, .int .i64] da0 0 0, .int .i64 a1, .int .i64 a2, .int .i64 a3, .int .i64 a4] 0 (memOf [])) (retK Try.prog Try.f122.results.toList (outK 0 (List.range 0) [] (.k) fun v U N => R v U N)) =
  (cnd ((decide (0 ≤ a3 ∧ a3 < (↑(da0.sn 0 0) : Int))))
  (cnd ((decide (0 ≤ a1 ∧ a1 < (↑(da0.sn 0 0) : Int))))
   (R (.bool (decide (IntKind.i64.wrap (a4 * (da0.sub 0 0).ii a1.toNat (0 + 1)) < IntKind.i64.wrap (a2 * (da0.sub 0 0).ii a3.toNat (0 + 1))))) [] [])
   False)
  False) := by kernel_rfl
def m122 (da0 : Dat) (a1 : Int) (a2 : Int) (a3 : Int) (a4 : Int) : Bool :=
  (decide (IntKind.i64.wrap (a4 * (da0.sub 0 0).ii a1.toNat (0 + 1)) < IntKind.i64.wrap (a2 * (da0.sub 0 0).ii a3.toNat (0 + 1))))
def n122 (da0 : Dat) (a1 : Int) (a2 : Int) (a3 : Int) (a4 : Int) : Bool :=
  (((decide (0 ≤ a3 ∧ a3 < (↑(da0.sn 0 0) : Int)))) && (((decide (0 ≤ a1 ∧ a1 < (↑(da0.sn 0 0) : Int)))) && true))
def q122 (r : Bool) : SV × List Blk × List Blk := (.bool r, [], [])
def g122 : List SV → List Blk → Option OpRes := fun vs bs => match vs, bs with
  | [.rp [.sl [.str, .int .i64, .int .i64], .sl [.int .i64, .int .i64, .int .i64], .int .i64, .int .i64, .int .i64, .int .i64, .int .i64, .int .i64, .int .i64] da0 0 0, .int .i64 a1, .int .i64 a2, .int .i64 a3, .int .i64 a4], [] => some (resOf 0 (q122 (m122 da0 a1 a2 a3 a4)) [n122 da0 a1 a2 a3 a4])
  | _, _ => none
def c122 : Ctr := genC [.rp [.sl [.str, .int .i64, .int .i64], .sl [.int .i64, .int .i64, .int .i64], .int .i64, .int .i64, .int .i64, .int .i64, .int .i64, .int .i64, .int .i64], .k, .k, .k, .k] g122
theorem p122 (da0 : Dat) (a1 : Int) (a2 : Int) (a3 : Int) (a4 : Int) (hn : n122 da0 a1 a2 a3 a4 = true) : exec Try.prog [] (fun _ => none) 8 (Try.f122.body.getD .skip) (initS Try.f122.ntmps [.rp [.sl [.str, .int .i64, .int .i64], .sl [.int .i64, .int .i64, .int .i64], .int .i64, .int .i64, .int .i64, .int .i64, .int .i64, .int .i64, .int .i64] da0 0 0, .int .i64 a1, .int .i64 a2, .int .i64 a3, .int .i64 a4] 0 (memOf [])) (retK Try.prog Try.f122.results.toList (outK 0 (List.range 0) [] (.k) fun v U N => (v, U, N) = (q122 (m122 da0 a1 a2 a3 a4)))) :=
  propOf (x122 da0 a1 a2 a3 a4 _) (cnd_need (and_l hn) (cnd_need (and_l (and_r hn)) (leaf_of (l := (decide (IntKind.i64.wrap (a4 * (da0.sub 0 0).ii a1.toNat (0 + 1)) < IntKind.i64.wrap (a2 * (da0.sub 0 0).ii a3.toNat (0 + 1))))) rfl rfl)))
theorem k122 : CtrOk Try.prog c122 122 := ctr_of tabOk_nil mix_ok 8 (fn := Try.f122) (c := (Try.f122.body.getD .skip)) (grs := []) (rh := .k) (Λ := (fun _ => none)) Try.func122 rfl (by kernel_rfl) noLam fun vs bs q h hn => by
  unfold g122 at h
  split at h <;> cases h
  exact ⟨_, rfl, p122 _ _ _ _ _ (hn _ (List.mem_singleton.2 rfl))⟩
/-! ### (shotline/mix.gases).share$1 -/
theorem x113 (a0 : Int) (a1 : Int) (da2 : Dat) (R : SV → List Blk → List Blk → Prop) : exec Try.prog [(114, c114)] (fun _ => none) 8 (Try.f113.body.getD .skip) (initS Try.f113.ntmps [.int .i64 a0, .int .i64 a1, .ra [.int .i64] 3 da2] 0 (memOf [])) (retK Try.prog Try.f113.results.toList (outK 0 (List.range 0) [] (.k) fun v U N => R v U N)) =
  (cnd ((decide (0 ≤ a1 ∧ a1 < (↑3 : Int))))
  (cnd ((decide (a1 < (↑3 : Int))))
   (cnd ((decide (0 ≤ a0 ∧ a0 < (↑3 : Int))))
    (cnd ((decide (a0 < (↑3 : Int))))
     (R (.int .i64 (m114 (da2.ii a1.toNat 0) (da2.ii a0.toNat 0))) [] [])
     False)
    False)
   False)
  False) := by kernel_rfl
def m113 (a0 : Int) (a1 : Int) (da2 : Dat) : Int :=
  (m114 (da2.ii a1.toNat 0) (da2.ii a0.toNat 0))
def n113 (a0 : Int) (a1 : Int) (da2 : Dat) : Bool :=
  (((decide (0 ≤ a1 ∧ a1 < (↑3 : Int)))) && (((decide (a1 < (↑3 : Int)))) && (((decide (0 ≤ a0 ∧ a0 < (↑3 : Int)))) && (((decide (a0 < (↑3 : Int)))) && true))))
def q113 (r : Int) : SV × List Blk × List Blk := (.int .i64 r, [], [])
def g113 : List SV → List Blk → Option OpRes := fun vs bs => match vs, bs with
  | [.int .i64 a0, .int .i64 a1, .ra [.int .i64] 3 da2], [] => some (resOf 0 (q113 (m113 a0 a1 da2)) [n113 a0 a1 da2])
  | _, _ => none
def c113 : Ctr := genC [.k, .k, .ra [.int .i64] 3] g113
theorem p113 (a0 : Int) (a1 : Int) (da2 : Dat) (hn : n113 a0 a1 da2 = true) : exec Try.prog [(114, c114)] (fun _ => none) 8 (Try.f113.body.getD .skip) (initS Try.f113.ntmps [.int .i64 a0, .int .i64 a1, .ra [.int .i64] 3 da2] 0 (memOf [])) (retK Try.prog Try.f113.results.toList (outK 0 (List.range 0) [] (.k) fun v U N => (v, U, N) = (q113 (m113 a0 a1 da2)))) :=
  propOf (x113 a0 a1 da2 _) (cnd_need (and_l hn) (cnd_need (and_l (and_r hn)) (cnd_need (and_l (and_r (and_r hn))) (cnd_need (and_l (and_r (and_r (and_r hn)))) (leaf_of (l := (m114 (da2.ii a1.toNat 0) (da2.ii a0.toNat 0))) rfl rfl)))))
theorem k113 : CtrOk Try.prog c113 113 := ctr_of (tabOk_cons k114 tabOk_nil) mix_ok 8 (fn := Try.f113) (c := (Try.f113.body.getD .skip)) (grs := []) (rh := .k) (Λ := (fun _ => none)) Try.func113 rfl (by kernel_rfl) noLam fun vs bs q h hn => by
  unfold g113 at h
  split at h <;> cases h
  exact ⟨_, rfl, p113 _ _ _ (hn _ (List.mem_singleton.2 rfl))⟩
/-! ### slices.ContainsFunc[[]shotline/api.MixSource,shotline/api.MixSource] -/
theorem x107c108 (na0 : Nat) (da0 : Dat) (da1c0 : Dat) (R : SV → List Blk → List Blk → Prop) : exec Try.prog [(108, c108), (140, c140c108)] (fun _ => none) 8 (Try.f107.body.getD .skip) (initS Try.f107.ntmps [.ro [.str, .int .i64, .int .i64, .int .i64, .int .i64] na0 da0, .fn 108 [.rp [.str, .int .i64, .int .i64, .int .i64, .int .i64] da1c0 0 0]] 0 (memOf [])) (retK Try.prog Try.f107.results.toList (outK 0 (List.range 0) [] (.k) fun v U N => R v U N)) =
  (cnd ((n140c108 na0 da0 da1c0))
  (R (.bool (decide (0 ≤ m140c108 na0 da0 da1c0))) [] [])
  False) := by kernel_rfl
def m107c108 (na0 : Nat) (da0 : Dat) (da1c0 : Dat) : Bool :=
  (decide (0 ≤ m140c108 na0 da0 da1c0))
def n107c108 (na0 : Nat) (da0 : Dat) (da1c0 : Dat) : Bool :=
  (((n140c108 na0 da0 da1c0)) && true)
def q107c108 (r : Bool) : SV × List Blk × List Blk := (.bool r, [], [])
def g107c108 : List SV → List Blk → Option OpRes := fun vs bs => match vs, bs with
  | [.ro [.str, .int .i64, .int .i64, .int .i64, .int .i64] na0 da0, .fn 108 [.rp [.str, .int .i64, .int .i64, .int .i64, .int .i64] da1c0 0 0]], [] => some (resOf 0 (q107c108 (m107c108 na0 da0 da1c0)) [n107c108 na0 da0 da1c0])
  | _, _ => none
def c107c108 : Ctr := genC [.ro [.str, .int .i64, .int .i64, .int .i64, .int .i64], .f [.rp [.str, .int .i64, .int .i64, .int .i64, .int .i64]]] g107c108
theorem p107c108 (na0 : Nat) (da0 : Dat) (da1c0 : Dat) (hn : n107c108 na0 da0 da1c0 = true) : exec Try.prog [(108, c108), (140, c140c108)] (fun _ => none) 8 (Try.f107.body.getD .skip) (initS Try.f107.ntmps [.ro [.str, .int .i64, .int .i64, .int .i64, .int .i64] na0 da0, .fn 108 [.rp [.str, .int .i64, .int .i64, .int .i64, .int .i64] da1c0 0 0]] 0 (memOf [])) (retK Try.prog Try.f107.results.toList (outK 0 (List.range 0) [] (.k) fun v U N => (v, U, N) = (q107c108 (m107c108 na0 da0 da1c0)))) :=
  propOf (x107c108 na0 da0 da1c0 _) (cnd_need (and_l hn) (leaf_of (l := (decide (0 ≤ m140c108 na0 da0 da1c0))) rfl rfl))
theorem k107c108 : CtrOk Try.prog c107c108 107 := ctr_of (tabOk_cons k108 (tabOk_cons k140c108 tabOk_nil)) mix_ok 8 (fn := Try.f107) (c := (Try.f107.body.getD .skip)) (grs := []) (rh := .k) (Λ := (fun _ => none)) Try.func107 rfl (by kernel_rfl) noLam fun vs bs q h hn => by
  unfold g107c108 at h
  split at h <;> cases h
  exact ⟨_, rfl, p107c108 _ _ _ (hn _ (List.mem_singleton.2 rfl))⟩
/-! ### slices.ContainsFunc[[]int,int] -/
theorem x110c111 (na0 : Nat) (da0 : Dat) (R : SV → List Blk → List Blk → Prop) : exec Try.prog [(111, c111), (141, c141c111)] (fun _ => none) 8 (Try.f110.body.getD .skip) (initS Try.f110.ntmps [.ro [.int .i64] na0 da0, .fn 111 []] 0 (memOf [])) (retK Try.prog Try.f110.results.toList (outK 0 (List.range 0) [] (.k) fun v U N => R v U N)) =
  (cnd ((n141c111 na0 da0))
  (R (.bool (decide (0 ≤ m141c111 na0 da0))) [] [])
  False) := by kernel_rfl
def m110c111 (na0 : Nat) (da0 : Dat) : Bool :=
  (decide (0 ≤ m141c111 na0 da0))
def n110c111 (na0 : Nat) (da0 : Dat) : Bool :=
  (((n141c111 na0 da0)) && true)
def q110c111 (r : Bool) : SV × List Blk × List Blk := (.bool r, [], [])
def g110c111 : List SV → List Blk → Option OpRes := fun vs bs => match vs, bs with
  | [.ro [.int .i64] na0 da0, .fn 111 []], [] => some (resOf 0 (q110c111 (m110c111 na0 da0)) [n110c111 na0 da0])
  | _, _ => none
def c110c111 : Ctr := genC [.ro [.int .i64], .f []] g110c111
theorem p110c111 (na0 : Nat) (da0 : Dat) (hn : n110c111 na0 da0 = true) : exec Try.prog [(111, c111), (141, c141c111)] (fun _ => none) 8 (Try.f110.body.getD .skip) (initS Try.f110.ntmps [.ro [.int .i64] na0 da0, .fn 111 []] 0 (memOf [])) (retK Try.prog Try.f110.results.toList (outK 0 (List.range 0) [] (.k) fun v U N => (v, U, N) = (q110c111 (m110c111 na0 da0)))) :=
  propOf (x110c111 na0 da0 _) (cnd_need (and_l hn) (leaf_of (l := (decide (0 ≤ m141c111 na0 da0))) rfl rfl))
theorem k110c111 : CtrOk Try.prog c110c111 110 := ctr_of (tabOk_cons k111 (tabOk_cons k141c111 tabOk_nil)) mix_ok 8 (fn := Try.f110) (c := (Try.f110.body.getD .skip)) (grs := []) (rh := .k) (Λ := (fun _ => none)) Try.func110 rfl (by kernel_rfl) noLam fun vs bs q h hn => by
  unfold g110c111 at h
  split at h <;> cases h
  exact ⟨_, rfl, p110c111 _ _ (hn _ (List.mem_singleton.2 rfl))⟩
/-! ### shotline/mix.vessel -/
theorem x79 (na0 : Nat) (da0 : Dat) (a1 : ByteArray) (R : SV → List Blk → List Blk → Prop) : exec Try.prog [(115, c115c116), (116, c116)] (fun _ => none) 8 (Try.f79.body.getD .skip) (initS Try.f79.ntmps [.ro [.str, .int .i64, .int .i64] na0 da0, .str a1] 0 (memOf [])) (retK Try.prog Try.f79.results.toList (outK 0 (List.range 0) [] (.k) fun v U N => R v U N)) =
  (cnd ((n115c116 na0 da0 (datC [SV.str a1])))
  (R (.int .i64 (m115c116 na0 da0 (datC [SV.str a1]))) [] [])
  False) := by kernel_rfl
def m79 (na0 : Nat) (da0 : Dat) (a1 : ByteArray) : Int :=
  (m115c116 na0 da0 (datC [SV.str a1]))
def n79 (na0 : Nat) (da0 : Dat) (a1 : ByteArray) : Bool :=
  (((n115c116 na0 da0 (datC [SV.str a1]))) && true)
def q79 (r : Int) : SV × List Blk × List Blk := (.int .i64 r, [], [])
def g79 : List SV → List Blk → Option OpRes := fun vs bs => match vs, bs with
  | [.ro [.str, .int .i64, .int .i64] na0 da0, .str a1], [] => some (resOf 0 (q79 (m79 na0 da0 a1)) [n79 na0 da0 a1])
  | _, _ => none
def c79 : Ctr := genC [.ro [.str, .int .i64, .int .i64], .k] g79
theorem p79 (na0 : Nat) (da0 : Dat) (a1 : ByteArray) (hn : n79 na0 da0 a1 = true) : exec Try.prog [(115, c115c116), (116, c116)] (fun _ => none) 8 (Try.f79.body.getD .skip) (initS Try.f79.ntmps [.ro [.str, .int .i64, .int .i64] na0 da0, .str a1] 0 (memOf [])) (retK Try.prog Try.f79.results.toList (outK 0 (List.range 0) [] (.k) fun v U N => (v, U, N) = (q79 (m79 na0 da0 a1)))) :=
  propOf (x79 na0 da0 a1 _) (cnd_need (and_l hn) (leaf_of (l := (m115c116 na0 da0 (datC [SV.str a1]))) rfl rfl))
theorem k79 : CtrOk Try.prog c79 79 := ctr_of (tabOk_cons k115c116 (tabOk_cons k116 tabOk_nil)) mix_ok 8 (fn := Try.f79) (c := (Try.f79.body.getD .skip)) (grs := []) (rh := .k) (Λ := (fun _ => none)) Try.func79 rfl (by kernel_rfl) noLam fun vs bs q h hn => by
  unfold g79 at h
  split at h <;> cases h
  exact ⟨_, rfl, p79 _ _ _ (hn _ (List.mem_singleton.2 rfl))⟩
/-! ### shotline/mix.alone -/
theorem x119 (a0_0 : Int) (a0_1 : Int) (a0_2 : ByteArray) (a0_3 : ByteArray) (a0_4 : Int) (a0_5 : Int) (a0_6 : Int) (a0_7 : Bool) (R : SV → List Blk → List Blk → Prop) : exec Try.prog [(73, c73), (81, c81), (120, c120), (121, c121)] (fun _ => none) 8 (Try.f119.body.getD .skip) (initS Try.f119.ntmps [.agg [.int .i64 a0_0, .int .i64 a0_1, .str a0_2, .str a0_3, .int .i64 a0_4, .int .i64 a0_5, .int .i64 a0_6, .bool a0_7]] 0 (memOf [])) (retK Try.prog Try.f119.results.toList (outK 0 (List.range 0) [] (.k) fun v U N => R v U N)) =
  (cnd ((bif (m73 a0_0 0 2) then false else true))
  (R (.int .i64 15) [] [])
  (cnd ((decide (a0_0 = 0)))
   (cnd ((n81 a0_4 a0_5))
    (cnd ((bif (bif (bif (m73 a0_1 0 100000) then false else true) then true else (bif (m73 a0_6 1 1000000000) then false else true)) then true else (bif (decide (m81 a0_4 a0_5 = 0)) then false else true)))
     (R (.int .i64 2) [] [])
     (cnd ((bif (bif (bif (bif (bif (m120 a0_0) then false else true) then (bif (decide (a0_2 = { data := #[] })) then false else true) else false) then true else (bif (bif (m121 a0_0) then false else true) then (bif (decide (a0_3 = { data := #[] })) then false else true) else false)) then true else (bif (decide (a0_0 = 1)) then (decide (a0_2 = a0_3)) else false)) then true else (bif a0_7 then (bif (decide (a0_0 = 1)) then false else true) else false)))
      (R (.int .i64 3) [] [])
      (R (.int .i64 0) [] [])))
    False)
   (cnd ((bif (bif (bif (m73 a0_1 0 100000) then false else true) then true else (bif (m73 a0_6 1 1000000000) then false else true)) then true else (bif (bif (decide (a0_4 = 0)) then (bif (decide (a0_5 = 0)) then true else false) else false) then false else true)))
    (R (.int .i64 2) [] [])
    (cnd ((bif (bif (bif (bif (bif (m120 a0_0) then false else true) then (bif (decide (a0_2 = { data := #[] })) then false else true) else false) then true else (bif (bif (m121 a0_0) then false else true) then (bif (decide (a0_3 = { data := #[] })) then false else true) else false)) then true else (bif (decide (a0_0 = 1)) then (decide (a0_2 = a0_3)) else false)) then true else (bif a0_7 then (bif (decide (a0_0 = 1)) then false else true) else false)))
     (R (.int .i64 3) [] [])
     (R (.int .i64 0) [] []))))) := by kernel_rfl
def m119 (a0_0 : Int) (a0_1 : Int) (a0_2 : ByteArray) (a0_3 : ByteArray) (a0_4 : Int) (a0_5 : Int) (a0_6 : Int) (a0_7 : Bool) : Int :=
  (cond ((bif (m73 a0_0 0 2) then false else true)) 15 (cond ((decide (a0_0 = 0))) (cond ((bif (bif (bif (m73 a0_1 0 100000) then false else true) then true else (bif (m73 a0_6 1 1000000000) then false else true)) then true else (bif (decide (m81 a0_4 a0_5 = 0)) then false else true))) 2 (cond ((bif (bif (bif (bif (bif (m120 a0_0) then false else true) then (bif (decide (a0_2 = { data := #[] })) then false else true) else false) then true else (bif (bif (m121 a0_0) then false else true) then (bif (decide (a0_3 = { data := #[] })) then false else true) else false)) then true else (bif (decide (a0_0 = 1)) then (decide (a0_2 = a0_3)) else false)) then true else (bif a0_7 then (bif (decide (a0_0 = 1)) then false else true) else false))) 3 0)) (cond ((bif (bif (bif (m73 a0_1 0 100000) then false else true) then true else (bif (m73 a0_6 1 1000000000) then false else true)) then true else (bif (bif (decide (a0_4 = 0)) then (bif (decide (a0_5 = 0)) then true else false) else false) then false else true))) 2 (cond ((bif (bif (bif (bif (bif (m120 a0_0) then false else true) then (bif (decide (a0_2 = { data := #[] })) then false else true) else false) then true else (bif (bif (m121 a0_0) then false else true) then (bif (decide (a0_3 = { data := #[] })) then false else true) else false)) then true else (bif (decide (a0_0 = 1)) then (decide (a0_2 = a0_3)) else false)) then true else (bif a0_7 then (bif (decide (a0_0 = 1)) then false else true) else false))) 3 0))))
def n119 (a0_0 : Int) (a0_1 : Int) (a0_2 : ByteArray) (a0_3 : ByteArray) (a0_4 : Int) (a0_5 : Int) (a0_6 : Int) (a0_7 : Bool) : Bool :=
  (cond ((bif (m73 a0_0 0 2) then false else true)) true (cond ((decide (a0_0 = 0))) (((n81 a0_4 a0_5)) && true) true))
def q119 (r : Int) : SV × List Blk × List Blk := (.int .i64 r, [], [])
def g119 : List SV → List Blk → Option OpRes := fun vs bs => match vs, bs with
  | [.agg [.int .i64 a0_0, .int .i64 a0_1, .str a0_2, .str a0_3, .int .i64 a0_4, .int .i64 a0_5, .int .i64 a0_6, .bool a0_7]], [] => some (resOf 0 (q119 (m119 a0_0 a0_1 a0_2 a0_3 a0_4 a0_5 a0_6 a0_7)) [n119 a0_0 a0_1 a0_2 a0_3 a0_4 a0_5 a0_6 a0_7])
  | _, _ => none
def c119 : Ctr := genC [.k] g119
theorem p119 (a0_0 : Int) (a0_1 : Int) (a0_2 : ByteArray) (a0_3 : ByteArray) (a0_4 : Int) (a0_5 : Int) (a0_6 : Int) (a0_7 : Bool) (hn : n119 a0_0 a0_1 a0_2 a0_3 a0_4 a0_5 a0_6 a0_7 = true) : exec Try.prog [(73, c73), (81, c81), (120, c120), (121, c121)] (fun _ => none) 8 (Try.f119.body.getD .skip) (initS Try.f119.ntmps [.agg [.int .i64 a0_0, .int .i64 a0_1, .str a0_2, .str a0_3, .int .i64 a0_4, .int .i64 a0_5, .int .i64 a0_6, .bool a0_7]] 0 (memOf [])) (retK Try.prog Try.f119.results.toList (outK 0 (List.range 0) [] (.k) fun v U N => (v, U, N) = (q119 (m119 a0_0 a0_1 a0_2 a0_3 a0_4 a0_5 a0_6 a0_7)))) :=
  propOf (x119 a0_0 a0_1 a0_2 a0_3 a0_4 a0_5 a0_6 a0_7 _) (cnd_of (fun h0 => leaf_of (l := 15) (condT h0 rfl) rfl) (fun h0 => cnd_of (fun h1 => cnd_need (and_l (cond_t h1 (cond_f h0 hn))) (cnd_of (fun h2 => leaf_of (l := 2) (condF h0 (condT h1 (condT h2 rfl))) rfl) (fun h2 => cnd_of (fun h3 => leaf_of (l := 3) (condF h0 (condT h1 (condF h2 (condT h3 rfl)))) rfl) (fun h3 => leaf_of (l := 0) (condF h0 (condT h1 (condF h2 (condF h3 rfl)))) rfl)))) (fun h1 => cnd_of (fun h2 => leaf_of (l := 2) (condF h0 (condF h1 (condT h2 rfl))) rfl) (fun h2 => cnd_of (fun h3 => leaf_of (l := 3) (condF h0 (condF h1 (condF h2 (condT h3 rfl)))) rfl) (fun h3 => leaf_of (l := 0) (condF h0 (condF h1 (condF h2 (condF h3 rfl)))) rfl)))))
theorem k119 : CtrOk Try.prog c119 119 := ctr_of (tabOk_cons k73 (tabOk_cons k81 (tabOk_cons k120 (tabOk_cons k121 tabOk_nil)))) mix_ok 8 (fn := Try.f119) (c := (Try.f119.body.getD .skip)) (grs := []) (rh := .k) (Λ := (fun _ => none)) Try.func119 rfl (by kernel_rfl) noLam fun vs bs q h hn => by
  unfold g119 at h
  split at h <;> cases h
  exact ⟨_, rfl, p119 _ _ _ _ _ _ _ _ (hn _ (List.mem_singleton.2 rfl))⟩
/-! ### shotline/shotlineref06.PressureOf -/
theorem x44 (a0_0 : ByteArray) (a0_1 : Int) (a0_2 : Int) (a1_0 : Int) (a1_1 : Int) (a1_2 : Int) (R : SV → List Blk → List Blk → Prop) : exec Try.prog [(19, c19), (88, c88)] (fun _ => none) 8 (Try.f44.body.getD .skip) (initS Try.f44.ntmps [.agg [.str a0_0, .int .i64 a0_1, .int .i64 a0_2], .agg [.int .i64 a1_0, .int .i64 a1_1, .int .i64 a1_2]] 0 (memOf [])) (retK Try.prog Try.f44.results.toList (outK 0 (List.range 0) [] (.k) fun v U N => R v U N)) =
  (cnd ((n88 (IntKind.i64.wrap (1000 * m19 a1_0 a1_1 a1_2)) a0_1))
  (R (.agg [.int .i64 ((m88 (IntKind.i64.wrap (1000 * m19 a1_0 a1_1 a1_2)) a0_1).fst), .int .i64 ((m88 (IntKind.i64.wrap (1000 * m19 a1_0 a1_1 a1_2)) a0_1).snd)]) [] [])
  False) := by kernel_rfl
def m44 (a0_0 : ByteArray) (a0_1 : Int) (a0_2 : Int) (a1_0 : Int) (a1_1 : Int) (a1_2 : Int) : Int × Int :=
  (((m88 (IntKind.i64.wrap (1000 * m19 a1_0 a1_1 a1_2)) a0_1).fst), ((m88 (IntKind.i64.wrap (1000 * m19 a1_0 a1_1 a1_2)) a0_1).snd))
def n44 (a0_0 : ByteArray) (a0_1 : Int) (a0_2 : Int) (a1_0 : Int) (a1_1 : Int) (a1_2 : Int) : Bool :=
  (((n88 (IntKind.i64.wrap (1000 * m19 a1_0 a1_1 a1_2)) a0_1)) && true)
def q44 (r : Int × Int) : SV × List Blk × List Blk := (.agg [.int .i64 r.1, .int .i64 r.2], [], [])
def g44 : List SV → List Blk → Option OpRes := fun vs bs => match vs, bs with
  | [.agg [.str a0_0, .int .i64 a0_1, .int .i64 a0_2], .agg [.int .i64 a1_0, .int .i64 a1_1, .int .i64 a1_2]], [] => some (resOf 0 (q44 (m44 a0_0 a0_1 a0_2 a1_0 a1_1 a1_2)) [n44 a0_0 a0_1 a0_2 a1_0 a1_1 a1_2])
  | _, _ => none
def c44 : Ctr := genC [.k, .k] g44
theorem p44 (a0_0 : ByteArray) (a0_1 : Int) (a0_2 : Int) (a1_0 : Int) (a1_1 : Int) (a1_2 : Int) (hn : n44 a0_0 a0_1 a0_2 a1_0 a1_1 a1_2 = true) : exec Try.prog [(19, c19), (88, c88)] (fun _ => none) 8 (Try.f44.body.getD .skip) (initS Try.f44.ntmps [.agg [.str a0_0, .int .i64 a0_1, .int .i64 a0_2], .agg [.int .i64 a1_0, .int .i64 a1_1, .int .i64 a1_2]] 0 (memOf [])) (retK Try.prog Try.f44.results.toList (outK 0 (List.range 0) [] (.k) fun v U N => (v, U, N) = (q44 (m44 a0_0 a0_1 a0_2 a1_0 a1_1 a1_2)))) :=
  propOf (x44 a0_0 a0_1 a0_2 a1_0 a1_1 a1_2 _) (cnd_need (and_l hn) (leaf_of (l := (((m88 (IntKind.i64.wrap (1000 * m19 a1_0 a1_1 a1_2)) a0_1).fst), ((m88 (IntKind.i64.wrap (1000 * m19 a1_0 a1_1 a1_2)) a0_1).snd))) rfl rfl))
theorem k44 : CtrOk Try.prog c44 44 := ctr_of (tabOk_cons k19 (tabOk_cons k88 tabOk_nil)) mix_ok 8 (fn := Try.f44) (c := (Try.f44.body.getD .skip)) (grs := []) (rh := .k) (Λ := (fun _ => none)) Try.func44 rfl (by kernel_rfl) noLam fun vs bs q h hn => by
  unfold g44 at h
  split at h <;> cases h
  exact ⟨_, rfl, p44 _ _ _ _ _ _ (hn _ (List.mem_singleton.2 rfl))⟩
/-! ### shotline/shotlineref06.MixtureOf -/
theorem x45 (a0_0 : Int) (a0_1 : Int) (a0_2 : Int) (R : SV → List Blk → List Blk → Prop) : exec Try.prog [(19, c19), (88, c88)] (fun _ => none) 8 (Try.f45.body.getD .skip) (initS Try.f45.ntmps [.agg [.int .i64 a0_0, .int .i64 a0_1, .int .i64 a0_2]] 0 (memOf [])) (retK Try.prog Try.f45.results.toList (outK 0 (List.range 0) [] (.k) fun v U N => R v U N)) =
  (cnd ((n88 (IntKind.i64.wrap (1000 * a0_0)) (m19 a0_0 a0_1 a0_2)))
  (cnd ((n88 (IntKind.i64.wrap (1000 * a0_1)) (m19 a0_0 a0_1 a0_2)))
   (R (.agg [.int .i64 ((m88 (IntKind.i64.wrap (1000 * a0_0)) (m19 a0_0 a0_1 a0_2)).fst), .int .i64 ((m88 (IntKind.i64.wrap (1000 * a0_0)) (m19 a0_0 a0_1 a0_2)).snd), .int .i64 ((m88 (IntKind.i64.wrap (1000 * a0_1)) (m19 a0_0 a0_1 a0_2)).fst), .int .i64 ((m88 (IntKind.i64.wrap (1000 * a0_1)) (m19 a0_0 a0_1 a0_2)).snd)]) [] [])
   False)
  False) := by kernel_rfl
def m45 (a0_0 : Int) (a0_1 : Int) (a0_2 : Int) : Int × Int × Int × Int :=
  (((m88 (IntKind.i64.wrap (1000 * a0_0)) (m19 a0_0 a0_1 a0_2)).fst), ((m88 (IntKind.i64.wrap (1000 * a0_0)) (m19 a0_0 a0_1 a0_2)).snd), ((m88 (IntKind.i64.wrap (1000 * a0_1)) (m19 a0_0 a0_1 a0_2)).fst), ((m88 (IntKind.i64.wrap (1000 * a0_1)) (m19 a0_0 a0_1 a0_2)).snd))
def n45 (a0_0 : Int) (a0_1 : Int) (a0_2 : Int) : Bool :=
  (((n88 (IntKind.i64.wrap (1000 * a0_0)) (m19 a0_0 a0_1 a0_2))) && (((n88 (IntKind.i64.wrap (1000 * a0_1)) (m19 a0_0 a0_1 a0_2))) && true))
def q45 (r : Int × Int × Int × Int) : SV × List Blk × List Blk := (.agg [.int .i64 r.1, .int .i64 r.2.1, .int .i64 r.2.2.1, .int .i64 r.2.2.2], [], [])
def g45 : List SV → List Blk → Option OpRes := fun vs bs => match vs, bs with
  | [.agg [.int .i64 a0_0, .int .i64 a0_1, .int .i64 a0_2]], [] => some (resOf 0 (q45 (m45 a0_0 a0_1 a0_2)) [n45 a0_0 a0_1 a0_2])
  | _, _ => none
def c45 : Ctr := genC [.k] g45
theorem p45 (a0_0 : Int) (a0_1 : Int) (a0_2 : Int) (hn : n45 a0_0 a0_1 a0_2 = true) : exec Try.prog [(19, c19), (88, c88)] (fun _ => none) 8 (Try.f45.body.getD .skip) (initS Try.f45.ntmps [.agg [.int .i64 a0_0, .int .i64 a0_1, .int .i64 a0_2]] 0 (memOf [])) (retK Try.prog Try.f45.results.toList (outK 0 (List.range 0) [] (.k) fun v U N => (v, U, N) = (q45 (m45 a0_0 a0_1 a0_2)))) :=
  propOf (x45 a0_0 a0_1 a0_2 _) (cnd_need (and_l hn) (cnd_need (and_l (and_r hn)) (leaf_of (l := (((m88 (IntKind.i64.wrap (1000 * a0_0)) (m19 a0_0 a0_1 a0_2)).fst), ((m88 (IntKind.i64.wrap (1000 * a0_0)) (m19 a0_0 a0_1 a0_2)).snd), ((m88 (IntKind.i64.wrap (1000 * a0_1)) (m19 a0_0 a0_1 a0_2)).fst), ((m88 (IntKind.i64.wrap (1000 * a0_1)) (m19 a0_0 a0_1 a0_2)).snd))) rfl rfl)))
theorem k45 : CtrOk Try.prog c45 45 := ctr_of (tabOk_cons k19 (tabOk_cons k88 tabOk_nil)) mix_ok 8 (fn := Try.f45) (c := (Try.f45.body.getD .skip)) (grs := []) (rh := .k) (Λ := (fun _ => none)) Try.func45 rfl (by kernel_rfl) noLam fun vs bs q h hn => by
  unfold g45 at h
  split at h <;> cases h
  exact ⟨_, rfl, p45 _ _ _ (hn _ (List.mem_singleton.2 rfl))⟩
/-! ### shotline/shotlinelaw06.vessels -/
theorem x25 (na0 : Nat) (da0 : Dat) (R : SV → List Blk → List Blk → Prop) : exec Try.prog [] (fun _ => none) 8 (Try.f25.body.getD .skip) (initS Try.f25.ntmps [.ro [.str, .int .i64, .int .i64] na0 da0] 0 (memOf [])) (retK Try.prog Try.f25.results.toList (outK 0 (List.range 0) [] (.ro [.str, .int .i64, .int .i64]) fun v U N => R v U N)) =
  (cnd ((decide (0 + na0 ≤ 1073741824)))
  (cnd ((decide (0 + (0 + na0) ≤ 0 + na0)))
   (R (.ro [.str, .int .i64, .int .i64] (0 + na0) ((datS [] 3).app 0 da0)) [] [])
   False)
  False) := by kernel_rfl
def m25 (na0 : Nat) (da0 : Dat) : Nat × Dat :=
  ((0 + na0), ((datS [] 3).app 0 da0))
def n25 (na0 : Nat) (da0 : Dat) : Bool :=
  (((decide (0 + na0 ≤ 1073741824))) && (((decide (0 + (0 + na0) ≤ 0 + na0))) && true))
def q25 (r : Nat × Dat) : SV × List Blk × List Blk := (.ro [.str, .int .i64, .int .i64] r.1 r.2, [], [])
def g25 : List SV → List Blk → Option OpRes := fun vs bs => match vs, bs with
  | [.ro [.str, .int .i64, .int .i64] na0 da0], [] => some (resOf 0 (q25 (m25 na0 da0)) [n25 na0 da0])
  | _, _ => none
def c25 : Ctr := genC [.ro [.str, .int .i64, .int .i64]] g25
theorem p25 (na0 : Nat) (da0 : Dat) (hn : n25 na0 da0 = true) : exec Try.prog [] (fun _ => none) 8 (Try.f25.body.getD .skip) (initS Try.f25.ntmps [.ro [.str, .int .i64, .int .i64] na0 da0] 0 (memOf [])) (retK Try.prog Try.f25.results.toList (outK 0 (List.range 0) [] (.ro [.str, .int .i64, .int .i64]) fun v U N => (v, U, N) = (q25 (m25 na0 da0)))) :=
  propOf (x25 na0 da0 _) (cnd_need (and_l hn) (cnd_need (and_l (and_r hn)) (leaf_of (l := ((0 + na0), ((datS [] 3).app 0 da0))) rfl rfl)))
theorem k25 : CtrOk Try.prog c25 25 := ctr_of tabOk_nil mix_ok 8 (fn := Try.f25) (c := (Try.f25.body.getD .skip)) (grs := []) (rh := .ro [.str, .int .i64, .int .i64]) (Λ := (fun _ => none)) Try.func25 rfl (by kernel_rfl) noLam fun vs bs q h hn => by
  unfold g25 at h
  split at h <;> cases h
  exact ⟨_, rfl, p25 _ _ (hn _ (List.mem_singleton.2 rfl))⟩
/-! ### shotline/shotlinelaw06.fills -/
theorem x26 (na0 : Nat) (da0 : Dat) (R : SV → List Blk → List Blk → Prop) : exec Try.prog [] (fun _ => none) 8 (Try.f26.body.getD .skip) (initS Try.f26.ntmps [.ro [.int .i64, .int .i64, .str, .str, .int .i64, .int .i64, .int .i64, .bool] na0 da0] 0 (memOf [])) (retK Try.prog Try.f26.results.toList (outK 0 (List.range 0) [] (.ro [.int .i64, .int .i64, .str, .str, .int .i64, .int .i64, .int .i64, .bool]) fun v U N => R v U N)) =
  (cnd ((decide (0 + na0 ≤ 1073741824)))
  (cnd ((decide (0 + (0 + na0) ≤ 0 + na0)))
   (R (.ro [.int .i64, .int .i64, .str, .str, .int .i64, .int .i64, .int .i64, .bool] (0 + na0) ((datS [] 8).app 0 da0)) [] [])
   False)
  False) := by kernel_rfl
def m26 (na0 : Nat) (da0 : Dat) : Nat × Dat :=
  ((0 + na0), ((datS [] 8).app 0 da0))
def n26 (na0 : Nat) (da0 : Dat) : Bool :=
  (((decide (0 + na0 ≤ 1073741824))) && (((decide (0 + (0 + na0) ≤ 0 + na0))) && true))
def q26 (r : Nat × Dat) : SV × List Blk × List Blk := (.ro [.int .i64, .int .i64, .str, .str, .int .i64, .int .i64, .int .i64, .bool] r.1 r.2, [], [])
def g26 : List SV → List Blk → Option OpRes := fun vs bs => match vs, bs with
  | [.ro [.int .i64, .int .i64, .str, .str, .int .i64, .int .i64, .int .i64, .bool] na0 da0], [] => some (resOf 0 (q26 (m26 na0 da0)) [n26 na0 da0])
  | _, _ => none
def c26 : Ctr := genC [.ro [.int .i64, .int .i64, .str, .str, .int .i64, .int .i64, .int .i64, .bool]] g26
theorem p26 (na0 : Nat) (da0 : Dat) (hn : n26 na0 da0 = true) : exec Try.prog [] (fun _ => none) 8 (Try.f26.body.getD .skip) (initS Try.f26.ntmps [.ro [.int .i64, .int .i64, .str, .str, .int .i64, .int .i64, .int .i64, .bool] na0 da0] 0 (memOf [])) (retK Try.prog Try.f26.results.toList (outK 0 (List.range 0) [] (.ro [.int .i64, .int .i64, .str, .str, .int .i64, .int .i64, .int .i64, .bool]) fun v U N => (v, U, N) = (q26 (m26 na0 da0)))) :=
  propOf (x26 na0 da0 _) (cnd_need (and_l hn) (cnd_need (and_l (and_r hn)) (leaf_of (l := ((0 + na0), ((datS [] 8).app 0 da0))) rfl rfl)))
theorem k26 : CtrOk Try.prog c26 26 := ctr_of tabOk_nil mix_ok 8 (fn := Try.f26) (c := (Try.f26.body.getD .skip)) (grs := []) (rh := .ro [.int .i64, .int .i64, .str, .str, .int .i64, .int .i64, .int .i64, .bool]) (Λ := (fun _ => none)) Try.func26 rfl (by kernel_rfl) noLam fun vs bs q h hn => by
  unfold g26 at h
  split at h <;> cases h
  exact ⟨_, rfl, p26 _ _ (hn _ (List.mem_singleton.2 rfl))⟩
/-! ### shotline/mix.CheckVessels -/
/-! #### loop 0 -/
def l28_0 (t0_0 : Nat) (t0_1 : Dat) (t8_1 : Dat) (t9 : Int) : Nat → Int → Option (Bool × (Int) × (Unit))
  | 0, _ => none
  | f + 1, t10 => (cond ((decide (t10 < t9))) (cond ((decide ((0 : Int) ≤ t10 ∧ t10 < (↑t0_0 : Int)))) (cond ((n78 (t8_1.ss t10.toNat 0))) (cond ((bif (m78 (t8_1.ss t10.toNat 0)) then false else true)) (some (true, 4, default)) (cond ((n79 t0_0 t0_1 (t8_1.ss t10.toNat 0))) (cond ((decide (m79 t0_0 t0_1 (t8_1.ss t10.toNat 0) < t10))) (some (true, 5, default)) (cond ((bif (bif (m73 (t8_1.ii t10.toNat (0 + 1)) 1 1000000) then false else true) then true else (bif (m73 (t8_1.ii t10.toNat (0 + 1 + 1)) 1 400000) then false else true))) (some (true, 2, default)) (l28_0 t0_0 t0_1 t8_1 t9 f (IntKind.i64.wrap (t10 + 1))))) none)) none) none) (some (false, default, ())))
abbrev o28_0 (t0_0 : Nat) (t0_1 : Dat) (t8_1 : Dat) (t9 : Int) (t10 : Int) : Option (Bool × (Int) × (Unit)) := l28_0 t0_0 t0_1 t8_1 t9 (t0_0 + t9.toNat + t10.toNat + 8) t10
def e28_0 (t0_0 : Nat) (t0_1 : Dat) (t8_1 : Dat) (t9 : Int) (r : Bool × (Int) × (Unit)) (K : XR) : Prop := cnd r.1 (K (XE.ret) [.int .i64 r.2.1] []) (K (XE.exit 0) [.any] [])
def g28_0 : LSum := fun s k => match czv 0 39 [0, 8, 9, 10] 0 [] s with
  | some ([.ro [.str, .int .i64, .int .i64] t0_0 t0_1, .ro [.str, .int .i64, .int .i64] t8_0 t8_1, .int .i64 t9, .int .i64 t10], []) => needs [decide (t0_0 = t8_0), (o28_0 t0_0 t0_1 t8_1 t9 t10).isSome] (e28_0 t0_0 t0_1 t8_1 t9 ((o28_0 t0_0 t0_1 t8_1 t9 t10).getD default) fun e vs bs => inBlk 0 k e (mkSt 0 39 [2] vs 0 bs))
  | _ => False
theorem y28_0 (t0_0 : Nat) (t0_1 : Dat) (t8_1 : Dat) (t9 : Int) (t10 : Int) (R : XR) : exec Try.prog [(73, c73), (78, c78), (79, c79)] (fun _ => none) 8 (unloop (bodyAt (Try.f28.body.getD .skip) 0)) (mkSt 0 39 [0, 8, 9, 10] [.ro [.str, .int .i64, .int .i64] t0_0 t0_1, .ro [.str, .int .i64, .int .i64] t0_0 t8_1, .int .i64 t9, .int .i64 t10] 0 []) (canonK 0 39 [0, 8, 9, 10] [2] 0 [] R) =
  (cnd ((decide (t10 < t9)))
  (cnd ((decide ((0 : Int) ≤ t10 ∧ t10 < (↑t0_0 : Int))))
   (cnd ((n78 (t8_1.ss t10.toNat 0)))
    (cnd ((bif (m78 (t8_1.ss t10.toNat 0)) then false else true))
     (R (XE.ret) [.int .i64 4] [])
     (cnd ((n79 t0_0 t0_1 (t8_1.ss t10.toNat 0)))
      (cnd ((decide (m79 t0_0 t0_1 (t8_1.ss t10.toNat 0) < t10)))
       (R (XE.ret) [.int .i64 5] [])
       (cnd ((bif (bif (m73 (t8_1.ii t10.toNat (0 + 1)) 1 1000000) then false else true) then true else (bif (m73 (t8_1.ii t10.toNat (0 + 1 + 1)) 1 400000) then false else true)))
        (R (XE.ret) [.int .i64 2] [])
        (R (XE.normal) [.ro [.str, .int .i64, .int .i64] t0_0 t0_1, .ro [.str, .int .i64, .int .i64] t0_0 t8_1, .int .i64 t9, .int .i64 (IntKind.i64.wrap (t10 + 1))] [])))
      False))
    False)
   False)
  (R (XE.exit 0) [.any] [])) := by kernel_rfl
theorem z28_0 : LOk Try.prog g28_0 (.block 0 (bodyAt (Try.f28.body.getD .skip) 0)) := by
  refine loop_blk (ι := Nat × Dat × Dat × Int × Int) (L := [(73, c73), (78, c78), (79, c79)]) (Λ := (fun _ => none)) (fuel := 8) (na := 0) (nt := 39) (nx := 0) (Lh := [0, 8, 9, 10]) (Le := [2]) (gl := []) (tabOk_cons k73 (tabOk_cons k78 (tabOk_cons k79 tabOk_nil))) mix_ok noLam rfl (fun f x K => GG default (e28_0 x.1 x.2.1 x.2.2.1 x.2.2.2.1) K (l28_0 x.1 x.2.1 x.2.2.1 x.2.2.2.1 f x.2.2.2.2)) (fun x => [.ro [.str, .int .i64, .int .i64] x.1 x.2.1, .ro [.str, .int .i64, .int .i64] x.1 x.2.2.1, .int .i64 x.2.2.2.1, .int .i64 x.2.2.2.2]) (fun x => []) (fun x K => gg_none) ?_ ?_
  · rintro f ⟨t0_0, t0_1, t8_1, t9, t10⟩ K hG
    have hG : GG default (e28_0 t0_0 t0_1 t8_1 t9) K (cond ((decide (t10 < t9))) (cond ((decide ((0 : Int) ≤ t10 ∧ t10 < (↑t0_0 : Int)))) (cond ((n78 (t8_1.ss t10.toNat 0))) (cond ((bif (m78 (t8_1.ss t10.toNat 0)) then false else true)) (some (true, 4, default)) (cond ((n79 t0_0 t0_1 (t8_1.ss t10.toNat 0))) (cond ((decide (m79 t0_0 t0_1 (t8_1.ss t10.toNat 0) < t10))) (some (true, 5, default)) (cond ((bif (bif (m73 (t8_1.ii t10.toNat (0 + 1)) 1 1000000) then false else true) then true else (bif (m73 (t8_1.ii t10.toNat (0 + 1 + 1)) 1 400000) then false else true))) (some (true, 2, default)) (l28_0 t0_0 t0_1 t8_1 t9 f (IntKind.i64.wrap (t10 + 1))))) none)) none) none) (some (false, default, ()))) := hG
    refine propOf (y28_0 t0_0 t0_1 t8_1 t9 t10 _) ?_
    exact cnd_gg2 hG (fun h0 => cnd_gg h0 fun h1 => cnd_gg h1 fun h2 => cnd_gg2 h2 (fun h3 => h3.2) (fun h3 => cnd_gg h3 fun h4 => cnd_gg2 h4 (fun h5 => h5.2) (fun h5 => cnd_gg2 h5 (fun h6 => h6.2) (fun h6 => ⟨(t0_0, t0_1, t8_1, t9, (IntKind.i64.wrap (t10 + 1))), rfl, rfl, h6⟩)))) (fun h0 => h0.2)
  · intro s k h
    unfold g28_0 at h
    split at h <;> try exact h.elim
    rename_i e1
    rw [needs_iff] at h
    have hq := h.1
    simp only [List.mem_cons, forall_eq_or_imp, decide_eq_true_eq, List.not_mem_nil, false_imp_iff, implies_true, and_true] at hq
    obtain ⟨rfl, hq⟩ := hq
    exact ⟨_, e1, _, (_, _, _, _, _), rfl, rfl, hq, h.2⟩
theorem x28 (na0 : Nat) (da0 : Dat) (R : SV → List Blk → List Blk → Prop) : exec Try.prog [(73, c73), (78, c78), (79, c79)] (lamOf [(0, g28_0)]) 8 (Try.f28.body.getD .skip) (initS Try.f28.ntmps [.ro [.str, .int .i64, .int .i64] na0 da0] 0 (memOf [])) (retK Try.prog Try.f28.results.toList (outK 0 (List.range 0) [] (.k) fun v U N => R v U N)) =
  (cnd ((decide ((20 : Int) < (↑na0 : Int))))
  (R (.int .i64 8) [] [])
  (cnd ((decide (na0 = na0)))
   (cnd (((o28_0 na0 da0 da0 (↑na0 : Int) 0).isSome))
    (cnd ((((o28_0 na0 da0 da0 (↑na0 : Int) 0).getD default).fst))
     (R (.int .i64 (((o28_0 na0 da0 da0 (↑na0 : Int) 0).getD default).snd.fst)) [] [])
     (R (.int .i64 0) [] []))
    False)
   False)) := by kernel_rfl
def m28 (na0 : Nat) (da0 : Dat) : Int :=
  (cond ((decide ((20 : Int) < (↑na0 : Int)))) 8 (cond ((((o28_0 na0 da0 da0 (↑na0 : Int) 0).getD default).fst)) (((o28_0 na0 da0 da0 (↑na0 : Int) 0).getD default).snd.fst) 0))
def n28 (na0 : Nat) (da0 : Dat) : Bool :=
  (cond ((decide ((20 : Int) < (↑na0 : Int)))) true ((((o28_0 na0 da0 da0 (↑na0 : Int) 0).isSome)) && true))
def q28 (r : Int) : SV × List Blk × List Blk := (.int .i64 r, [], [])
def g28 : List SV → List Blk → Option OpRes := fun vs bs => match vs, bs with
  | [.ro [.str, .int .i64, .int .i64] na0 da0], [] => some (resOf 0 (q28 (m28 na0 da0)) [n28 na0 da0])
  | _, _ => none
def c28 : Ctr := genC [.ro [.str, .int .i64, .int .i64]] g28
theorem p28 (na0 : Nat) (da0 : Dat) (hn : n28 na0 da0 = true) : exec Try.prog [(73, c73), (78, c78), (79, c79)] (lamOf [(0, g28_0)]) 8 (Try.f28.body.getD .skip) (initS Try.f28.ntmps [.ro [.str, .int .i64, .int .i64] na0 da0] 0 (memOf [])) (retK Try.prog Try.f28.results.toList (outK 0 (List.range 0) [] (.k) fun v U N => (v, U, N) = (q28 (m28 na0 da0)))) :=
  propOf (x28 na0 da0 _) (cnd_of (fun h0 => leaf_of (l := 8) (condT h0 rfl) rfl) (fun h0 => cnd_need (decide_eq_true rfl) (cnd_need (and_l (cond_f h0 hn)) (cnd_of (fun h1 => leaf_of (l := (((o28_0 na0 da0 da0 (↑na0 : Int) 0).getD default).snd.fst)) (condF h0 (condT h1 rfl)) rfl) (fun h1 => leaf_of (l := 0) (condF h0 (condF h1 rfl)) rfl)))))
theorem k28 : CtrOk Try.prog c28 28 := ctr_of (tabOk_cons k73 (tabOk_cons k78 (tabOk_cons k79 tabOk_nil))) mix_ok 8 (fn := Try.f28) (c := (Try.f28.body.getD .skip)) (grs := []) (rh := .k) (Λ := (lamOf [(0, g28_0)])) Try.func28 rfl (by kernel_rfl) (lam_of rfl (lams_cons z28_0 lams_nil)) fun vs bs q h hn => by
  unfold g28 at h
  split at h <;> cases h
  exact ⟨_, rfl, p28 _ _ (hn _ (List.mem_singleton.2 rfl))⟩
/-! ### shotline/shotlineref06.CheckVessels -/
/-! #### loop 0 -/
def l29_0 (t0_0 : Nat) (t0_1 : Dat) : Nat → Int → Option (Bool × (Int) × (Unit))
  | 0, _ => none
  | f + 1, t3 => (cond ((decide (t3 < (↑t0_0 : Int)))) (cond ((decide (0 ≤ t3 ∧ t3 < (↑t0_0 : Int)))) (cond ((n80 (t0_1.ss t3.toNat 0))) (cond ((bif (m80 (t0_1.ss t3.toNat 0)) then false else true)) (some (true, 4, default)) (cond ((decide ((0 : Int) ≤ (0 : Int) ∧ (0 : Int) ≤ t3 ∧ t3 ≤ (↑t0_0 : Int)))) (cond ((decide (0 ≤ t3 ∧ t3 < (↑t0_0 : Int)))) (cond ((n43 (t3 - 0).toNat t0_1 (t0_1.ss t3.toNat 0))) (cond ((decide (0 ≤ m43 (t3 - 0).toNat t0_1 (t0_1.ss t3.toNat 0)))) (some (true, 5, default)) (cond ((decide (0 ≤ t3 ∧ t3 < (↑t0_0 : Int)))) (cond ((bif (bif (bif (bif (m18 (t0_1.ii t3.toNat (0 + 1)) 1 1000000) then false else true) then false else true) then false else true) then true else (decide (0 ≤ t3 ∧ t3 < (↑t0_0 : Int))))) (cond ((bif (bif (m18 (t0_1.ii t3.toNat (0 + 1)) 1 1000000) then false else true) then true else (bif (m18 (t0_1.ii t3.toNat (0 + 1 + 1)) 1 400000) then false else true))) (some (true, 2, default)) (l29_0 t0_0 t0_1 f (IntKind.i64.wrap (t3 + 1)))) none) none)) none) none) none)) none) none) (some (false, default, ())))
abbrev o29_0 (t0_0 : Nat) (t0_1 : Dat) (t3 : Int) : Option (Bool × (Int) × (Unit)) := l29_0 t0_0 t0_1 (t0_0 + t3.toNat + 8) t3
def e29_0 (t0_0 : Nat) (t0_1 : Dat) (r : Bool × (Int) × (Unit)) (K : XR) : Prop := cnd r.1 (K (XE.ret) [.int .i64 r.2.1] []) (K (XE.exit 0) [.any] [])
def g29_0 : LSum := fun s k => match czv 0 46 [0, 3] 0 [] s with
  | some ([.ro [.str, .int .i64, .int .i64] t0_0 t0_1, .int .i64 t3], []) => needs [(o29_0 t0_0 t0_1 t3).isSome] (e29_0 t0_0 t0_1 ((o29_0 t0_0 t0_1 t3).getD default) fun e vs bs => inBlk 0 k e (mkSt 0 46 [2] vs 0 bs))
  | _ => False
theorem y29_0 (t0_0 : Nat) (t0_1 : Dat) (t3 : Int) (R : XR) : exec Try.prog [(18, c18), (43, c43), (80, c80)] (fun _ => none) 8 (unloop (bodyAt (Try.f29.body.getD .skip) 0)) (mkSt 0 46 [0, 3] [.ro [.str, .int .i64, .int .i64] t0_0 t0_1, .int .i64 t3] 0 []) (canonK 0 46 [0, 3] [2] 0 [] R) =
  (cnd ((decide (t3 < (↑t0_0 : Int))))
  (cnd ((decide (0 ≤ t3 ∧ t3 < (↑t0_0 : Int))))
   (cnd ((n80 (t0_1.ss t3.toNat 0)))
    (cnd ((bif (m80 (t0_1.ss t3.toNat 0)) then false else true))
     (R (XE.ret) [.int .i64 4] [])
     (cnd ((decide ((0 : Int) ≤ (0 : Int) ∧ (0 : Int) ≤ t3 ∧ t3 ≤ (↑t0_0 : Int))))
      (cnd ((decide (0 ≤ t3 ∧ t3 < (↑t0_0 : Int))))
       (cnd ((n43 (t3 - 0).toNat t0_1 (t0_1.ss t3.toNat 0)))
        (cnd ((decide (0 ≤ m43 (t3 - 0).toNat t0_1 (t0_1.ss t3.toNat 0))))
         (R (XE.ret) [.int .i64 5] [])
         (cnd ((decide (0 ≤ t3 ∧ t3 < (↑t0_0 : Int))))
          (cnd ((bif (bif (bif (bif (m18 (t0_1.ii t3.toNat (0 + 1)) 1 1000000) then false else true) then false else true) then false else true) then true else (decide (0 ≤ t3 ∧ t3 < (↑t0_0 : Int)))))
           (cnd ((bif (bif (m18 (t0_1.ii t3.toNat (0 + 1)) 1 1000000) then false else true) then true else (bif (m18 (t0_1.ii t3.toNat (0 + 1 + 1)) 1 400000) then false else true)))
            (R (XE.ret) [.int .i64 2] [])
            (R (XE.normal) [.ro [.str, .int .i64, .int .i64] t0_0 t0_1, .int .i64 (IntKind.i64.wrap (t3 + 1))] []))
           False)
          False))
        False)
       False)
      False))
    False)
   False)
  (R (XE.exit 0) [.any] [])) := by kernel_rfl
theorem z29_0 : LOk Try.prog g29_0 (.block 0 (bodyAt (Try.f29.body.getD .skip) 0)) := by
  refine loop_blk (ι := Nat × Dat × Int) (L := [(18, c18), (43, c43), (80, c80)]) (Λ := (fun _ => none)) (fuel := 8) (na := 0) (nt := 46) (nx := 0) (Lh := [0, 3]) (Le := [2]) (gl := []) (tabOk_cons k18 (tabOk_cons k43 (tabOk_cons k80 tabOk_nil))) mix_ok noLam rfl (fun f x K => GG default (e29_0 x.1 x.2.1) K (l29_0 x.1 x.2.1 f x.2.2)) (fun x => [.ro [.str, .int .i64, .int .i64] x.1 x.2.1, .int .i64 x.2.2]) (fun x => []) (fun x K => gg_none) ?_ ?_
  · rintro f ⟨t0_0, t0_1, t3⟩ K hG
    have hG : GG default (e29_0 t0_0 t0_1) K (cond ((decide (t3 < (↑t0_0 : Int)))) (cond ((decide (0 ≤ t3 ∧ t3 < (↑t0_0 : Int)))) (cond ((n80 (t0_1.ss t3.toNat 0))) (cond ((bif (m80 (t0_1.ss t3.toNat 0)) then false else true)) (some (true, 4, default)) (cond ((decide ((0 : Int) ≤ (0 : Int) ∧ (0 : Int) ≤ t3 ∧ t3 ≤ (↑t0_0 : Int)))) (cond ((decide (0 ≤ t3 ∧ t3 < (↑t0_0 : Int)))) (cond ((n43 (t3 - 0).toNat t0_1 (t0_1.ss t3.toNat 0))) (cond ((decide (0 ≤ m43 (t3 - 0).toNat t0_1 (t0_1.ss t3.toNat 0)))) (some (true, 5, default)) (cond ((decide (0 ≤ t3 ∧ t3 < (↑t0_0 : Int)))) (cond ((bif (bif (bif (bif (m18 (t0_1.ii t3.toNat (0 + 1)) 1 1000000) then false else true) then false else true) then false else true) then true else (decide (0 ≤ t3 ∧ t3 < (↑t0_0 : Int))))) (cond ((bif (bif (m18 (t0_1.ii t3.toNat (0 + 1)) 1 1000000) then false else true) then true else (bif (m18 (t0_1.ii t3.toNat (0 + 1 + 1)) 1 400000) then false else true))) (some (true, 2, default)) (l29_0 t0_0 t0_1 f (IntKind.i64.wrap (t3 + 1)))) none) none)) none) none) none)) none) none) (some (false, default, ()))) := hG
    refine propOf (y29_0 t0_0 t0_1 t3 _) ?_
    exact cnd_gg2 hG (fun h0 => cnd_gg h0 fun h1 => cnd_gg h1 fun h2 => cnd_gg2 h2 (fun h3 => h3.2) (fun h3 => cnd_gg h3 fun h4 => cnd_gg h4 fun h5 => cnd_gg h5 fun h6 => cnd_gg2 h6 (fun h7 => h7.2) (fun h7 => cnd_gg h7 fun h8 => cnd_gg h8 fun h9 => cnd_gg2 h9 (fun h10 => h10.2) (fun h10 => ⟨(t0_0, t0_1, (IntKind.i64.wrap (t3 + 1))), rfl, rfl, h10⟩)))) (fun h0 => h0.2)
  · intro s k h
    unfold g29_0 at h
    split at h <;> try exact h.elim
    rename_i e1
    rw [needs_iff] at h
    exact ⟨_, e1, _, (_, _, _), rfl, rfl, h.1 _ (List.mem_singleton.2 rfl), h.2⟩
theorem x29 (na0 : Nat) (da0 : Dat) (R : SV → List Blk → List Blk → Prop) : exec Try.prog [(18, c18), (43, c43), (80, c80)] (lamOf [(0, g29_0)]) 8 (Try.f29.body.getD .skip) (initS Try.f29.ntmps [.ro [.str, .int .i64, .int .i64] na0 da0] 0 (memOf [])) (retK Try.prog Try.f29.results.toList (outK 0 (List.range 0) [] (.k) fun v U N => R v U N)) =
  (cnd ((decide ((20 : Int) < (↑na0 : Int))))
  (R (.int .i64 8) [] [])
  (cnd (((o29_0 na0 da0 0).isSome))
   (cnd ((((o29_0 na0 da0 0).getD default).fst))
    (R (.int .i64 (((o29_0 na0 da0 0).getD default).snd.fst)) [] [])
    (R (.int .i64 0) [] []))
   False)) := by kernel_rfl
def m29 (na0 : Nat) (da0 : Dat) : Int :=
  (cond ((decide ((20 : Int) < (↑na0 : Int)))) 8 (cond ((((o29_0 na0 da0 0).getD default).fst)) (((o29_0 na0 da0 0).getD default).snd.fst) 0))
def n29 (na0 : Nat) (da0 : Dat) : Bool :=
  (cond ((decide ((20 : Int) < (↑na0 : Int)))) true ((((o29_0 na0 da0 0).isSome)) && true))
def q29 (r : Int) : SV × List Blk × List Blk := (.int .i64 r, [], [])
def g29 : List SV → List Blk → Option OpRes := fun vs bs => match vs, bs with
  | [.ro [.str, .int .i64, .int .i64] na0 da0], [] => some (resOf 0 (q29 (m29 na0 da0)) [n29 na0 da0])
  | _, _ => none
def c29 : Ctr := genC [.ro [.str, .int .i64, .int .i64]] g29
theorem p29 (na0 : Nat) (da0 : Dat) (hn : n29 na0 da0 = true) : exec Try.prog [(18, c18), (43, c43), (80, c80)] (lamOf [(0, g29_0)]) 8 (Try.f29.body.getD .skip) (initS Try.f29.ntmps [.ro [.str, .int .i64, .int .i64] na0 da0] 0 (memOf [])) (retK Try.prog Try.f29.results.toList (outK 0 (List.range 0) [] (.k) fun v U N => (v, U, N) = (q29 (m29 na0 da0)))) :=
  propOf (x29 na0 da0 _) (cnd_of (fun h0 => leaf_of (l := 8) (condT h0 rfl) rfl) (fun h0 => cnd_need (and_l (cond_f h0 hn)) (cnd_of (fun h1 => leaf_of (l := (((o29_0 na0 da0 0).getD default).snd.fst)) (condF h0 (condT h1 rfl)) rfl) (fun h1 => leaf_of (l := 0) (condF h0 (condF h1 rfl)) rfl))))
theorem k29 : CtrOk Try.prog c29 29 := ctr_of (tabOk_cons k18 (tabOk_cons k43 (tabOk_cons k80 tabOk_nil))) mix_ok 8 (fn := Try.f29) (c := (Try.f29.body.getD .skip)) (grs := []) (rh := .k) (Λ := (lamOf [(0, g29_0)])) Try.func29 rfl (by kernel_rfl) (lam_of rfl (lams_cons z29_0 lams_nil)) fun vs bs q h hn => by
  unfold g29 at h
  split at h <;> cases h
  exact ⟨_, rfl, p29 _ _ (hn _ (List.mem_singleton.2 rfl))⟩
/-! ### shotline/shotlinelaw06.Room -/
theorem x68  (R : SV → List Blk → List Blk → Prop) : exec Try.prog [] (fun _ => none) 8 (Try.f68.body.getD .skip) (initS Try.f68.ntmps [] 0 (memOf [])) (retK Try.prog Try.f68.results.toList (outK 0 (List.range 0) [] (.ro [.str, .int .i64, .int .i64]) fun v U N => R v U N)) =
  (R (.ro [.str, .int .i64, .int .i64] 2 (datS [SV.str { data := #[98, 97, 110, 107] }, SV.int IntKind.i64 50000, SV.int IntKind.i64 300000, SV.str { data := #[115, 49, 50] }, SV.int IntKind.i64 12000, SV.int IntKind.i64 232000] 3)) [] []) := by kernel_rfl
def m68  : Dat :=
  (datS [SV.str { data := #[98, 97, 110, 107] }, SV.int IntKind.i64 50000, SV.int IntKind.i64 300000, SV.str { data := #[115, 49, 50] }, SV.int IntKind.i64 12000, SV.int IntKind.i64 232000] 3)
def q68 (r : Dat) : SV × List Blk × List Blk := (.ro [.str, .int .i64, .int .i64] 2 r, [], [])
def g68 : List SV → List Blk → Option OpRes := fun vs bs => match vs, bs with
  | [], [] => some (resOf 0 (q68 (m68)) [])
  | _, _ => none
def c68 : Ctr := genC [] g68
theorem p68  : exec Try.prog [] (fun _ => none) 8 (Try.f68.body.getD .skip) (initS Try.f68.ntmps [] 0 (memOf [])) (retK Try.prog Try.f68.results.toList (outK 0 (List.range 0) [] (.ro [.str, .int .i64, .int .i64]) fun v U N => (v, U, N) = (q68 (m68)))) :=
  propOf (x68  _) (leaf_of (l := (datS [SV.str { data := #[98, 97, 110, 107] }, SV.int IntKind.i64 50000, SV.int IntKind.i64 300000, SV.str { data := #[115, 49, 50] }, SV.int IntKind.i64 12000, SV.int IntKind.i64 232000] 3)) rfl rfl)
theorem k68 : CtrOk Try.prog c68 68 := ctr_of tabOk_nil mix_ok 8 (fn := Try.f68) (c := (Try.f68.body.getD .skip)) (grs := []) (rh := .ro [.str, .int .i64, .int .i64]) (Λ := (fun _ => none)) Try.func68 rfl (by kernel_rfl) noLam fun vs bs q h _ => by
  unfold g68 at h
  split at h <;> cases h
  exact ⟨_, rfl, p68 ⟩
/-! ### shotline/shotlinelaw06.Diary -/
theorem x69  (R : SV → List Blk → List Blk → Prop) : exec Try.prog [] (fun _ => none) 8 (Try.f69.body.getD .skip) (initS Try.f69.ntmps [] 0 (memOf [])) (retK Try.prog Try.f69.results.toList (outK 0 (List.range 0) [] (.ro [.int .i64, .int .i64, .str, .str, .int .i64, .int .i64, .int .i64, .bool]) fun v U N => R v U N)) =
  (R (.ro [.int .i64, .int .i64, .str, .str, .int .i64, .int .i64, .int .i64, .bool] 2 (datS [SV.int IntKind.i64 0, SV.int IntKind.i64 1, SV.str { data := #[] }, SV.str { data := #[98, 97, 110, 107] }, SV.int IntKind.i64 210, SV.int IntKind.i64 0, SV.int IntKind.i64 10000000, SV.bool false, SV.int IntKind.i64 1, SV.int IntKind.i64 1, SV.str { data := #[98, 97, 110, 107] }, SV.str { data := #[115, 49, 50] }, SV.int IntKind.i64 0, SV.int IntKind.i64 0, SV.int IntKind.i64 1900000, SV.bool false] 8)) [] []) := by kernel_rfl
def m69  : Dat :=
  (datS [SV.int IntKind.i64 0, SV.int IntKind.i64 1, SV.str { data := #[] }, SV.str { data := #[98, 97, 110, 107] }, SV.int IntKind.i64 210, SV.int IntKind.i64 0, SV.int IntKind.i64 10000000, SV.bool false, SV.int IntKind.i64 1, SV.int IntKind.i64 1, SV.str { data := #[98, 97, 110, 107] }, SV.str { data := #[115, 49, 50] }, SV.int IntKind.i64 0, SV.int IntKind.i64 0, SV.int IntKind.i64 1900000, SV.bool false] 8)
def q69 (r : Dat) : SV × List Blk × List Blk := (.ro [.int .i64, .int .i64, .str, .str, .int .i64, .int .i64, .int .i64, .bool] 2 r, [], [])
def g69 : List SV → List Blk → Option OpRes := fun vs bs => match vs, bs with
  | [], [] => some (resOf 0 (q69 (m69)) [])
  | _, _ => none
def c69 : Ctr := genC [] g69
theorem p69  : exec Try.prog [] (fun _ => none) 8 (Try.f69.body.getD .skip) (initS Try.f69.ntmps [] 0 (memOf [])) (retK Try.prog Try.f69.results.toList (outK 0 (List.range 0) [] (.ro [.int .i64, .int .i64, .str, .str, .int .i64, .int .i64, .int .i64, .bool]) fun v U N => (v, U, N) = (q69 (m69)))) :=
  propOf (x69  _) (leaf_of (l := (datS [SV.int IntKind.i64 0, SV.int IntKind.i64 1, SV.str { data := #[] }, SV.str { data := #[98, 97, 110, 107] }, SV.int IntKind.i64 210, SV.int IntKind.i64 0, SV.int IntKind.i64 10000000, SV.bool false, SV.int IntKind.i64 1, SV.int IntKind.i64 1, SV.str { data := #[98, 97, 110, 107] }, SV.str { data := #[115, 49, 50] }, SV.int IntKind.i64 0, SV.int IntKind.i64 0, SV.int IntKind.i64 1900000, SV.bool false] 8)) rfl rfl)
theorem k69 : CtrOk Try.prog c69 69 := ctr_of tabOk_nil mix_ok 8 (fn := Try.f69) (c := (Try.f69.body.getD .skip)) (grs := []) (rh := .ro [.int .i64, .int .i64, .str, .str, .int .i64, .int .i64, .int .i64, .bool]) (Λ := (fun _ => none)) Try.func69 rfl (by kernel_rfl) noLam fun vs bs q h _ => by
  unfold g69 at h
  split at h <;> cases h
  exact ⟨_, rfl, p69 ⟩
/-! ### shotline/shotlinelaw06.Nitrox -/
theorem x70  (R : SV → List Blk → List Blk → Prop) : exec Try.prog [] (fun _ => none) 8 (Try.f70.body.getD .skip) (initS Try.f70.ntmps [] 0 (memOf [])) (retK Try.prog Try.f70.results.toList (outK 0 (List.range 0) [] (.t [.ro [.str, .int .i64, .int .i64, .int .i64, .int .i64], .k, .k, .k, .k, .k, .k, .k, .k]) fun v U N => R v U N)) =
  (R (.agg [.ro [.str, .int .i64, .int .i64, .int .i64, .int .i64] 2 (datS [SV.str { data := #[97, 105, 114] }, SV.int IntKind.i64 210, SV.int IntKind.i64 0, SV.int IntKind.i64 2, SV.int IntKind.i64 10000, SV.str { data := #[111, 50] }, SV.int IntKind.i64 1000, SV.int IntKind.i64 0, SV.int IntKind.i64 50, SV.int IntKind.i64 5000] 5), .int .i64 0, .int .i64 0, .int .i64 0, .int .i64 790, .int .i64 320, .int .i64 340, .int .i64 0, .int .i64 0]) [] []) := by kernel_rfl
def m70  : Dat × Int × Int × Int × Int × Int × Int × Int × Int :=
  ((datS [SV.str { data := #[97, 105, 114] }, SV.int IntKind.i64 210, SV.int IntKind.i64 0, SV.int IntKind.i64 2, SV.int IntKind.i64 10000, SV.str { data := #[111, 50] }, SV.int IntKind.i64 1000, SV.int IntKind.i64 0, SV.int IntKind.i64 50, SV.int IntKind.i64 5000] 5), 0, 0, 0, 790, 320, 340, 0, 0)
def q70 (r : Dat × Int × Int × Int × Int × Int × Int × Int × Int) : SV × List Blk × List Blk := (.agg [.ro [.str, .int .i64, .int .i64, .int .i64, .int .i64] 2 r.1, .int .i64 r.2.1, .int .i64 r.2.2.1, .int .i64 r.2.2.2.1, .int .i64 r.2.2.2.2.1, .int .i64 r.2.2.2.2.2.1, .int .i64 r.2.2.2.2.2.2.1, .int .i64 r.2.2.2.2.2.2.2.1, .int .i64 r.2.2.2.2.2.2.2.2], [], [])
def g70 : List SV → List Blk → Option OpRes := fun vs bs => match vs, bs with
  | [], [] => some (resOf 0 (q70 (m70)) [])
  | _, _ => none
def c70 : Ctr := genC [] g70
theorem p70  : exec Try.prog [] (fun _ => none) 8 (Try.f70.body.getD .skip) (initS Try.f70.ntmps [] 0 (memOf [])) (retK Try.prog Try.f70.results.toList (outK 0 (List.range 0) [] (.t [.ro [.str, .int .i64, .int .i64, .int .i64, .int .i64], .k, .k, .k, .k, .k, .k, .k, .k]) fun v U N => (v, U, N) = (q70 (m70)))) :=
  propOf (x70  _) (leaf_of (l := ((datS [SV.str { data := #[97, 105, 114] }, SV.int IntKind.i64 210, SV.int IntKind.i64 0, SV.int IntKind.i64 2, SV.int IntKind.i64 10000, SV.str { data := #[111, 50] }, SV.int IntKind.i64 1000, SV.int IntKind.i64 0, SV.int IntKind.i64 50, SV.int IntKind.i64 5000] 5), 0, 0, 0, 790, 320, 340, 0, 0)) rfl rfl)
theorem k70 : CtrOk Try.prog c70 70 := ctr_of tabOk_nil mix_ok 8 (fn := Try.f70) (c := (Try.f70.body.getD .skip)) (grs := []) (rh := .t [.ro [.str, .int .i64, .int .i64, .int .i64, .int .i64], .k, .k, .k, .k, .k, .k, .k, .k]) (Λ := (fun _ => none)) Try.func70 rfl (by kernel_rfl) noLam fun vs bs q h _ => by
  unfold g70 at h
  split at h <;> cases h
  exact ⟨_, rfl, p70 ⟩
/-! ### shotline/mix.checkContent -/
theorem x71 (a0_0 : Int) (a0_1 : Int) (a0_2 : Int) (R : SV → List Blk → List Blk → Prop) : exec Try.prog [(72, c72), (74, c74), (110, c110c111), (111, c111)] (fun _ => none) 8 (Try.f71.body.getD .skip) (initS Try.f71.ntmps [.agg [.int .i64 a0_0, .int .i64 a0_1, .int .i64 a0_2]] 0 (memOf [])) (retK Try.prog Try.f71.results.toList (outK 0 (List.range 0) [] (.k) fun v U N => R v U N)) =
  (cnd ((n110c111 ((↑3 : Int) - 0).toNat (datS [SV.int IntKind.i64 (m72 a0_0 a0_1 a0_2).fst, SV.int IntKind.i64 (m72 a0_0 a0_1 a0_2).snd.fst, SV.int IntKind.i64 (m72 a0_0 a0_1 a0_2).snd.snd] 1)))
  (cnd ((bif (m110c111 ((↑3 : Int) - 0).toNat (datS [SV.int IntKind.i64 (m72 a0_0 a0_1 a0_2).fst, SV.int IntKind.i64 (m72 a0_0 a0_1 a0_2).snd.fst, SV.int IntKind.i64 (m72 a0_0 a0_1 a0_2).snd.snd] 1)) then true else (decide ((1000000000 : Int) < m74 (m72 a0_0 a0_1 a0_2).fst (m72 a0_0 a0_1 a0_2).snd.fst (m72 a0_0 a0_1 a0_2).snd.snd))))
   (R (.int .i64 2) [] [])
   (R (.int .i64 0) [] []))
  False) := by kernel_rfl
noncomputable def m71 (a0_0 : Int) (a0_1 : Int) (a0_2 : Int) : Int :=
  (cond ((bif (m110c111 ((↑3 : Int) - 0).toNat (datS [SV.int IntKind.i64 (m72 a0_0 a0_1 a0_2).fst, SV.int IntKind.i64 (m72 a0_0 a0_1 a0_2).snd.fst, SV.int IntKind.i64 (m72 a0_0 a0_1 a0_2).snd.snd] 1)) then true else (decide ((1000000000 : Int) < m74 (m72 a0_0 a0_1 a0_2).fst (m72 a0_0 a0_1 a0_2).snd.fst (m72 a0_0 a0_1 a0_2).snd.snd)))) 2 0)
noncomputable def n71 (a0_0 : Int) (a0_1 : Int) (a0_2 : Int) : Bool :=
  (((n110c111 ((↑3 : Int) - 0).toNat (datS [SV.int IntKind.i64 (m72 a0_0 a0_1 a0_2).fst, SV.int IntKind.i64 (m72 a0_0 a0_1 a0_2).snd.fst, SV.int IntKind.i64 (m72 a0_0 a0_1 a0_2).snd.snd] 1))) && true)
noncomputable def q71 (r : Int) : SV × List Blk × List Blk := (.int .i64 r, [], [])
noncomputable def g71 : List SV → List Blk → Option OpRes := fun vs bs => match vs, bs with
  | [.agg [.int .i64 a0_0, .int .i64 a0_1, .int .i64 a0_2]], [] => some (resOf 0 (q71 (m71 a0_0 a0_1 a0_2)) [n71 a0_0 a0_1 a0_2])
  | _, _ => none
noncomputable def c71 : Ctr := genC [.k] g71
theorem p71 (a0_0 : Int) (a0_1 : Int) (a0_2 : Int) (hn : n71 a0_0 a0_1 a0_2 = true) : exec Try.prog [(72, c72), (74, c74), (110, c110c111), (111, c111)] (fun _ => none) 8 (Try.f71.body.getD .skip) (initS Try.f71.ntmps [.agg [.int .i64 a0_0, .int .i64 a0_1, .int .i64 a0_2]] 0 (memOf [])) (retK Try.prog Try.f71.results.toList (outK 0 (List.range 0) [] (.k) fun v U N => (v, U, N) = (q71 (m71 a0_0 a0_1 a0_2)))) :=
  propOf (x71 a0_0 a0_1 a0_2 _) (cnd_need (and_l hn) (cnd_of (fun h0 => leaf_of (l := 2) (condT h0 rfl) rfl) (fun h0 => leaf_of (l := 0) (condF h0 rfl) rfl)))
theorem k71 : CtrOk Try.prog c71 71 := ctr_of (tabOk_cons k72 (tabOk_cons k74 (tabOk_cons k110c111 (tabOk_cons k111 tabOk_nil)))) mix_ok 8 (fn := Try.f71) (c := (Try.f71.body.getD .skip)) (grs := []) (rh := .k) (Λ := (fun _ => none)) Try.func71 rfl (by kernel_rfl) noLam fun vs bs q h hn => by
  unfold g71 at h
  split at h <;> cases h
  exact ⟨_, rfl, p71 _ _ _ (hn _ (List.mem_singleton.2 rfl))⟩
/-! ### shotline/mix.CheckTask -/
/-! #### loop 1 -/
noncomputable def l67_1 (t19_0 : Nat) (t19_1 : Dat) (t20 : Int) (b0_1 : Dat) (b0_2 : Int) (b0_3 : Int) (b0_4 : Int) (b0_5 : Int) (b0_6 : Int) (b0_7 : Int) (b0_8 : Int) (b0_9 : Int) : Nat → Int → Option (Bool × (Int) × (Unit))
  | 0, _ => none
  | f + 1, t21 => (cond ((decide (t21 < t20))) (cond ((decide (0 ≤ t21 ∧ t21 < (↑t19_0 : Int)))) (cond ((n78 (t19_1.ss t21.toNat 0))) (cond ((bif (m78 (t19_1.ss t21.toNat 0)) then false else true)) (some (true, 4, default)) (cond ((decide ((0 : Int) ≤ (0 : Int) ∧ (0 : Int) ≤ t21 ∧ t21 ≤ (↑t19_0 : Int)))) (cond ((n107c108 (t21 - 0).toNat b0_1 (datC [SV.str (t19_1.ss t21.toNat 0), SV.int IntKind.i64 (t19_1.ii t21.toNat (0 + 1)), SV.int IntKind.i64 (t19_1.ii t21.toNat (0 + 1 + 1)), SV.int IntKind.i64 (t19_1.ii t21.toNat (0 + 1 + 1 + 1)), SV.int IntKind.i64 (t19_1.ii t21.toNat (0 + 1 + 1 + 1 + 1))]))) (cond ((m107c108 (t21 - 0).toNat b0_1 (datC [SV.str (t19_1.ss t21.toNat 0), SV.int IntKind.i64 (t19_1.ii t21.toNat (0 + 1)), SV.int IntKind.i64 (t19_1.ii t21.toNat (0 + 1 + 1)), SV.int IntKind.i64 (t19_1.ii t21.toNat (0 + 1 + 1 + 1)), SV.int IntKind.i64 (t19_1.ii t21.toNat (0 + 1 + 1 + 1 + 1))]))) (some (true, 5, default)) (cond ((n81 (t19_1.ii t21.toNat (0 + 1)) (t19_1.ii t21.toNat (0 + 1 + 1)))) (cond ((bif (decide (m81 (t19_1.ii t21.toNat (0 + 1)) (t19_1.ii t21.toNat (0 + 1 + 1)) = 0)) then false else true)) (some (true, (m81 (t19_1.ii t21.toNat (0 + 1)) (t19_1.ii t21.toNat (0 + 1 + 1))), default)) (cond ((bif (bif (m73 (t19_1.ii t21.toNat (0 + 1 + 1 + 1)) 0 1000) then false else true) then true else (bif (m73 (t19_1.ii t21.toNat (0 + 1 + 1 + 1 + 1)) 0 10000000) then false else true))) (some (true, 2, default)) (l67_1 t19_0 t19_1 t20 b0_1 b0_2 b0_3 b0_4 b0_5 b0_6 b0_7 b0_8 b0_9 f (IntKind.i64.wrap (t21 + 1))))) none)) none) none)) none) none) (some (false, default, ())))
noncomputable abbrev o67_1 (t19_0 : Nat) (t19_1 : Dat) (t20 : Int) (b0_1 : Dat) (b0_2 : Int) (b0_3 : Int) (b0_4 : Int) (b0_5 : Int) (b0_6 : Int) (b0_7 : Int) (b0_8 : Int) (b0_9 : Int) (t21 : Int) : Option (Bool × (Int) × (Unit)) := l67_1 t19_0 t19_1 t20 b0_1 b0_2 b0_3 b0_4 b0_5 b0_6 b0_7 b0_8 b0_9 (t19_0 + t20.toNat + t21.toNat + b0_2.toNat + b0_3.toNat + b0_4.toNat + b0_5.toNat + b0_6.toNat + b0_7.toNat + b0_8.toNat + b0_9.toNat + 8) t21
noncomputable def e67_1 (t19_0 : Nat) (t19_1 : Dat) (t20 : Int) (b0_1 : Dat) (b0_2 : Int) (b0_3 : Int) (b0_4 : Int) (b0_5 : Int) (b0_6 : Int) (b0_7 : Int) (b0_8 : Int) (b0_9 : Int) (r : Bool × (Int) × (Unit)) (K : XR) : Prop := cnd r.1 (K (XE.ret) [.ptr 0 0, .int .i64 r.2.1] [.cells 107 [.ro [.str, .int .i64, .int .i64, .int .i64, .int .i64] t19_0 b0_1, .int .i64 b0_2, .int .i64 b0_3, .int .i64 b0_4, .int .i64 b0_5, .int .i64 b0_6, .int .i64 b0_7, .int .i64 b0_8, .int .i64 b0_9]]) (K (XE.exit 1) [.ptr 0 0, .any] [.cells 107 [.ro [.str, .int .i64, .int .i64, .int .i64, .int .i64] t19_0 b0_1, .int .i64 b0_2, .int .i64 b0_3, .int .i64 b0_4, .int .i64 b0_5, .int .i64 b0_6, .int .i64 b0_7, .int .i64 b0_8, .int .i64 b0_9]])
noncomputable def g67_1 : LSum := fun s k => match czv 0 79 [1, 19, 20, 21] 1 [] s with
  | some ([.ptr 0 0, .ro [.str, .int .i64, .int .i64, .int .i64, .int .i64] t19_0 t19_1, .int .i64 t20, .int .i64 t21], [.cells 107 [.ro [.str, .int .i64, .int .i64, .int .i64, .int .i64] b0_0 b0_1, .int .i64 b0_2, .int .i64 b0_3, .int .i64 b0_4, .int .i64 b0_5, .int .i64 b0_6, .int .i64 b0_7, .int .i64 b0_8, .int .i64 b0_9]]) => needs [decide (t19_0 = b0_0), (o67_1 t19_0 t19_1 t20 b0_1 b0_2 b0_3 b0_4 b0_5 b0_6 b0_7 b0_8 b0_9 t21).isSome] (e67_1 t19_0 t19_1 t20 b0_1 b0_2 b0_3 b0_4 b0_5 b0_6 b0_7 b0_8 b0_9 ((o67_1 t19_0 t19_1 t20 b0_1 b0_2 b0_3 b0_4 b0_5 b0_6 b0_7 b0_8 b0_9 t21).getD default) fun e vs bs => inBlk 1 k e (mkSt 0 79 [1, 2] vs 1 bs))
  | _ => False
theorem y67_1 (t19_0 : Nat) (t19_1 : Dat) (t20 : Int) (t21 : Int) (b0_1 : Dat) (b0_2 : Int) (b0_3 : Int) (b0_4 : Int) (b0_5 : Int) (b0_6 : Int) (b0_7 : Int) (b0_8 : Int) (b0_9 : Int) (R : XR) : exec Try.prog [(71, c71), (72, c72), (73, c73), (74, c74), (78, c78), (81, c81), (107, c107c108), (108, c108), (109, c109)] (fun _ => none) 8 (unloop (bodyAt (Try.f67.body.getD .skip) 1)) (mkSt 0 79 [1, 19, 20, 21] [.ptr 0 0, .ro [.str, .int .i64, .int .i64, .int .i64, .int .i64] t19_0 t19_1, .int .i64 t20, .int .i64 t21] 1 [.cells 107 [.ro [.str, .int .i64, .int .i64, .int .i64, .int .i64] t19_0 b0_1, .int .i64 b0_2, .int .i64 b0_3, .int .i64 b0_4, .int .i64 b0_5, .int .i64 b0_6, .int .i64 b0_7, .int .i64 b0_8, .int .i64 b0_9]]) (canonK 0 79 [1, 19, 20, 21] [1, 2] 1 [] R) =
  (cnd ((decide (t21 < t20)))
  (cnd ((decide (0 ≤ t21 ∧ t21 < (↑t19_0 : Int))))
   (cnd ((n78 (t19_1.ss t21.toNat 0)))
    (cnd ((bif (m78 (t19_1.ss t21.toNat 0)) then false else true))
     (R (XE.ret) [.ptr 0 0, .int .i64 4] [.cells 107 [.ro [.str, .int .i64, .int .i64, .int .i64, .int .i64] t19_0 b0_1, .int .i64 b0_2, .int .i64 b0_3, .int .i64 b0_4, .int .i64 b0_5, .int .i64 b0_6, .int .i64 b0_7, .int .i64 b0_8, .int .i64 b0_9]])
     (cnd ((decide ((0 : Int) ≤ (0 : Int) ∧ (0 : Int) ≤ t21 ∧ t21 ≤ (↑t19_0 : Int))))
      (cnd ((n107c108 (t21 - 0).toNat b0_1 (datC [SV.str (t19_1.ss t21.toNat 0), SV.int IntKind.i64 (t19_1.ii t21.toNat (0 + 1)), SV.int IntKind.i64 (t19_1.ii t21.toNat (0 + 1 + 1)), SV.int IntKind.i64 (t19_1.ii t21.toNat (0 + 1 + 1 + 1)), SV.int IntKind.i64 (t19_1.ii t21.toNat (0 + 1 + 1 + 1 + 1))])))
       (cnd ((m107c108 (t21 - 0).toNat b0_1 (datC [SV.str (t19_1.ss t21.toNat 0), SV.int IntKind.i64 (t19_1.ii t21.toNat (0 + 1)), SV.int IntKind.i64 (t19_1.ii t21.toNat (0 + 1 + 1)), SV.int IntKind.i64 (t19_1.ii t21.toNat (0 + 1 + 1 + 1)), SV.int IntKind.i64 (t19_1.ii t21.toNat (0 + 1 + 1 + 1 + 1))])))
        (R (XE.ret) [.ptr 0 0, .int .i64 5] [.cells 107 [.ro [.str, .int .i64, .int .i64, .int .i64, .int .i64] t19_0 b0_1, .int .i64 b0_2, .int .i64 b0_3, .int .i64 b0_4, .int .i64 b0_5, .int .i64 b0_6, .int .i64 b0_7, .int .i64 b0_8, .int .i64 b0_9]])
        (cnd ((n81 (t19_1.ii t21.toNat (0 + 1)) (t19_1.ii t21.toNat (0 + 1 + 1))))
         (cnd ((bif (decide (m81 (t19_1.ii t21.toNat (0 + 1)) (t19_1.ii t21.toNat (0 + 1 + 1)) = 0)) then false else true))
          (R (XE.ret) [.ptr 0 0, .int .i64 (m81 (t19_1.ii t21.toNat (0 + 1)) (t19_1.ii t21.toNat (0 + 1 + 1)))] [.cells 107 [.ro [.str, .int .i64, .int .i64, .int .i64, .int .i64] t19_0 b0_1, .int .i64 b0_2, .int .i64 b0_3, .int .i64 b0_4, .int .i64 b0_5, .int .i64 b0_6, .int .i64 b0_7, .int .i64 b0_8, .int .i64 b0_9]])
          (cnd ((bif (bif (m73 (t19_1.ii t21.toNat (0 + 1 + 1 + 1)) 0 1000) then false else true) then true else (bif (m73 (t19_1.ii t21.toNat (0 + 1 + 1 + 1 + 1)) 0 10000000) then false else true)))
           (R (XE.ret) [.ptr 0 0, .int .i64 2] [.cells 107 [.ro [.str, .int .i64, .int .i64, .int .i64, .int .i64] t19_0 b0_1, .int .i64 b0_2, .int .i64 b0_3, .int .i64 b0_4, .int .i64 b0_5, .int .i64 b0_6, .int .i64 b0_7, .int .i64 b0_8, .int .i64 b0_9]])
           (R (XE.normal) [.ptr 0 0, .ro [.str, .int .i64, .int .i64, .int .i64, .int .i64] t19_0 t19_1, .int .i64 t20, .int .i64 (IntKind.i64.wrap (t21 + 1))] [.cells 107 [.ro [.str, .int .i64, .int .i64, .int .i64, .int .i64] t19_0 b0_1, .int .i64 b0_2, .int .i64 b0_3, .int .i64 b0_4, .int .i64 b0_5, .int .i64 b0_6, .int .i64 b0_7, .int .i64 b0_8, .int .i64 b0_9]])))
         False))
       False)
      False))
    False)
   False)
  (R (XE.exit 1) [.ptr 0 0, .any] [.cells 107 [.ro [.str, .int .i64, .int .i64, .int .i64, .int .i64] t19_0 b0_1, .int .i64 b0_2, .int .i64 b0_3, .int .i64 b0_4, .int .i64 b0_5, .int .i64 b0_6, .int .i64 b0_7, .int .i64 b0_8, .int .i64 b0_9]])) := by kernel_rfl
theorem z67_1 : LOk Try.prog g67_1 (.block 1 (bodyAt (Try.f67.body.getD .skip) 1)) := by
  refine loop_blk (ι := Nat × Dat × Int × Int × Dat × Int × Int × Int × Int × Int × Int × Int × Int) (L := [(71, c71), (72, c72), (73, c73), (74, c74), (78, c78), (81, c81), (107, c107c108), (108, c108), (109, c109)]) (Λ := (fun _ => none)) (fuel := 8) (na := 0) (nt := 79) (nx := 1) (Lh := [1, 19, 20, 21]) (Le := [1, 2]) (gl := []) (tabOk_cons k71 (tabOk_cons k72 (tabOk_cons k73 (tabOk_cons k74 (tabOk_cons k78 (tabOk_cons k81 (tabOk_cons k107c108 (tabOk_cons k108 (tabOk_cons k109 tabOk_nil))))))))) mix_ok noLam rfl (fun f x K => GG default (e67_1 x.1 x.2.1 x.2.2.1 x.2.2.2.2.1 x.2.2.2.2.2.1 x.2.2.2.2.2.2.1 x.2.2.2.2.2.2.2.1 x.2.2.2.2.2.2.2.2.1 x.2.2.2.2.2.2.2.2.2.1 x.2.2.2.2.2.2.2.2.2.2.1 x.2.2.2.2.2.2.2.2.2.2.2.1 x.2.2.2.2.2.2.2.2.2.2.2.2) K (l67_1 x.1 x.2.1 x.2.2.1 x.2.2.2.2.1 x.2.2.2.2.2.1 x.2.2.2.2.2.2.1 x.2.2.2.2.2.2.2.1 x.2.2.2.2.2.2.2.2.1 x.2.2.2.2.2.2.2.2.2.1 x.2.2.2.2.2.2.2.2.2.2.1 x.2.2.2.2.2.2.2.2.2.2.2.1 x.2.2.2.2.2.2.2.2.2.2.2.2 f x.2.2.2.1)) (fun x => [.ptr 0 0, .ro [.str, .int .i64, .int .i64, .int .i64, .int .i64] x.1 x.2.1, .int .i64 x.2.2.1, .int .i64 x.2.2.2.1]) (fun x => [.cells 107 [.ro [.str, .int .i64, .int .i64, .int .i64, .int .i64] x.1 x.2.2.2.2.1, .int .i64 x.2.2.2.2.2.1, .int .i64 x.2.2.2.2.2.2.1, .int .i64 x.2.2.2.2.2.2.2.1, .int .i64 x.2.2.2.2.2.2.2.2.1, .int .i64 x.2.2.2.2.2.2.2.2.2.1, .int .i64 x.2.2.2.2.2.2.2.2.2.2.1, .int .i64 x.2.2.2.2.2.2.2.2.2.2.2.1, .int .i64 x.2.2.2.2.2.2.2.2.2.2.2.2]]) (fun x K => gg_none) ?_ ?_
  · rintro f ⟨t19_0, t19_1, t20, t21, b0_1, b0_2, b0_3, b0_4, b0_5, b0_6, b0_7, b0_8, b0_9⟩ K hG
    have hG : GG default (e67_1 t19_0 t19_1 t20 b0_1 b0_2 b0_3 b0_4 b0_5 b0_6 b0_7 b0_8 b0_9) K (cond ((decide (t21 < t20))) (cond ((decide (0 ≤ t21 ∧ t21 < (↑t19_0 : Int)))) (cond ((n78 (t19_1.ss t21.toNat 0))) (cond ((bif (m78 (t19_1.ss t21.toNat 0)) then false else true)) (some (true, 4, default)) (cond ((decide ((0 : Int) ≤ (0 : Int) ∧ (0 : Int) ≤ t21 ∧ t21 ≤ (↑t19_0 : Int)))) (cond ((n107c108 (t21 - 0).toNat b0_1 (datC [SV.str (t19_1.ss t21.toNat 0), SV.int IntKind.i64 (t19_1.ii t21.toNat (0 + 1)), SV.int IntKind.i64 (t19_1.ii t21.toNat (0 + 1 + 1)), SV.int IntKind.i64 (t19_1.ii t21.toNat (0 + 1 + 1 + 1)), SV.int IntKind.i64 (t19_1.ii t21.toNat (0 + 1 + 1 + 1 + 1))]))) (cond ((m107c108 (t21 - 0).toNat b0_1 (datC [SV.str (t19_1.ss t21.toNat 0), SV.int IntKind.i64 (t19_1.ii t21.toNat (0 + 1)), SV.int IntKind.i64 (t19_1.ii t21.toNat (0 + 1 + 1)), SV.int IntKind.i64 (t19_1.ii t21.toNat (0 + 1 + 1 + 1)), SV.int IntKind.i64 (t19_1.ii t21.toNat (0 + 1 + 1 + 1 + 1))]))) (some (true, 5, default)) (cond ((n81 (t19_1.ii t21.toNat (0 + 1)) (t19_1.ii t21.toNat (0 + 1 + 1)))) (cond ((bif (decide (m81 (t19_1.ii t21.toNat (0 + 1)) (t19_1.ii t21.toNat (0 + 1 + 1)) = 0)) then false else true)) (some (true, (m81 (t19_1.ii t21.toNat (0 + 1)) (t19_1.ii t21.toNat (0 + 1 + 1))), default)) (cond ((bif (bif (m73 (t19_1.ii t21.toNat (0 + 1 + 1 + 1)) 0 1000) then false else true) then true else (bif (m73 (t19_1.ii t21.toNat (0 + 1 + 1 + 1 + 1)) 0 10000000) then false else true))) (some (true, 2, default)) (l67_1 t19_0 t19_1 t20 b0_1 b0_2 b0_3 b0_4 b0_5 b0_6 b0_7 b0_8 b0_9 f (IntKind.i64.wrap (t21 + 1))))) none)) none) none)) none) none) (some (false, default, ()))) := hG
    refine propOf (y67_1 t19_0 t19_1 t20 t21 b0_1 b0_2 b0_3 b0_4 b0_5 b0_6 b0_7 b0_8 b0_9 _) ?_
    exact cnd_gg2 hG (fun h0 => cnd_gg h0 fun h1 => cnd_gg h1 fun h2 => cnd_gg2 h2 (fun h3 => h3.2) (fun h3 => cnd_gg h3 fun h4 => cnd_gg h4 fun h5 => cnd_gg2 h5 (fun h6 => h6.2) (fun h6 => cnd_gg h6 fun h7 => cnd_gg2 h7 (fun h8 => h8.2) (fun h8 => cnd_gg2 h8 (fun h9 => h9.2) (fun h9 => ⟨(t19_0, t19_1, t20, (IntKind.i64.wrap (t21 + 1)), b0_1, b0_2, b0_3, b0_4, b0_5, b0_6, b0_7, b0_8, b0_9), rfl, rfl, h9⟩))))) (fun h0 => h0.2)
  · intro s k h
    unfold g67_1 at h
    split at h <;> try exact h.elim
    rename_i e1
    rw [needs_iff] at h
    have hq := h.1
    simp only [List.mem_cons, forall_eq_or_imp, decide_eq_true_eq, List.not_mem_nil, false_imp_iff, implies_true, and_true] at hq
    obtain ⟨rfl, hq⟩ := hq
    exact ⟨_, e1, _, (_, _, _, _, _, _, _, _, _, _, _, _, _), rfl, rfl, hq, h.2⟩
theorem x67 (na0_0 : Nat) (da0_0 : Dat) (a0_1 : Int) (a0_2 : Int) (a0_3 : Int) (a0_4 : Int) (a0_5 : Int) (a0_6 : Int) (a0_7 : Int) (a0_8 : Int) (R : SV → List Blk → List Blk → Prop) : exec Try.prog [(71, c71), (72, c72), (73, c73), (74, c74), (78, c78), (81, c81), (107, c107c108), (108, c108), (109, c109)] (lamOf [(1, g67_1)]) 8 (Try.f67.body.getD .skip) (initS Try.f67.ntmps [.agg [.ro [.str, .int .i64, .int .i64, .int .i64, .int .i64] na0_0 da0_0, .int .i64 a0_1, .int .i64 a0_2, .int .i64 a0_3, .int .i64 a0_4, .int .i64 a0_5, .int .i64 a0_6, .int .i64 a0_7, .int .i64 a0_8]] 0 (memOf [])) (retK Try.prog Try.f67.results.toList (outK 0 (List.range 0) [] (.k) fun v U N => R v U N)) =
  (cnd ((decide ((↑na0_0 : Int) = 0)))
  (R (.int .i64 10) [] [])
  (cnd ((decide (5 < (↑na0_0 : Int))))
   (R (.int .i64 8) [] [])
   (cnd ((decide (na0_0 = na0_0)))
    (cnd (((o67_1 na0_0 da0_0 (↑na0_0 : Int) da0_0 a0_1 a0_2 a0_3 a0_4 a0_5 a0_6 a0_7 a0_8 0).isSome))
     (cnd ((((o67_1 na0_0 da0_0 (↑na0_0 : Int) da0_0 a0_1 a0_2 a0_3 a0_4 a0_5 a0_6 a0_7 a0_8 0).getD default).fst))
      (R (.int .i64 (((o67_1 na0_0 da0_0 (↑na0_0 : Int) da0_0 a0_1 a0_2 a0_3 a0_4 a0_5 a0_6 a0_7 a0_8 0).getD default).snd.fst)) [] [])
      (cnd ((n71 a0_1 a0_2 a0_3))
       (cnd ((bif (decide (m71 a0_1 a0_2 a0_3 = 0)) then false else true))
        (R (.int .i64 (m71 a0_1 a0_2 a0_3)) [] [])
        (cnd ((bif (m73 a0_4 (imax 1 (m74 (m72 a0_1 a0_2 a0_3).fst (m72 a0_1 a0_2 a0_3).snd.fst (m72 a0_1 a0_2 a0_3).snd.snd)) 10000000) then false else true))
         (R (.int .i64 2) [] [])
         (cnd ((bif (decide (m109 a0_5 a0_6 = 0)) then false else true))
          (R (.int .i64 (m109 a0_5 a0_6)) [] [])
          (R (.int .i64 (m109 a0_7 a0_8)) [] []))))
       False))
     False)
    False))) := by kernel_rfl
noncomputable def m67 (na0_0 : Nat) (da0_0 : Dat) (a0_1 : Int) (a0_2 : Int) (a0_3 : Int) (a0_4 : Int) (a0_5 : Int) (a0_6 : Int) (a0_7 : Int) (a0_8 : Int) : Int :=
  (cond ((decide ((↑na0_0 : Int) = 0))) 10 (cond ((decide (5 < (↑na0_0 : Int)))) 8 (cond ((((o67_1 na0_0 da0_0 (↑na0_0 : Int) da0_0 a0_1 a0_2 a0_3 a0_4 a0_5 a0_6 a0_7 a0_8 0).getD default).fst)) (((o67_1 na0_0 da0_0 (↑na0_0 : Int) da0_0 a0_1 a0_2 a0_3 a0_4 a0_5 a0_6 a0_7 a0_8 0).getD default).snd.fst) (cond ((bif (decide (m71 a0_1 a0_2 a0_3 = 0)) then false else true)) (m71 a0_1 a0_2 a0_3) (cond ((bif (m73 a0_4 (imax 1 (m74 (m72 a0_1 a0_2 a0_3).fst (m72 a0_1 a0_2 a0_3).snd.fst (m72 a0_1 a0_2 a0_3).snd.snd)) 10000000) then false else true)) 2 (cond ((bif (decide (m109 a0_5 a0_6 = 0)) then false else true)) (m109 a0_5 a0_6) (m109 a0_7 a0_8)))))))
noncomputable def n67 (na0_0 : Nat) (da0_0 : Dat) (a0_1 : Int) (a0_2 : Int) (a0_3 : Int) (a0_4 : Int) (a0_5 : Int) (a0_6 : Int) (a0_7 : Int) (a0_8 : Int) : Bool :=
  (cond ((decide ((↑na0_0 : Int) = 0))) true (cond ((decide (5 < (↑na0_0 : Int)))) true ((((o67_1 na0_0 da0_0 (↑na0_0 : Int) da0_0 a0_1 a0_2 a0_3 a0_4 a0_5 a0_6 a0_7 a0_8 0).isSome)) && (cond ((((o67_1 na0_0 da0_0 (↑na0_0 : Int) da0_0 a0_1 a0_2 a0_3 a0_4 a0_5 a0_6 a0_7 a0_8 0).getD default).fst)) true (((n71 a0_1 a0_2 a0_3)) && true)))))
noncomputable def q67 (r : Int) : SV × List Blk × List Blk := (.int .i64 r, [], [])
noncomputable def g67 : List SV → List Blk → Option OpRes := fun vs bs => match vs, bs with
  | [.agg [.ro [.str, .int .i64, .int .i64, .int .i64, .int .i64] na0_0 da0_0, .int .i64 a0_1, .int .i64 a0_2, .int .i64 a0_3, .int .i64 a0_4, .int .i64 a0_5, .int .i64 a0_6, .int .i64 a0_7, .int .i64 a0_8]], [] => some (resOf 0 (q67 (m67 na0_0 da0_0 a0_1 a0_2 a0_3 a0_4 a0_5 a0_6 a0_7 a0_8)) [n67 na0_0 da0_0 a0_1 a0_2 a0_3 a0_4 a0_5 a0_6 a0_7 a0_8])
  | _, _ => none
noncomputable def c67 : Ctr := genC [.a [.ro [.str, .int .i64, .int .i64, .int .i64, .int .i64], .k, .k, .k, .k, .k, .k, .k, .k]] g67
theorem p67 (na0_0 : Nat) (da0_0 : Dat) (a0_1 : Int) (a0_2 : Int) (a0_3 : Int) (a0_4 : Int) (a0_5 : Int) (a0_6 : Int) (a0_7 : Int) (a0_8 : Int) (hn : n67 na0_0 da0_0 a0_1 a0_2 a0_3 a0_4 a0_5 a0_6 a0_7 a0_8 = true) : exec Try.prog [(71, c71), (72, c72), (73, c73), (74, c74), (78, c78), (81, c81), (107, c107c108), (108, c108), (109, c109)] (lamOf [(1, g67_1)]) 8 (Try.f67.body.getD .skip) (initS Try.f67.ntmps [.agg [.ro [.str, .int .i64, .int .i64, .int .i64, .int .i64] na0_0 da0_0, .int .i64 a0_1, .int .i64 a0_2, .int .i64 a0_3, .int .i64 a0_4, .int .i64 a0_5, .int .i64 a0_6, .int .i64 a0_7, .int .i64 a0_8]] 0 (memOf [])) (retK Try.prog Try.f67.results.toList (outK 0 (List.range 0) [] (.k) fun v U N => (v, U, N) = (q67 (m67 na0_0 da0_0 a0_1 a0_2 a0_3 a0_4 a0_5 a0_6 a0_7 a0_8)))) :=
  propOf (x67 na0_0 da0_0 a0_1 a0_2 a0_3 a0_4 a0_5 a0_6 a0_7 a0_8 _) (cnd_of (fun h0 => leaf_of (l := 10) (condT h0 rfl) rfl) (fun h0 => cnd_of (fun h1 => leaf_of (l := 8) (condF h0 (condT h1 rfl)) rfl) (fun h1 => cnd_need (decide_eq_true rfl) (cnd_need (and_l (cond_f h1 (cond_f h0 hn))) (cnd_of (fun h2 => leaf_of (l := (((o67_1 na0_0 da0_0 (↑na0_0 : Int) da0_0 a0_1 a0_2 a0_3 a0_4 a0_5 a0_6 a0_7 a0_8 0).getD default).snd.fst)) (condF h0 (condF h1 (condT h2 rfl))) rfl) (fun h2 => cnd_need (and_l (cond_f h2 (and_r (cond_f h1 (cond_f h0 hn))))) (cnd_of (fun h3 => leaf_of (l := (m71 a0_1 a0_2 a0_3)) (condF h0 (condF h1 (condF h2 (condT h3 rfl)))) rfl) (fun h3 => cnd_of (fun h4 => leaf_of (l := 2) (condF h0 (condF h1 (condF h2 (condF h3 (condT h4 rfl))))) rfl) (fun h4 => cnd_of (fun h5 => leaf_of (l := (m109 a0_5 a0_6)) (condF h0 (condF h1 (condF h2 (condF h3 (condF h4 (condT h5 rfl)))))) rfl) (fun h5 => leaf_of (l := (m109 a0_7 a0_8)) (condF h0 (condF h1 (condF h2 (condF h3 (condF h4 (condF h5 rfl)))))) rfl))))))))))
theorem k67 : CtrOk Try.prog c67 67 := ctr_of (tabOk_cons k71 (tabOk_cons k72 (tabOk_cons k73 (tabOk_cons k74 (tabOk_cons k78 (tabOk_cons k81 (tabOk_cons k107c108 (tabOk_cons k108 (tabOk_cons k109 tabOk_nil))))))))) mix_ok 8 (fn := Try.f67) (c := (Try.f67.body.getD .skip)) (grs := []) (rh := .k) (Λ := (lamOf [(1, g67_1)])) Try.func67 rfl (by kernel_rfl) (lam_of rfl (lams_cons z67_1 lams_nil)) fun vs bs q h hn => by
  unfold g67 at h
  split at h <;> cases h
  exact ⟨_, rfl, p67 _ _ _ _ _ _ _ _ _ _ (hn _ (List.mem_singleton.2 rfl))⟩
/-! ### shotline/mix.Matches -/
theorem x33 (a0_0 : Int) (a0_1 : Int) (a0_2 : Int) (a1_0 : Int) (a1_1 : Int) (a2 : Int) (R : SV → List Blk → List Blk → Prop) : exec Try.prog [(71, c71), (72, c72), (73, c73), (74, c74), (81, c81), (82, c82)] (fun _ => none) 8 (Try.f33.body.getD .skip) (initS Try.f33.ntmps [.agg [.int .i64 a0_0, .int .i64 a0_1, .int .i64 a0_2], .agg [.int .i64 a1_0, .int .i64 a1_1], .int .i64 a2] 0 (memOf [])) (retK Try.prog Try.f33.results.toList (outK 0 (List.range 0) [] (.k) fun v U N => R v U N)) =
  (cnd ((n71 a0_0 a0_1 a0_2))
  (cnd ((bif (decide (m71 a0_0 a0_1 a0_2 = 0)) then false else true))
   (R (.tup [.bool false, .int .i64 (m71 a0_0 a0_1 a0_2)]) [] [])
   (cnd ((n81 a1_0 a1_1))
    (cnd ((bif (decide (m81 a1_0 a1_1 = 0)) then false else true))
     (R (.tup [.bool false, .int .i64 (m81 a1_0 a1_1)]) [] [])
     (cnd ((decide (m74 (m72 a0_0 a0_1 a0_2).fst (m72 a0_0 a0_1 a0_2).snd.fst (m72 a0_0 a0_1 a0_2).snd.snd = 0)))
      (R (.tup [.bool false, .int .i64 11]) [] [])
      (cnd ((bif (m73 a2 0 1000) then false else true))
       (R (.tup [.bool false, .int .i64 2]) [] [])
       (cnd ((bif (bif (m82 (m72 a0_0 a0_1 a0_2).fst a1_0 (datC [SV.int IntKind.i64 (m72 a0_0 a0_1 a0_2).fst, SV.int IntKind.i64 (m72 a0_0 a0_1 a0_2).snd.fst, SV.int IntKind.i64 (m72 a0_0 a0_1 a0_2).snd.snd]) (datC [SV.int IntKind.i64 a2])) then false else true) then true else true))
        (R (.tup [.bool (bif (m82 (m72 a0_0 a0_1 a0_2).fst a1_0 (datC [SV.int IntKind.i64 (m72 a0_0 a0_1 a0_2).fst, SV.int IntKind.i64 (m72 a0_0 a0_1 a0_2).snd.fst, SV.int IntKind.i64 (m72 a0_0 a0_1 a0_2).snd.snd]) (datC [SV.int IntKind.i64 a2])) then (m82 (m72 a0_0 a0_1 a0_2).snd.fst a1_1 (datC [SV.int IntKind.i64 (m72 a0_0 a0_1 a0_2).fst, SV.int IntKind.i64 (m72 a0_0 a0_1 a0_2).snd.fst, SV.int IntKind.i64 (m72 a0_0 a0_1 a0_2).snd.snd]) (datC [SV.int IntKind.i64 a2])) else false), .int .i64 0]) [] [])
        False))))
    False))
  False) := by kernel_rfl
noncomputable def m33 (a0_0 : Int) (a0_1 : Int) (a0_2 : Int) (a1_0 : Int) (a1_1 : Int) (a2 : Int) : Bool × Int :=
  (cond ((bif (decide (m71 a0_0 a0_1 a0_2 = 0)) then false else true)) (false, (m71 a0_0 a0_1 a0_2)) (cond ((bif (decide (m81 a1_0 a1_1 = 0)) then false else true)) (false, (m81 a1_0 a1_1)) (cond ((decide (m74 (m72 a0_0 a0_1 a0_2).fst (m72 a0_0 a0_1 a0_2).snd.fst (m72 a0_0 a0_1 a0_2).snd.snd = 0))) (false, 11) (cond ((bif (m73 a2 0 1000) then false else true)) (false, 2) ((bif (m82 (m72 a0_0 a0_1 a0_2).fst a1_0 (datC [SV.int IntKind.i64 (m72 a0_0 a0_1 a0_2).fst, SV.int IntKind.i64 (m72 a0_0 a0_1 a0_2).snd.fst, SV.int IntKind.i64 (m72 a0_0 a0_1 a0_2).snd.snd]) (datC [SV.int IntKind.i64 a2])) then (m82 (m72 a0_0 a0_1 a0_2).snd.fst a1_1 (datC [SV.int IntKind.i64 (m72 a0_0 a0_1 a0_2).fst, SV.int IntKind.i64 (m72 a0_0 a0_1 a0_2).snd.fst, SV.int IntKind.i64 (m72 a0_0 a0_1 a0_2).snd.snd]) (datC [SV.int IntKind.i64 a2])) else false), 0)))))
noncomputable def n33 (a0_0 : Int) (a0_1 : Int) (a0_2 : Int) (a1_0 : Int) (a1_1 : Int) (a2 : Int) : Bool :=
  (((n71 a0_0 a0_1 a0_2)) && (cond ((bif (decide (m71 a0_0 a0_1 a0_2 = 0)) then false else true)) true (((n81 a1_0 a1_1)) && (cond ((bif (decide (m81 a1_0 a1_1 = 0)) then false else true)) true (cond ((decide (m74 (m72 a0_0 a0_1 a0_2).fst (m72 a0_0 a0_1 a0_2).snd.fst (m72 a0_0 a0_1 a0_2).snd.snd = 0))) true (cond ((bif (m73 a2 0 1000) then false else true)) true (((bif (bif (m82 (m72 a0_0 a0_1 a0_2).fst a1_0 (datC [SV.int IntKind.i64 (m72 a0_0 a0_1 a0_2).fst, SV.int IntKind.i64 (m72 a0_0 a0_1 a0_2).snd.fst, SV.int IntKind.i64 (m72 a0_0 a0_1 a0_2).snd.snd]) (datC [SV.int IntKind.i64 a2])) then false else true) then true else true)) && true)))))))
noncomputable def q33 (r : Bool × Int) : SV × List Blk × List Blk := (.tup [.bool r.1, .int .i64 r.2], [], [])
noncomputable def g33 : List SV → List Blk → Option OpRes := fun vs bs => match vs, bs with
  | [.agg [.int .i64 a0_0, .int .i64 a0_1, .int .i64 a0_2], .agg [.int .i64 a1_0, .int .i64 a1_1], .int .i64 a2], [] => some (resOf 0 (q33 (m33 a0_0 a0_1 a0_2 a1_0 a1_1 a2)) [n33 a0_0 a0_1 a0_2 a1_0 a1_1 a2])
  | _, _ => none
noncomputable def c33 : Ctr := genC [.k, .k, .k] g33
theorem p33 (a0_0 : Int) (a0_1 : Int) (a0_2 : Int) (a1_0 : Int) (a1_1 : Int) (a2 : Int) (hn : n33 a0_0 a0_1 a0_2 a1_0 a1_1 a2 = true) : exec Try.prog [(71, c71), (72, c72), (73, c73), (74, c74), (81, c81), (82, c82)] (fun _ => none) 8 (Try.f33.body.getD .skip) (initS Try.f33.ntmps [.agg [.int .i64 a0_0, .int .i64 a0_1, .int .i64 a0_2], .agg [.int .i64 a1_0, .int .i64 a1_1], .int .i64 a2] 0 (memOf [])) (retK Try.prog Try.f33.results.toList (outK 0 (List.range 0) [] (.k) fun v U N => (v, U, N) = (q33 (m33 a0_0 a0_1 a0_2 a1_0 a1_1 a2)))) :=
  propOf (x33 a0_0 a0_1 a0_2 a1_0 a1_1 a2 _) (cnd_need (and_l hn) (cnd_of (fun h0 => leaf_of (l := (false, (m71 a0_0 a0_1 a0_2))) (condT h0 rfl) rfl) (fun h0 => cnd_need (and_l (cond_f h0 (and_r hn))) (cnd_of (fun h1 => leaf_of (l := (false, (m81 a1_0 a1_1))) (condF h0 (condT h1 rfl)) rfl) (fun h1 => cnd_of (fun h2 => leaf_of (l := (false, 11)) (condF h0 (condF h1 (condT h2 rfl))) rfl) (fun h2 => cnd_of (fun h3 => leaf_of (l := (false, 2)) (condF h0 (condF h1 (condF h2 (condT h3 rfl)))) rfl) (fun h3 => cnd_need (and_l (cond_f h3 (cond_f h2 (cond_f h1 (and_r (cond_f h0 (and_r hn))))))) (leaf_of (l := ((bif (m82 (m72 a0_0 a0_1 a0_2).fst a1_0 (datC [SV.int IntKind.i64 (m72 a0_0 a0_1 a0_2).fst, SV.int IntKind.i64 (m72 a0_0 a0_1 a0_2).snd.fst, SV.int IntKind.i64 (m72 a0_0 a0_1 a0_2).snd.snd]) (datC [SV.int IntKind.i64 a2])) then (m82 (m72 a0_0 a0_1 a0_2).snd.fst a1_1 (datC [SV.int IntKind.i64 (m72 a0_0 a0_1 a0_2).fst, SV.int IntKind.i64 (m72 a0_0 a0_1 a0_2).snd.fst, SV.int IntKind.i64 (m72 a0_0 a0_1 a0_2).snd.snd]) (datC [SV.int IntKind.i64 a2])) else false), 0)) (condF h0 (condF h1 (condF h2 (condF h3 rfl)))) rfl))))))))
theorem k33 : CtrOk Try.prog c33 33 := ctr_of (tabOk_cons k71 (tabOk_cons k72 (tabOk_cons k73 (tabOk_cons k74 (tabOk_cons k81 (tabOk_cons k82 tabOk_nil)))))) mix_ok 8 (fn := Try.f33) (c := (Try.f33.body.getD .skip)) (grs := []) (rh := .k) (Λ := (fun _ => none)) Try.func33 rfl (by kernel_rfl) noLam fun vs bs q h hn => by
  unfold g33 at h
  split at h <;> cases h
  exact ⟨_, rfl, p33 _ _ _ _ _ _ (hn _ (List.mem_singleton.2 rfl))⟩
/-! ### (*shotline/mix.asked).cost -/
/-! #### loop 1 -/
noncomputable def l96_1 (t0 : Dat) (t33_0 : Nat) (t33_1 : Dat) (t34 : Int) (b0_0 : Nat) (b0_1 : Dat) (b0_2 : Int) : Nat → Int → Int → Int → Int → Int → Option (Bool × (Int × Int × Int × Int × Int × Int) × (Int × Int × Int × Int))
  | 0, _, _, _, _, _ => none
  | f + 1, t6, t7, t8, t9, t35 => (cond ((decide (t35 < t34))) (cond ((decide (0 ≤ t35 ∧ t35 < (↑t33_0 : Int)))) (cond ((decide (0 ≤ t35 ∧ t35 < (↑b0_0 : Int)))) (cond ((bif (m73 (b0_1.ii t35.toNat 0) 0 (IntKind.i64.wrap (b0_2 * t33_1.ii t35.toNat (0 + 1 + 1 + 1 + 1)))) then false else true)) (some (true, (0, 20, t6, t7, t8, t9), default)) (l96_1 t0 t33_0 t33_1 t34 b0_0 b0_1 b0_2 f (IntKind.i64.wrap (t6 + IntKind.i64.wrap (b0_1.ii t35.toNat 0 * t33_1.ii t35.toNat (0 + 1 + 1 + 1)))) (IntKind.i64.wrap (t7 + b0_1.ii t35.toNat 0)) (IntKind.i64.wrap (t8 + IntKind.i64.wrap (b0_1.ii t35.toNat 0 * t33_1.ii t35.toNat (0 + 1)))) (IntKind.i64.wrap (t9 + IntKind.i64.wrap (b0_1.ii t35.toNat 0 * t33_1.ii t35.toNat (0 + 1 + 1)))) (IntKind.i64.wrap (t35 + 1)))) none) none) (some (false, default, (t6, t7, t8, t9))))
noncomputable abbrev o96_1 (t0 : Dat) (t33_0 : Nat) (t33_1 : Dat) (t34 : Int) (b0_0 : Nat) (b0_1 : Dat) (b0_2 : Int) (t6 : Int) (t7 : Int) (t8 : Int) (t9 : Int) (t35 : Int) : Option (Bool × (Int × Int × Int × Int × Int × Int) × (Int × Int × Int × Int)) := l96_1 t0 t33_0 t33_1 t34 b0_0 b0_1 b0_2 (t6.toNat + t7.toNat + t8.toNat + t9.toNat + t33_0 + t34.toNat + t35.toNat + b0_0 + b0_2.toNat + 8) t6 t7 t8 t9 t35
noncomputable def e96_1 (t0 : Dat) (t33_0 : Nat) (t33_1 : Dat) (t34 : Int) (b0_0 : Nat) (b0_1 : Dat) (b0_2 : Int) (r : Bool × (Int × Int × Int × Int × Int × Int) × (Int × Int × Int × Int)) (K : XR) : Prop := cnd r.1 (K (XE.ret) [.rp [.sl [.str, .int .i64, .int .i64, .int .i64, .int .i64], .int .i64, .int .i64, .int .i64, .int .i64, .int .i64, .int .i64, .int .i64, .int .i64, .int .i64, .int .i64, .int .i64, .int .i64, .int .i64] t0 0 0, .ptr 0 0, .int .i64 r.2.1.1, .int .i64 r.2.1.2.1, .int .i64 r.2.1.2.2.1, .int .i64 r.2.1.2.2.2.1, .int .i64 r.2.1.2.2.2.2.1, .int .i64 r.2.1.2.2.2.2.2] [.cells 110 [.ro [.int .i64] b0_0 b0_1, .int .i64 b0_2]]) (K (XE.exit 1) [.rp [.sl [.str, .int .i64, .int .i64, .int .i64, .int .i64], .int .i64, .int .i64, .int .i64, .int .i64, .int .i64, .int .i64, .int .i64, .int .i64, .int .i64, .int .i64, .int .i64, .int .i64, .int .i64] t0 0 0, .ptr 0 0, .any, .any, .int .i64 r.2.2.1, .int .i64 r.2.2.2.1, .int .i64 r.2.2.2.2.1, .int .i64 r.2.2.2.2.2] [.cells 110 [.ro [.int .i64] b0_0 b0_1, .int .i64 b0_2]])
noncomputable def g96_1 : LSum := fun s k => match czv 0 129 [0, 3, 6, 7, 8, 9, 33, 34, 35] 1 [] s with
  | some ([.rp [.sl [.str, .int .i64, .int .i64, .int .i64, .int .i64], .int .i64, .int .i64, .int .i64, .int .i64, .int .i64, .int .i64, .int .i64, .int .i64, .int .i64, .int .i64, .int .i64, .int .i64, .int .i64] t0 0 0, .ptr 0 0, .int .i64 t6, .int .i64 t7, .int .i64 t8, .int .i64 t9, .ro [.str, .int .i64, .int .i64, .int .i64, .int .i64] t33_0 t33_1, .int .i64 t34, .int .i64 t35], [.cells 110 [.ro [.int .i64] b0_0 b0_1, .int .i64 b0_2]]) => needs [(o96_1 t0 t33_0 t33_1 t34 b0_0 b0_1 b0_2 t6 t7 t8 t9 t35).isSome] (e96_1 t0 t33_0 t33_1 t34 b0_0 b0_1 b0_2 ((o96_1 t0 t33_0 t33_1 t34 b0_0 b0_1 b0_2 t6 t7 t8 t9 t35).getD default) fun e vs bs => inBlk 1 k e (mkSt 0 129 [0, 3, 4, 5, 6, 7, 8, 9] vs 1 bs))
  | _ => False
theorem y96_1 (t0 : Dat) (t6 : Int) (t7 : Int) (t8 : Int) (t9 : Int) (t33_0 : Nat) (t33_1 : Dat) (t34 : Int) (t35 : Int) (b0_0 : Nat) (b0_1 : Dat) (b0_2 : Int) (R : XR) : exec Try.prog [(73, c73)] (fun _ => none) 8 (unloop (bodyAt (Try.f96.body.getD .skip) 1)) (mkSt 0 129 [0, 3, 6, 7, 8, 9, 33, 34, 35] [.rp [.sl [.str, .int .i64, .int .i64, .int .i64, .int .i64], .int .i64, .int .i64, .int .i64, .int .i64, .int .i64, .int .i64, .int .i64, .int .i64, .int .i64, .int .i64, .int .i64, .int .i64, .int .i64] t0 0 0, .ptr 0 0, .int .i64 t6, .int .i64 t7, .int .i64 t8, .int .i64 t9, .ro [.str, .int .i64, .int .i64, .int .i64, .int .i64] t33_0 t33_1, .int .i64 t34, .int .i64 t35] 1 [.cells 110 [.ro [.int .i64] b0_0 b0_1, .int .i64 b0_2]]) (canonK 0 129 [0, 3, 6, 7, 8, 9, 33, 34, 35] [0, 3, 4, 5, 6, 7, 8, 9] 1 [] R) =
  (cnd ((decide (t35 < t34)))
  (cnd ((decide (0 ≤ t35 ∧ t35 < (↑t33_0 : Int))))
   (cnd ((decide (0 ≤ t35 ∧ t35 < (↑b0_0 : Int))))
    (cnd ((bif (m73 (b0_1.ii t35.toNat 0) 0 (IntKind.i64.wrap (b0_2 * t33_1.ii t35.toNat (0 + 1 + 1 + 1 + 1)))) then false else true))
     (R (XE.ret) [.rp [.sl [.str, .int .i64, .int .i64, .int .i64, .int .i64], .int .i64, .int .i64, .int .i64, .int .i64, .int .i64, .int .i64, .int .i64, .int .i64, .int .i64, .int .i64, .int .i64, .int .i64, .int .i64] t0 0 0, .ptr 0 0, .int .i64 0, .int .i64 20, .int .i64 t6, .int .i64 t7, .int .i64 t8, .int .i64 t9] [.cells 110 [.ro [.int .i64] b0_0 b0_1, .int .i64 b0_2]])
     (R (XE.normal) [.rp [.sl [.str, .int .i64, .int .i64, .int .i64, .int .i64], .int .i64, .int .i64, .int .i64, .int .i64, .int .i64, .int .i64, .int .i64, .int .i64, .int .i64, .int .i64, .int .i64, .int .i64, .int .i64] t0 0 0, .ptr 0 0, .int .i64 (IntKind.i64.wrap (t6 + IntKind.i64.wrap (b0_1.ii t35.toNat 0 * t33_1.ii t35.toNat (0 + 1 + 1 + 1)))), .int .i64 (IntKind.i64.wrap (t7 + b0_1.ii t35.toNat 0)), .int .i64 (IntKind.i64.wrap (t8 + IntKind.i64.wrap (b0_1.ii t35.toNat 0 * t33_1.ii t35.toNat (0 + 1)))), .int .i64 (IntKind.i64.wrap (t9 + IntKind.i64.wrap (b0_1.ii t35.toNat 0 * t33_1.ii t35.toNat (0 + 1 + 1)))), .ro [.str, .int .i64, .int .i64, .int .i64, .int .i64] t33_0 t33_1, .int .i64 t34, .int .i64 (IntKind.i64.wrap (t35 + 1))] [.cells 110 [.ro [.int .i64] b0_0 b0_1, .int .i64 b0_2]]))
    False)
   False)
  (R (XE.exit 1) [.rp [.sl [.str, .int .i64, .int .i64, .int .i64, .int .i64], .int .i64, .int .i64, .int .i64, .int .i64, .int .i64, .int .i64, .int .i64, .int .i64, .int .i64, .int .i64, .int .i64, .int .i64, .int .i64] t0 0 0, .ptr 0 0, .any, .any, .int .i64 t6, .int .i64 t7, .int .i64 t8, .int .i64 t9] [.cells 110 [.ro [.int .i64] b0_0 b0_1, .int .i64 b0_2]])) := by kernel_rfl
theorem z96_1 : LOk Try.prog g96_1 (.block 1 (bodyAt (Try.f96.body.getD .skip) 1)) := by
  refine loop_blk (ι := Dat × Int × Int × Int × Int × Nat × Dat × Int × Int × Nat × Dat × Int) (L := [(73, c73)]) (Λ := (fun _ => none)) (fuel := 8) (na := 0) (nt := 129) (nx := 1) (Lh := [0, 3, 6, 7, 8, 9, 33, 34, 35]) (Le := [0, 3, 4, 5, 6, 7, 8, 9]) (gl := []) (tabOk_cons k73 tabOk_nil) mix_ok noLam rfl (fun f x K => GG default (e96_1 x.1 x.2.2.2.2.2.1 x.2.2.2.2.2.2.1 x.2.2.2.2.2.2.2.1 x.2.2.2.2.2.2.2.2.2.1 x.2.2.2.2.2.2.2.2.2.2.1 x.2.2.2.2.2.2.2.2.2.2.2) K (l96_1 x.1 x.2.2.2.2.2.1 x.2.2.2.2.2.2.1 x.2.2.2.2.2.2.2.1 x.2.2.2.2.2.2.2.2.2.1 x.2.2.2.2.2.2.2.2.2.2.1 x.2.2.2.2.2.2.2.2.2.2.2 f x.2.1 x.2.2.1 x.2.2.2.1 x.2.2.2.2.1 x.2.2.2.2.2.2.2.2.1)) (fun x => [.rp [.sl [.str, .int .i64, .int .i64, .int .i64, .int .i64], .int .i64, .int .i64, .int .i64, .int .i64, .int .i64, .int .i64, .int .i64, .int .i64, .int .i64, .int .i64, .int .i64, .int .i64, .int .i64] x.1 0 0, .ptr 0 0, .int .i64 x.2.1, .int .i64 x.2.2.1, .int .i64 x.2.2.2.1, .int .i64 x.2.2.2.2.1, .ro [.str, .int .i64, .int .i64, .int .i64, .int .i64] x.2.2.2.2.2.1 x.2.2.2.2.2.2.1, .int .i64 x.2.2.2.2.2.2.2.1, .int .i64 x.2.2.2.2.2.2.2.2.1]) (fun x => [.cells 110 [.ro [.int .i64] x.2.2.2.2.2.2.2.2.2.1 x.2.2.2.2.2.2.2.2.2.2.1, .int .i64 x.2.2.2.2.2.2.2.2.2.2.2]]) (fun x K => gg_none) ?_ ?_
  · rintro f ⟨t0, t6, t7, t8, t9, t33_0, t33_1, t34, t35, b0_0, b0_1, b0_2⟩ K hG
    have hG : GG default (e96_1 t0 t33_0 t33_1 t34 b0_0 b0_1 b0_2) K (cond ((decide (t35 < t34))) (cond ((decide (0 ≤ t35 ∧ t35 < (↑t33_0 : Int)))) (cond ((decide (0 ≤ t35 ∧ t35 < (↑b0_0 : Int)))) (cond ((bif (m73 (b0_1.ii t35.toNat 0) 0 (IntKind.i64.wrap (b0_2 * t33_1.ii t35.toNat (0 + 1 + 1 + 1 + 1)))) then false else true)) (some (true, (0, 20, t6, t7, t8, t9), default)) (l96_1 t0 t33_0 t33_1 t34 b0_0 b0_1 b0_2 f (IntKind.i64.wrap (t6 + IntKind.i64.wrap (b0_1.ii t35.toNat 0 * t33_1.ii t35.toNat (0 + 1 + 1 + 1)))) (IntKind.i64.wrap (t7 + b0_1.ii t35.toNat 0)) (IntKind.i64.wrap (t8 + IntKind.i64.wrap (b0_1.ii t35.toNat 0 * t33_1.ii t35.toNat (0 + 1)))) (IntKind.i64.wrap (t9 + IntKind.i64.wrap (b0_1.ii t35.toNat 0 * t33_1.ii t35.toNat (0 + 1 + 1)))) (IntKind.i64.wrap (t35 + 1)))) none) none) (some (false, default, (t6, t7, t8, t9)))) := hG
    refine propOf (y96_1 t0 t6 t7 t8 t9 t33_0 t33_1 t34 t35 b0_0 b0_1 b0_2 _) ?_
    exact cnd_gg2 hG (fun h0 => cnd_gg h0 fun h1 => cnd_gg h1 fun h2 => cnd_gg2 h2 (fun h3 => h3.2) (fun h3 => ⟨(t0, (IntKind.i64.wrap (t6 + IntKind.i64.wrap (b0_1.ii t35.toNat 0 * t33_1.ii t35.toNat (0 + 1 + 1 + 1)))), (IntKind.i64.wrap (t7 + b0_1.ii t35.toNat 0)), (IntKind.i64.wrap (t8 + IntKind.i64.wrap (b0_1.ii t35.toNat 0 * t33_1.ii t35.toNat (0 + 1)))), (IntKind.i64.wrap (t9 + IntKind.i64.wrap (b0_1.ii t35.toNat 0 * t33_1.ii t35.toNat (0 + 1 + 1)))), t33_0, t33_1, t34, (IntKind.i64.wrap (t35 + 1)), b0_0, b0_1, b0_2), rfl, rfl, h3⟩)) (fun h0 => h0.2)
  · intro s k h
    unfold g96_1 at h
    split at h <;> try exact h.elim
    rename_i e1
    rw [needs_iff] at h
    exact ⟨_, e1, _, (_, _, _, _, _, _, _, _, _, _, _, _), rfl, rfl, h.1 _ (List.mem_singleton.2 rfl), h.2⟩
theorem x96 (da0 : Dat) (na1_0 : Nat) (da1_0 : Dat) (a1_1 : Int) (R : SV → List Blk → List Blk → Prop) : exec Try.prog [(73, c73)] (lamOf [(1, g96_1)]) 8 (Try.f96.body.getD .skip) (initS Try.f96.ntmps [.rp [.sl [.str, .int .i64, .int .i64, .int .i64, .int .i64], .int .i64, .int .i64, .int .i64, .int .i64, .int .i64, .int .i64, .int .i64, .int .i64, .int .i64, .int .i64, .int .i64, .int .i64, .int .i64] da0 0 0, .agg [.ro [.int .i64] na1_0 da1_0, .int .i64 a1_1]] 0 (memOf [])) (retK Try.prog Try.f96.results.toList (outK 0 (List.range 0) [] (.k) fun v U N => R v U N)) =
  (cnd ((bif (decide ((↑na1_0 : Int) = (↑(da0.sn 0 0) : Int))) then false else true))
  (R (.tup [.int .i64 0, .int .i64 10]) [] [])
  (cnd ((bif (m73 a1_1 1 1000000) then false else true))
   (R (.tup [.int .i64 0, .int .i64 2]) [] [])
   (cnd (((o96_1 da0 (da0.sn 0 0) (da0.sub 0 0) (↑(da0.sn 0 0) : Int) na1_0 da1_0 a1_1 0 0 0 0 0).isSome))
    (cnd ((((o96_1 da0 (da0.sn 0 0) (da0.sub 0 0) (↑(da0.sn 0 0) : Int) na1_0 da1_0 a1_1 0 0 0 0 0).getD default).fst))
     (R (.tup [.int .i64 (((o96_1 da0 (da0.sn 0 0) (da0.sub 0 0) (↑(da0.sn 0 0) : Int) na1_0 da1_0 a1_1 0 0 0 0 0).getD default).snd.fst.fst), .int .i64 (((o96_1 da0 (da0.sn 0 0) (da0.sub 0 0) (↑(da0.sn 0 0) : Int) na1_0 da1_0 a1_1 0 0 0 0 0).getD default).snd.fst.snd.fst)]) [] [])
     (cnd ((bif (decide (((o96_1 da0 (da0.sn 0 0) (da0.sub 0 0) (↑(da0.sn 0 0) : Int) na1_0 da1_0 a1_1 0 0 0 0 0).getD default).snd.snd.snd.fst = IntKind.i64.wrap (a1_1 * da0.ii 0 (0 + 1 + 1 + 1 + 1 + 1 + 1 + 1 + 1 + 1)))) then false else true))
      (R (.tup [.int .i64 0, .int .i64 23]) [] [])
      (cnd ((bif (bif (m73 ((o96_1 da0 (da0.sn 0 0) (da0.sub 0 0) (↑(da0.sn 0 0) : Int) na1_0 da1_0 a1_1 0 0 0 0 0).getD default).snd.snd.snd.snd.fst (IntKind.i64.wrap (a1_1 * da0.ii 0 (0 + 1 + 1 + 1 + 1 + 1 + 1 + 1 + 1 + 1 + 1))) (IntKind.i64.wrap (a1_1 * da0.ii 0 (0 + 1 + 1 + 1 + 1 + 1 + 1 + 1 + 1 + 1 + 1 + 1)))) then false else true) then true else (bif (m73 ((o96_1 da0 (da0.sn 0 0) (da0.sub 0 0) (↑(da0.sn 0 0) : Int) na1_0 da1_0 a1_1 0 0 0 0 0).getD default).snd.snd.snd.snd.snd (IntKind.i64.wrap (a1_1 * da0.ii 0 (0 + 1 + 1 + 1 + 1 + 1 + 1 + 1 + 1 + 1 + 1 + 1 + 1))) (IntKind.i64.wrap (a1_1 * da0.ii 0 (0 + 1 + 1 + 1 + 1 + 1 + 1 + 1 + 1 + 1 + 1 + 1 + 1 + 1)))) then false else true)))
       (R (.tup [.int .i64 0, .int .i64 26]) [] [])
       (R (.tup [.int .i64 (((o96_1 da0 (da0.sn 0 0) (da0.sub 0 0) (↑(da0.sn 0 0) : Int) na1_0 da1_0 a1_1 0 0 0 0 0).getD default).snd.snd.fst), .int .i64 0]) [] []))))
    False))) := by kernel_rfl
noncomputable def m96 (da0 : Dat) (na1_0 : Nat) (da1_0 : Dat) (a1_1 : Int) : Int × Int :=
  (cond ((bif (decide ((↑na1_0 : Int) = (↑(da0.sn 0 0) : Int))) then false else true)) (0, 10) (cond ((bif (m73 a1_1 1 1000000) then false else true)) (0, 2) (cond ((((o96_1 da0 (da0.sn 0 0) (da0.sub 0 0) (↑(da0.sn 0 0) : Int) na1_0 da1_0 a1_1 0 0 0 0 0).getD default).fst)) ((((o96_1 da0 (da0.sn 0 0) (da0.sub 0 0) (↑(da0.sn 0 0) : Int) na1_0 da1_0 a1_1 0 0 0 0 0).getD default).snd.fst.fst), (((o96_1 da0 (da0.sn 0 0) (da0.sub 0 0) (↑(da0.sn 0 0) : Int) na1_0 da1_0 a1_1 0 0 0 0 0).getD default).snd.fst.snd.fst)) (cond ((bif (decide (((o96_1 da0 (da0.sn 0 0) (da0.sub 0 0) (↑(da0.sn 0 0) : Int) na1_0 da1_0 a1_1 0 0 0 0 0).getD default).snd.snd.snd.fst = IntKind.i64.wrap (a1_1 * da0.ii 0 (0 + 1 + 1 + 1 + 1 + 1 + 1 + 1 + 1 + 1)))) then false else true)) (0, 23) (cond ((bif (bif (m73 ((o96_1 da0 (da0.sn 0 0) (da0.sub 0 0) (↑(da0.sn 0 0) : Int) na1_0 da1_0 a1_1 0 0 0 0 0).getD default).snd.snd.snd.snd.fst (IntKind.i64.wrap (a1_1 * da0.ii 0 (0 + 1 + 1 + 1 + 1 + 1 + 1 + 1 + 1 + 1 + 1))) (IntKind.i64.wrap (a1_1 * da0.ii 0 (0 + 1 + 1 + 1 + 1 + 1 + 1 + 1 + 1 + 1 + 1 + 1)))) then false else true) then true else (bif (m73 ((o96_1 da0 (da0.sn 0 0) (da0.sub 0 0) (↑(da0.sn 0 0) : Int) na1_0 da1_0 a1_1 0 0 0 0 0).getD default).snd.snd.snd.snd.snd (IntKind.i64.wrap (a1_1 * da0.ii 0 (0 + 1 + 1 + 1 + 1 + 1 + 1 + 1 + 1 + 1 + 1 + 1 + 1))) (IntKind.i64.wrap (a1_1 * da0.ii 0 (0 + 1 + 1 + 1 + 1 + 1 + 1 + 1 + 1 + 1 + 1 + 1 + 1 + 1)))) then false else true))) (0, 26) ((((o96_1 da0 (da0.sn 0 0) (da0.sub 0 0) (↑(da0.sn 0 0) : Int) na1_0 da1_0 a1_1 0 0 0 0 0).getD default).snd.snd.fst), 0))))))
noncomputable def n96 (da0 : Dat) (na1_0 : Nat) (da1_0 : Dat) (a1_1 : Int) : Bool :=
  (cond ((bif (decide ((↑na1_0 : Int) = (↑(da0.sn 0 0) : Int))) then false else true)) true (cond ((bif (m73 a1_1 1 1000000) then false else true)) true ((((o96_1 da0 (da0.sn 0 0) (da0.sub 0 0) (↑(da0.sn 0 0) : Int) na1_0 da1_0 a1_1 0 0 0 0 0).isSome)) && true)))
noncomputable def q96 (r : Int × Int) : SV × List Blk × List Blk := (.tup [.int .i64 r.1, .int .i64 r.2], [], [])
noncomputable def g96 : List SV → List Blk → Option OpRes := fun vs bs => match vs, bs with
  | [.rp [.sl [.str, .int .i64, .int .i64, .int .i64, .int .i64], .int .i64, .int .i64, .int .i64, .int .i64, .int .i64, .int .i64, .int .i64, .int .i64, .int .i64, .int .i64, .int .i64, .int .i64, .int .i64] da0 0 0, .agg [.ro [.int .i64] na1_0 da1_0, .int .i64 a1_1]], [] => some (resOf 0 (q96 (m96 da0 na1_0 da1_0 a1_1)) [n96 da0 na1_0 da1_0 a1_1])
  | _, _ => none
noncomputable def c96 : Ctr := genC [.rp [.sl [.str, .int .i64, .int .i64, .int .i64, .int .i64], .int .i64, .int .i64, .int .i64, .int .i64, .int .i64, .int .i64, .int .i64, .int .i64, .int .i64, .int .i64, .int .i64, .int .i64, .int .i64], .a [.ro [.int .i64], .k]] g96
theorem p96 (da0 : Dat) (na1_0 : Nat) (da1_0 : Dat) (a1_1 : Int) (hn : n96 da0 na1_0 da1_0 a1_1 = true) : exec Try.prog [(73, c73)] (lamOf [(1, g96_1)]) 8 (Try.f96.body.getD .skip) (initS Try.f96.ntmps [.rp [.sl [.str, .int .i64, .int .i64, .int .i64, .int .i64], .int .i64, .int .i64, .int .i64, .int .i64, .int .i64, .int .i64, .int .i64, .int .i64, .int .i64, .int .i64, .int .i64, .int .i64, .int .i64] da0 0 0, .agg [.ro [.int .i64] na1_0 da1_0, .int .i64 a1_1]] 0 (memOf [])) (retK Try.prog Try.f96.results.toList (outK 0 (List.range 0) [] (.k) fun v U N => (v, U, N) = (q96 (m96 da0 na1_0 da1_0 a1_1)))) :=
  propOf (x96 da0 na1_0 da1_0 a1_1 _) (cnd_of (fun h0 => leaf_of (l := (0, 10)) (condT h0 rfl) rfl) (fun h0 => cnd_of (fun h1 => leaf_of (l := (0, 2)) (condF h0 (condT h1 rfl)) rfl) (fun h1 => cnd_need (and_l (cond_f h1 (cond_f h0 hn))) (cnd_of (fun h2 => leaf_of (l := ((((o96_1 da0 (da0.sn 0 0) (da0.sub 0 0) (↑(da0.sn 0 0) : Int) na1_0 da1_0 a1_1 0 0 0 0 0).getD default).snd.fst.fst), (((o96_1 da0 (da0.sn 0 0) (da0.sub 0 0) (↑(da0.sn 0 0) : Int) na1_0 da1_0 a1_1 0 0 0 0 0).getD default).snd.fst.snd.fst))) (condF h0 (condF h1 (condT h2 rfl))) rfl) (fun h2 => cnd_of (fun h3 => leaf_of (l := (0, 23)) (condF h0 (condF h1 (condF h2 (condT h3 rfl)))) rfl) (fun h3 => cnd_of (fun h4 => leaf_of (l := (0, 26)) (condF h0 (condF h1 (condF h2 (condF h3 (condT h4 rfl))))) rfl) (fun h4 => leaf_of (l := ((((o96_1 da0 (da0.sn 0 0) (da0.sub 0 0) (↑(da0.sn 0 0) : Int) na1_0 da1_0 a1_1 0 0 0 0 0).getD default).snd.snd.fst), 0)) (condF h0 (condF h1 (condF h2 (condF h3 (condF h4 rfl))))) rfl)))))))
theorem k96 : CtrOk Try.prog c96 96 := ctr_of (tabOk_cons k73 tabOk_nil) mix_ok 8 (fn := Try.f96) (c := (Try.f96.body.getD .skip)) (grs := []) (rh := .k) (Λ := (lamOf [(1, g96_1)])) Try.func96 rfl (by kernel_rfl) (lam_of rfl (lams_cons z96_1 lams_nil)) fun vs bs q h hn => by
  unfold g96 at h
  split at h <;> cases h
  exact ⟨_, rfl, p96 _ _ _ _ (hn _ (List.mem_singleton.2 rfl))⟩
/-! ### slices.insertionSortCmpFunc[int] -/
/-! #### loop 2 -/
noncomputable def l151c113_2 (t1 : Int) (t2 : Int) (t3 : Dat) (t8 : Int) : Nat → Int → Dat → Option (Dat)
  | 0, _, _ => none
  | f + 1, t9, b0_0 => (cond ((bif (bif (decide (t1 < t9)) then false else true) then true else (decide (0 ≤ t9 ∧ t9 < (↑3 : Int))))) (cond ((bif (bif (decide (t1 < t9)) then false else true) then true else (decide (t9.toNat < 3)))) (cond ((bif (bif (decide (t1 < t9)) then false else true) then true else (decide (0 ≤ IntKind.i64.wrap (t9 - 1) ∧ IntKind.i64.wrap (t9 - 1) < (↑3 : Int))))) (cond ((bif (bif (decide (t1 < t9)) then false else true) then true else (decide ((IntKind.i64.wrap (t9 - 1)).toNat < 3)))) (cond ((bif (bif (decide (t1 < t9)) then false else true) then true else (n113 (b0_0.ii t9.toNat 0) (b0_0.ii (IntKind.i64.wrap (t9 - 1)).toNat 0) t3))) (cond ((bif (decide (t1 < t9)) then (decide (m113 (b0_0.ii t9.toNat 0) (b0_0.ii (IntKind.i64.wrap (t9 - 1)).toNat 0) t3 < 0)) else false)) (cond ((decide (0 ≤ IntKind.i64.wrap (t9 - 1) ∧ IntKind.i64.wrap (t9 - 1) < (↑3 : Int)))) (cond ((decide ((IntKind.i64.wrap (t9 - 1)).toNat < 3))) (cond ((decide (0 ≤ t9 ∧ t9 < (↑3 : Int)))) (cond ((decide (t9.toNat < 3))) (cond ((decide (0 ≤ t9 ∧ t9 < (↑3 : Int)))) (cond ((decide (t9.toNat < 3))) (cond ((decide (0 ≤ IntKind.i64.wrap (t9 - 1) ∧ IntKind.i64.wrap (t9 - 1) < (↑3 : Int)))) (cond ((decide ((IntKind.i64.wrap (t9 - 1)).toNat < 3))) (l151c113_2 t1 t2 t3 t8 f (IntKind.i64.wrap (t9 - 1)) ((b0_0.upd t9.toNat 0 [SV.int IntKind.i64 (b0_0.ii (IntKind.i64.wrap (t9 - 1)).toNat 0)]).upd (IntKind.i64.wrap (t9 - 1)).toNat 0 [SV.int IntKind.i64 (b0_0.ii t9.toNat 0)])) none) none) none) none) none) none) none) none) (some b0_0)) none) none) none) none) none)
noncomputable abbrev o151c113_2 (t1 : Int) (t2 : Int) (t3 : Dat) (t8 : Int) (t9 : Int) (b0_0 : Dat) : Option (Dat) := l151c113_2 t1 t2 t3 t8 (t1.toNat + t2.toNat + t8.toNat + t9.toNat + 8) t9 b0_0
noncomputable def e151c113_2 (t1 : Int) (t2 : Int) (t3 : Dat) (t8 : Int) (r : Dat) (K : XR) : Prop := K (XE.exit 2) [.own 0 1 3, .int .i64 t1, .int .i64 t2, .fn 113 [.ra [.int .i64] 3 t3], .int .i64 t8] [.row 3 [.int .i64] 3 r]
noncomputable def g151c113_2 : LSum := fun s k => match czv 1 53 [0, 1, 2, 3, 8, 9] 1 [] s with
  | some ([.own 0 1 3, .int .i64 t1, .int .i64 t2, .fn 113 [.ra [.int .i64] 3 t3], .int .i64 t8, .int .i64 t9], [.row 3 [.int .i64] 3 b0_0]) => needs [(o151c113_2 t1 t2 t3 t8 t9 b0_0).isSome] (e151c113_2 t1 t2 t3 t8 ((o151c113_2 t1 t2 t3 t8 t9 b0_0).getD default) fun e vs bs => inBlk 2 k e (mkSt 1 53 [0, 1, 2, 3, 8] vs 1 bs))
  | _ => False
theorem y151c113_2 (t1 : Int) (t2 : Int) (t3 : Dat) (t8 : Int) (t9 : Int) (b0_0 : Dat) (R : XR) : exec Try.prog [(113, c113)] (fun _ => none) 8 (unloop (bodyAt (Try.f151.body.getD .skip) 2)) (mkSt 1 53 [0, 1, 2, 3, 8, 9] [.own 0 1 3, .int .i64 t1, .int .i64 t2, .fn 113 [.ra [.int .i64] 3 t3], .int .i64 t8, .int .i64 t9] 1 [.row 3 [.int .i64] 3 b0_0]) (canonK 1 53 [0, 1, 2, 3, 8, 9] [0, 1, 2, 3, 8] 1 [] R) =
  (cnd ((bif (bif (decide (t1 < t9)) then false else true) then true else (decide (0 ≤ t9 ∧ t9 < (↑3 : Int)))))
  (cnd ((bif (bif (decide (t1 < t9)) then false else true) then true else (decide (t9.toNat < 3))))
   (cnd ((bif (bif (decide (t1 < t9)) then false else true) then true else (decide (0 ≤ IntKind.i64.wrap (t9 - 1) ∧ IntKind.i64.wrap (t9 - 1) < (↑3 : Int)))))
    (cnd ((bif (bif (decide (t1 < t9)) then false else true) then true else (decide ((IntKind.i64.wrap (t9 - 1)).toNat < 3))))
     (cnd ((bif (bif (decide (t1 < t9)) then false else true) then true else (n113 (b0_0.ii t9.toNat 0) (b0_0.ii (IntKind.i64.wrap (t9 - 1)).toNat 0) t3)))
      (cnd ((bif (decide (t1 < t9)) then (decide (m113 (b0_0.ii t9.toNat 0) (b0_0.ii (IntKind.i64.wrap (t9 - 1)).toNat 0) t3 < 0)) else false))
       (cnd ((decide (0 ≤ IntKind.i64.wrap (t9 - 1) ∧ IntKind.i64.wrap (t9 - 1) < (↑3 : Int))))
        (cnd ((decide ((IntKind.i64.wrap (t9 - 1)).toNat < 3)))
         (cnd ((decide (0 ≤ t9 ∧ t9 < (↑3 : Int))))
          (cnd ((decide (t9.toNat < 3)))
           (cnd ((decide (0 ≤ t9 ∧ t9 < (↑3 : Int))))
            (cnd ((decide (t9.toNat < 3)))
             (cnd ((decide (0 ≤ IntKind.i64.wrap (t9 - 1) ∧ IntKind.i64.wrap (t9 - 1) < (↑3 : Int))))
              (cnd ((decide ((IntKind.i64.wrap (t9 - 1)).toNat < 3)))
               (R (XE.normal) [.own 0 1 3, .int .i64 t1, .int .i64 t2, .fn 113 [.ra [.int .i64] 3 t3], .int .i64 t8, .int .i64 (IntKind.i64.wrap (t9 - 1))] [.row 3 [.int .i64] 3 ((b0_0.upd t9.toNat 0 [SV.int IntKind.i64 (b0_0.ii (IntKind.i64.wrap (t9 - 1)).toNat 0)]).upd (IntKind.i64.wrap (t9 - 1)).toNat 0 [SV.int IntKind.i64 (b0_0.ii t9.toNat 0)])])
               False)
              False)
             False)
            False)
           False)
          False)
         False)
        False)
       (R (XE.exit 2) [.own 0 1 3, .int .i64 t1, .int .i64 t2, .fn 113 [.ra [.int .i64] 3 t3], .int .i64 t8] [.row 3 [.int .i64] 3 b0_0]))
      False)
     False)
    False)
   False)
  False) := by kernel_rfl
theorem z151c113_2 : LOk Try.prog g151c113_2 (.block 2 (bodyAt (Try.f151.body.getD .skip) 2)) := by
  refine loop_blk (ι := Int × Int × Dat × Int × Int × Dat) (L := [(113, c113)]) (Λ := (fun _ => none)) (fuel := 8) (na := 1) (nt := 53) (nx := 1) (Lh := [0, 1, 2, 3, 8, 9]) (Le := [0, 1, 2, 3, 8]) (gl := []) (tabOk_cons k113 tabOk_nil) mix_ok noLam rfl (fun f x K => GG default (e151c113_2 x.1 x.2.1 x.2.2.1 x.2.2.2.1) K (l151c113_2 x.1 x.2.1 x.2.2.1 x.2.2.2.1 f x.2.2.2.2.1 x.2.2.2.2.2)) (fun x => [.own 0 1 3, .int .i64 x.1, .int .i64 x.2.1, .fn 113 [.ra [.int .i64] 3 x.2.2.1], .int .i64 x.2.2.2.1, .int .i64 x.2.2.2.2.1]) (fun x => [.row 3 [.int .i64] 3 x.2.2.2.2.2]) (fun x K => gg_none) ?_ ?_
  · rintro f ⟨t1, t2, t3, t8, t9, b0_0⟩ K hG
    have hG : GG default (e151c113_2 t1 t2 t3 t8) K (cond ((bif (bif (decide (t1 < t9)) then false else true) then true else (decide (0 ≤ t9 ∧ t9 < (↑3 : Int))))) (cond ((bif (bif (decide (t1 < t9)) then false else true) then true else (decide (t9.toNat < 3)))) (cond ((bif (bif (decide (t1 < t9)) then false else true) then true else (decide (0 ≤ IntKind.i64.wrap (t9 - 1) ∧ IntKind.i64.wrap (t9 - 1) < (↑3 : Int))))) (cond ((bif (bif (decide (t1 < t9)) then false else true) then true else (decide ((IntKind.i64.wrap (t9 - 1)).toNat < 3)))) (cond ((bif (bif (decide (t1 < t9)) then false else true) then true else (n113 (b0_0.ii t9.toNat 0) (b0_0.ii (IntKind.i64.wrap (t9 - 1)).toNat 0) t3))) (cond ((bif (decide (t1 < t9)) then (decide (m113 (b0_0.ii t9.toNat 0) (b0_0.ii (IntKind.i64.wrap (t9 - 1)).toNat 0) t3 < 0)) else false)) (cond ((decide (0 ≤ IntKind.i64.wrap (t9 - 1) ∧ IntKind.i64.wrap (t9 - 1) < (↑3 : Int)))) (cond ((decide ((IntKind.i64.wrap (t9 - 1)).toNat < 3))) (cond ((decide (0 ≤ t9 ∧ t9 < (↑3 : Int)))) (cond ((decide (t9.toNat < 3))) (cond ((decide (0 ≤ t9 ∧ t9 < (↑3 : Int)))) (cond ((decide (t9.toNat < 3))) (cond ((decide (0 ≤ IntKind.i64.wrap (t9 - 1) ∧ IntKind.i64.wrap (t9 - 1) < (↑3 : Int)))) (cond ((decide ((IntKind.i64.wrap (t9 - 1)).toNat < 3))) (l151c113_2 t1 t2 t3 t8 f (IntKind.i64.wrap (t9 - 1)) ((b0_0.upd t9.toNat 0 [SV.int IntKind.i64 (b0_0.ii (IntKind.i64.wrap (t9 - 1)).toNat 0)]).upd (IntKind.i64.wrap (t9 - 1)).toNat 0 [SV.int IntKind.i64 (b0_0.ii t9.toNat 0)])) none) none) none) none) none) none) none) none) (some b0_0)) none) none) none) none) none) := hG
    refine propOf (y151c113_2 t1 t2 t3 t8 t9 b0_0 _) ?_
    exact cnd_gg hG fun h0 => cnd_gg h0 fun h1 => cnd_gg h1 fun h2 => cnd_gg h2 fun h3 => cnd_gg h3 fun h4 => cnd_gg2 h4 (fun h5 => cnd_gg h5 fun h6 => cnd_gg h6 fun h7 => cnd_gg h7 fun h8 => cnd_gg h8 fun h9 => cnd_gg h9 fun h10 => cnd_gg h10 fun h11 => cnd_gg h11 fun h12 => cnd_gg h12 fun h13 => ⟨(t1, t2, t3, t8, (IntKind.i64.wrap (t9 - 1)), ((b0_0.upd t9.toNat 0 [SV.int IntKind.i64 (b0_0.ii (IntKind.i64.wrap (t9 - 1)).toNat 0)]).upd (IntKind.i64.wrap (t9 - 1)).toNat 0 [SV.int IntKind.i64 (b0_0.ii t9.toNat 0)])), rfl, rfl, h13⟩) (fun h5 => h5.2)
  · intro s k h
    unfold g151c113_2 at h
    split at h <;> try exact h.elim
    rename_i e1
    rw [needs_iff] at h
    exact ⟨_, e1, _, (_, _, _, _, _, _), rfl, rfl, h.1 _ (List.mem_singleton.2 rfl), h.2⟩
/-! #### loop 0 -/
noncomputable def l151c113_0 (t1 : Int) (t2 : Int) (t3 : Dat) : Nat → Int → Dat → Option (Dat)
  | 0, _, _ => none
  | f + 1, t8, b0_0 => (cond ((decide (t8 < t2))) (cond (((o151c113_2 t1 t2 t3 t8 t8 b0_0).isSome)) (l151c113_0 t1 t2 t3 f (IntKind.i64.wrap (t8 + 1)) ((o151c113_2 t1 t2 t3 t8 t8 b0_0).getD default)) none) (some b0_0))
noncomputable abbrev o151c113_0 (t1 : Int) (t2 : Int) (t3 : Dat) (t8 : Int) (b0_0 : Dat) : Option (Dat) := l151c113_0 t1 t2 t3 (t1.toNat + t2.toNat + t8.toNat + 8) t8 b0_0
noncomputable def e151c113_0 (t1 : Int) (t2 : Int) (t3 : Dat) (r : Dat) (K : XR) : Prop := K (XE.exit 0) [] [.row 3 [.int .i64] 3 r]
noncomputable def g151c113_0 : LSum := fun s k => match czv 1 53 [0, 1, 2, 3, 8] 1 [] s with
  | some ([.own 0 1 3, .int .i64 t1, .int .i64 t2, .fn 113 [.ra [.int .i64] 3 t3], .int .i64 t8], [.row 3 [.int .i64] 3 b0_0]) => needs [(o151c113_0 t1 t2 t3 t8 b0_0).isSome] (e151c113_0 t1 t2 t3 ((o151c113_0 t1 t2 t3 t8 b0_0).getD default) fun e vs bs => inBlk 0 k e (mkSt 1 53 [] vs 1 bs))
  | _ => False
theorem y151c113_0 (t1 : Int) (t2 : Int) (t3 : Dat) (t8 : Int) (b0_0 : Dat) (R : XR) : exec Try.prog [(113, c113)] (lamOf [(2, g151c113_2)]) 8 (unloop (bodyAt (Try.f151.body.getD .skip) 0)) (mkSt 1 53 [0, 1, 2, 3, 8] [.own 0 1 3, .int .i64 t1, .int .i64 t2, .fn 113 [.ra [.int .i64] 3 t3], .int .i64 t8] 1 [.row 3 [.int .i64] 3 b0_0]) (canonK 1 53 [0, 1, 2, 3, 8] [] 1 [] R) =
  (cnd ((decide (t8 < t2)))
  (cnd (((o151c113_2 t1 t2 t3 t8 t8 b0_0).isSome))
   (R (XE.normal) [.own 0 1 3, .int .i64 t1, .int .i64 t2, .fn 113 [.ra [.int .i64] 3 t3], .int .i64 (IntKind.i64.wrap (t8 + 1))] [.row 3 [.int .i64] 3 ((o151c113_2 t1 t2 t3 t8 t8 b0_0).getD default)])
   False)
  (R (XE.exit 0) [] [.row 3 [.int .i64] 3 b0_0])) := by kernel_rfl
theorem z151c113_0 : LOk Try.prog g151c113_0 (.block 0 (bodyAt (Try.f151.body.getD .skip) 0)) := by
  refine loop_blk (ι := Int × Int × Dat × Int × Dat) (L := [(113, c113)]) (Λ := (lamOf [(2, g151c113_2)])) (fuel := 8) (na := 1) (nt := 53) (nx := 1) (Lh := [0, 1, 2, 3, 8]) (Le := []) (gl := []) (tabOk_cons k113 tabOk_nil) mix_ok (lam_of rfl (lams_cons z151c113_2 lams_nil)) rfl (fun f x K => GG default (e151c113_0 x.1 x.2.1 x.2.2.1) K (l151c113_0 x.1 x.2.1 x.2.2.1 f x.2.2.2.1 x.2.2.2.2)) (fun x => [.own 0 1 3, .int .i64 x.1, .int .i64 x.2.1, .fn 113 [.ra [.int .i64] 3 x.2.2.1], .int .i64 x.2.2.2.1]) (fun x => [.row 3 [.int .i64] 3 x.2.2.2.2]) (fun x K => gg_none) ?_ ?_
  · rintro f ⟨t1, t2, t3, t8, b0_0⟩ K hG
    have hG : GG default (e151c113_0 t1 t2 t3) K (cond ((decide (t8 < t2))) (cond (((o151c113_2 t1 t2 t3 t8 t8 b0_0).isSome)) (l151c113_0 t1 t2 t3 f (IntKind.i64.wrap (t8 + 1)) ((o151c113_2 t1 t2 t3 t8 t8 b0_0).getD default)) none) (some b0_0)) := hG
    refine propOf (y151c113_0 t1 t2 t3 t8 b0_0 _) ?_
    exact cnd_gg2 hG (fun h0 => cnd_gg h0 fun h1 => ⟨(t1, t2, t3, (IntKind.i64.wrap (t8 + 1)), ((o151c113_2 t1 t2 t3 t8 t8 b0_0).getD default)), rfl, rfl, h1⟩) (fun h0 => h0.2)
  · intro s k h
    unfold g151c113_0 at h
    split at h <;> try exact h.elim
    rename_i e1
    rw [needs_iff] at h
    exact ⟨_, e1, _, (_, _, _, _, _), rfl, rfl, h.1 _ (List.mem_singleton.2 rfl), h.2⟩
theorem x151c113 (da0 : Dat) (da3c0 : Dat) (R : SV → List Blk → List Blk → Prop) : exec Try.prog [(113, c113)] (lamOf [(2, g151c113_2), (0, g151c113_0)]) 8 (Try.f151.body.getD .skip) (initS Try.f151.ntmps [.own 0 1 3, .int .i64 0, .int .i64 3, .fn 113 [.ra [.int .i64] 3 da3c0]] 1 (memOf [.row 3 [.int .i64] 3 da0])) (retK Try.prog Try.f151.results.toList (outK 1 (List.range 1) [] (.k) fun v U N => R v U N)) =
  (cnd (((o151c113_0 0 3 da3c0 (IntKind.i64.wrap (0 + 1)) da0).isSome))
  (R (.tup []) [.row 3 [.int .i64] 3 ((o151c113_0 0 3 da3c0 (IntKind.i64.wrap (0 + 1)) da0).getD default)] [])
  False) := by kernel_rfl
noncomputable def m151c113 (da0 : Dat) (da3c0 : Dat) : Dat :=
  ((o151c113_0 0 3 da3c0 (IntKind.i64.wrap (0 + 1)) da0).getD default)
noncomputable def n151c113 (da0 : Dat) (da3c0 : Dat) : Bool :=
  ((((o151c113_0 0 3 da3c0 (IntKind.i64.wrap (0 + 1)) da0).isSome)) && true)
noncomputable def q151c113 (r : Dat) : SV × List Blk × List Blk := (.tup [], [.row 3 [.int .i64] 3 r], [])
noncomputable def g151c113 : List SV → List Blk → Option OpRes := fun vs bs => match vs, bs with
  | [.own 0 1 3, .int .i64 0, .int .i64 3, .fn 113 [.ra [.int .i64] 3 da3c0]], [.row 3 [.int .i64] 3 da0] => some (resOf 1 (q151c113 (m151c113 da0 da3c0)) [n151c113 da0 da3c0])
  | _, _ => none
noncomputable def c151c113 : Ctr := genC [.k, .k, .k, .f [.ra [.int .i64] 3]] g151c113
theorem p151c113 (da0 : Dat) (da3c0 : Dat) (hn : n151c113 da0 da3c0 = true) : exec Try.prog [(113, c113)] (lamOf [(2, g151c113_2), (0, g151c113_0)]) 8 (Try.f151.body.getD .skip) (initS Try.f151.ntmps [.own 0 1 3, .int .i64 0, .int .i64 3, .fn 113 [.ra [.int .i64] 3 da3c0]] 1 (memOf [.row 3 [.int .i64] 3 da0])) (retK Try.prog Try.f151.results.toList (outK 1 (List.range 1) [] (.k) fun v U N => (v, U, N) = (q151c113 (m151c113 da0 da3c0)))) :=
  propOf (x151c113 da0 da3c0 _) (cnd_need (and_l hn) (leaf_of (l := ((o151c113_0 0 3 da3c0 (IntKind.i64.wrap (0 + 1)) da0).getD default)) rfl rfl))
theorem k151c113 : CtrOk Try.prog c151c113 151 := ctr_of (tabOk_cons k113 tabOk_nil) mix_ok 8 (fn := Try.f151) (c := (Try.f151.body.getD .skip)) (grs := []) (rh := .k) (Λ := (lamOf [(2, g151c113_2), (0, g151c113_0)])) Try.func151 rfl (by kernel_rfl) (lam_of rfl (lams_cons z151c113_2 (lams_cons z151c113_0 lams_nil))) fun vs bs q h hn => by
  unfold g151c113 at h
  split at h <;> cases h
  exact ⟨_, rfl, p151c113 _ _ (hn _ (List.mem_singleton.2 rfl))⟩
end Go.Proofs.Ytmjcegbnbnbceaa
