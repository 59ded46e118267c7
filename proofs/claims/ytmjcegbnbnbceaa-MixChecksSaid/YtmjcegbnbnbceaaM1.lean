/-
  Contracts of functions: models, equations by the kernel, contracts. Conditions: none.
-/
import Derived.Test.YtmjcegbnbnbceaaSyY
import Derived.Test.YtmjcegbnbnbceaaBase
import Derived.KernelRfl
namespace Go.Proofs.Ytmjcegbnbnbceaa
open Go Go.Sy
set_option linter.unusedVariables false
set_option maxRecDepth 100000
set_option maxHeartbeats 2000000
attribute [local irreducible] Go.IntKind.wrap Int.tdiv Int.tmod Int.fdiv
/-! ### shotline/shotlinebase.Within -/
theorem x18 (a0 : Int) (a1 : Int) (a2 : Int) (R : SV → List Blk → List Blk → Prop) : exec Try.prog [] (fun _ => none) 8 (Try.f18.body.getD .skip) (initS Try.f18.ntmps [.int .i64 a0, .int .i64 a1, .int .i64 a2] 0 (memOf [])) (retK Try.prog Try.f18.results.toList (outK 0 (List.range 0) [] (.k) fun v U N => R v U N)) =
  (R (.bool (bif (decide (a1 ≤ a0)) then (decide (a0 ≤ a2)) else false)) [] []) := by kernel_rfl
def m18 (a0 : Int) (a1 : Int) (a2 : Int) : Bool :=
  (bif (decide (a1 ≤ a0)) then (decide (a0 ≤ a2)) else false)
def q18 (r : Bool) : SV × List Blk × List Blk := (.bool r, [], [])
def g18 : List SV → List Blk → Option OpRes := fun vs bs => match vs, bs with
  | [.int .i64 a0, .int .i64 a1, .int .i64 a2], [] => some (resOf 0 (q18 (m18 a0 a1 a2)) [])
  | _, _ => none
def c18 : Ctr := genC [.k, .k, .k] g18
theorem p18 (a0 : Int) (a1 : Int) (a2 : Int) : exec Try.prog [] (fun _ => none) 8 (Try.f18.body.getD .skip) (initS Try.f18.ntmps [.int .i64 a0, .int .i64 a1, .int .i64 a2] 0 (memOf [])) (retK Try.prog Try.f18.results.toList (outK 0 (List.range 0) [] (.k) fun v U N => (v, U, N) = (q18 (m18 a0 a1 a2)))) :=
  propOf (x18 a0 a1 a2 _) (leaf_of (l := (bif (decide (a1 ≤ a0)) then (decide (a0 ≤ a2)) else false)) rfl rfl)
theorem k18 : CtrOk Try.prog c18 18 := ctr_of tabOk_nil mix_ok 8 (fn := Try.f18) (c := (Try.f18.body.getD .skip)) (grs := []) (rh := .k) (Λ := (fun _ => none)) Try.func18 rfl (by kernel_rfl) noLam fun vs bs q h _ => by
  unfold g18 at h
  split at h <;> cases h
  exact ⟨_, rfl, p18 _ _ _⟩
/-! ### shotline/shotlineref06.Sum -/
theorem x19 (a0_0 : Int) (a0_1 : Int) (a0_2 : Int) (R : SV → List Blk → List Blk → Prop) : exec Try.prog [] (fun _ => none) 8 (Try.f19.body.getD .skip) (initS Try.f19.ntmps [.agg [.int .i64 a0_0, .int .i64 a0_1, .int .i64 a0_2]] 0 (memOf [])) (retK Try.prog Try.f19.results.toList (outK 0 (List.range 0) [] (.k) fun v U N => R v U N)) =
  (R (.int .i64 (IntKind.i64.wrap (IntKind.i64.wrap (a0_0 + a0_1) + a0_2))) [] []) := by kernel_rfl
def m19 (a0_0 : Int) (a0_1 : Int) (a0_2 : Int) : Int :=
  (IntKind.i64.wrap (IntKind.i64.wrap (a0_0 + a0_1) + a0_2))
def q19 (r : Int) : SV × List Blk × List Blk := (.int .i64 r, [], [])
def g19 : List SV → List Blk → Option OpRes := fun vs bs => match vs, bs with
  | [.agg [.int .i64 a0_0, .int .i64 a0_1, .int .i64 a0_2]], [] => some (resOf 0 (q19 (m19 a0_0 a0_1 a0_2)) [])
  | _, _ => none
def c19 : Ctr := genC [.k] g19
theorem p19 (a0_0 : Int) (a0_1 : Int) (a0_2 : Int) : exec Try.prog [] (fun _ => none) 8 (Try.f19.body.getD .skip) (initS Try.f19.ntmps [.agg [.int .i64 a0_0, .int .i64 a0_1, .int .i64 a0_2]] 0 (memOf [])) (retK Try.prog Try.f19.results.toList (outK 0 (List.range 0) [] (.k) fun v U N => (v, U, N) = (q19 (m19 a0_0 a0_1 a0_2)))) :=
  propOf (x19 a0_0 a0_1 a0_2 _) (leaf_of (l := (IntKind.i64.wrap (IntKind.i64.wrap (a0_0 + a0_1) + a0_2))) rfl rfl)
theorem k19 : CtrOk Try.prog c19 19 := ctr_of tabOk_nil mix_ok 8 (fn := Try.f19) (c := (Try.f19.body.getD .skip)) (grs := []) (rh := .k) (Λ := (fun _ => none)) Try.func19 rfl (by kernel_rfl) noLam fun vs bs q h _ => by
  unfold g19 at h
  split at h <;> cases h
  exact ⟨_, rfl, p19 _ _ _⟩
/-! ### shotline/mix.gasesOf -/
theorem x72 (a0_0 : Int) (a0_1 : Int) (a0_2 : Int) (R : SV → List Blk → List Blk → Prop) : exec Try.prog [] (fun _ => none) 8 (Try.f72.body.getD .skip) (initS Try.f72.ntmps [.agg [.int .i64 a0_0, .int .i64 a0_1, .int .i64 a0_2]] 0 (memOf [])) (retK Try.prog Try.f72.results.toList (outK 0 (List.range 0) [] (.k) fun v U N => R v U N)) =
  (R (.agg [.int .i64 a0_0, .int .i64 a0_1, .int .i64 a0_2]) [] []) := by kernel_rfl
def m72 (a0_0 : Int) (a0_1 : Int) (a0_2 : Int) : Int × Int × Int :=
  (a0_0, a0_1, a0_2)
def q72 (r : Int × Int × Int) : SV × List Blk × List Blk := (.agg [.int .i64 r.1, .int .i64 r.2.1, .int .i64 r.2.2], [], [])
def g72 : List SV → List Blk → Option OpRes := fun vs bs => match vs, bs with
  | [.agg [.int .i64 a0_0, .int .i64 a0_1, .int .i64 a0_2]], [] => some (resOf 0 (q72 (m72 a0_0 a0_1 a0_2)) [])
  | _, _ => none
def c72 : Ctr := genC [.k] g72
theorem p72 (a0_0 : Int) (a0_1 : Int) (a0_2 : Int) : exec Try.prog [] (fun _ => none) 8 (Try.f72.body.getD .skip) (initS Try.f72.ntmps [.agg [.int .i64 a0_0, .int .i64 a0_1, .int .i64 a0_2]] 0 (memOf [])) (retK Try.prog Try.f72.results.toList (outK 0 (List.range 0) [] (.k) fun v U N => (v, U, N) = (q72 (m72 a0_0 a0_1 a0_2)))) :=
  propOf (x72 a0_0 a0_1 a0_2 _) (leaf_of (l := (a0_0, a0_1, a0_2)) rfl rfl)
theorem k72 : CtrOk Try.prog c72 72 := ctr_of tabOk_nil mix_ok 8 (fn := Try.f72) (c := (Try.f72.body.getD .skip)) (grs := []) (rh := .k) (Λ := (fun _ => none)) Try.func72 rfl (by kernel_rfl) noLam fun vs bs q h _ => by
  unfold g72 at h
  split at h <;> cases h
  exact ⟨_, rfl, p72 _ _ _⟩
/-! ### shotline/mix.within -/
theorem x73 (a0 : Int) (a1 : Int) (a2 : Int) (R : SV → List Blk → List Blk → Prop) : exec Try.prog [] (fun _ => none) 8 (Try.f73.body.getD .skip) (initS Try.f73.ntmps [.int .i64 a0, .int .i64 a1, .int .i64 a2] 0 (memOf [])) (retK Try.prog Try.f73.results.toList (outK 0 (List.range 0) [] (.k) fun v U N => R v U N)) =
  (R (.bool (bif (decide (a1 ≤ a0)) then (decide (a0 ≤ a2)) else false)) [] []) := by kernel_rfl
def m73 (a0 : Int) (a1 : Int) (a2 : Int) : Bool :=
  (bif (decide (a1 ≤ a0)) then (decide (a0 ≤ a2)) else false)
def q73 (r : Bool) : SV × List Blk × List Blk := (.bool r, [], [])
def g73 : List SV → List Blk → Option OpRes := fun vs bs => match vs, bs with
  | [.int .i64 a0, .int .i64 a1, .int .i64 a2], [] => some (resOf 0 (q73 (m73 a0 a1 a2)) [])
  | _, _ => none
def c73 : Ctr := genC [.k, .k, .k] g73
theorem p73 (a0 : Int) (a1 : Int) (a2 : Int) : exec Try.prog [] (fun _ => none) 8 (Try.f73.body.getD .skip) (initS Try.f73.ntmps [.int .i64 a0, .int .i64 a1, .int .i64 a2] 0 (memOf [])) (retK Try.prog Try.f73.results.toList (outK 0 (List.range 0) [] (.k) fun v U N => (v, U, N) = (q73 (m73 a0 a1 a2)))) :=
  propOf (x73 a0 a1 a2 _) (leaf_of (l := (bif (decide (a1 ≤ a0)) then (decide (a0 ≤ a2)) else false)) rfl rfl)
theorem k73 : CtrOk Try.prog c73 73 := ctr_of tabOk_nil mix_ok 8 (fn := Try.f73) (c := (Try.f73.body.getD .skip)) (grs := []) (rh := .k) (Λ := (fun _ => none)) Try.func73 rfl (by kernel_rfl) noLam fun vs bs q h _ => by
  unfold g73 at h
  split at h <;> cases h
  exact ⟨_, rfl, p73 _ _ _⟩
/-! ### (shotline/mix.gases).sum -/
theorem x74 (a0_0 : Int) (a0_1 : Int) (a0_2 : Int) (R : SV → List Blk → List Blk → Prop) : exec Try.prog [] (fun _ => none) 8 (Try.f74.body.getD .skip) (initS Try.f74.ntmps [.agg [.int .i64 a0_0, .int .i64 a0_1, .int .i64 a0_2]] 0 (memOf [])) (retK Try.prog Try.f74.results.toList (outK 0 (List.range 0) [] (.k) fun v U N => R v U N)) =
  (R (.int .i64 (IntKind.i64.wrap (IntKind.i64.wrap (a0_0 + a0_1) + a0_2))) [] []) := by kernel_rfl
def m74 (a0_0 : Int) (a0_1 : Int) (a0_2 : Int) : Int :=
  (IntKind.i64.wrap (IntKind.i64.wrap (a0_0 + a0_1) + a0_2))
def q74 (r : Int) : SV × List Blk × List Blk := (.int .i64 r, [], [])
def g74 : List SV → List Blk → Option OpRes := fun vs bs => match vs, bs with
  | [.agg [.int .i64 a0_0, .int .i64 a0_1, .int .i64 a0_2]], [] => some (resOf 0 (q74 (m74 a0_0 a0_1 a0_2)) [])
  | _, _ => none
def c74 : Ctr := genC [.k] g74
theorem p74 (a0_0 : Int) (a0_1 : Int) (a0_2 : Int) : exec Try.prog [] (fun _ => none) 8 (Try.f74.body.getD .skip) (initS Try.f74.ntmps [.agg [.int .i64 a0_0, .int .i64 a0_1, .int .i64 a0_2]] 0 (memOf [])) (retK Try.prog Try.f74.results.toList (outK 0 (List.range 0) [] (.k) fun v U N => (v, U, N) = (q74 (m74 a0_0 a0_1 a0_2)))) :=
  propOf (x74 a0_0 a0_1 a0_2 _) (leaf_of (l := (IntKind.i64.wrap (IntKind.i64.wrap (a0_0 + a0_1) + a0_2))) rfl rfl)
theorem k74 : CtrOk Try.prog c74 74 := ctr_of tabOk_nil mix_ok 8 (fn := Try.f74) (c := (Try.f74.body.getD .skip)) (grs := []) (rh := .k) (Λ := (fun _ => none)) Try.func74 rfl (by kernel_rfl) noLam fun vs bs q h _ => by
  unfold g74 at h
  split at h <;> cases h
  exact ⟨_, rfl, p74 _ _ _⟩
/-! ### (shotline/mix.gases).content -/
theorem x76 (a0_0 : Int) (a0_1 : Int) (a0_2 : Int) (R : SV → List Blk → List Blk → Prop) : exec Try.prog [] (fun _ => none) 8 (Try.f76.body.getD .skip) (initS Try.f76.ntmps [.agg [.int .i64 a0_0, .int .i64 a0_1, .int .i64 a0_2]] 0 (memOf [])) (retK Try.prog Try.f76.results.toList (outK 0 (List.range 0) [] (.k) fun v U N => R v U N)) =
  (R (.agg [.int .i64 a0_0, .int .i64 a0_1, .int .i64 a0_2]) [] []) := by kernel_rfl
def m76 (a0_0 : Int) (a0_1 : Int) (a0_2 : Int) : Int × Int × Int :=
  (a0_0, a0_1, a0_2)
def q76 (r : Int × Int × Int) : SV × List Blk × List Blk := (.agg [.int .i64 r.1, .int .i64 r.2.1, .int .i64 r.2.2], [], [])
def g76 : List SV → List Blk → Option OpRes := fun vs bs => match vs, bs with
  | [.agg [.int .i64 a0_0, .int .i64 a0_1, .int .i64 a0_2]], [] => some (resOf 0 (q76 (m76 a0_0 a0_1 a0_2)) [])
  | _, _ => none
def c76 : Ctr := genC [.k] g76
theorem p76 (a0_0 : Int) (a0_1 : Int) (a0_2 : Int) : exec Try.prog [] (fun _ => none) 8 (Try.f76.body.getD .skip) (initS Try.f76.ntmps [.agg [.int .i64 a0_0, .int .i64 a0_1, .int .i64 a0_2]] 0 (memOf [])) (retK Try.prog Try.f76.results.toList (outK 0 (List.range 0) [] (.k) fun v U N => (v, U, N) = (q76 (m76 a0_0 a0_1 a0_2)))) :=
  propOf (x76 a0_0 a0_1 a0_2 _) (leaf_of (l := (a0_0, a0_1, a0_2)) rfl rfl)
theorem k76 : CtrOk Try.prog c76 76 := ctr_of tabOk_nil mix_ok 8 (fn := Try.f76) (c := (Try.f76.body.getD .skip)) (grs := []) (rh := .k) (Λ := (fun _ => none)) Try.func76 rfl (by kernel_rfl) noLam fun vs bs q h _ => by
  unfold g76 at h
  split at h <;> cases h
  exact ⟨_, rfl, p76 _ _ _⟩
/-! ### shotline/mix.rounded -/
theorem x86 (a0 : Int) (a1 : Int) (R : SV → List Blk → List Blk → Prop) : exec Try.prog [] (fun _ => none) 8 (Try.f86.body.getD .skip) (initS Try.f86.ntmps [.int .i64 a0, .int .i64 a1] 0 (memOf [])) (retK Try.prog Try.f86.results.toList (outK 0 (List.range 0) [] (.k) fun v U N => R v U N)) =
  (cnd ((bif (decide (a1 = 0)) then false else true))
  (cnd ((bif (decide (a1 = 0)) then false else true))
   (R (.agg [.int .i64 (IntKind.i64.wrap (a0.tdiv a1)), .int .i64 (IntKind.i64.wrap ((IntKind.i64.wrap (IntKind.i64.wrap (a0 + a1) - 1)).tdiv a1))]) [] [])
   False)
  False) := by kernel_rfl
def m86 (a0 : Int) (a1 : Int) : Int × Int :=
  ((IntKind.i64.wrap (a0.tdiv a1)), (IntKind.i64.wrap ((IntKind.i64.wrap (IntKind.i64.wrap (a0 + a1) - 1)).tdiv a1)))
def n86 (a0 : Int) (a1 : Int) : Bool :=
  (((bif (decide (a1 = 0)) then false else true)) && (((bif (decide (a1 = 0)) then false else true)) && true))
def q86 (r : Int × Int) : SV × List Blk × List Blk := (.agg [.int .i64 r.1, .int .i64 r.2], [], [])
def g86 : List SV → List Blk → Option OpRes := fun vs bs => match vs, bs with
  | [.int .i64 a0, .int .i64 a1], [] => some (resOf 0 (q86 (m86 a0 a1)) [n86 a0 a1])
  | _, _ => none
def c86 : Ctr := genC [.k, .k] g86
theorem p86 (a0 : Int) (a1 : Int) (hn : n86 a0 a1 = true) : exec Try.prog [] (fun _ => none) 8 (Try.f86.body.getD .skip) (initS Try.f86.ntmps [.int .i64 a0, .int .i64 a1] 0 (memOf [])) (retK Try.prog Try.f86.results.toList (outK 0 (List.range 0) [] (.k) fun v U N => (v, U, N) = (q86 (m86 a0 a1)))) :=
  propOf (x86 a0 a1 _) (cnd_need (and_l hn) (cnd_need (and_l (and_r hn)) (leaf_of (l := ((IntKind.i64.wrap (a0.tdiv a1)), (IntKind.i64.wrap ((IntKind.i64.wrap (IntKind.i64.wrap (a0 + a1) - 1)).tdiv a1)))) rfl rfl)))
theorem k86 : CtrOk Try.prog c86 86 := ctr_of tabOk_nil mix_ok 8 (fn := Try.f86) (c := (Try.f86.body.getD .skip)) (grs := []) (rh := .k) (Λ := (fun _ => none)) Try.func86 rfl (by kernel_rfl) noLam fun vs bs q h hn => by
  unfold g86 at h
  split at h <;> cases h
  exact ⟨_, rfl, p86 _ _ (hn _ (List.mem_singleton.2 rfl))⟩
/-! ### shotline/shotlinebase.Floor -/
theorem x93 (a0 : Int) (a1 : Int) (R : SV → List Blk → List Blk → Prop) : exec Try.prog [] (fun _ => none) 8 (Try.f93.body.getD .skip) (initS Try.f93.ntmps [.int .i64 a0, .int .i64 a1] 0 (memOf [])) (retK Try.prog Try.f93.results.toList (outK 0 (List.range 0) [] (.k) fun v U N => R v U N)) =
  (cnd ((bif (decide (a1 = 0)) then false else true))
  (cnd ((bif (decide (a1 = 0)) then false else true))
   (cnd ((decide (a0.tmod a1 < 0)))
    (R (.int .i64 (IntKind.i64.wrap (IntKind.i64.wrap (a0.tdiv a1) - 1))) [] [])
    (R (.int .i64 (IntKind.i64.wrap (a0.tdiv a1))) [] []))
   False)
  False) := by kernel_rfl
def m93 (a0 : Int) (a1 : Int) : Int :=
  (cond ((decide (a0.tmod a1 < 0))) (IntKind.i64.wrap (IntKind.i64.wrap (a0.tdiv a1) - 1)) (IntKind.i64.wrap (a0.tdiv a1)))
def n93 (a0 : Int) (a1 : Int) : Bool :=
  (((bif (decide (a1 = 0)) then false else true)) && (((bif (decide (a1 = 0)) then false else true)) && true))
def q93 (r : Int) : SV × List Blk × List Blk := (.int .i64 r, [], [])
def g93 : List SV → List Blk → Option OpRes := fun vs bs => match vs, bs with
  | [.int .i64 a0, .int .i64 a1], [] => some (resOf 0 (q93 (m93 a0 a1)) [n93 a0 a1])
  | _, _ => none
def c93 : Ctr := genC [.k, .k] g93
theorem p93 (a0 : Int) (a1 : Int) (hn : n93 a0 a1 = true) : exec Try.prog [] (fun _ => none) 8 (Try.f93.body.getD .skip) (initS Try.f93.ntmps [.int .i64 a0, .int .i64 a1] 0 (memOf [])) (retK Try.prog Try.f93.results.toList (outK 0 (List.range 0) [] (.k) fun v U N => (v, U, N) = (q93 (m93 a0 a1)))) :=
  propOf (x93 a0 a1 _) (cnd_need (and_l hn) (cnd_need (and_l (and_r hn)) (cnd_of (fun h0 => leaf_of (l := (IntKind.i64.wrap (IntKind.i64.wrap (a0.tdiv a1) - 1))) (condT h0 rfl) rfl) (fun h0 => leaf_of (l := (IntKind.i64.wrap (a0.tdiv a1))) (condF h0 rfl) rfl))))
theorem k93 : CtrOk Try.prog c93 93 := ctr_of tabOk_nil mix_ok 8 (fn := Try.f93) (c := (Try.f93.body.getD .skip)) (grs := []) (rh := .k) (Λ := (fun _ => none)) Try.func93 rfl (by kernel_rfl) noLam fun vs bs q h hn => by
  unfold g93 at h
  split at h <;> cases h
  exact ⟨_, rfl, p93 _ _ (hn _ (List.mem_singleton.2 rfl))⟩
/-! ### shotline/mix.takes -/
theorem x120 (a0 : Int) (R : SV → List Blk → List Blk → Prop) : exec Try.prog [] (fun _ => none) 8 (Try.f120.body.getD .skip) (initS Try.f120.ntmps [.int .i64 a0] 0 (memOf [])) (retK Try.prog Try.f120.results.toList (outK 0 (List.range 0) [] (.k) fun v U N => R v U N)) =
  (R (.bool (bif (decide (a0 = 0)) then false else true)) [] []) := by kernel_rfl
def m120 (a0 : Int) : Bool :=
  (bif (decide (a0 = 0)) then false else true)
def q120 (r : Bool) : SV × List Blk × List Blk := (.bool r, [], [])
def g120 : List SV → List Blk → Option OpRes := fun vs bs => match vs, bs with
  | [.int .i64 a0], [] => some (resOf 0 (q120 (m120 a0)) [])
  | _, _ => none
def c120 : Ctr := genC [.k] g120
theorem p120 (a0 : Int) : exec Try.prog [] (fun _ => none) 8 (Try.f120.body.getD .skip) (initS Try.f120.ntmps [.int .i64 a0] 0 (memOf [])) (retK Try.prog Try.f120.results.toList (outK 0 (List.range 0) [] (.k) fun v U N => (v, U, N) = (q120 (m120 a0)))) :=
  propOf (x120 a0 _) (leaf_of (l := (bif (decide (a0 = 0)) then false else true)) rfl rfl)
theorem k120 : CtrOk Try.prog c120 120 := ctr_of tabOk_nil mix_ok 8 (fn := Try.f120) (c := (Try.f120.body.getD .skip)) (grs := []) (rh := .k) (Λ := (fun _ => none)) Try.func120 rfl (by kernel_rfl) noLam fun vs bs q h _ => by
  unfold g120 at h
  split at h <;> cases h
  exact ⟨_, rfl, p120 _⟩
/-! ### shotline/mix.puts -/
theorem x121 (a0 : Int) (R : SV → List Blk → List Blk → Prop) : exec Try.prog [] (fun _ => none) 8 (Try.f121.body.getD .skip) (initS Try.f121.ntmps [.int .i64 a0] 0 (memOf [])) (retK Try.prog Try.f121.results.toList (outK 0 (List.range 0) [] (.k) fun v U N => R v U N)) =
  (R (.bool (bif (decide (a0 = 2)) then false else true)) [] []) := by kernel_rfl
def m121 (a0 : Int) : Bool :=
  (bif (decide (a0 = 2)) then false else true)
def q121 (r : Bool) : SV × List Blk × List Blk := (.bool r, [], [])
def g121 : List SV → List Blk → Option OpRes := fun vs bs => match vs, bs with
  | [.int .i64 a0], [] => some (resOf 0 (q121 (m121 a0)) [])
  | _, _ => none
def c121 : Ctr := genC [.k] g121
theorem p121 (a0 : Int) : exec Try.prog [] (fun _ => none) 8 (Try.f121.body.getD .skip) (initS Try.f121.ntmps [.int .i64 a0] 0 (memOf [])) (retK Try.prog Try.f121.results.toList (outK 0 (List.range 0) [] (.k) fun v U N => (v, U, N) = (q121 (m121 a0)))) :=
  propOf (x121 a0 _) (leaf_of (l := (bif (decide (a0 = 2)) then false else true)) rfl rfl)
theorem k121 : CtrOk Try.prog c121 121 := ctr_of tabOk_nil mix_ok 8 (fn := Try.f121) (c := (Try.f121.body.getD .skip)) (grs := []) (rh := .k) (Λ := (fun _ => none)) Try.func121 rfl (by kernel_rfl) noLam fun vs bs q h _ => by
  unfold g121 at h
  split at h <;> cases h
  exact ⟨_, rfl, p121 _⟩
/-! ### shotline/mix.fresh -/
theorem x123 (a0_0 : Int) (a0_1 : Int) (a1 : Int) (R : SV → List Blk → List Blk → Prop) : exec Try.prog [] (fun _ => none) 8 (Try.f123.body.getD .skip) (initS Try.f123.ntmps [.agg [.int .i64 a0_0, .int .i64 a0_1], .int .i64 a1] 0 (memOf [])) (retK Try.prog Try.f123.results.toList (outK 0 (List.range 0) [] (.k) fun v U N => R v U N)) =
  (R (.agg [.int .i64 (IntKind.i64.wrap ((IntKind.i64.wrap (a1 * a0_0)).tdiv 1000)), .int .i64 (IntKind.i64.wrap ((IntKind.i64.wrap (a1 * a0_1)).tdiv 1000)), .int .i64 (IntKind.i64.wrap (IntKind.i64.wrap (a1 - IntKind.i64.wrap ((IntKind.i64.wrap (a1 * a0_0)).tdiv 1000)) - IntKind.i64.wrap ((IntKind.i64.wrap (a1 * a0_1)).tdiv 1000)))]) [] []) := by kernel_rfl
def m123 (a0_0 : Int) (a0_1 : Int) (a1 : Int) : Int × Int × Int :=
  ((IntKind.i64.wrap ((IntKind.i64.wrap (a1 * a0_0)).tdiv 1000)), (IntKind.i64.wrap ((IntKind.i64.wrap (a1 * a0_1)).tdiv 1000)), (IntKind.i64.wrap (IntKind.i64.wrap (a1 - IntKind.i64.wrap ((IntKind.i64.wrap (a1 * a0_0)).tdiv 1000)) - IntKind.i64.wrap ((IntKind.i64.wrap (a1 * a0_1)).tdiv 1000))))
def q123 (r : Int × Int × Int) : SV × List Blk × List Blk := (.agg [.int .i64 r.1, .int .i64 r.2.1, .int .i64 r.2.2], [], [])
def g123 : List SV → List Blk → Option OpRes := fun vs bs => match vs, bs with
  | [.agg [.int .i64 a0_0, .int .i64 a0_1], .int .i64 a1], [] => some (resOf 0 (q123 (m123 a0_0 a0_1 a1)) [])
  | _, _ => none
def c123 : Ctr := genC [.k, .k] g123
theorem p123 (a0_0 : Int) (a0_1 : Int) (a1 : Int) : exec Try.prog [] (fun _ => none) 8 (Try.f123.body.getD .skip) (initS Try.f123.ntmps [.agg [.int .i64 a0_0, .int .i64 a0_1], .int .i64 a1] 0 (memOf [])) (retK Try.prog Try.f123.results.toList (outK 0 (List.range 0) [] (.k) fun v U N => (v, U, N) = (q123 (m123 a0_0 a0_1 a1)))) :=
  propOf (x123 a0_0 a0_1 a1 _) (leaf_of (l := ((IntKind.i64.wrap ((IntKind.i64.wrap (a1 * a0_0)).tdiv 1000)), (IntKind.i64.wrap ((IntKind.i64.wrap (a1 * a0_1)).tdiv 1000)), (IntKind.i64.wrap (IntKind.i64.wrap (a1 - IntKind.i64.wrap ((IntKind.i64.wrap (a1 * a0_0)).tdiv 1000)) - IntKind.i64.wrap ((IntKind.i64.wrap (a1 * a0_1)).tdiv 1000))))) rfl rfl)
theorem k123 : CtrOk Try.prog c123 123 := ctr_of tabOk_nil mix_ok 8 (fn := Try.f123) (c := (Try.f123.body.getD .skip)) (grs := []) (rh := .k) (Λ := (fun _ => none)) Try.func123 rfl (by kernel_rfl) noLam fun vs bs q h _ => by
  unfold g123 at h
  split at h <;> cases h
  exact ⟨_, rfl, p123 _ _ _⟩
/-! ### (shotline/mix.gases).less -/
theorem x124 (a0_0 : Int) (a0_1 : Int) (a0_2 : Int) (a1_0 : Int) (a1_1 : Int) (a1_2 : Int) (R : SV → List Blk → List Blk → Prop) : exec Try.prog [] (fun _ => none) 8 (Try.f124.body.getD .skip) (initS Try.f124.ntmps [.agg [.int .i64 a0_0, .int .i64 a0_1, .int .i64 a0_2], .agg [.int .i64 a1_0, .int .i64 a1_1, .int .i64 a1_2]] 0 (memOf [])) (retK Try.prog Try.f124.results.toList (outK 0 (List.range 0) [] (.k) fun v U N => R v U N)) =
  (R (.agg [.int .i64 (IntKind.i64.wrap (a0_0 - a1_0)), .int .i64 (IntKind.i64.wrap (a0_1 - a1_1)), .int .i64 (IntKind.i64.wrap (a0_2 - a1_2))]) [] []) := by kernel_rfl
def m124 (a0_0 : Int) (a0_1 : Int) (a0_2 : Int) (a1_0 : Int) (a1_1 : Int) (a1_2 : Int) : Int × Int × Int :=
  ((IntKind.i64.wrap (a0_0 - a1_0)), (IntKind.i64.wrap (a0_1 - a1_1)), (IntKind.i64.wrap (a0_2 - a1_2)))
def q124 (r : Int × Int × Int) : SV × List Blk × List Blk := (.agg [.int .i64 r.1, .int .i64 r.2.1, .int .i64 r.2.2], [], [])
def g124 : List SV → List Blk → Option OpRes := fun vs bs => match vs, bs with
  | [.agg [.int .i64 a0_0, .int .i64 a0_1, .int .i64 a0_2], .agg [.int .i64 a1_0, .int .i64 a1_1, .int .i64 a1_2]], [] => some (resOf 0 (q124 (m124 a0_0 a0_1 a0_2 a1_0 a1_1 a1_2)) [])
  | _, _ => none
def c124 : Ctr := genC [.k, .k] g124
theorem p124 (a0_0 : Int) (a0_1 : Int) (a0_2 : Int) (a1_0 : Int) (a1_1 : Int) (a1_2 : Int) : exec Try.prog [] (fun _ => none) 8 (Try.f124.body.getD .skip) (initS Try.f124.ntmps [.agg [.int .i64 a0_0, .int .i64 a0_1, .int .i64 a0_2], .agg [.int .i64 a1_0, .int .i64 a1_1, .int .i64 a1_2]] 0 (memOf [])) (retK Try.prog Try.f124.results.toList (outK 0 (List.range 0) [] (.k) fun v U N => (v, U, N) = (q124 (m124 a0_0 a0_1 a0_2 a1_0 a1_1 a1_2)))) :=
  propOf (x124 a0_0 a0_1 a0_2 a1_0 a1_1 a1_2 _) (leaf_of (l := ((IntKind.i64.wrap (a0_0 - a1_0)), (IntKind.i64.wrap (a0_1 - a1_1)), (IntKind.i64.wrap (a0_2 - a1_2)))) rfl rfl)
theorem k124 : CtrOk Try.prog c124 124 := ctr_of tabOk_nil mix_ok 8 (fn := Try.f124) (c := (Try.f124.body.getD .skip)) (grs := []) (rh := .k) (Λ := (fun _ => none)) Try.func124 rfl (by kernel_rfl) noLam fun vs bs q h _ => by
  unfold g124 at h
  split at h <;> cases h
  exact ⟨_, rfl, p124 _ _ _ _ _ _⟩
/-! ### (shotline/mix.gases).plus -/
theorem x125 (a0_0 : Int) (a0_1 : Int) (a0_2 : Int) (a1_0 : Int) (a1_1 : Int) (a1_2 : Int) (R : SV → List Blk → List Blk → Prop) : exec Try.prog [] (fun _ => none) 8 (Try.f125.body.getD .skip) (initS Try.f125.ntmps [.agg [.int .i64 a0_0, .int .i64 a0_1, .int .i64 a0_2], .agg [.int .i64 a1_0, .int .i64 a1_1, .int .i64 a1_2]] 0 (memOf [])) (retK Try.prog Try.f125.results.toList (outK 0 (List.range 0) [] (.k) fun v U N => R v U N)) =
  (R (.agg [.int .i64 (IntKind.i64.wrap (a0_0 + a1_0)), .int .i64 (IntKind.i64.wrap (a0_1 + a1_1)), .int .i64 (IntKind.i64.wrap (a0_2 + a1_2))]) [] []) := by kernel_rfl
def m125 (a0_0 : Int) (a0_1 : Int) (a0_2 : Int) (a1_0 : Int) (a1_1 : Int) (a1_2 : Int) : Int × Int × Int :=
  ((IntKind.i64.wrap (a0_0 + a1_0)), (IntKind.i64.wrap (a0_1 + a1_1)), (IntKind.i64.wrap (a0_2 + a1_2)))
def q125 (r : Int × Int × Int) : SV × List Blk × List Blk := (.agg [.int .i64 r.1, .int .i64 r.2.1, .int .i64 r.2.2], [], [])
def g125 : List SV → List Blk → Option OpRes := fun vs bs => match vs, bs with
  | [.agg [.int .i64 a0_0, .int .i64 a0_1, .int .i64 a0_2], .agg [.int .i64 a1_0, .int .i64 a1_1, .int .i64 a1_2]], [] => some (resOf 0 (q125 (m125 a0_0 a0_1 a0_2 a1_0 a1_1 a1_2)) [])
  | _, _ => none
def c125 : Ctr := genC [.k, .k] g125
theorem p125 (a0_0 : Int) (a0_1 : Int) (a0_2 : Int) (a1_0 : Int) (a1_1 : Int) (a1_2 : Int) : exec Try.prog [] (fun _ => none) 8 (Try.f125.body.getD .skip) (initS Try.f125.ntmps [.agg [.int .i64 a0_0, .int .i64 a0_1, .int .i64 a0_2], .agg [.int .i64 a1_0, .int .i64 a1_1, .int .i64 a1_2]] 0 (memOf [])) (retK Try.prog Try.f125.results.toList (outK 0 (List.range 0) [] (.k) fun v U N => (v, U, N) = (q125 (m125 a0_0 a0_1 a0_2 a1_0 a1_1 a1_2)))) :=
  propOf (x125 a0_0 a0_1 a0_2 a1_0 a1_1 a1_2 _) (leaf_of (l := ((IntKind.i64.wrap (a0_0 + a1_0)), (IntKind.i64.wrap (a0_1 + a1_1)), (IntKind.i64.wrap (a0_2 + a1_2)))) rfl rfl)
theorem k125 : CtrOk Try.prog c125 125 := ctr_of tabOk_nil mix_ok 8 (fn := Try.f125) (c := (Try.f125.body.getD .skip)) (grs := []) (rh := .k) (Λ := (fun _ => none)) Try.func125 rfl (by kernel_rfl) noLam fun vs bs q h _ => by
  unfold g125 at h
  split at h <;> cases h
  exact ⟨_, rfl, p125 _ _ _ _ _ _⟩
/-! ### math/bits.Mul64 -/
theorem x132 (a0 : Int) (a1 : Int) (R : SV → List Blk → List Blk → Prop) : exec Try.prog [] (fun _ => none) 8 (Try.f132.body.getD .skip) (initS Try.f132.ntmps [.int .u64 a0, .int .u64 a1] 0 (memOf [])) (retK Try.prog Try.f132.results.toList (outK 0 (List.range 0) [] (.k) fun v U N => R v U N)) =
  (R (.tup [.int .u64 (IntKind.u64.wrap (IntKind.u64.wrap (IntKind.u64.wrap (a0.fdiv (2 ^ min (Int.toNat 32) IntKind.u64.bits) * a1.fdiv (2 ^ min (Int.toNat 32) IntKind.u64.bits)) + (IntKind.u64.wrap (IntKind.u64.wrap (a0.fdiv (2 ^ min (Int.toNat 32) IntKind.u64.bits) * IntKind.u64.wrap (↑(BitVec.ofInt IntKind.u64.bits a1 &&& BitVec.ofInt IntKind.u64.bits 4294967295).toNat : Int)) + (IntKind.u64.wrap (IntKind.u64.wrap (↑(BitVec.ofInt IntKind.u64.bits a0 &&& BitVec.ofInt IntKind.u64.bits 4294967295).toNat : Int) * IntKind.u64.wrap (↑(BitVec.ofInt IntKind.u64.bits a1 &&& BitVec.ofInt IntKind.u64.bits 4294967295).toNat : Int))).fdiv (2 ^ min (Int.toNat 32) IntKind.u64.bits))).fdiv (2 ^ min (Int.toNat 32) IntKind.u64.bits)) + (IntKind.u64.wrap (IntKind.u64.wrap (↑(BitVec.ofInt IntKind.u64.bits (IntKind.u64.wrap (IntKind.u64.wrap (a0.fdiv (2 ^ min (Int.toNat 32) IntKind.u64.bits) * IntKind.u64.wrap (↑(BitVec.ofInt IntKind.u64.bits a1 &&& BitVec.ofInt IntKind.u64.bits 4294967295).toNat : Int)) + (IntKind.u64.wrap (IntKind.u64.wrap (↑(BitVec.ofInt IntKind.u64.bits a0 &&& BitVec.ofInt IntKind.u64.bits 4294967295).toNat : Int) * IntKind.u64.wrap (↑(BitVec.ofInt IntKind.u64.bits a1 &&& BitVec.ofInt IntKind.u64.bits 4294967295).toNat : Int))).fdiv (2 ^ min (Int.toNat 32) IntKind.u64.bits))) &&& BitVec.ofInt IntKind.u64.bits 4294967295).toNat : Int) + IntKind.u64.wrap (IntKind.u64.wrap (↑(BitVec.ofInt IntKind.u64.bits a0 &&& BitVec.ofInt IntKind.u64.bits 4294967295).toNat : Int) * a1.fdiv (2 ^ min (Int.toNat 32) IntKind.u64.bits)))).fdiv (2 ^ min (Int.toNat 32) IntKind.u64.bits))), .int .u64 (IntKind.u64.wrap (a0 * a1))]) [] []) := by kernel_rfl
def m132 (a0 : Int) (a1 : Int) : Int × Int :=
  ((IntKind.u64.wrap (IntKind.u64.wrap (IntKind.u64.wrap (a0.fdiv (2 ^ min (Int.toNat 32) IntKind.u64.bits) * a1.fdiv (2 ^ min (Int.toNat 32) IntKind.u64.bits)) + (IntKind.u64.wrap (IntKind.u64.wrap (a0.fdiv (2 ^ min (Int.toNat 32) IntKind.u64.bits) * IntKind.u64.wrap (↑(BitVec.ofInt IntKind.u64.bits a1 &&& BitVec.ofInt IntKind.u64.bits 4294967295).toNat : Int)) + (IntKind.u64.wrap (IntKind.u64.wrap (↑(BitVec.ofInt IntKind.u64.bits a0 &&& BitVec.ofInt IntKind.u64.bits 4294967295).toNat : Int) * IntKind.u64.wrap (↑(BitVec.ofInt IntKind.u64.bits a1 &&& BitVec.ofInt IntKind.u64.bits 4294967295).toNat : Int))).fdiv (2 ^ min (Int.toNat 32) IntKind.u64.bits))).fdiv (2 ^ min (Int.toNat 32) IntKind.u64.bits)) + (IntKind.u64.wrap (IntKind.u64.wrap (↑(BitVec.ofInt IntKind.u64.bits (IntKind.u64.wrap (IntKind.u64.wrap (a0.fdiv (2 ^ min (Int.toNat 32) IntKind.u64.bits) * IntKind.u64.wrap (↑(BitVec.ofInt IntKind.u64.bits a1 &&& BitVec.ofInt IntKind.u64.bits 4294967295).toNat : Int)) + (IntKind.u64.wrap (IntKind.u64.wrap (↑(BitVec.ofInt IntKind.u64.bits a0 &&& BitVec.ofInt IntKind.u64.bits 4294967295).toNat : Int) * IntKind.u64.wrap (↑(BitVec.ofInt IntKind.u64.bits a1 &&& BitVec.ofInt IntKind.u64.bits 4294967295).toNat : Int))).fdiv (2 ^ min (Int.toNat 32) IntKind.u64.bits))) &&& BitVec.ofInt IntKind.u64.bits 4294967295).toNat : Int) + IntKind.u64.wrap (IntKind.u64.wrap (↑(BitVec.ofInt IntKind.u64.bits a0 &&& BitVec.ofInt IntKind.u64.bits 4294967295).toNat : Int) * a1.fdiv (2 ^ min (Int.toNat 32) IntKind.u64.bits)))).fdiv (2 ^ min (Int.toNat 32) IntKind.u64.bits))), (IntKind.u64.wrap (a0 * a1)))
def q132 (r : Int × Int) : SV × List Blk × List Blk := (.tup [.int .u64 r.1, .int .u64 r.2], [], [])
def g132 : List SV → List Blk → Option OpRes := fun vs bs => match vs, bs with
  | [.int .u64 a0, .int .u64 a1], [] => some (resOf 0 (q132 (m132 a0 a1)) [])
  | _, _ => none
def c132 : Ctr := genC [.k, .k] g132
theorem p132 (a0 : Int) (a1 : Int) : exec Try.prog [] (fun _ => none) 8 (Try.f132.body.getD .skip) (initS Try.f132.ntmps [.int .u64 a0, .int .u64 a1] 0 (memOf [])) (retK Try.prog Try.f132.results.toList (outK 0 (List.range 0) [] (.k) fun v U N => (v, U, N) = (q132 (m132 a0 a1)))) :=
  propOf (x132 a0 a1 _) (leaf_of (l := ((IntKind.u64.wrap (IntKind.u64.wrap (IntKind.u64.wrap (a0.fdiv (2 ^ min (Int.toNat 32) IntKind.u64.bits) * a1.fdiv (2 ^ min (Int.toNat 32) IntKind.u64.bits)) + (IntKind.u64.wrap (IntKind.u64.wrap (a0.fdiv (2 ^ min (Int.toNat 32) IntKind.u64.bits) * IntKind.u64.wrap (↑(BitVec.ofInt IntKind.u64.bits a1 &&& BitVec.ofInt IntKind.u64.bits 4294967295).toNat : Int)) + (IntKind.u64.wrap (IntKind.u64.wrap (↑(BitVec.ofInt IntKind.u64.bits a0 &&& BitVec.ofInt IntKind.u64.bits 4294967295).toNat : Int) * IntKind.u64.wrap (↑(BitVec.ofInt IntKind.u64.bits a1 &&& BitVec.ofInt IntKind.u64.bits 4294967295).toNat : Int))).fdiv (2 ^ min (Int.toNat 32) IntKind.u64.bits))).fdiv (2 ^ min (Int.toNat 32) IntKind.u64.bits)) + (IntKind.u64.wrap (IntKind.u64.wrap (↑(BitVec.ofInt IntKind.u64.bits (IntKind.u64.wrap (IntKind.u64.wrap (a0.fdiv (2 ^ min (Int.toNat 32) IntKind.u64.bits) * IntKind.u64.wrap (↑(BitVec.ofInt IntKind.u64.bits a1 &&& BitVec.ofInt IntKind.u64.bits 4294967295).toNat : Int)) + (IntKind.u64.wrap (IntKind.u64.wrap (↑(BitVec.ofInt IntKind.u64.bits a0 &&& BitVec.ofInt IntKind.u64.bits 4294967295).toNat : Int) * IntKind.u64.wrap (↑(BitVec.ofInt IntKind.u64.bits a1 &&& BitVec.ofInt IntKind.u64.bits 4294967295).toNat : Int))).fdiv (2 ^ min (Int.toNat 32) IntKind.u64.bits))) &&& BitVec.ofInt IntKind.u64.bits 4294967295).toNat : Int) + IntKind.u64.wrap (IntKind.u64.wrap (↑(BitVec.ofInt IntKind.u64.bits a0 &&& BitVec.ofInt IntKind.u64.bits 4294967295).toNat : Int) * a1.fdiv (2 ^ min (Int.toNat 32) IntKind.u64.bits)))).fdiv (2 ^ min (Int.toNat 32) IntKind.u64.bits))), (IntKind.u64.wrap (a0 * a1)))) rfl rfl)
theorem k132 : CtrOk Try.prog c132 132 := ctr_of tabOk_nil mix_ok 8 (fn := Try.f132) (c := (Try.f132.body.getD .skip)) (grs := []) (rh := .k) (Λ := (fun _ => none)) Try.func132 rfl (by kernel_rfl) noLam fun vs bs q h _ => by
  unfold g132 at h
  split at h <;> cases h
  exact ⟨_, rfl, p132 _ _⟩
/-! ### cmp.isNaN[int] -/
theorem x143 (a0 : Int) (R : SV → List Blk → List Blk → Prop) : exec Try.prog [] (fun _ => none) 8 (Try.f143.body.getD .skip) (initS Try.f143.ntmps [.int .i64 a0] 0 (memOf [])) (retK Try.prog Try.f143.results.toList (outK 0 (List.range 0) [] (.k) fun v U N => R v U N)) =
  (R (.bool (bif (decide (a0 = a0)) then false else true)) [] []) := by kernel_rfl
def m143 (a0 : Int) : Bool :=
  (bif (decide (a0 = a0)) then false else true)
def q143 (r : Bool) : SV × List Blk × List Blk := (.bool r, [], [])
def g143 : List SV → List Blk → Option OpRes := fun vs bs => match vs, bs with
  | [.int .i64 a0], [] => some (resOf 0 (q143 (m143 a0)) [])
  | _, _ => none
def c143 : Ctr := genC [.k] g143
theorem p143 (a0 : Int) : exec Try.prog [] (fun _ => none) 8 (Try.f143.body.getD .skip) (initS Try.f143.ntmps [.int .i64 a0] 0 (memOf [])) (retK Try.prog Try.f143.results.toList (outK 0 (List.range 0) [] (.k) fun v U N => (v, U, N) = (q143 (m143 a0)))) :=
  propOf (x143 a0 _) (leaf_of (l := (bif (decide (a0 = a0)) then false else true)) rfl rfl)
theorem k143 : CtrOk Try.prog c143 143 := ctr_of tabOk_nil mix_ok 8 (fn := Try.f143) (c := (Try.f143.body.getD .skip)) (grs := []) (rh := .k) (Λ := (fun _ => none)) Try.func143 rfl (by kernel_rfl) noLam fun vs bs q h _ => by
  unfold g143 at h
  split at h <;> cases h
  exact ⟨_, rfl, p143 _⟩
/-! ### shotline/gas.within -/
theorem x144 (a0 : Int) (a1 : Int) (a2 : Int) (R : SV → List Blk → List Blk → Prop) : exec Try.prog [] (fun _ => none) 8 (Try.f144.body.getD .skip) (initS Try.f144.ntmps [.int .i64 a0, .int .i64 a1, .int .i64 a2] 0 (memOf [])) (retK Try.prog Try.f144.results.toList (outK 0 (List.range 0) [] (.k) fun v U N => R v U N)) =
  (R (.bool (bif (decide (a1 ≤ a0)) then (decide (a0 ≤ a2)) else false)) [] []) := by kernel_rfl
def m144 (a0 : Int) (a1 : Int) (a2 : Int) : Bool :=
  (bif (decide (a1 ≤ a0)) then (decide (a0 ≤ a2)) else false)
def q144 (r : Bool) : SV × List Blk × List Blk := (.bool r, [], [])
def g144 : List SV → List Blk → Option OpRes := fun vs bs => match vs, bs with
  | [.int .i64 a0, .int .i64 a1, .int .i64 a2], [] => some (resOf 0 (q144 (m144 a0 a1 a2)) [])
  | _, _ => none
def c144 : Ctr := genC [.k, .k, .k] g144
theorem p144 (a0 : Int) (a1 : Int) (a2 : Int) : exec Try.prog [] (fun _ => none) 8 (Try.f144.body.getD .skip) (initS Try.f144.ntmps [.int .i64 a0, .int .i64 a1, .int .i64 a2] 0 (memOf [])) (retK Try.prog Try.f144.results.toList (outK 0 (List.range 0) [] (.k) fun v U N => (v, U, N) = (q144 (m144 a0 a1 a2)))) :=
  propOf (x144 a0 a1 a2 _) (leaf_of (l := (bif (decide (a1 ≤ a0)) then (decide (a0 ≤ a2)) else false)) rfl rfl)
theorem k144 : CtrOk Try.prog c144 144 := ctr_of tabOk_nil mix_ok 8 (fn := Try.f144) (c := (Try.f144.body.getD .skip)) (grs := []) (rh := .k) (Λ := (fun _ => none)) Try.func144 rfl (by kernel_rfl) noLam fun vs bs q h _ => by
  unfold g144 at h
  split at h <;> cases h
  exact ⟨_, rfl, p144 _ _ _⟩
/-! ### cmp.isNaN[uint64] -/
theorem x145 (a0 : Int) (R : SV → List Blk → List Blk → Prop) : exec Try.prog [] (fun _ => none) 8 (Try.f145.body.getD .skip) (initS Try.f145.ntmps [.int .u64 a0] 0 (memOf [])) (retK Try.prog Try.f145.results.toList (outK 0 (List.range 0) [] (.k) fun v U N => R v U N)) =
  (R (.bool (bif (decide (a0 = a0)) then false else true)) [] []) := by kernel_rfl
def m145 (a0 : Int) : Bool :=
  (bif (decide (a0 = a0)) then false else true)
def q145 (r : Bool) : SV × List Blk × List Blk := (.bool r, [], [])
def g145 : List SV → List Blk → Option OpRes := fun vs bs => match vs, bs with
  | [.int .u64 a0], [] => some (resOf 0 (q145 (m145 a0)) [])
  | _, _ => none
def c145 : Ctr := genC [.k] g145
theorem p145 (a0 : Int) : exec Try.prog [] (fun _ => none) 8 (Try.f145.body.getD .skip) (initS Try.f145.ntmps [.int .u64 a0] 0 (memOf [])) (retK Try.prog Try.f145.results.toList (outK 0 (List.range 0) [] (.k) fun v U N => (v, U, N) = (q145 (m145 a0)))) :=
  propOf (x145 a0 _) (leaf_of (l := (bif (decide (a0 = a0)) then false else true)) rfl rfl)
theorem k145 : CtrOk Try.prog c145 145 := ctr_of tabOk_nil mix_ok 8 (fn := Try.f145) (c := (Try.f145.body.getD .skip)) (grs := []) (rh := .k) (Λ := (fun _ => none)) Try.func145 rfl (by kernel_rfl) noLam fun vs bs q h _ => by
  unfold g145 at h
  split at h <;> cases h
  exact ⟨_, rfl, p145 _⟩
/-! ### shotline/mix.vessel$1 -/
theorem x116 (a0_0 : ByteArray) (a0_1 : Int) (a0_2 : Int) (da1 : Dat) (R : SV → List Blk → List Blk → Prop) : exec Try.prog [] (fun _ => none) 8 (Try.f116.body.getD .skip) (initS Try.f116.ntmps [.agg [.str a0_0, .int .i64 a0_1, .int .i64 a0_2], .rp [.str] da1 0 0] 0 (memOf [])) (retK Try.prog Try.f116.results.toList (outK 0 (List.range 0) [] (.k) fun v U N => R v U N)) =
  (R (.bool (decide (a0_0 = da1.ss 0 0))) [] []) := by kernel_rfl
def m116 (a0_0 : ByteArray) (a0_1 : Int) (a0_2 : Int) (da1 : Dat) : Bool :=
  (decide (a0_0 = da1.ss 0 0))
def q116 (r : Bool) : SV × List Blk × List Blk := (.bool r, [], [])
def g116 : List SV → List Blk → Option OpRes := fun vs bs => match vs, bs with
  | [.agg [.str a0_0, .int .i64 a0_1, .int .i64 a0_2], .rp [.str] da1 0 0], [] => some (resOf 0 (q116 (m116 a0_0 a0_1 a0_2 da1)) [])
  | _, _ => none
def c116 : Ctr := genC [.k, .rp [.str]] g116
theorem p116 (a0_0 : ByteArray) (a0_1 : Int) (a0_2 : Int) (da1 : Dat) : exec Try.prog [] (fun _ => none) 8 (Try.f116.body.getD .skip) (initS Try.f116.ntmps [.agg [.str a0_0, .int .i64 a0_1, .int .i64 a0_2], .rp [.str] da1 0 0] 0 (memOf [])) (retK Try.prog Try.f116.results.toList (outK 0 (List.range 0) [] (.k) fun v U N => (v, U, N) = (q116 (m116 a0_0 a0_1 a0_2 da1)))) :=
  propOf (x116 a0_0 a0_1 a0_2 da1 _) (leaf_of (l := (decide (a0_0 = da1.ss 0 0))) rfl rfl)
theorem k116 : CtrOk Try.prog c116 116 := ctr_of tabOk_nil mix_ok 8 (fn := Try.f116) (c := (Try.f116.body.getD .skip)) (grs := []) (rh := .k) (Λ := (fun _ => none)) Try.func116 rfl (by kernel_rfl) noLam fun vs bs q h _ => by
  unfold g116 at h
  split at h <;> cases h
  exact ⟨_, rfl, p116 _ _ _ _⟩
/-! ### shotline/mix.CheckTask$1 -/
theorem x108 (a0_0 : ByteArray) (a0_1 : Int) (a0_2 : Int) (a0_3 : Int) (a0_4 : Int) (da1 : Dat) (R : SV → List Blk → List Blk → Prop) : exec Try.prog [] (fun _ => none) 8 (Try.f108.body.getD .skip) (initS Try.f108.ntmps [.agg [.str a0_0, .int .i64 a0_1, .int .i64 a0_2, .int .i64 a0_3, .int .i64 a0_4], .rp [.str, .int .i64, .int .i64, .int .i64, .int .i64] da1 0 0] 0 (memOf [])) (retK Try.prog Try.f108.results.toList (outK 0 (List.range 0) [] (.k) fun v U N => R v U N)) =
  (R (.bool (decide (a0_0 = da1.ss 0 0))) [] []) := by kernel_rfl
def m108 (a0_0 : ByteArray) (a0_1 : Int) (a0_2 : Int) (a0_3 : Int) (a0_4 : Int) (da1 : Dat) : Bool :=
  (decide (a0_0 = da1.ss 0 0))
def q108 (r : Bool) : SV × List Blk × List Blk := (.bool r, [], [])
def g108 : List SV → List Blk → Option OpRes := fun vs bs => match vs, bs with
  | [.agg [.str a0_0, .int .i64 a0_1, .int .i64 a0_2, .int .i64 a0_3, .int .i64 a0_4], .rp [.str, .int .i64, .int .i64, .int .i64, .int .i64] da1 0 0], [] => some (resOf 0 (q108 (m108 a0_0 a0_1 a0_2 a0_3 a0_4 da1)) [])
  | _, _ => none
def c108 : Ctr := genC [.k, .rp [.str, .int .i64, .int .i64, .int .i64, .int .i64]] g108
theorem p108 (a0_0 : ByteArray) (a0_1 : Int) (a0_2 : Int) (a0_3 : Int) (a0_4 : Int) (da1 : Dat) : exec Try.prog [] (fun _ => none) 8 (Try.f108.body.getD .skip) (initS Try.f108.ntmps [.agg [.str a0_0, .int .i64 a0_1, .int .i64 a0_2, .int .i64 a0_3, .int .i64 a0_4], .rp [.str, .int .i64, .int .i64, .int .i64, .int .i64] da1 0 0] 0 (memOf [])) (retK Try.prog Try.f108.results.toList (outK 0 (List.range 0) [] (.k) fun v U N => (v, U, N) = (q108 (m108 a0_0 a0_1 a0_2 a0_3 a0_4 da1)))) :=
  propOf (x108 a0_0 a0_1 a0_2 a0_3 a0_4 da1 _) (leaf_of (l := (decide (a0_0 = da1.ss 0 0))) rfl rfl)
theorem k108 : CtrOk Try.prog c108 108 := ctr_of tabOk_nil mix_ok 8 (fn := Try.f108) (c := (Try.f108.body.getD .skip)) (grs := []) (rh := .k) (Λ := (fun _ => none)) Try.func108 rfl (by kernel_rfl) noLam fun vs bs q h _ => by
  unfold g108 at h
  split at h <;> cases h
  exact ⟨_, rfl, p108 _ _ _ _ _ _⟩
/-! ### shotline/shotlineref06.CheckContent -/
theorem x17 (a0_0 : Int) (a0_1 : Int) (a0_2 : Int) (R : SV → List Blk → List Blk → Prop) : exec Try.prog [(18, c18), (19, c19)] (fun _ => none) 8 (Try.f17.body.getD .skip) (initS Try.f17.ntmps [.agg [.int .i64 a0_0, .int .i64 a0_1, .int .i64 a0_2]] 0 (memOf [])) (retK Try.prog Try.f17.results.toList (outK 0 (List.range 0) [] (.k) fun v U N => R v U N)) =
  (cnd ((bif (bif (bif (bif (m18 a0_0 0 1000000000) then false else true) then true else (bif (m18 a0_1 0 1000000000) then false else true)) then true else (bif (m18 a0_2 0 1000000000) then false else true)) then true else (decide (1000000000 < m19 a0_0 a0_1 a0_2))))
  (R (.int .i64 2) [] [])
  (R (.int .i64 0) [] [])) := by kernel_rfl
def m17 (a0_0 : Int) (a0_1 : Int) (a0_2 : Int) : Int :=
  (cond ((bif (bif (bif (bif (m18 a0_0 0 1000000000) then false else true) then true else (bif (m18 a0_1 0 1000000000) then false else true)) then true else (bif (m18 a0_2 0 1000000000) then false else true)) then true else (decide (1000000000 < m19 a0_0 a0_1 a0_2)))) 2 0)
def q17 (r : Int) : SV × List Blk × List Blk := (.int .i64 r, [], [])
def g17 : List SV → List Blk → Option OpRes := fun vs bs => match vs, bs with
  | [.agg [.int .i64 a0_0, .int .i64 a0_1, .int .i64 a0_2]], [] => some (resOf 0 (q17 (m17 a0_0 a0_1 a0_2)) [])
  | _, _ => none
def c17 : Ctr := genC [.k] g17
theorem p17 (a0_0 : Int) (a0_1 : Int) (a0_2 : Int) : exec Try.prog [(18, c18), (19, c19)] (fun _ => none) 8 (Try.f17.body.getD .skip) (initS Try.f17.ntmps [.agg [.int .i64 a0_0, .int .i64 a0_1, .int .i64 a0_2]] 0 (memOf [])) (retK Try.prog Try.f17.results.toList (outK 0 (List.range 0) [] (.k) fun v U N => (v, U, N) = (q17 (m17 a0_0 a0_1 a0_2)))) :=
  propOf (x17 a0_0 a0_1 a0_2 _) (cnd_of (fun h0 => leaf_of (l := 2) (condT h0 rfl) rfl) (fun h0 => leaf_of (l := 0) (condF h0 rfl) rfl))
theorem k17 : CtrOk Try.prog c17 17 := ctr_of (tabOk_cons k18 (tabOk_cons k19 tabOk_nil)) mix_ok 8 (fn := Try.f17) (c := (Try.f17.body.getD .skip)) (grs := []) (rh := .k) (Λ := (fun _ => none)) Try.func17 rfl (by kernel_rfl) noLam fun vs bs q h _ => by
  unfold g17 at h
  split at h <;> cases h
  exact ⟨_, rfl, p17 _ _ _⟩
/-! ### shotline/shotlineref01.CheckGas -/
theorem x83 (a0_0 : Int) (a0_1 : Int) (R : SV → List Blk → List Blk → Prop) : exec Try.prog [(18, c18)] (fun _ => none) 8 (Try.f83.body.getD .skip) (initS Try.f83.ntmps [.agg [.int .i64 a0_0, .int .i64 a0_1]] 0 (memOf [])) (retK Try.prog Try.f83.results.toList (outK 0 (List.range 0) [] (.k) fun v U N => R v U N)) =
  (cnd ((bif (bif (m18 a0_0 0 1000) then false else true) then true else (bif (m18 a0_1 0 1000) then false else true)))
  (R (.int .i64 2) [] [])
  (cnd ((decide (1000 < IntKind.i64.wrap (a0_0 + a0_1))))
   (R (.int .i64 23) [] [])
   (R (.int .i64 0) [] []))) := by kernel_rfl
def m83 (a0_0 : Int) (a0_1 : Int) : Int :=
  (cond ((bif (bif (m18 a0_0 0 1000) then false else true) then true else (bif (m18 a0_1 0 1000) then false else true))) 2 (cond ((decide (1000 < IntKind.i64.wrap (a0_0 + a0_1)))) 23 0))
def q83 (r : Int) : SV × List Blk × List Blk := (.int .i64 r, [], [])
def g83 : List SV → List Blk → Option OpRes := fun vs bs => match vs, bs with
  | [.agg [.int .i64 a0_0, .int .i64 a0_1]], [] => some (resOf 0 (q83 (m83 a0_0 a0_1)) [])
  | _, _ => none
def c83 : Ctr := genC [.k] g83
theorem p83 (a0_0 : Int) (a0_1 : Int) : exec Try.prog [(18, c18)] (fun _ => none) 8 (Try.f83.body.getD .skip) (initS Try.f83.ntmps [.agg [.int .i64 a0_0, .int .i64 a0_1]] 0 (memOf [])) (retK Try.prog Try.f83.results.toList (outK 0 (List.range 0) [] (.k) fun v U N => (v, U, N) = (q83 (m83 a0_0 a0_1)))) :=
  propOf (x83 a0_0 a0_1 _) (cnd_of (fun h0 => leaf_of (l := 2) (condT h0 rfl) rfl) (fun h0 => cnd_of (fun h1 => leaf_of (l := 23) (condF h0 (condT h1 rfl)) rfl) (fun h1 => leaf_of (l := 0) (condF h0 (condF h1 rfl)) rfl)))
theorem k83 : CtrOk Try.prog c83 83 := ctr_of (tabOk_cons k18 tabOk_nil) mix_ok 8 (fn := Try.f83) (c := (Try.f83.body.getD .skip)) (grs := []) (rh := .k) (Λ := (fun _ => none)) Try.func83 rfl (by kernel_rfl) noLam fun vs bs q h _ => by
  unfold g83 at h
  split at h <;> cases h
  exact ⟨_, rfl, p83 _ _⟩
/-! ### shotline/shotlineref06.checkShare -/
theorem x100 (a0_0 : Int) (a0_1 : Int) (R : SV → List Blk → List Blk → Prop) : exec Try.prog [(18, c18)] (fun _ => none) 8 (Try.f100.body.getD .skip) (initS Try.f100.ntmps [.agg [.int .i64 a0_0, .int .i64 a0_1]] 0 (memOf [])) (retK Try.prog Try.f100.results.toList (outK 0 (List.range 0) [] (.k) fun v U N => R v U N)) =
  (cnd ((bif (bif (m18 a0_0 0 1000) then false else true) then true else (bif (m18 a0_1 0 1000) then false else true)))
  (R (.int .i64 2) [] [])
  (cnd ((decide (a0_1 < a0_0)))
   (R (.int .i64 9) [] [])
   (R (.int .i64 0) [] []))) := by kernel_rfl
def m100 (a0_0 : Int) (a0_1 : Int) : Int :=
  (cond ((bif (bif (m18 a0_0 0 1000) then false else true) then true else (bif (m18 a0_1 0 1000) then false else true))) 2 (cond ((decide (a0_1 < a0_0))) 9 0))
def q100 (r : Int) : SV × List Blk × List Blk := (.int .i64 r, [], [])
def g100 : List SV → List Blk → Option OpRes := fun vs bs => match vs, bs with
  | [.agg [.int .i64 a0_0, .int .i64 a0_1]], [] => some (resOf 0 (q100 (m100 a0_0 a0_1)) [])
  | _, _ => none
def c100 : Ctr := genC [.k] g100
theorem p100 (a0_0 : Int) (a0_1 : Int) : exec Try.prog [(18, c18)] (fun _ => none) 8 (Try.f100.body.getD .skip) (initS Try.f100.ntmps [.agg [.int .i64 a0_0, .int .i64 a0_1]] 0 (memOf [])) (retK Try.prog Try.f100.results.toList (outK 0 (List.range 0) [] (.k) fun v U N => (v, U, N) = (q100 (m100 a0_0 a0_1)))) :=
  propOf (x100 a0_0 a0_1 _) (cnd_of (fun h0 => leaf_of (l := 2) (condT h0 rfl) rfl) (fun h0 => cnd_of (fun h1 => leaf_of (l := 9) (condF h0 (condT h1 rfl)) rfl) (fun h1 => leaf_of (l := 0) (condF h0 (condF h1 rfl)) rfl)))
theorem k100 : CtrOk Try.prog c100 100 := ctr_of (tabOk_cons k18 tabOk_nil) mix_ok 8 (fn := Try.f100) (c := (Try.f100.body.getD .skip)) (grs := []) (rh := .k) (Λ := (fun _ => none)) Try.func100 rfl (by kernel_rfl) noLam fun vs bs q h _ => by
  unfold g100 at h
  split at h <;> cases h
  exact ⟨_, rfl, p100 _ _⟩
/-! ### shotline/mix.checkContent$1 -/
theorem x111 (a0 : Int) (R : SV → List Blk → List Blk → Prop) : exec Try.prog [(73, c73)] (fun _ => none) 8 (Try.f111.body.getD .skip) (initS Try.f111.ntmps [.int .i64 a0] 0 (memOf [])) (retK Try.prog Try.f111.results.toList (outK 0 (List.range 0) [] (.k) fun v U N => R v U N)) =
  (R (.bool (bif (m73 a0 0 1000000000) then false else true)) [] []) := by kernel_rfl
def m111 (a0 : Int) : Bool :=
  (bif (m73 a0 0 1000000000) then false else true)
def q111 (r : Bool) : SV × List Blk × List Blk := (.bool r, [], [])
def g111 : List SV → List Blk → Option OpRes := fun vs bs => match vs, bs with
  | [.int .i64 a0], [] => some (resOf 0 (q111 (m111 a0)) [])
  | _, _ => none
def c111 : Ctr := genC [.k] g111
theorem p111 (a0 : Int) : exec Try.prog [(73, c73)] (fun _ => none) 8 (Try.f111.body.getD .skip) (initS Try.f111.ntmps [.int .i64 a0] 0 (memOf [])) (retK Try.prog Try.f111.results.toList (outK 0 (List.range 0) [] (.k) fun v U N => (v, U, N) = (q111 (m111 a0)))) :=
  propOf (x111 a0 _) (leaf_of (l := (bif (m73 a0 0 1000000000) then false else true)) rfl rfl)
theorem k111 : CtrOk Try.prog c111 111 := ctr_of (tabOk_cons k73 tabOk_nil) mix_ok 8 (fn := Try.f111) (c := (Try.f111.body.getD .skip)) (grs := []) (rh := .k) (Λ := (fun _ => none)) Try.func111 rfl (by kernel_rfl) noLam fun vs bs q h _ => by
  unfold g111 at h
  split at h <;> cases h
  exact ⟨_, rfl, p111 _⟩
/-! ### shotline/mix.isProof$1 -/
theorem x131 (a0 : Int) (R : SV → List Blk → List Blk → Prop) : exec Try.prog [(73, c73)] (fun _ => none) 8 (Try.f131.body.getD .skip) (initS Try.f131.ntmps [.int .i64 a0] 0 (memOf [])) (retK Try.prog Try.f131.results.toList (outK 0 (List.range 0) [] (.k) fun v U N => R v U N)) =
  (R (.bool (bif (m73 a0 0 10000000) then false else true)) [] []) := by kernel_rfl
def m131 (a0 : Int) : Bool :=
  (bif (m73 a0 0 10000000) then false else true)
def q131 (r : Bool) : SV × List Blk × List Blk := (.bool r, [], [])
def g131 : List SV → List Blk → Option OpRes := fun vs bs => match vs, bs with
  | [.int .i64 a0], [] => some (resOf 0 (q131 (m131 a0)) [])
  | _, _ => none
def c131 : Ctr := genC [.k] g131
theorem p131 (a0 : Int) : exec Try.prog [(73, c73)] (fun _ => none) 8 (Try.f131.body.getD .skip) (initS Try.f131.ntmps [.int .i64 a0] 0 (memOf [])) (retK Try.prog Try.f131.results.toList (outK 0 (List.range 0) [] (.k) fun v U N => (v, U, N) = (q131 (m131 a0)))) :=
  propOf (x131 a0 _) (leaf_of (l := (bif (m73 a0 0 10000000) then false else true)) rfl rfl)
theorem k131 : CtrOk Try.prog c131 131 := ctr_of (tabOk_cons k73 tabOk_nil) mix_ok 8 (fn := Try.f131) (c := (Try.f131.body.getD .skip)) (grs := []) (rh := .k) (Λ := (fun _ => none)) Try.func131 rfl (by kernel_rfl) noLam fun vs bs q h _ => by
  unfold g131 at h
  split at h <;> cases h
  exact ⟨_, rfl, p131 _⟩
/-! ### cmp.Compare[int] -/
theorem x114 (a0 : Int) (a1 : Int) (R : SV → List Blk → List Blk → Prop) : exec Try.prog [(143, c143)] (fun _ => none) 8 (Try.f114.body.getD .skip) (initS Try.f114.ntmps [.int .i64 a0, .int .i64 a1] 0 (memOf [])) (retK Try.prog Try.f114.results.toList (outK 0 (List.range 0) [] (.k) fun v U N => R v U N)) =
  (cnd ((m143 a0))
  (cnd ((m143 a1))
   (R (.int .i64 0) [] [])
   (R (.int .i64 (-1)) [] []))
  (cnd ((m143 a1))
   (R (.int .i64 1) [] [])
   (cnd ((decide (a0 < a1)))
    (R (.int .i64 (-1)) [] [])
    (cnd ((decide (a1 < a0)))
     (R (.int .i64 1) [] [])
     (R (.int .i64 0) [] []))))) := by kernel_rfl
def m114 (a0 : Int) (a1 : Int) : Int :=
  (cond ((m143 a0)) (cond ((m143 a1)) 0 (-1)) (cond ((m143 a1)) 1 (cond ((decide (a0 < a1))) (-1) (cond ((decide (a1 < a0))) 1 0))))
def q114 (r : Int) : SV × List Blk × List Blk := (.int .i64 r, [], [])
def g114 : List SV → List Blk → Option OpRes := fun vs bs => match vs, bs with
  | [.int .i64 a0, .int .i64 a1], [] => some (resOf 0 (q114 (m114 a0 a1)) [])
  | _, _ => none
def c114 : Ctr := genC [.k, .k] g114
theorem p114 (a0 : Int) (a1 : Int) : exec Try.prog [(143, c143)] (fun _ => none) 8 (Try.f114.body.getD .skip) (initS Try.f114.ntmps [.int .i64 a0, .int .i64 a1] 0 (memOf [])) (retK Try.prog Try.f114.results.toList (outK 0 (List.range 0) [] (.k) fun v U N => (v, U, N) = (q114 (m114 a0 a1)))) :=
  propOf (x114 a0 a1 _) (cnd_of (fun h0 => cnd_of (fun h1 => leaf_of (l := 0) (condT h0 (condT h1 rfl)) rfl) (fun h1 => leaf_of (l := (-1)) (condT h0 (condF h1 rfl)) rfl)) (fun h0 => cnd_of (fun h1 => leaf_of (l := 1) (condF h0 (condT h1 rfl)) rfl) (fun h1 => cnd_of (fun h2 => leaf_of (l := (-1)) (condF h0 (condF h1 (condT h2 rfl))) rfl) (fun h2 => cnd_of (fun h3 => leaf_of (l := 1) (condF h0 (condF h1 (condF h2 (condT h3 rfl)))) rfl) (fun h3 => leaf_of (l := 0) (condF h0 (condF h1 (condF h2 (condF h3 rfl)))) rfl)))))
theorem k114 : CtrOk Try.prog c114 114 := ctr_of (tabOk_cons k143 tabOk_nil) mix_ok 8 (fn := Try.f114) (c := (Try.f114.body.getD .skip)) (grs := []) (rh := .k) (Λ := (fun _ => none)) Try.func114 rfl (by kernel_rfl) noLam fun vs bs q h _ => by
  unfold g114 at h
  split at h <;> cases h
  exact ⟨_, rfl, p114 _ _⟩
/-! ### shotline/gas.bound -/
theorem x118 (a0 : Int) (a1 : Int) (a2 : Int) (R : SV → List Blk → List Blk → Prop) : exec Try.prog [(144, c144)] (fun _ => none) 8 (Try.f118.body.getD .skip) (initS Try.f118.ntmps [.int .i64 a0, .int .i64 a1, .int .i64 a2] 0 (memOf [])) (retK Try.prog Try.f118.results.toList (outK 0 (List.range 0) [] (.k) fun v U N => R v U N)) =
  (cnd ((bif (m144 a0 a1 a2) then false else true))
  (R (.int .i64 2) [] [])
  (R (.int .i64 0) [] [])) := by kernel_rfl
def m118 (a0 : Int) (a1 : Int) (a2 : Int) : Int :=
  (cond ((bif (m144 a0 a1 a2) then false else true)) 2 0)
def q118 (r : Int) : SV × List Blk × List Blk := (.int .i64 r, [], [])
def g118 : List SV → List Blk → Option OpRes := fun vs bs => match vs, bs with
  | [.int .i64 a0, .int .i64 a1, .int .i64 a2], [] => some (resOf 0 (q118 (m118 a0 a1 a2)) [])
  | _, _ => none
def c118 : Ctr := genC [.k, .k, .k] g118
theorem p118 (a0 : Int) (a1 : Int) (a2 : Int) : exec Try.prog [(144, c144)] (fun _ => none) 8 (Try.f118.body.getD .skip) (initS Try.f118.ntmps [.int .i64 a0, .int .i64 a1, .int .i64 a2] 0 (memOf [])) (retK Try.prog Try.f118.results.toList (outK 0 (List.range 0) [] (.k) fun v U N => (v, U, N) = (q118 (m118 a0 a1 a2)))) :=
  propOf (x118 a0 a1 a2 _) (cnd_of (fun h0 => leaf_of (l := 2) (condT h0 rfl) rfl) (fun h0 => leaf_of (l := 0) (condF h0 rfl) rfl))
theorem k118 : CtrOk Try.prog c118 118 := ctr_of (tabOk_cons k144 tabOk_nil) mix_ok 8 (fn := Try.f118) (c := (Try.f118.body.getD .skip)) (grs := []) (rh := .k) (Λ := (fun _ => none)) Try.func118 rfl (by kernel_rfl) noLam fun vs bs q h _ => by
  unfold g118 at h
  split at h <;> cases h
  exact ⟨_, rfl, p118 _ _ _⟩
/-! ### cmp.Compare[uint64] -/
theorem x134 (a0 : Int) (a1 : Int) (R : SV → List Blk → List Blk → Prop) : exec Try.prog [(145, c145)] (fun _ => none) 8 (Try.f134.body.getD .skip) (initS Try.f134.ntmps [.int .u64 a0, .int .u64 a1] 0 (memOf [])) (retK Try.prog Try.f134.results.toList (outK 0 (List.range 0) [] (.k) fun v U N => R v U N)) =
  (cnd ((m145 a0))
  (cnd ((m145 a1))
   (R (.int .i64 0) [] [])
   (R (.int .i64 (-1)) [] []))
  (cnd ((m145 a1))
   (R (.int .i64 1) [] [])
   (cnd ((decide (a0 < a1)))
    (R (.int .i64 (-1)) [] [])
    (cnd ((decide (a1 < a0)))
     (R (.int .i64 1) [] [])
     (R (.int .i64 0) [] []))))) := by kernel_rfl
def m134 (a0 : Int) (a1 : Int) : Int :=
  (cond ((m145 a0)) (cond ((m145 a1)) 0 (-1)) (cond ((m145 a1)) 1 (cond ((decide (a0 < a1))) (-1) (cond ((decide (a1 < a0))) 1 0))))
def q134 (r : Int) : SV × List Blk × List Blk := (.int .i64 r, [], [])
def g134 : List SV → List Blk → Option OpRes := fun vs bs => match vs, bs with
  | [.int .u64 a0, .int .u64 a1], [] => some (resOf 0 (q134 (m134 a0 a1)) [])
  | _, _ => none
def c134 : Ctr := genC [.k, .k] g134
theorem p134 (a0 : Int) (a1 : Int) : exec Try.prog [(145, c145)] (fun _ => none) 8 (Try.f134.body.getD .skip) (initS Try.f134.ntmps [.int .u64 a0, .int .u64 a1] 0 (memOf [])) (retK Try.prog Try.f134.results.toList (outK 0 (List.range 0) [] (.k) fun v U N => (v, U, N) = (q134 (m134 a0 a1)))) :=
  propOf (x134 a0 a1 _) (cnd_of (fun h0 => cnd_of (fun h1 => leaf_of (l := 0) (condT h0 (condT h1 rfl)) rfl) (fun h1 => leaf_of (l := (-1)) (condT h0 (condF h1 rfl)) rfl)) (fun h0 => cnd_of (fun h1 => leaf_of (l := 1) (condF h0 (condT h1 rfl)) rfl) (fun h1 => cnd_of (fun h2 => leaf_of (l := (-1)) (condF h0 (condF h1 (condT h2 rfl))) rfl) (fun h2 => cnd_of (fun h3 => leaf_of (l := 1) (condF h0 (condF h1 (condF h2 (condT h3 rfl)))) rfl) (fun h3 => leaf_of (l := 0) (condF h0 (condF h1 (condF h2 (condF h3 rfl)))) rfl)))))
theorem k134 : CtrOk Try.prog c134 134 := ctr_of (tabOk_cons k145 tabOk_nil) mix_ok 8 (fn := Try.f134) (c := (Try.f134.body.getD .skip)) (grs := []) (rh := .k) (Λ := (fun _ => none)) Try.func134 rfl (by kernel_rfl) noLam fun vs bs q h _ => by
  unfold g134 at h
  split at h <;> cases h
  exact ⟨_, rfl, p134 _ _⟩
/-! ### shotline/mix.shares -/
theorem x109 (a0_0 : Int) (a0_1 : Int) (R : SV → List Blk → List Blk → Prop) : exec Try.prog [(73, c73)] (fun _ => none) 8 (Try.f109.body.getD .skip) (initS Try.f109.ntmps [.agg [.int .i64 a0_0, .int .i64 a0_1]] 0 (memOf [])) (retK Try.prog Try.f109.results.toList (outK 0 (List.range 0) [] (.k) fun v U N => R v U N)) =
  (cnd ((bif (bif (m73 a0_0 0 1000) then false else true) then true else (bif (m73 a0_1 0 1000) then false else true)))
  (R (.int .i64 2) [] [])
  (cnd ((decide (a0_1 < a0_0)))
   (R (.int .i64 9) [] [])
   (R (.int .i64 0) [] []))) := by kernel_rfl
def m109 (a0_0 : Int) (a0_1 : Int) : Int :=
  (cond ((bif (bif (m73 a0_0 0 1000) then false else true) then true else (bif (m73 a0_1 0 1000) then false else true))) 2 (cond ((decide (a0_1 < a0_0))) 9 0))
def q109 (r : Int) : SV × List Blk × List Blk := (.int .i64 r, [], [])
def g109 : List SV → List Blk → Option OpRes := fun vs bs => match vs, bs with
  | [.agg [.int .i64 a0_0, .int .i64 a0_1]], [] => some (resOf 0 (q109 (m109 a0_0 a0_1)) [])
  | _, _ => none
def c109 : Ctr := genC [.k] g109
theorem p109 (a0_0 : Int) (a0_1 : Int) : exec Try.prog [(73, c73)] (fun _ => none) 8 (Try.f109.body.getD .skip) (initS Try.f109.ntmps [.agg [.int .i64 a0_0, .int .i64 a0_1]] 0 (memOf [])) (retK Try.prog Try.f109.results.toList (outK 0 (List.range 0) [] (.k) fun v U N => (v, U, N) = (q109 (m109 a0_0 a0_1)))) :=
  propOf (x109 a0_0 a0_1 _) (cnd_of (fun h0 => leaf_of (l := 2) (condT h0 rfl) rfl) (fun h0 => cnd_of (fun h1 => leaf_of (l := 9) (condF h0 (condT h1 rfl)) rfl) (fun h1 => leaf_of (l := 0) (condF h0 (condF h1 rfl)) rfl)))
theorem k109 : CtrOk Try.prog c109 109 := ctr_of (tabOk_cons k73 tabOk_nil) mix_ok 8 (fn := Try.f109) (c := (Try.f109.body.getD .skip)) (grs := []) (rh := .k) (Λ := (fun _ => none)) Try.func109 rfl (by kernel_rfl) noLam fun vs bs q h _ => by
  unfold g109 at h
  split at h <;> cases h
  exact ⟨_, rfl, p109 _ _⟩
/-! ### shotline/gas.first -/
/-! #### loop 0 -/
def l117_0 (t5_0 : Nat) (t5_1 : Dat) (t6 : Int) : Nat → Int → Option (Bool × (Int) × (Unit))
  | 0, _ => none
  | f + 1, t7 => (cond ((decide (t7 < t6))) (cond ((decide (0 ≤ t7 ∧ t7 < (↑t5_0 : Int)))) (cond ((bif (decide (t5_1.ii t7.toNat 0 = 0)) then false else true)) (some (true, (t5_1.ii t7.toNat 0), default)) (l117_0 t5_0 t5_1 t6 f (IntKind.i64.wrap (t7 + 1)))) none) (some (false, default, ())))
abbrev o117_0 (t5_0 : Nat) (t5_1 : Dat) (t6 : Int) (t7 : Int) : Option (Bool × (Int) × (Unit)) := l117_0 t5_0 t5_1 t6 (t5_0 + t6.toNat + t7.toNat + 8) t7
def e117_0 (t5_0 : Nat) (t5_1 : Dat) (t6 : Int) (r : Bool × (Int) × (Unit)) (K : XR) : Prop := cnd r.1 (K (XE.ret) [.int .i64 r.2.1] []) (K (XE.exit 0) [.any] [])
def g117_0 : LSum := fun s k => match czv 0 15 [5, 6, 7] 0 [] s with
  | some ([.ro [.int .i64] t5_0 t5_1, .int .i64 t6, .int .i64 t7], []) => needs [(o117_0 t5_0 t5_1 t6 t7).isSome] (e117_0 t5_0 t5_1 t6 ((o117_0 t5_0 t5_1 t6 t7).getD default) fun e vs bs => inBlk 0 k e (mkSt 0 15 [2] vs 0 bs))
  | _ => False
theorem y117_0 (t5_0 : Nat) (t5_1 : Dat) (t6 : Int) (t7 : Int) (R : XR) : exec Try.prog [] (fun _ => none) 8 (unloop (bodyAt (Try.f117.body.getD .skip) 0)) (mkSt 0 15 [5, 6, 7] [.ro [.int .i64] t5_0 t5_1, .int .i64 t6, .int .i64 t7] 0 []) (canonK 0 15 [5, 6, 7] [2] 0 [] R) =
  (cnd ((decide (t7 < t6)))
  (cnd ((decide (0 ≤ t7 ∧ t7 < (↑t5_0 : Int))))
   (cnd ((bif (decide (t5_1.ii t7.toNat 0 = 0)) then false else true))
    (R (XE.ret) [.int .i64 (t5_1.ii t7.toNat 0)] [])
    (R (XE.normal) [.ro [.int .i64] t5_0 t5_1, .int .i64 t6, .int .i64 (IntKind.i64.wrap (t7 + 1))] []))
   False)
  (R (XE.exit 0) [.any] [])) := by kernel_rfl
theorem z117_0 : LOk Try.prog g117_0 (.block 0 (bodyAt (Try.f117.body.getD .skip) 0)) := by
  refine loop_blk (ι := Nat × Dat × Int × Int) (L := []) (Λ := (fun _ => none)) (fuel := 8) (na := 0) (nt := 15) (nx := 0) (Lh := [5, 6, 7]) (Le := [2]) (gl := []) tabOk_nil mix_ok noLam rfl (fun f x K => GG default (e117_0 x.1 x.2.1 x.2.2.1) K (l117_0 x.1 x.2.1 x.2.2.1 f x.2.2.2)) (fun x => [.ro [.int .i64] x.1 x.2.1, .int .i64 x.2.2.1, .int .i64 x.2.2.2]) (fun x => []) (fun x K => gg_none) ?_ ?_
  · rintro f ⟨t5_0, t5_1, t6, t7⟩ K hG
    have hG : GG default (e117_0 t5_0 t5_1 t6) K (cond ((decide (t7 < t6))) (cond ((decide (0 ≤ t7 ∧ t7 < (↑t5_0 : Int)))) (cond ((bif (decide (t5_1.ii t7.toNat 0 = 0)) then false else true)) (some (true, (t5_1.ii t7.toNat 0), default)) (l117_0 t5_0 t5_1 t6 f (IntKind.i64.wrap (t7 + 1)))) none) (some (false, default, ()))) := hG
    refine propOf (y117_0 t5_0 t5_1 t6 t7 _) ?_
    exact cnd_gg2 hG (fun h0 => cnd_gg h0 fun h1 => cnd_gg2 h1 (fun h2 => h2.2) (fun h2 => ⟨(t5_0, t5_1, t6, (IntKind.i64.wrap (t7 + 1))), rfl, rfl, h2⟩)) (fun h0 => h0.2)
  · intro s k h
    unfold g117_0 at h
    split at h <;> try exact h.elim
    rename_i e1
    rw [needs_iff] at h
    exact ⟨_, e1, _, (_, _, _, _), rfl, rfl, h.1 _ (List.mem_singleton.2 rfl), h.2⟩
theorem x117 (na0 : Nat) (da0 : Dat) (R : SV → List Blk → List Blk → Prop) : exec Try.prog [] (lamOf [(0, g117_0)]) 8 (Try.f117.body.getD .skip) (initS Try.f117.ntmps [.ro [.int .i64] na0 da0] 0 (memOf [])) (retK Try.prog Try.f117.results.toList (outK 0 (List.range 0) [] (.k) fun v U N => R v U N)) =
  (cnd (((o117_0 na0 da0 (↑na0 : Int) 0).isSome))
  (cnd ((((o117_0 na0 da0 (↑na0 : Int) 0).getD default).fst))
   (R (.int .i64 (((o117_0 na0 da0 (↑na0 : Int) 0).getD default).snd.fst)) [] [])
   (R (.int .i64 0) [] []))
  False) := by kernel_rfl
def m117 (na0 : Nat) (da0 : Dat) : Int :=
  (cond ((((o117_0 na0 da0 (↑na0 : Int) 0).getD default).fst)) (((o117_0 na0 da0 (↑na0 : Int) 0).getD default).snd.fst) 0)
def n117 (na0 : Nat) (da0 : Dat) : Bool :=
  ((((o117_0 na0 da0 (↑na0 : Int) 0).isSome)) && true)
def q117 (r : Int) : SV × List Blk × List Blk := (.int .i64 r, [], [])
def g117 : List SV → List Blk → Option OpRes := fun vs bs => match vs, bs with
  | [.ro [.int .i64] na0 da0], [] => some (resOf 0 (q117 (m117 na0 da0)) [n117 na0 da0])
  | _, _ => none
def c117 : Ctr := genC [.ro [.int .i64]] g117
theorem p117 (na0 : Nat) (da0 : Dat) (hn : n117 na0 da0 = true) : exec Try.prog [] (lamOf [(0, g117_0)]) 8 (Try.f117.body.getD .skip) (initS Try.f117.ntmps [.ro [.int .i64] na0 da0] 0 (memOf [])) (retK Try.prog Try.f117.results.toList (outK 0 (List.range 0) [] (.k) fun v U N => (v, U, N) = (q117 (m117 na0 da0)))) :=
  propOf (x117 na0 da0 _) (cnd_need (and_l hn) (cnd_of (fun h0 => leaf_of (l := (((o117_0 na0 da0 (↑na0 : Int) 0).getD default).snd.fst)) (condT h0 rfl) rfl) (fun h0 => leaf_of (l := 0) (condF h0 rfl) rfl)))
theorem k117 : CtrOk Try.prog c117 117 := ctr_of tabOk_nil mix_ok 8 (fn := Try.f117) (c := (Try.f117.body.getD .skip)) (grs := []) (rh := .k) (Λ := (lamOf [(0, g117_0)])) Try.func117 rfl (by kernel_rfl) (lam_of rfl (lams_cons z117_0 lams_nil)) fun vs bs q h hn => by
  unfold g117 at h
  split at h <;> cases h
  exact ⟨_, rfl, p117 _ _ (hn _ (List.mem_singleton.2 rfl))⟩
/-! ### shotline/shotlinebase.Compare -/
/-! #### loop 0 -/
def l103_0  : Nat → Int → Int → Int → Int → Option (Int)
  | 0, _, _, _, _ => none
  | f + 1, t0, t1, t2, t3 => (cond ((n93 t0 t1)) (cond ((n93 t2 t3)) (cond ((decide (m93 t0 t1 < m93 t2 t3))) (some (-1)) (cond ((decide (m93 t2 t3 < m93 t0 t1))) (some 1) (cond ((bif (decide (IntKind.i64.wrap (t0 - IntKind.i64.wrap (m93 t0 t1 * t1)) = 0)) then (decide (IntKind.i64.wrap (t2 - IntKind.i64.wrap (m93 t2 t3 * t3)) = 0)) else false)) (some 0) (cond ((decide (IntKind.i64.wrap (t0 - IntKind.i64.wrap (m93 t0 t1 * t1)) = 0))) (some (-1)) (cond ((decide (IntKind.i64.wrap (t2 - IntKind.i64.wrap (m93 t2 t3 * t3)) = 0))) (some 1) (l103_0  f t3 (IntKind.i64.wrap (t2 - IntKind.i64.wrap (m93 t2 t3 * t3))) t1 (IntKind.i64.wrap (t0 - IntKind.i64.wrap (m93 t0 t1 * t1))))))))) none) none)
abbrev o103_0 (t0 : Int) (t1 : Int) (t2 : Int) (t3 : Int) : Option (Int) := l103_0  (t0.toNat + t1.toNat + t2.toNat + t3.toNat + 8) t0 t1 t2 t3
def e103_0  (r : Int) (K : XR) : Prop := K (XE.ret) [.int .i64 r] []
def g103_0 : LSum := fun s k => match czv 0 47 [0, 1, 2, 3] 0 [] s with
  | some ([.int .i64 t0, .int .i64 t1, .int .i64 t2, .int .i64 t3], []) => needs [(o103_0  t0 t1 t2 t3).isSome] (e103_0  ((o103_0  t0 t1 t2 t3).getD default) fun e vs bs => inBlk 0 k e (mkSt 0 47 [8] vs 0 bs))
  | _ => False
theorem y103_0 (t0 : Int) (t1 : Int) (t2 : Int) (t3 : Int) (R : XR) : exec Try.prog [(93, c93)] (fun _ => none) 8 (unloop (bodyAt (Try.f103.body.getD .skip) 0)) (mkSt 0 47 [0, 1, 2, 3] [.int .i64 t0, .int .i64 t1, .int .i64 t2, .int .i64 t3] 0 []) (canonK 0 47 [0, 1, 2, 3] [8] 0 [] R) =
  (cnd ((n93 t0 t1))
  (cnd ((n93 t2 t3))
   (cnd ((decide (m93 t0 t1 < m93 t2 t3)))
    (R (XE.ret) [.int .i64 (-1)] [])
    (cnd ((decide (m93 t2 t3 < m93 t0 t1)))
     (R (XE.ret) [.int .i64 1] [])
     (cnd ((bif (decide (IntKind.i64.wrap (t0 - IntKind.i64.wrap (m93 t0 t1 * t1)) = 0)) then (decide (IntKind.i64.wrap (t2 - IntKind.i64.wrap (m93 t2 t3 * t3)) = 0)) else false))
      (R (XE.ret) [.int .i64 0] [])
      (cnd ((decide (IntKind.i64.wrap (t0 - IntKind.i64.wrap (m93 t0 t1 * t1)) = 0)))
       (R (XE.ret) [.int .i64 (-1)] [])
       (cnd ((decide (IntKind.i64.wrap (t2 - IntKind.i64.wrap (m93 t2 t3 * t3)) = 0)))
        (R (XE.ret) [.int .i64 1] [])
        (R (XE.normal) [.int .i64 t3, .int .i64 (IntKind.i64.wrap (t2 - IntKind.i64.wrap (m93 t2 t3 * t3))), .int .i64 t1, .int .i64 (IntKind.i64.wrap (t0 - IntKind.i64.wrap (m93 t0 t1 * t1)))] []))))))
   False)
  False) := by kernel_rfl
theorem z103_0 : LOk Try.prog g103_0 (.block 0 (bodyAt (Try.f103.body.getD .skip) 0)) := by
  refine loop_blk (ι := Int × Int × Int × Int) (L := [(93, c93)]) (Λ := (fun _ => none)) (fuel := 8) (na := 0) (nt := 47) (nx := 0) (Lh := [0, 1, 2, 3]) (Le := [8]) (gl := []) (tabOk_cons k93 tabOk_nil) mix_ok noLam rfl (fun f x K => GG default (e103_0 ) K (l103_0  f x.1 x.2.1 x.2.2.1 x.2.2.2)) (fun x => [.int .i64 x.1, .int .i64 x.2.1, .int .i64 x.2.2.1, .int .i64 x.2.2.2]) (fun x => []) (fun x K => gg_none) ?_ ?_
  · rintro f ⟨t0, t1, t2, t3⟩ K hG
    have hG : GG default (e103_0 ) K (cond ((n93 t0 t1)) (cond ((n93 t2 t3)) (cond ((decide (m93 t0 t1 < m93 t2 t3))) (some (-1)) (cond ((decide (m93 t2 t3 < m93 t0 t1))) (some 1) (cond ((bif (decide (IntKind.i64.wrap (t0 - IntKind.i64.wrap (m93 t0 t1 * t1)) = 0)) then (decide (IntKind.i64.wrap (t2 - IntKind.i64.wrap (m93 t2 t3 * t3)) = 0)) else false)) (some 0) (cond ((decide (IntKind.i64.wrap (t0 - IntKind.i64.wrap (m93 t0 t1 * t1)) = 0))) (some (-1)) (cond ((decide (IntKind.i64.wrap (t2 - IntKind.i64.wrap (m93 t2 t3 * t3)) = 0))) (some 1) (l103_0  f t3 (IntKind.i64.wrap (t2 - IntKind.i64.wrap (m93 t2 t3 * t3))) t1 (IntKind.i64.wrap (t0 - IntKind.i64.wrap (m93 t0 t1 * t1))))))))) none) none) := hG
    refine propOf (y103_0 t0 t1 t2 t3 _) ?_
    exact cnd_gg hG fun h0 => cnd_gg h0 fun h1 => cnd_gg2 h1 (fun h2 => h2.2) (fun h2 => cnd_gg2 h2 (fun h3 => h3.2) (fun h3 => cnd_gg2 h3 (fun h4 => h4.2) (fun h4 => cnd_gg2 h4 (fun h5 => h5.2) (fun h5 => cnd_gg2 h5 (fun h6 => h6.2) (fun h6 => ⟨(t3, (IntKind.i64.wrap (t2 - IntKind.i64.wrap (m93 t2 t3 * t3))), t1, (IntKind.i64.wrap (t0 - IntKind.i64.wrap (m93 t0 t1 * t1)))), rfl, rfl, h6⟩)))))
  · intro s k h
    unfold g103_0 at h
    split at h <;> try exact h.elim
    rename_i e1
    rw [needs_iff] at h
    exact ⟨_, e1, _, (_, _, _, _), rfl, rfl, h.1 _ (List.mem_singleton.2 rfl), h.2⟩
theorem x103 (a0 : Int) (a1 : Int) (a2 : Int) (a3 : Int) (R : SV → List Blk → List Blk → Prop) : exec Try.prog [(93, c93)] (lamOf [(0, g103_0)]) 8 (Try.f103.body.getD .skip) (initS Try.f103.ntmps [.int .i64 a0, .int .i64 a1, .int .i64 a2, .int .i64 a3] 0 (memOf [])) (retK Try.prog Try.f103.results.toList (outK 0 (List.range 0) [] (.k) fun v U N => R v U N)) =
  (cnd (((o103_0 a0 a1 a2 a3).isSome))
  (R (.int .i64 ((o103_0 a0 a1 a2 a3).getD default)) [] [])
  False) := by kernel_rfl
def m103 (a0 : Int) (a1 : Int) (a2 : Int) (a3 : Int) : Int :=
  ((o103_0 a0 a1 a2 a3).getD default)
def n103 (a0 : Int) (a1 : Int) (a2 : Int) (a3 : Int) : Bool :=
  ((((o103_0 a0 a1 a2 a3).isSome)) && true)
def q103 (r : Int) : SV × List Blk × List Blk := (.int .i64 r, [], [])
def g103 : List SV → List Blk → Option OpRes := fun vs bs => match vs, bs with
  | [.int .i64 a0, .int .i64 a1, .int .i64 a2, .int .i64 a3], [] => some (resOf 0 (q103 (m103 a0 a1 a2 a3)) [n103 a0 a1 a2 a3])
  | _, _ => none
def c103 : Ctr := genC [.k, .k, .k, .k] g103
theorem p103 (a0 : Int) (a1 : Int) (a2 : Int) (a3 : Int) (hn : n103 a0 a1 a2 a3 = true) : exec Try.prog [(93, c93)] (lamOf [(0, g103_0)]) 8 (Try.f103.body.getD .skip) (initS Try.f103.ntmps [.int .i64 a0, .int .i64 a1, .int .i64 a2, .int .i64 a3] 0 (memOf [])) (retK Try.prog Try.f103.results.toList (outK 0 (List.range 0) [] (.k) fun v U N => (v, U, N) = (q103 (m103 a0 a1 a2 a3)))) :=
  propOf (x103 a0 a1 a2 a3 _) (cnd_need (and_l hn) (leaf_of (l := ((o103_0 a0 a1 a2 a3).getD default)) rfl rfl))
theorem k103 : CtrOk Try.prog c103 103 := ctr_of (tabOk_cons k93 tabOk_nil) mix_ok 8 (fn := Try.f103) (c := (Try.f103.body.getD .skip)) (grs := []) (rh := .k) (Λ := (lamOf [(0, g103_0)])) Try.func103 rfl (by kernel_rfl) (lam_of rfl (lams_cons z103_0 lams_nil)) fun vs bs q h hn => by
  unfold g103 at h
  split at h <;> cases h
  exact ⟨_, rfl, p103 _ _ _ _ (hn _ (List.mem_singleton.2 rfl))⟩
/-! ### shotline/shotlinelaw06.Light -/
/-! #### loop 0 -/
def l54_0 (b0_0 : Nat) (b0_1 : Dat) (b0_2 : Int) (b0_3 : Int) (b0_4 : Int) (b0_5 : Int) (b0_6 : Int) (b0_7 : Int) (b0_8 : Int) (b0_9 : Int) : Nat → Int → Option (Bool × (Bool) × (Unit))
  | 0, _ => none
  | f + 1, t3 => (cond ((decide (t3 < (↑b0_0 : Int)))) (cond ((decide (0 ≤ t3 ∧ t3 < (↑b0_0 : Int)))) (cond ((decide (20 < (↑(b0_1.ss t3.toNat 0).size : Int)))) (some (true, false, default)) (l54_0 b0_0 b0_1 b0_2 b0_3 b0_4 b0_5 b0_6 b0_7 b0_8 b0_9 f (IntKind.i64.wrap (t3 + 1)))) none) (some (false, default, ())))
abbrev o54_0 (b0_0 : Nat) (b0_1 : Dat) (b0_2 : Int) (b0_3 : Int) (b0_4 : Int) (b0_5 : Int) (b0_6 : Int) (b0_7 : Int) (b0_8 : Int) (b0_9 : Int) (t3 : Int) : Option (Bool × (Bool) × (Unit)) := l54_0 b0_0 b0_1 b0_2 b0_3 b0_4 b0_5 b0_6 b0_7 b0_8 b0_9 (t3.toNat + b0_0 + b0_2.toNat + b0_3.toNat + b0_4.toNat + b0_5.toNat + b0_6.toNat + b0_7.toNat + b0_8.toNat + b0_9.toNat + 8) t3
def e54_0 (b0_0 : Nat) (b0_1 : Dat) (b0_2 : Int) (b0_3 : Int) (b0_4 : Int) (b0_5 : Int) (b0_6 : Int) (b0_7 : Int) (b0_8 : Int) (b0_9 : Int) (r : Bool × (Bool) × (Unit)) (K : XR) : Prop := cnd r.1 (K (XE.ret) [.ptr 0 0, .bool r.2.1] [.cells 107 [.ro [.str, .int .i64, .int .i64, .int .i64, .int .i64] b0_0 b0_1, .int .i64 b0_2, .int .i64 b0_3, .int .i64 b0_4, .int .i64 b0_5, .int .i64 b0_6, .int .i64 b0_7, .int .i64 b0_8, .int .i64 b0_9]]) (K (XE.exit 0) [.ptr 0 0, .any] [.cells 107 [.ro [.str, .int .i64, .int .i64, .int .i64, .int .i64] b0_0 b0_1, .int .i64 b0_2, .int .i64 b0_3, .int .i64 b0_4, .int .i64 b0_5, .int .i64 b0_6, .int .i64 b0_7, .int .i64 b0_8, .int .i64 b0_9]])
def g54_0 : LSum := fun s k => match czv 0 23 [1, 3] 1 [] s with
  | some ([.ptr 0 0, .int .i64 t3], [.cells 107 [.ro [.str, .int .i64, .int .i64, .int .i64, .int .i64] b0_0 b0_1, .int .i64 b0_2, .int .i64 b0_3, .int .i64 b0_4, .int .i64 b0_5, .int .i64 b0_6, .int .i64 b0_7, .int .i64 b0_8, .int .i64 b0_9]]) => needs [(o54_0 b0_0 b0_1 b0_2 b0_3 b0_4 b0_5 b0_6 b0_7 b0_8 b0_9 t3).isSome] (e54_0 b0_0 b0_1 b0_2 b0_3 b0_4 b0_5 b0_6 b0_7 b0_8 b0_9 ((o54_0 b0_0 b0_1 b0_2 b0_3 b0_4 b0_5 b0_6 b0_7 b0_8 b0_9 t3).getD default) fun e vs bs => inBlk 0 k e (mkSt 0 23 [1, 2] vs 1 bs))
  | _ => False
theorem y54_0 (t3 : Int) (b0_0 : Nat) (b0_1 : Dat) (b0_2 : Int) (b0_3 : Int) (b0_4 : Int) (b0_5 : Int) (b0_6 : Int) (b0_7 : Int) (b0_8 : Int) (b0_9 : Int) (R : XR) : exec Try.prog [] (fun _ => none) 8 (unloop (bodyAt (Try.f54.body.getD .skip) 0)) (mkSt 0 23 [1, 3] [.ptr 0 0, .int .i64 t3] 1 [.cells 107 [.ro [.str, .int .i64, .int .i64, .int .i64, .int .i64] b0_0 b0_1, .int .i64 b0_2, .int .i64 b0_3, .int .i64 b0_4, .int .i64 b0_5, .int .i64 b0_6, .int .i64 b0_7, .int .i64 b0_8, .int .i64 b0_9]]) (canonK 0 23 [1, 3] [1, 2] 1 [] R) =
  (cnd ((decide (t3 < (↑b0_0 : Int))))
  (cnd ((decide (0 ≤ t3 ∧ t3 < (↑b0_0 : Int))))
   (cnd ((decide (20 < (↑(b0_1.ss t3.toNat 0).size : Int))))
    (R (XE.ret) [.ptr 0 0, .bool false] [.cells 107 [.ro [.str, .int .i64, .int .i64, .int .i64, .int .i64] b0_0 b0_1, .int .i64 b0_2, .int .i64 b0_3, .int .i64 b0_4, .int .i64 b0_5, .int .i64 b0_6, .int .i64 b0_7, .int .i64 b0_8, .int .i64 b0_9]])
    (R (XE.normal) [.ptr 0 0, .int .i64 (IntKind.i64.wrap (t3 + 1))] [.cells 107 [.ro [.str, .int .i64, .int .i64, .int .i64, .int .i64] b0_0 b0_1, .int .i64 b0_2, .int .i64 b0_3, .int .i64 b0_4, .int .i64 b0_5, .int .i64 b0_6, .int .i64 b0_7, .int .i64 b0_8, .int .i64 b0_9]]))
   False)
  (R (XE.exit 0) [.ptr 0 0, .any] [.cells 107 [.ro [.str, .int .i64, .int .i64, .int .i64, .int .i64] b0_0 b0_1, .int .i64 b0_2, .int .i64 b0_3, .int .i64 b0_4, .int .i64 b0_5, .int .i64 b0_6, .int .i64 b0_7, .int .i64 b0_8, .int .i64 b0_9]])) := by kernel_rfl
theorem z54_0 : LOk Try.prog g54_0 (.block 0 (bodyAt (Try.f54.body.getD .skip) 0)) := by
  refine loop_blk (ι := Int × Nat × Dat × Int × Int × Int × Int × Int × Int × Int × Int) (L := []) (Λ := (fun _ => none)) (fuel := 8) (na := 0) (nt := 23) (nx := 1) (Lh := [1, 3]) (Le := [1, 2]) (gl := []) tabOk_nil mix_ok noLam rfl (fun f x K => GG default (e54_0 x.2.1 x.2.2.1 x.2.2.2.1 x.2.2.2.2.1 x.2.2.2.2.2.1 x.2.2.2.2.2.2.1 x.2.2.2.2.2.2.2.1 x.2.2.2.2.2.2.2.2.1 x.2.2.2.2.2.2.2.2.2.1 x.2.2.2.2.2.2.2.2.2.2) K (l54_0 x.2.1 x.2.2.1 x.2.2.2.1 x.2.2.2.2.1 x.2.2.2.2.2.1 x.2.2.2.2.2.2.1 x.2.2.2.2.2.2.2.1 x.2.2.2.2.2.2.2.2.1 x.2.2.2.2.2.2.2.2.2.1 x.2.2.2.2.2.2.2.2.2.2 f x.1)) (fun x => [.ptr 0 0, .int .i64 x.1]) (fun x => [.cells 107 [.ro [.str, .int .i64, .int .i64, .int .i64, .int .i64] x.2.1 x.2.2.1, .int .i64 x.2.2.2.1, .int .i64 x.2.2.2.2.1, .int .i64 x.2.2.2.2.2.1, .int .i64 x.2.2.2.2.2.2.1, .int .i64 x.2.2.2.2.2.2.2.1, .int .i64 x.2.2.2.2.2.2.2.2.1, .int .i64 x.2.2.2.2.2.2.2.2.2.1, .int .i64 x.2.2.2.2.2.2.2.2.2.2]]) (fun x K => gg_none) ?_ ?_
  · rintro f ⟨t3, b0_0, b0_1, b0_2, b0_3, b0_4, b0_5, b0_6, b0_7, b0_8, b0_9⟩ K hG
    have hG : GG default (e54_0 b0_0 b0_1 b0_2 b0_3 b0_4 b0_5 b0_6 b0_7 b0_8 b0_9) K (cond ((decide (t3 < (↑b0_0 : Int)))) (cond ((decide (0 ≤ t3 ∧ t3 < (↑b0_0 : Int)))) (cond ((decide (20 < (↑(b0_1.ss t3.toNat 0).size : Int)))) (some (true, false, default)) (l54_0 b0_0 b0_1 b0_2 b0_3 b0_4 b0_5 b0_6 b0_7 b0_8 b0_9 f (IntKind.i64.wrap (t3 + 1)))) none) (some (false, default, ()))) := hG
    refine propOf (y54_0 t3 b0_0 b0_1 b0_2 b0_3 b0_4 b0_5 b0_6 b0_7 b0_8 b0_9 _) ?_
    exact cnd_gg2 hG (fun h0 => cnd_gg h0 fun h1 => cnd_gg2 h1 (fun h2 => h2.2) (fun h2 => ⟨((IntKind.i64.wrap (t3 + 1)), b0_0, b0_1, b0_2, b0_3, b0_4, b0_5, b0_6, b0_7, b0_8, b0_9), rfl, rfl, h2⟩)) (fun h0 => h0.2)
  · intro s k h
    unfold g54_0 at h
    split at h <;> try exact h.elim
    rename_i e1
    rw [needs_iff] at h
    exact ⟨_, e1, _, (_, _, _, _, _, _, _, _, _, _, _), rfl, rfl, h.1 _ (List.mem_singleton.2 rfl), h.2⟩
theorem x54 (na0_0 : Nat) (da0_0 : Dat) (a0_1 : Int) (a0_2 : Int) (a0_3 : Int) (a0_4 : Int) (a0_5 : Int) (a0_6 : Int) (a0_7 : Int) (a0_8 : Int) (R : SV → List Blk → List Blk → Prop) : exec Try.prog [] (lamOf [(0, g54_0)]) 8 (Try.f54.body.getD .skip) (initS Try.f54.ntmps [.agg [.ro [.str, .int .i64, .int .i64, .int .i64, .int .i64] na0_0 da0_0, .int .i64 a0_1, .int .i64 a0_2, .int .i64 a0_3, .int .i64 a0_4, .int .i64 a0_5, .int .i64 a0_6, .int .i64 a0_7, .int .i64 a0_8]] 0 (memOf [])) (retK Try.prog Try.f54.results.toList (outK 0 (List.range 0) [] (.k) fun v U N => R v U N)) =
  (cnd (((o54_0 na0_0 da0_0 a0_1 a0_2 a0_3 a0_4 a0_5 a0_6 a0_7 a0_8 0).isSome))
  (cnd ((((o54_0 na0_0 da0_0 a0_1 a0_2 a0_3 a0_4 a0_5 a0_6 a0_7 a0_8 0).getD default).fst))
   (R (.bool (((o54_0 na0_0 da0_0 a0_1 a0_2 a0_3 a0_4 a0_5 a0_6 a0_7 a0_8 0).getD default).snd.fst)) [] [])
   (R (.bool (decide ((↑na0_0 : Int) ≤ 7))) [] []))
  False) := by kernel_rfl
def m54 (na0_0 : Nat) (da0_0 : Dat) (a0_1 : Int) (a0_2 : Int) (a0_3 : Int) (a0_4 : Int) (a0_5 : Int) (a0_6 : Int) (a0_7 : Int) (a0_8 : Int) : Bool :=
  (cond ((((o54_0 na0_0 da0_0 a0_1 a0_2 a0_3 a0_4 a0_5 a0_6 a0_7 a0_8 0).getD default).fst)) (((o54_0 na0_0 da0_0 a0_1 a0_2 a0_3 a0_4 a0_5 a0_6 a0_7 a0_8 0).getD default).snd.fst) (decide ((↑na0_0 : Int) ≤ 7)))
def n54 (na0_0 : Nat) (da0_0 : Dat) (a0_1 : Int) (a0_2 : Int) (a0_3 : Int) (a0_4 : Int) (a0_5 : Int) (a0_6 : Int) (a0_7 : Int) (a0_8 : Int) : Bool :=
  ((((o54_0 na0_0 da0_0 a0_1 a0_2 a0_3 a0_4 a0_5 a0_6 a0_7 a0_8 0).isSome)) && true)
def q54 (r : Bool) : SV × List Blk × List Blk := (.bool r, [], [])
def g54 : List SV → List Blk → Option OpRes := fun vs bs => match vs, bs with
  | [.agg [.ro [.str, .int .i64, .int .i64, .int .i64, .int .i64] na0_0 da0_0, .int .i64 a0_1, .int .i64 a0_2, .int .i64 a0_3, .int .i64 a0_4, .int .i64 a0_5, .int .i64 a0_6, .int .i64 a0_7, .int .i64 a0_8]], [] => some (resOf 0 (q54 (m54 na0_0 da0_0 a0_1 a0_2 a0_3 a0_4 a0_5 a0_6 a0_7 a0_8)) [n54 na0_0 da0_0 a0_1 a0_2 a0_3 a0_4 a0_5 a0_6 a0_7 a0_8])
  | _, _ => none
def c54 : Ctr := genC [.a [.ro [.str, .int .i64, .int .i64, .int .i64, .int .i64], .k, .k, .k, .k, .k, .k, .k, .k]] g54
theorem p54 (na0_0 : Nat) (da0_0 : Dat) (a0_1 : Int) (a0_2 : Int) (a0_3 : Int) (a0_4 : Int) (a0_5 : Int) (a0_6 : Int) (a0_7 : Int) (a0_8 : Int) (hn : n54 na0_0 da0_0 a0_1 a0_2 a0_3 a0_4 a0_5 a0_6 a0_7 a0_8 = true) : exec Try.prog [] (lamOf [(0, g54_0)]) 8 (Try.f54.body.getD .skip) (initS Try.f54.ntmps [.agg [.ro [.str, .int .i64, .int .i64, .int .i64, .int .i64] na0_0 da0_0, .int .i64 a0_1, .int .i64 a0_2, .int .i64 a0_3, .int .i64 a0_4, .int .i64 a0_5, .int .i64 a0_6, .int .i64 a0_7, .int .i64 a0_8]] 0 (memOf [])) (retK Try.prog Try.f54.results.toList (outK 0 (List.range 0) [] (.k) fun v U N => (v, U, N) = (q54 (m54 na0_0 da0_0 a0_1 a0_2 a0_3 a0_4 a0_5 a0_6 a0_7 a0_8)))) :=
  propOf (x54 na0_0 da0_0 a0_1 a0_2 a0_3 a0_4 a0_5 a0_6 a0_7 a0_8 _) (cnd_need (and_l hn) (cnd_of (fun h0 => leaf_of (l := (((o54_0 na0_0 da0_0 a0_1 a0_2 a0_3 a0_4 a0_5 a0_6 a0_7 a0_8 0).getD default).snd.fst)) (condT h0 rfl) rfl) (fun h0 => leaf_of (l := (decide ((↑na0_0 : Int) ≤ 7))) (condF h0 rfl) rfl)))
theorem k54 : CtrOk Try.prog c54 54 := ctr_of tabOk_nil mix_ok 8 (fn := Try.f54) (c := (Try.f54.body.getD .skip)) (grs := []) (rh := .k) (Λ := (lamOf [(0, g54_0)])) Try.func54 rfl (by kernel_rfl) (lam_of rfl (lams_cons z54_0 lams_nil)) fun vs bs q h hn => by
  unfold g54 at h
  split at h <;> cases h
  exact ⟨_, rfl, p54 _ _ _ _ _ _ _ _ _ _ (hn _ (List.mem_singleton.2 rfl))⟩
/-! ### cmp.Or[int] -/
/-! #### loop 0 -/
def l133_0 (t3 : Int) (t6_0 : Nat) (t6_1 : Dat) (t7 : Int) : Nat → Int → Option (Bool × (Int) × (Unit))
  | 0, _ => none
  | f + 1, t8 => (cond ((decide (t8 < t7))) (cond ((decide (0 ≤ t8 ∧ t8 < (↑t6_0 : Int)))) (cond ((bif (decide (t6_1.ii t8.toNat 0 = t3)) then false else true)) (some (true, (t6_1.ii t8.toNat 0), default)) (l133_0 t3 t6_0 t6_1 t7 f (IntKind.i64.wrap (t8 + 1)))) none) (some (false, default, ())))
abbrev o133_0 (t3 : Int) (t6_0 : Nat) (t6_1 : Dat) (t7 : Int) (t8 : Int) : Option (Bool × (Int) × (Unit)) := l133_0 t3 t6_0 t6_1 t7 (t3.toNat + t6_0 + t7.toNat + t8.toNat + 8) t8
def e133_0 (t3 : Int) (t6_0 : Nat) (t6_1 : Dat) (t7 : Int) (r : Bool × (Int) × (Unit)) (K : XR) : Prop := cnd r.1 (K (XE.ret) [.int .i64 r.2.1, .int .i64 t3] []) (K (XE.exit 0) [.any, .int .i64 t3] [])
def g133_0 : LSum := fun s k => match czv 0 18 [3, 6, 7, 8] 0 [] s with
  | some ([.int .i64 t3, .ro [.int .i64] t6_0 t6_1, .int .i64 t7, .int .i64 t8], []) => needs [(o133_0 t3 t6_0 t6_1 t7 t8).isSome] (e133_0 t3 t6_0 t6_1 t7 ((o133_0 t3 t6_0 t6_1 t7 t8).getD default) fun e vs bs => inBlk 0 k e (mkSt 0 18 [2, 3] vs 0 bs))
  | _ => False
theorem y133_0 (t3 : Int) (t6_0 : Nat) (t6_1 : Dat) (t7 : Int) (t8 : Int) (R : XR) : exec Try.prog [] (fun _ => none) 8 (unloop (bodyAt (Try.f133.body.getD .skip) 0)) (mkSt 0 18 [3, 6, 7, 8] [.int .i64 t3, .ro [.int .i64] t6_0 t6_1, .int .i64 t7, .int .i64 t8] 0 []) (canonK 0 18 [3, 6, 7, 8] [2, 3] 0 [] R) =
  (cnd ((decide (t8 < t7)))
  (cnd ((decide (0 ≤ t8 ∧ t8 < (↑t6_0 : Int))))
   (cnd ((bif (decide (t6_1.ii t8.toNat 0 = t3)) then false else true))
    (R (XE.ret) [.int .i64 (t6_1.ii t8.toNat 0), .int .i64 t3] [])
    (R (XE.normal) [.int .i64 t3, .ro [.int .i64] t6_0 t6_1, .int .i64 t7, .int .i64 (IntKind.i64.wrap (t8 + 1))] []))
   False)
  (R (XE.exit 0) [.any, .int .i64 t3] [])) := by kernel_rfl
theorem z133_0 : LOk Try.prog g133_0 (.block 0 (bodyAt (Try.f133.body.getD .skip) 0)) := by
  refine loop_blk (ι := Int × Nat × Dat × Int × Int) (L := []) (Λ := (fun _ => none)) (fuel := 8) (na := 0) (nt := 18) (nx := 0) (Lh := [3, 6, 7, 8]) (Le := [2, 3]) (gl := []) tabOk_nil mix_ok noLam rfl (fun f x K => GG default (e133_0 x.1 x.2.1 x.2.2.1 x.2.2.2.1) K (l133_0 x.1 x.2.1 x.2.2.1 x.2.2.2.1 f x.2.2.2.2)) (fun x => [.int .i64 x.1, .ro [.int .i64] x.2.1 x.2.2.1, .int .i64 x.2.2.2.1, .int .i64 x.2.2.2.2]) (fun x => []) (fun x K => gg_none) ?_ ?_
  · rintro f ⟨t3, t6_0, t6_1, t7, t8⟩ K hG
    have hG : GG default (e133_0 t3 t6_0 t6_1 t7) K (cond ((decide (t8 < t7))) (cond ((decide (0 ≤ t8 ∧ t8 < (↑t6_0 : Int)))) (cond ((bif (decide (t6_1.ii t8.toNat 0 = t3)) then false else true)) (some (true, (t6_1.ii t8.toNat 0), default)) (l133_0 t3 t6_0 t6_1 t7 f (IntKind.i64.wrap (t8 + 1)))) none) (some (false, default, ()))) := hG
    refine propOf (y133_0 t3 t6_0 t6_1 t7 t8 _) ?_
    exact cnd_gg2 hG (fun h0 => cnd_gg h0 fun h1 => cnd_gg2 h1 (fun h2 => h2.2) (fun h2 => ⟨(t3, t6_0, t6_1, t7, (IntKind.i64.wrap (t8 + 1))), rfl, rfl, h2⟩)) (fun h0 => h0.2)
  · intro s k h
    unfold g133_0 at h
    split at h <;> try exact h.elim
    rename_i e1
    rw [needs_iff] at h
    exact ⟨_, e1, _, (_, _, _, _, _), rfl, rfl, h.1 _ (List.mem_singleton.2 rfl), h.2⟩
theorem x133 (na0 : Nat) (da0 : Dat) (R : SV → List Blk → List Blk → Prop) : exec Try.prog [] (lamOf [(0, g133_0)]) 8 (Try.f133.body.getD .skip) (initS Try.f133.ntmps [.ro [.int .i64] na0 da0] 0 (memOf [])) (retK Try.prog Try.f133.results.toList (outK 0 (List.range 0) [] (.k) fun v U N => R v U N)) =
  (cnd (((o133_0 0 na0 da0 (↑na0 : Int) 0).isSome))
  (cnd ((((o133_0 0 na0 da0 (↑na0 : Int) 0).getD default).fst))
   (R (.int .i64 (((o133_0 0 na0 da0 (↑na0 : Int) 0).getD default).snd.fst)) [] [])
   (R (.int .i64 0) [] []))
  False) := by kernel_rfl
def m133 (na0 : Nat) (da0 : Dat) : Int :=
  (cond ((((o133_0 0 na0 da0 (↑na0 : Int) 0).getD default).fst)) (((o133_0 0 na0 da0 (↑na0 : Int) 0).getD default).snd.fst) 0)
def n133 (na0 : Nat) (da0 : Dat) : Bool :=
  ((((o133_0 0 na0 da0 (↑na0 : Int) 0).isSome)) && true)
def q133 (r : Int) : SV × List Blk × List Blk := (.int .i64 r, [], [])
def g133 : List SV → List Blk → Option OpRes := fun vs bs => match vs, bs with
  | [.ro [.int .i64] na0 da0], [] => some (resOf 0 (q133 (m133 na0 da0)) [n133 na0 da0])
  | _, _ => none
def c133 : Ctr := genC [.ro [.int .i64]] g133
theorem p133 (na0 : Nat) (da0 : Dat) (hn : n133 na0 da0 = true) : exec Try.prog [] (lamOf [(0, g133_0)]) 8 (Try.f133.body.getD .skip) (initS Try.f133.ntmps [.ro [.int .i64] na0 da0] 0 (memOf [])) (retK Try.prog Try.f133.results.toList (outK 0 (List.range 0) [] (.k) fun v U N => (v, U, N) = (q133 (m133 na0 da0)))) :=
  propOf (x133 na0 da0 _) (cnd_need (and_l hn) (cnd_of (fun h0 => leaf_of (l := (((o133_0 0 na0 da0 (↑na0 : Int) 0).getD default).snd.fst)) (condT h0 rfl) rfl) (fun h0 => leaf_of (l := 0) (condF h0 rfl) rfl)))
theorem k133 : CtrOk Try.prog c133 133 := ctr_of tabOk_nil mix_ok 8 (fn := Try.f133) (c := (Try.f133.body.getD .skip)) (grs := []) (rh := .k) (Λ := (lamOf [(0, g133_0)])) Try.func133 rfl (by kernel_rfl) (lam_of rfl (lams_cons z133_0 lams_nil)) fun vs bs q h hn => by
  unfold g133 at h
  split at h <;> cases h
  exact ⟨_, rfl, p133 _ _ (hn _ (List.mem_singleton.2 rfl))⟩
/-! ### shotline/mix.isName -/
/-! #### loop 0 -/
def l78_0 (t0 : ByteArray) (t6 : Int) : Nat → Int → Option (Bool × (Bool) × (Unit))
  | 0, _ => none
  | f + 1, t7 => (cond ((decide (t7 < t6))) (cond ((decide (0 ≤ t7 ∧ t7 < (↑t0.size : Int)))) (cond ((bif (bif (decide (97 ≤ byteAt t0 t7.toNat)) then false else true) then true else (decide (0 ≤ t7 ∧ t7 < (↑t0.size : Int))))) (cond ((bif (bif (bif (bif (decide (97 ≤ byteAt t0 t7.toNat)) then (decide (byteAt t0 t7.toNat ≤ 122)) else false) then false else true) then false else true) then true else (decide (0 ≤ t7 ∧ t7 < (↑t0.size : Int))))) (cond ((bif (bif (bif (bif (bif (decide (97 ≤ byteAt t0 t7.toNat)) then (decide (byteAt t0 t7.toNat ≤ 122)) else false) then false else true) then (decide (65 ≤ byteAt t0 t7.toNat)) else false) then false else true) then true else (decide (0 ≤ t7 ∧ t7 < (↑t0.size : Int))))) (cond ((bif (bif (bif (bif (bif (bif (decide (97 ≤ byteAt t0 t7.toNat)) then (decide (byteAt t0 t7.toNat ≤ 122)) else false) then true else (bif (decide (65 ≤ byteAt t0 t7.toNat)) then (decide (byteAt t0 t7.toNat ≤ 90)) else false)) then false else true) then (bif (decide (t7 = 0)) then false else true) else false) then false else true) then true else (decide (0 ≤ t7 ∧ t7 < (↑t0.size : Int))))) (cond ((bif (bif (bif (bif (bif (bif (bif (decide (97 ≤ byteAt t0 t7.toNat)) then (decide (byteAt t0 t7.toNat ≤ 122)) else false) then true else (bif (decide (65 ≤ byteAt t0 t7.toNat)) then (decide (byteAt t0 t7.toNat ≤ 90)) else false)) then false else true) then (bif (decide (t7 = 0)) then false else true) else false) then (bif (decide (byteAt t0 t7.toNat = 45)) then false else true) else false) then false else true) then true else (decide (0 ≤ t7 ∧ t7 < (↑t0.size : Int))))) (cond ((bif (bif (bif (bif (bif (bif (bif (bif (decide (97 ≤ byteAt t0 t7.toNat)) then (decide (byteAt t0 t7.toNat ≤ 122)) else false) then true else (bif (decide (65 ≤ byteAt t0 t7.toNat)) then (decide (byteAt t0 t7.toNat ≤ 90)) else false)) then false else true) then (bif (decide (t7 = 0)) then false else true) else false) then (bif (decide (byteAt t0 t7.toNat = 45)) then false else true) else false) then (bif (decide (byteAt t0 t7.toNat < 48)) then false else true) else false) then false else true) then true else (decide (0 ≤ t7 ∧ t7 < (↑t0.size : Int))))) (cond ((bif (bif (bif (bif (decide (97 ≤ byteAt t0 t7.toNat)) then (decide (byteAt t0 t7.toNat ≤ 122)) else false) then true else (bif (decide (65 ≤ byteAt t0 t7.toNat)) then (decide (byteAt t0 t7.toNat ≤ 90)) else false)) then false else true) then (bif (decide (t7 = 0)) then true else (bif (bif (decide (byteAt t0 t7.toNat = 45)) then false else true) then (bif (decide (byteAt t0 t7.toNat < 48)) then true else (decide (57 < byteAt t0 t7.toNat))) else false)) else false)) (some (true, false, default)) (l78_0 t0 t6 f (IntKind.i64.wrap (t7 + 1)))) none) none) none) none) none) none) none) (some (false, default, ())))
abbrev o78_0 (t0 : ByteArray) (t6 : Int) (t7 : Int) : Option (Bool × (Bool) × (Unit)) := l78_0 t0 t6 (t0.size + t6.toNat + t7.toNat + 8) t7
def e78_0 (t0 : ByteArray) (t6 : Int) (r : Bool × (Bool) × (Unit)) (K : XR) : Prop := cnd r.1 (K (XE.ret) [.str t0, .bool r.2.1] []) (K (XE.exit 0) [.str t0, .any] [])
def g78_0 : LSum := fun s k => match czv 0 64 [0, 6, 7] 0 [] s with
  | some ([.str t0, .int .i64 t6, .int .i64 t7], []) => needs [(o78_0 t0 t6 t7).isSome] (e78_0 t0 t6 ((o78_0 t0 t6 t7).getD default) fun e vs bs => inBlk 0 k e (mkSt 0 64 [0, 2] vs 0 bs))
  | _ => False
theorem y78_0 (t0 : ByteArray) (t6 : Int) (t7 : Int) (R : XR) : exec Try.prog [] (fun _ => none) 8 (unloop (bodyAt (Try.f78.body.getD .skip) 0)) (mkSt 0 64 [0, 6, 7] [.str t0, .int .i64 t6, .int .i64 t7] 0 []) (canonK 0 64 [0, 6, 7] [0, 2] 0 [] R) =
  (cnd ((decide (t7 < t6)))
  (cnd ((decide (0 ≤ t7 ∧ t7 < (↑t0.size : Int))))
   (cnd ((bif (bif (decide (97 ≤ byteAt t0 t7.toNat)) then false else true) then true else (decide (0 ≤ t7 ∧ t7 < (↑t0.size : Int)))))
    (cnd ((bif (bif (bif (bif (decide (97 ≤ byteAt t0 t7.toNat)) then (decide (byteAt t0 t7.toNat ≤ 122)) else false) then false else true) then false else true) then true else (decide (0 ≤ t7 ∧ t7 < (↑t0.size : Int)))))
     (cnd ((bif (bif (bif (bif (bif (decide (97 ≤ byteAt t0 t7.toNat)) then (decide (byteAt t0 t7.toNat ≤ 122)) else false) then false else true) then (decide (65 ≤ byteAt t0 t7.toNat)) else false) then false else true) then true else (decide (0 ≤ t7 ∧ t7 < (↑t0.size : Int)))))
      (cnd ((bif (bif (bif (bif (bif (bif (decide (97 ≤ byteAt t0 t7.toNat)) then (decide (byteAt t0 t7.toNat ≤ 122)) else false) then true else (bif (decide (65 ≤ byteAt t0 t7.toNat)) then (decide (byteAt t0 t7.toNat ≤ 90)) else false)) then false else true) then (bif (decide (t7 = 0)) then false else true) else false) then false else true) then true else (decide (0 ≤ t7 ∧ t7 < (↑t0.size : Int)))))
       (cnd ((bif (bif (bif (bif (bif (bif (bif (decide (97 ≤ byteAt t0 t7.toNat)) then (decide (byteAt t0 t7.toNat ≤ 122)) else false) then true else (bif (decide (65 ≤ byteAt t0 t7.toNat)) then (decide (byteAt t0 t7.toNat ≤ 90)) else false)) then false else true) then (bif (decide (t7 = 0)) then false else true) else false) then (bif (decide (byteAt t0 t7.toNat = 45)) then false else true) else false) then false else true) then true else (decide (0 ≤ t7 ∧ t7 < (↑t0.size : Int)))))
        (cnd ((bif (bif (bif (bif (bif (bif (bif (bif (decide (97 ≤ byteAt t0 t7.toNat)) then (decide (byteAt t0 t7.toNat ≤ 122)) else false) then true else (bif (decide (65 ≤ byteAt t0 t7.toNat)) then (decide (byteAt t0 t7.toNat ≤ 90)) else false)) then false else true) then (bif (decide (t7 = 0)) then false else true) else false) then (bif (decide (byteAt t0 t7.toNat = 45)) then false else true) else false) then (bif (decide (byteAt t0 t7.toNat < 48)) then false else true) else false) then false else true) then true else (decide (0 ≤ t7 ∧ t7 < (↑t0.size : Int)))))
         (cnd ((bif (bif (bif (bif (decide (97 ≤ byteAt t0 t7.toNat)) then (decide (byteAt t0 t7.toNat ≤ 122)) else false) then true else (bif (decide (65 ≤ byteAt t0 t7.toNat)) then (decide (byteAt t0 t7.toNat ≤ 90)) else false)) then false else true) then (bif (decide (t7 = 0)) then true else (bif (bif (decide (byteAt t0 t7.toNat = 45)) then false else true) then (bif (decide (byteAt t0 t7.toNat < 48)) then true else (decide (57 < byteAt t0 t7.toNat))) else false)) else false))
          (R (XE.ret) [.str t0, .bool false] [])
          (R (XE.normal) [.str t0, .int .i64 t6, .int .i64 (IntKind.i64.wrap (t7 + 1))] []))
         False)
        False)
       False)
      False)
     False)
    False)
   False)
  (R (XE.exit 0) [.str t0, .any] [])) := by kernel_rfl
theorem z78_0 : LOk Try.prog g78_0 (.block 0 (bodyAt (Try.f78.body.getD .skip) 0)) := by
  refine loop_blk (ι := ByteArray × Int × Int) (L := []) (Λ := (fun _ => none)) (fuel := 8) (na := 0) (nt := 64) (nx := 0) (Lh := [0, 6, 7]) (Le := [0, 2]) (gl := []) tabOk_nil mix_ok noLam rfl (fun f x K => GG default (e78_0 x.1 x.2.1) K (l78_0 x.1 x.2.1 f x.2.2)) (fun x => [.str x.1, .int .i64 x.2.1, .int .i64 x.2.2]) (fun x => []) (fun x K => gg_none) ?_ ?_
  · rintro f ⟨t0, t6, t7⟩ K hG
    have hG : GG default (e78_0 t0 t6) K (cond ((decide (t7 < t6))) (cond ((decide (0 ≤ t7 ∧ t7 < (↑t0.size : Int)))) (cond ((bif (bif (decide (97 ≤ byteAt t0 t7.toNat)) then false else true) then true else (decide (0 ≤ t7 ∧ t7 < (↑t0.size : Int))))) (cond ((bif (bif (bif (bif (decide (97 ≤ byteAt t0 t7.toNat)) then (decide (byteAt t0 t7.toNat ≤ 122)) else false) then false else true) then false else true) then true else (decide (0 ≤ t7 ∧ t7 < (↑t0.size : Int))))) (cond ((bif (bif (bif (bif (bif (decide (97 ≤ byteAt t0 t7.toNat)) then (decide (byteAt t0 t7.toNat ≤ 122)) else false) then false else true) then (decide (65 ≤ byteAt t0 t7.toNat)) else false) then false else true) then true else (decide (0 ≤ t7 ∧ t7 < (↑t0.size : Int))))) (cond ((bif (bif (bif (bif (bif (bif (decide (97 ≤ byteAt t0 t7.toNat)) then (decide (byteAt t0 t7.toNat ≤ 122)) else false) then true else (bif (decide (65 ≤ byteAt t0 t7.toNat)) then (decide (byteAt t0 t7.toNat ≤ 90)) else false)) then false else true) then (bif (decide (t7 = 0)) then false else true) else false) then false else true) then true else (decide (0 ≤ t7 ∧ t7 < (↑t0.size : Int))))) (cond ((bif (bif (bif (bif (bif (bif (bif (decide (97 ≤ byteAt t0 t7.toNat)) then (decide (byteAt t0 t7.toNat ≤ 122)) else false) then true else (bif (decide (65 ≤ byteAt t0 t7.toNat)) then (decide (byteAt t0 t7.toNat ≤ 90)) else false)) then false else true) then (bif (decide (t7 = 0)) then false else true) else false) then (bif (decide (byteAt t0 t7.toNat = 45)) then false else true) else false) then false else true) then true else (decide (0 ≤ t7 ∧ t7 < (↑t0.size : Int))))) (cond ((bif (bif (bif (bif (bif (bif (bif (bif (decide (97 ≤ byteAt t0 t7.toNat)) then (decide (byteAt t0 t7.toNat ≤ 122)) else false) then true else (bif (decide (65 ≤ byteAt t0 t7.toNat)) then (decide (byteAt t0 t7.toNat ≤ 90)) else false)) then false else true) then (bif (decide (t7 = 0)) then false else true) else false) then (bif (decide (byteAt t0 t7.toNat = 45)) then false else true) else false) then (bif (decide (byteAt t0 t7.toNat < 48)) then false else true) else false) then false else true) then true else (decide (0 ≤ t7 ∧ t7 < (↑t0.size : Int))))) (cond ((bif (bif (bif (bif (decide (97 ≤ byteAt t0 t7.toNat)) then (decide (byteAt t0 t7.toNat ≤ 122)) else false) then true else (bif (decide (65 ≤ byteAt t0 t7.toNat)) then (decide (byteAt t0 t7.toNat ≤ 90)) else false)) then false else true) then (bif (decide (t7 = 0)) then true else (bif (bif (decide (byteAt t0 t7.toNat = 45)) then false else true) then (bif (decide (byteAt t0 t7.toNat < 48)) then true else (decide (57 < byteAt t0 t7.toNat))) else false)) else false)) (some (true, false, default)) (l78_0 t0 t6 f (IntKind.i64.wrap (t7 + 1)))) none) none) none) none) none) none) none) (some (false, default, ()))) := hG
    refine propOf (y78_0 t0 t6 t7 _) ?_
    exact cnd_gg2 hG (fun h0 => cnd_gg h0 fun h1 => cnd_gg h1 fun h2 => cnd_gg h2 fun h3 => cnd_gg h3 fun h4 => cnd_gg h4 fun h5 => cnd_gg h5 fun h6 => cnd_gg h6 fun h7 => cnd_gg2 h7 (fun h8 => h8.2) (fun h8 => ⟨(t0, t6, (IntKind.i64.wrap (t7 + 1))), rfl, rfl, h8⟩)) (fun h0 => h0.2)
  · intro s k h
    unfold g78_0 at h
    split at h <;> try exact h.elim
    rename_i e1
    rw [needs_iff] at h
    exact ⟨_, e1, _, (_, _, _), rfl, rfl, h.1 _ (List.mem_singleton.2 rfl), h.2⟩
theorem x78 (a0 : ByteArray) (R : SV → List Blk → List Blk → Prop) : exec Try.prog [] (lamOf [(0, g78_0)]) 8 (Try.f78.body.getD .skip) (initS Try.f78.ntmps [.str a0] 0 (memOf [])) (retK Try.prog Try.f78.results.toList (outK 0 (List.range 0) [] (.k) fun v U N => R v U N)) =
  (cnd (((o78_0 a0 (↑a0.size : Int) 0).isSome))
  (cnd ((((o78_0 a0 (↑a0.size : Int) 0).getD default).fst))
   (R (.bool (((o78_0 a0 (↑a0.size : Int) 0).getD default).snd.fst)) [] [])
   (R (.bool (bif (bif (decide (a0 = { data := #[] })) then false else true) then (decide ((↑a0.size : Int) ≤ 12)) else false)) [] []))
  False) := by kernel_rfl
def m78 (a0 : ByteArray) : Bool :=
  (cond ((((o78_0 a0 (↑a0.size : Int) 0).getD default).fst)) (((o78_0 a0 (↑a0.size : Int) 0).getD default).snd.fst) (bif (bif (decide (a0 = { data := #[] })) then false else true) then (decide ((↑a0.size : Int) ≤ 12)) else false))
def n78 (a0 : ByteArray) : Bool :=
  ((((o78_0 a0 (↑a0.size : Int) 0).isSome)) && true)
def q78 (r : Bool) : SV × List Blk × List Blk := (.bool r, [], [])
def g78 : List SV → List Blk → Option OpRes := fun vs bs => match vs, bs with
  | [.str a0], [] => some (resOf 0 (q78 (m78 a0)) [n78 a0])
  | _, _ => none
def c78 : Ctr := genC [.k] g78
theorem p78 (a0 : ByteArray) (hn : n78 a0 = true) : exec Try.prog [] (lamOf [(0, g78_0)]) 8 (Try.f78.body.getD .skip) (initS Try.f78.ntmps [.str a0] 0 (memOf [])) (retK Try.prog Try.f78.results.toList (outK 0 (List.range 0) [] (.k) fun v U N => (v, U, N) = (q78 (m78 a0)))) :=
  propOf (x78 a0 _) (cnd_need (and_l hn) (cnd_of (fun h0 => leaf_of (l := (((o78_0 a0 (↑a0.size : Int) 0).getD default).snd.fst)) (condT h0 rfl) rfl) (fun h0 => leaf_of (l := (bif (bif (decide (a0 = { data := #[] })) then false else true) then (decide ((↑a0.size : Int) ≤ 12)) else false)) (condF h0 rfl) rfl)))
theorem k78 : CtrOk Try.prog c78 78 := ctr_of tabOk_nil mix_ok 8 (fn := Try.f78) (c := (Try.f78.body.getD .skip)) (grs := []) (rh := .k) (Λ := (lamOf [(0, g78_0)])) Try.func78 rfl (by kernel_rfl) (lam_of rfl (lams_cons z78_0 lams_nil)) fun vs bs q h hn => by
  unfold g78 at h
  split at h <;> cases h
  exact ⟨_, rfl, p78 _ (hn _ (List.mem_singleton.2 rfl))⟩
/-! ### shotline/shotlinebase.IsName -/
/-! #### loop 0 -/
def l80_0 (t0 : ByteArray) : Nat → Int → Option (Bool × (Bool) × (Unit))
  | 0, _ => none
  | f + 1, t3 => (cond ((decide (t3 < (↑t0.size : Int)))) (cond ((decide (0 ≤ t3 ∧ t3 < (↑t0.size : Int)))) (cond ((bif (bif (bif (bif (decide (97 ≤ byteAt t0 t3.toNat)) then (decide (byteAt t0 t3.toNat ≤ 122)) else false) then true else (bif (decide (65 ≤ byteAt t0 t3.toNat)) then (decide (byteAt t0 t3.toNat ≤ 90)) else false)) then false else true) then (bif (decide (t3 = 0)) then true else (bif (bif (decide (byteAt t0 t3.toNat = 45)) then false else true) then (bif (decide (byteAt t0 t3.toNat < 48)) then true else (decide (57 < byteAt t0 t3.toNat))) else false)) else false)) (some (true, false, default)) (l80_0 t0 f (IntKind.i64.wrap (t3 + 1)))) none) (some (false, default, ())))
abbrev o80_0 (t0 : ByteArray) (t3 : Int) : Option (Bool × (Bool) × (Unit)) := l80_0 t0 (t0.size + t3.toNat + 8) t3
def e80_0 (t0 : ByteArray) (r : Bool × (Bool) × (Unit)) (K : XR) : Prop := cnd r.1 (K (XE.ret) [.bool r.2.1] []) (K (XE.exit 0) [.any] [])
def g80_0 : LSum := fun s k => match czv 0 55 [0, 3] 0 [] s with
  | some ([.str t0, .int .i64 t3], []) => needs [(o80_0 t0 t3).isSome] (e80_0 t0 ((o80_0 t0 t3).getD default) fun e vs bs => inBlk 0 k e (mkSt 0 55 [2] vs 0 bs))
  | _ => False
theorem y80_0 (t0 : ByteArray) (t3 : Int) (R : XR) : exec Try.prog [] (fun _ => none) 8 (unloop (bodyAt (Try.f80.body.getD .skip) 0)) (mkSt 0 55 [0, 3] [.str t0, .int .i64 t3] 0 []) (canonK 0 55 [0, 3] [2] 0 [] R) =
  (cnd ((decide (t3 < (↑t0.size : Int))))
  (cnd ((decide (0 ≤ t3 ∧ t3 < (↑t0.size : Int))))
   (cnd ((bif (bif (bif (bif (decide (97 ≤ byteAt t0 t3.toNat)) then (decide (byteAt t0 t3.toNat ≤ 122)) else false) then true else (bif (decide (65 ≤ byteAt t0 t3.toNat)) then (decide (byteAt t0 t3.toNat ≤ 90)) else false)) then false else true) then (bif (decide (t3 = 0)) then true else (bif (bif (decide (byteAt t0 t3.toNat = 45)) then false else true) then (bif (decide (byteAt t0 t3.toNat < 48)) then true else (decide (57 < byteAt t0 t3.toNat))) else false)) else false))
    (R (XE.ret) [.bool false] [])
    (R (XE.normal) [.str t0, .int .i64 (IntKind.i64.wrap (t3 + 1))] []))
   False)
  (R (XE.exit 0) [.any] [])) := by kernel_rfl
theorem z80_0 : LOk Try.prog g80_0 (.block 0 (bodyAt (Try.f80.body.getD .skip) 0)) := by
  refine loop_blk (ι := ByteArray × Int) (L := []) (Λ := (fun _ => none)) (fuel := 8) (na := 0) (nt := 55) (nx := 0) (Lh := [0, 3]) (Le := [2]) (gl := []) tabOk_nil mix_ok noLam rfl (fun f x K => GG default (e80_0 x.1) K (l80_0 x.1 f x.2)) (fun x => [.str x.1, .int .i64 x.2]) (fun x => []) (fun x K => gg_none) ?_ ?_
  · rintro f ⟨t0, t3⟩ K hG
    have hG : GG default (e80_0 t0) K (cond ((decide (t3 < (↑t0.size : Int)))) (cond ((decide (0 ≤ t3 ∧ t3 < (↑t0.size : Int)))) (cond ((bif (bif (bif (bif (decide (97 ≤ byteAt t0 t3.toNat)) then (decide (byteAt t0 t3.toNat ≤ 122)) else false) then true else (bif (decide (65 ≤ byteAt t0 t3.toNat)) then (decide (byteAt t0 t3.toNat ≤ 90)) else false)) then false else true) then (bif (decide (t3 = 0)) then true else (bif (bif (decide (byteAt t0 t3.toNat = 45)) then false else true) then (bif (decide (byteAt t0 t3.toNat < 48)) then true else (decide (57 < byteAt t0 t3.toNat))) else false)) else false)) (some (true, false, default)) (l80_0 t0 f (IntKind.i64.wrap (t3 + 1)))) none) (some (false, default, ()))) := hG
    refine propOf (y80_0 t0 t3 _) ?_
    exact cnd_gg2 hG (fun h0 => cnd_gg h0 fun h1 => cnd_gg2 h1 (fun h2 => h2.2) (fun h2 => ⟨(t0, (IntKind.i64.wrap (t3 + 1))), rfl, rfl, h2⟩)) (fun h0 => h0.2)
  · intro s k h
    unfold g80_0 at h
    split at h <;> try exact h.elim
    rename_i e1
    rw [needs_iff] at h
    exact ⟨_, e1, _, (_, _), rfl, rfl, h.1 _ (List.mem_singleton.2 rfl), h.2⟩
theorem x80 (a0 : ByteArray) (R : SV → List Blk → List Blk → Prop) : exec Try.prog [] (lamOf [(0, g80_0)]) 8 (Try.f80.body.getD .skip) (initS Try.f80.ntmps [.str a0] 0 (memOf [])) (retK Try.prog Try.f80.results.toList (outK 0 (List.range 0) [] (.k) fun v U N => R v U N)) =
  (cnd ((bif (decide ((↑a0.size : Int) < 1)) then true else (decide (12 < (↑a0.size : Int)))))
  (R (.bool false) [] [])
  (cnd (((o80_0 a0 0).isSome))
   (cnd ((((o80_0 a0 0).getD default).fst))
    (R (.bool (((o80_0 a0 0).getD default).snd.fst)) [] [])
    (R (.bool true) [] []))
   False)) := by kernel_rfl
def m80 (a0 : ByteArray) : Bool :=
  (cond ((bif (decide ((↑a0.size : Int) < 1)) then true else (decide (12 < (↑a0.size : Int))))) false (cond ((((o80_0 a0 0).getD default).fst)) (((o80_0 a0 0).getD default).snd.fst) true))
def n80 (a0 : ByteArray) : Bool :=
  (cond ((bif (decide ((↑a0.size : Int) < 1)) then true else (decide (12 < (↑a0.size : Int))))) true ((((o80_0 a0 0).isSome)) && true))
def q80 (r : Bool) : SV × List Blk × List Blk := (.bool r, [], [])
def g80 : List SV → List Blk → Option OpRes := fun vs bs => match vs, bs with
  | [.str a0], [] => some (resOf 0 (q80 (m80 a0)) [n80 a0])
  | _, _ => none
def c80 : Ctr := genC [.k] g80
theorem p80 (a0 : ByteArray) (hn : n80 a0 = true) : exec Try.prog [] (lamOf [(0, g80_0)]) 8 (Try.f80.body.getD .skip) (initS Try.f80.ntmps [.str a0] 0 (memOf [])) (retK Try.prog Try.f80.results.toList (outK 0 (List.range 0) [] (.k) fun v U N => (v, U, N) = (q80 (m80 a0)))) :=
  propOf (x80 a0 _) (cnd_of (fun h0 => leaf_of (l := false) (condT h0 rfl) rfl) (fun h0 => cnd_need (and_l (cond_f h0 hn)) (cnd_of (fun h1 => leaf_of (l := (((o80_0 a0 0).getD default).snd.fst)) (condF h0 (condT h1 rfl)) rfl) (fun h1 => leaf_of (l := true) (condF h0 (condF h1 rfl)) rfl))))
theorem k80 : CtrOk Try.prog c80 80 := ctr_of tabOk_nil mix_ok 8 (fn := Try.f80) (c := (Try.f80.body.getD .skip)) (grs := []) (rh := .k) (Λ := (lamOf [(0, g80_0)])) Try.func80 rfl (by kernel_rfl) (lam_of rfl (lams_cons z80_0 lams_nil)) fun vs bs q h hn => by
  unfold g80 at h
  split at h <;> cases h
  exact ⟨_, rfl, p80 _ (hn _ (List.mem_singleton.2 rfl))⟩
/-! ### slices.IndexFunc[[]shotline/api.MixSource,shotline/api.MixSource] -/
/-! #### loop 0 -/
def l140c108_0 (t0_0 : Nat) (t0_1 : Dat) (t1 : Dat) (t7 : Int) : Nat → Int → Option (Bool × (Int) × (Unit))
  | 0, _ => none
  | f + 1, t8 => (cond ((decide (t8 < t7))) (cond ((decide (0 ≤ t8 ∧ t8 < (↑t0_0 : Int)))) (cond ((m108 (t0_1.ss t8.toNat 0) (t0_1.ii t8.toNat (0 + 1)) (t0_1.ii t8.toNat (0 + 1 + 1)) (t0_1.ii t8.toNat (0 + 1 + 1 + 1)) (t0_1.ii t8.toNat (0 + 1 + 1 + 1 + 1)) t1)) (some (true, t8, default)) (l140c108_0 t0_0 t0_1 t1 t7 f (IntKind.i64.wrap (t8 + 1)))) none) (some (false, default, ())))
abbrev o140c108_0 (t0_0 : Nat) (t0_1 : Dat) (t1 : Dat) (t7 : Int) (t8 : Int) : Option (Bool × (Int) × (Unit)) := l140c108_0 t0_0 t0_1 t1 t7 (t0_0 + t7.toNat + t8.toNat + 8) t8
def e140c108_0 (t0_0 : Nat) (t0_1 : Dat) (t1 : Dat) (t7 : Int) (r : Bool × (Int) × (Unit)) (K : XR) : Prop := cnd r.1 (K (XE.ret) [.int .i64 r.2.1] []) (K (XE.exit 0) [.any] [])
def g140c108_0 : LSum := fun s k => match czv 0 19 [0, 1, 7, 8] 0 [] s with
  | some ([.ro [.str, .int .i64, .int .i64, .int .i64, .int .i64] t0_0 t0_1, .fn 108 [.rp [.str, .int .i64, .int .i64, .int .i64, .int .i64] t1 0 0], .int .i64 t7, .int .i64 t8], []) => needs [(o140c108_0 t0_0 t0_1 t1 t7 t8).isSome] (e140c108_0 t0_0 t0_1 t1 t7 ((o140c108_0 t0_0 t0_1 t1 t7 t8).getD default) fun e vs bs => inBlk 0 k e (mkSt 0 19 [4] vs 0 bs))
  | _ => False
theorem y140c108_0 (t0_0 : Nat) (t0_1 : Dat) (t1 : Dat) (t7 : Int) (t8 : Int) (R : XR) : exec Try.prog [(108, c108)] (fun _ => none) 8 (unloop (bodyAt (Try.f140.body.getD .skip) 0)) (mkSt 0 19 [0, 1, 7, 8] [.ro [.str, .int .i64, .int .i64, .int .i64, .int .i64] t0_0 t0_1, .fn 108 [.rp [.str, .int .i64, .int .i64, .int .i64, .int .i64] t1 0 0], .int .i64 t7, .int .i64 t8] 0 []) (canonK 0 19 [0, 1, 7, 8] [4] 0 [] R) =
  (cnd ((decide (t8 < t7)))
  (cnd ((decide (0 ≤ t8 ∧ t8 < (↑t0_0 : Int))))
   (cnd ((m108 (t0_1.ss t8.toNat 0) (t0_1.ii t8.toNat (0 + 1)) (t0_1.ii t8.toNat (0 + 1 + 1)) (t0_1.ii t8.toNat (0 + 1 + 1 + 1)) (t0_1.ii t8.toNat (0 + 1 + 1 + 1 + 1)) t1))
    (R (XE.ret) [.int .i64 t8] [])
    (R (XE.normal) [.ro [.str, .int .i64, .int .i64, .int .i64, .int .i64] t0_0 t0_1, .fn 108 [.rp [.str, .int .i64, .int .i64, .int .i64, .int .i64] t1 0 0], .int .i64 t7, .int .i64 (IntKind.i64.wrap (t8 + 1))] []))
   False)
  (R (XE.exit 0) [.any] [])) := by kernel_rfl
theorem z140c108_0 : LOk Try.prog g140c108_0 (.block 0 (bodyAt (Try.f140.body.getD .skip) 0)) := by
  refine loop_blk (ι := Nat × Dat × Dat × Int × Int) (L := [(108, c108)]) (Λ := (fun _ => none)) (fuel := 8) (na := 0) (nt := 19) (nx := 0) (Lh := [0, 1, 7, 8]) (Le := [4]) (gl := []) (tabOk_cons k108 tabOk_nil) mix_ok noLam rfl (fun f x K => GG default (e140c108_0 x.1 x.2.1 x.2.2.1 x.2.2.2.1) K (l140c108_0 x.1 x.2.1 x.2.2.1 x.2.2.2.1 f x.2.2.2.2)) (fun x => [.ro [.str, .int .i64, .int .i64, .int .i64, .int .i64] x.1 x.2.1, .fn 108 [.rp [.str, .int .i64, .int .i64, .int .i64, .int .i64] x.2.2.1 0 0], .int .i64 x.2.2.2.1, .int .i64 x.2.2.2.2]) (fun x => []) (fun x K => gg_none) ?_ ?_
  · rintro f ⟨t0_0, t0_1, t1, t7, t8⟩ K hG
    have hG : GG default (e140c108_0 t0_0 t0_1 t1 t7) K (cond ((decide (t8 < t7))) (cond ((decide (0 ≤ t8 ∧ t8 < (↑t0_0 : Int)))) (cond ((m108 (t0_1.ss t8.toNat 0) (t0_1.ii t8.toNat (0 + 1)) (t0_1.ii t8.toNat (0 + 1 + 1)) (t0_1.ii t8.toNat (0 + 1 + 1 + 1)) (t0_1.ii t8.toNat (0 + 1 + 1 + 1 + 1)) t1)) (some (true, t8, default)) (l140c108_0 t0_0 t0_1 t1 t7 f (IntKind.i64.wrap (t8 + 1)))) none) (some (false, default, ()))) := hG
    refine propOf (y140c108_0 t0_0 t0_1 t1 t7 t8 _) ?_
    exact cnd_gg2 hG (fun h0 => cnd_gg h0 fun h1 => cnd_gg2 h1 (fun h2 => h2.2) (fun h2 => ⟨(t0_0, t0_1, t1, t7, (IntKind.i64.wrap (t8 + 1))), rfl, rfl, h2⟩)) (fun h0 => h0.2)
  · intro s k h
    unfold g140c108_0 at h
    split at h <;> try exact h.elim
    rename_i e1
    rw [needs_iff] at h
    exact ⟨_, e1, _, (_, _, _, _, _), rfl, rfl, h.1 _ (List.mem_singleton.2 rfl), h.2⟩
theorem x140c108 (na0 : Nat) (da0 : Dat) (da1c0 : Dat) (R : SV → List Blk → List Blk → Prop) : exec Try.prog [(108, c108)] (lamOf [(0, g140c108_0)]) 8 (Try.f140.body.getD .skip) (initS Try.f140.ntmps [.ro [.str, .int .i64, .int .i64, .int .i64, .int .i64] na0 da0, .fn 108 [.rp [.str, .int .i64, .int .i64, .int .i64, .int .i64] da1c0 0 0]] 0 (memOf [])) (retK Try.prog Try.f140.results.toList (outK 0 (List.range 0) [] (.k) fun v U N => R v U N)) =
  (cnd (((o140c108_0 na0 da0 da1c0 (↑na0 : Int) 0).isSome))
  (cnd ((((o140c108_0 na0 da0 da1c0 (↑na0 : Int) 0).getD default).fst))
   (R (.int .i64 (((o140c108_0 na0 da0 da1c0 (↑na0 : Int) 0).getD default).snd.fst)) [] [])
   (R (.int .i64 (-1)) [] []))
  False) := by kernel_rfl
def m140c108 (na0 : Nat) (da0 : Dat) (da1c0 : Dat) : Int :=
  (cond ((((o140c108_0 na0 da0 da1c0 (↑na0 : Int) 0).getD default).fst)) (((o140c108_0 na0 da0 da1c0 (↑na0 : Int) 0).getD default).snd.fst) (-1))
def n140c108 (na0 : Nat) (da0 : Dat) (da1c0 : Dat) : Bool :=
  ((((o140c108_0 na0 da0 da1c0 (↑na0 : Int) 0).isSome)) && true)
def q140c108 (r : Int) : SV × List Blk × List Blk := (.int .i64 r, [], [])
def g140c108 : List SV → List Blk → Option OpRes := fun vs bs => match vs, bs with
  | [.ro [.str, .int .i64, .int .i64, .int .i64, .int .i64] na0 da0, .fn 108 [.rp [.str, .int .i64, .int .i64, .int .i64, .int .i64] da1c0 0 0]], [] => some (resOf 0 (q140c108 (m140c108 na0 da0 da1c0)) [n140c108 na0 da0 da1c0])
  | _, _ => none
def c140c108 : Ctr := genC [.ro [.str, .int .i64, .int .i64, .int .i64, .int .i64], .f [.rp [.str, .int .i64, .int .i64, .int .i64, .int .i64]]] g140c108
theorem p140c108 (na0 : Nat) (da0 : Dat) (da1c0 : Dat) (hn : n140c108 na0 da0 da1c0 = true) : exec Try.prog [(108, c108)] (lamOf [(0, g140c108_0)]) 8 (Try.f140.body.getD .skip) (initS Try.f140.ntmps [.ro [.str, .int .i64, .int .i64, .int .i64, .int .i64] na0 da0, .fn 108 [.rp [.str, .int .i64, .int .i64, .int .i64, .int .i64] da1c0 0 0]] 0 (memOf [])) (retK Try.prog Try.f140.results.toList (outK 0 (List.range 0) [] (.k) fun v U N => (v, U, N) = (q140c108 (m140c108 na0 da0 da1c0)))) :=
  propOf (x140c108 na0 da0 da1c0 _) (cnd_need (and_l hn) (cnd_of (fun h0 => leaf_of (l := (((o140c108_0 na0 da0 da1c0 (↑na0 : Int) 0).getD default).snd.fst)) (condT h0 rfl) rfl) (fun h0 => leaf_of (l := (-1)) (condF h0 rfl) rfl)))
theorem k140c108 : CtrOk Try.prog c140c108 140 := ctr_of (tabOk_cons k108 tabOk_nil) mix_ok 8 (fn := Try.f140) (c := (Try.f140.body.getD .skip)) (grs := []) (rh := .k) (Λ := (lamOf [(0, g140c108_0)])) Try.func140 rfl (by kernel_rfl) (lam_of rfl (lams_cons z140c108_0 lams_nil)) fun vs bs q h hn => by
  unfold g140c108 at h
  split at h <;> cases h
  exact ⟨_, rfl, p140c108 _ _ _ (hn _ (List.mem_singleton.2 rfl))⟩
/-! ### slices.IndexFunc[[]int,int] -/
/-! #### loop 0 -/
def l141c111_0 (t0_0 : Nat) (t0_1 : Dat) (t7 : Int) : Nat → Int → Option (Bool × (Int) × (Unit))
  | 0, _ => none
  | f + 1, t8 => (cond ((decide (t8 < t7))) (cond ((decide (0 ≤ t8 ∧ t8 < (↑t0_0 : Int)))) (cond ((m111 (t0_1.ii t8.toNat 0))) (some (true, t8, default)) (l141c111_0 t0_0 t0_1 t7 f (IntKind.i64.wrap (t8 + 1)))) none) (some (false, default, ())))
abbrev o141c111_0 (t0_0 : Nat) (t0_1 : Dat) (t7 : Int) (t8 : Int) : Option (Bool × (Int) × (Unit)) := l141c111_0 t0_0 t0_1 t7 (t0_0 + t7.toNat + t8.toNat + 8) t8
def e141c111_0 (t0_0 : Nat) (t0_1 : Dat) (t7 : Int) (r : Bool × (Int) × (Unit)) (K : XR) : Prop := cnd r.1 (K (XE.ret) [.int .i64 r.2.1] []) (K (XE.exit 0) [.any] [])
def g141c111_0 : LSum := fun s k => match czv 0 19 [0, 1, 7, 8] 0 [] s with
  | some ([.ro [.int .i64] t0_0 t0_1, .fn 111 [], .int .i64 t7, .int .i64 t8], []) => needs [(o141c111_0 t0_0 t0_1 t7 t8).isSome] (e141c111_0 t0_0 t0_1 t7 ((o141c111_0 t0_0 t0_1 t7 t8).getD default) fun e vs bs => inBlk 0 k e (mkSt 0 19 [4] vs 0 bs))
  | _ => False
theorem y141c111_0 (t0_0 : Nat) (t0_1 : Dat) (t7 : Int) (t8 : Int) (R : XR) : exec Try.prog [(111, c111)] (fun _ => none) 8 (unloop (bodyAt (Try.f141.body.getD .skip) 0)) (mkSt 0 19 [0, 1, 7, 8] [.ro [.int .i64] t0_0 t0_1, .fn 111 [], .int .i64 t7, .int .i64 t8] 0 []) (canonK 0 19 [0, 1, 7, 8] [4] 0 [] R) =
  (cnd ((decide (t8 < t7)))
  (cnd ((decide (0 ≤ t8 ∧ t8 < (↑t0_0 : Int))))
   (cnd ((m111 (t0_1.ii t8.toNat 0)))
    (R (XE.ret) [.int .i64 t8] [])
    (R (XE.normal) [.ro [.int .i64] t0_0 t0_1, .fn 111 [], .int .i64 t7, .int .i64 (IntKind.i64.wrap (t8 + 1))] []))
   False)
  (R (XE.exit 0) [.any] [])) := by kernel_rfl
theorem z141c111_0 : LOk Try.prog g141c111_0 (.block 0 (bodyAt (Try.f141.body.getD .skip) 0)) := by
  refine loop_blk (ι := Nat × Dat × Int × Int) (L := [(111, c111)]) (Λ := (fun _ => none)) (fuel := 8) (na := 0) (nt := 19) (nx := 0) (Lh := [0, 1, 7, 8]) (Le := [4]) (gl := []) (tabOk_cons k111 tabOk_nil) mix_ok noLam rfl (fun f x K => GG default (e141c111_0 x.1 x.2.1 x.2.2.1) K (l141c111_0 x.1 x.2.1 x.2.2.1 f x.2.2.2)) (fun x => [.ro [.int .i64] x.1 x.2.1, .fn 111 [], .int .i64 x.2.2.1, .int .i64 x.2.2.2]) (fun x => []) (fun x K => gg_none) ?_ ?_
  · rintro f ⟨t0_0, t0_1, t7, t8⟩ K hG
    have hG : GG default (e141c111_0 t0_0 t0_1 t7) K (cond ((decide (t8 < t7))) (cond ((decide (0 ≤ t8 ∧ t8 < (↑t0_0 : Int)))) (cond ((m111 (t0_1.ii t8.toNat 0))) (some (true, t8, default)) (l141c111_0 t0_0 t0_1 t7 f (IntKind.i64.wrap (t8 + 1)))) none) (some (false, default, ()))) := hG
    refine propOf (y141c111_0 t0_0 t0_1 t7 t8 _) ?_
    exact cnd_gg2 hG (fun h0 => cnd_gg h0 fun h1 => cnd_gg2 h1 (fun h2 => h2.2) (fun h2 => ⟨(t0_0, t0_1, t7, (IntKind.i64.wrap (t8 + 1))), rfl, rfl, h2⟩)) (fun h0 => h0.2)
  · intro s k h
    unfold g141c111_0 at h
    split at h <;> try exact h.elim
    rename_i e1
    rw [needs_iff] at h
    exact ⟨_, e1, _, (_, _, _, _), rfl, rfl, h.1 _ (List.mem_singleton.2 rfl), h.2⟩
theorem x141c111 (na0 : Nat) (da0 : Dat) (R : SV → List Blk → List Blk → Prop) : exec Try.prog [(111, c111)] (lamOf [(0, g141c111_0)]) 8 (Try.f141.body.getD .skip) (initS Try.f141.ntmps [.ro [.int .i64] na0 da0, .fn 111 []] 0 (memOf [])) (retK Try.prog Try.f141.results.toList (outK 0 (List.range 0) [] (.k) fun v U N => R v U N)) =
  (cnd (((o141c111_0 na0 da0 (↑na0 : Int) 0).isSome))
  (cnd ((((o141c111_0 na0 da0 (↑na0 : Int) 0).getD default).fst))
   (R (.int .i64 (((o141c111_0 na0 da0 (↑na0 : Int) 0).getD default).snd.fst)) [] [])
   (R (.int .i64 (-1)) [] []))
  False) := by kernel_rfl
def m141c111 (na0 : Nat) (da0 : Dat) : Int :=
  (cond ((((o141c111_0 na0 da0 (↑na0 : Int) 0).getD default).fst)) (((o141c111_0 na0 da0 (↑na0 : Int) 0).getD default).snd.fst) (-1))
def n141c111 (na0 : Nat) (da0 : Dat) : Bool :=
  ((((o141c111_0 na0 da0 (↑na0 : Int) 0).isSome)) && true)
def q141c111 (r : Int) : SV × List Blk × List Blk := (.int .i64 r, [], [])
def g141c111 : List SV → List Blk → Option OpRes := fun vs bs => match vs, bs with
  | [.ro [.int .i64] na0 da0, .fn 111 []], [] => some (resOf 0 (q141c111 (m141c111 na0 da0)) [n141c111 na0 da0])
  | _, _ => none
def c141c111 : Ctr := genC [.ro [.int .i64], .f []] g141c111
theorem p141c111 (na0 : Nat) (da0 : Dat) (hn : n141c111 na0 da0 = true) : exec Try.prog [(111, c111)] (lamOf [(0, g141c111_0)]) 8 (Try.f141.body.getD .skip) (initS Try.f141.ntmps [.ro [.int .i64] na0 da0, .fn 111 []] 0 (memOf [])) (retK Try.prog Try.f141.results.toList (outK 0 (List.range 0) [] (.k) fun v U N => (v, U, N) = (q141c111 (m141c111 na0 da0)))) :=
  propOf (x141c111 na0 da0 _) (cnd_need (and_l hn) (cnd_of (fun h0 => leaf_of (l := (((o141c111_0 na0 da0 (↑na0 : Int) 0).getD default).snd.fst)) (condT h0 rfl) rfl) (fun h0 => leaf_of (l := (-1)) (condF h0 rfl) rfl)))
theorem k141c111 : CtrOk Try.prog c141c111 141 := ctr_of (tabOk_cons k111 tabOk_nil) mix_ok 8 (fn := Try.f141) (c := (Try.f141.body.getD .skip)) (grs := []) (rh := .k) (Λ := (lamOf [(0, g141c111_0)])) Try.func141 rfl (by kernel_rfl) (lam_of rfl (lams_cons z141c111_0 lams_nil)) fun vs bs q h hn => by
  unfold g141c111 at h
  split at h <;> cases h
  exact ⟨_, rfl, p141c111 _ _ (hn _ (List.mem_singleton.2 rfl))⟩
/-! ### slices.IndexFunc[[]int,int] -/
/-! #### loop 0 -/
def l141c131_0 (t0_0 : Nat) (t0_1 : Dat) (t7 : Int) : Nat → Int → Option (Bool × (Int) × (Unit))
  | 0, _ => none
  | f + 1, t8 => (cond ((decide (t8 < t7))) (cond ((decide (0 ≤ t8 ∧ t8 < (↑t0_0 : Int)))) (cond ((m131 (t0_1.ii t8.toNat 0))) (some (true, t8, default)) (l141c131_0 t0_0 t0_1 t7 f (IntKind.i64.wrap (t8 + 1)))) none) (some (false, default, ())))
abbrev o141c131_0 (t0_0 : Nat) (t0_1 : Dat) (t7 : Int) (t8 : Int) : Option (Bool × (Int) × (Unit)) := l141c131_0 t0_0 t0_1 t7 (t0_0 + t7.toNat + t8.toNat + 8) t8
def e141c131_0 (t0_0 : Nat) (t0_1 : Dat) (t7 : Int) (r : Bool × (Int) × (Unit)) (K : XR) : Prop := cnd r.1 (K (XE.ret) [.int .i64 r.2.1] []) (K (XE.exit 0) [.any] [])
def g141c131_0 : LSum := fun s k => match czv 0 19 [0, 1, 7, 8] 0 [] s with
  | some ([.ro [.int .i64] t0_0 t0_1, .fn 131 [], .int .i64 t7, .int .i64 t8], []) => needs [(o141c131_0 t0_0 t0_1 t7 t8).isSome] (e141c131_0 t0_0 t0_1 t7 ((o141c131_0 t0_0 t0_1 t7 t8).getD default) fun e vs bs => inBlk 0 k e (mkSt 0 19 [4] vs 0 bs))
  | _ => False
theorem y141c131_0 (t0_0 : Nat) (t0_1 : Dat) (t7 : Int) (t8 : Int) (R : XR) : exec Try.prog [(131, c131)] (fun _ => none) 8 (unloop (bodyAt (Try.f141.body.getD .skip) 0)) (mkSt 0 19 [0, 1, 7, 8] [.ro [.int .i64] t0_0 t0_1, .fn 131 [], .int .i64 t7, .int .i64 t8] 0 []) (canonK 0 19 [0, 1, 7, 8] [4] 0 [] R) =
  (cnd ((decide (t8 < t7)))
  (cnd ((decide (0 ≤ t8 ∧ t8 < (↑t0_0 : Int))))
   (cnd ((m131 (t0_1.ii t8.toNat 0)))
    (R (XE.ret) [.int .i64 t8] [])
    (R (XE.normal) [.ro [.int .i64] t0_0 t0_1, .fn 131 [], .int .i64 t7, .int .i64 (IntKind.i64.wrap (t8 + 1))] []))
   False)
  (R (XE.exit 0) [.any] [])) := by kernel_rfl
theorem z141c131_0 : LOk Try.prog g141c131_0 (.block 0 (bodyAt (Try.f141.body.getD .skip) 0)) := by
  refine loop_blk (ι := Nat × Dat × Int × Int) (L := [(131, c131)]) (Λ := (fun _ => none)) (fuel := 8) (na := 0) (nt := 19) (nx := 0) (Lh := [0, 1, 7, 8]) (Le := [4]) (gl := []) (tabOk_cons k131 tabOk_nil) mix_ok noLam rfl (fun f x K => GG default (e141c131_0 x.1 x.2.1 x.2.2.1) K (l141c131_0 x.1 x.2.1 x.2.2.1 f x.2.2.2)) (fun x => [.ro [.int .i64] x.1 x.2.1, .fn 131 [], .int .i64 x.2.2.1, .int .i64 x.2.2.2]) (fun x => []) (fun x K => gg_none) ?_ ?_
  · rintro f ⟨t0_0, t0_1, t7, t8⟩ K hG
    have hG : GG default (e141c131_0 t0_0 t0_1 t7) K (cond ((decide (t8 < t7))) (cond ((decide (0 ≤ t8 ∧ t8 < (↑t0_0 : Int)))) (cond ((m131 (t0_1.ii t8.toNat 0))) (some (true, t8, default)) (l141c131_0 t0_0 t0_1 t7 f (IntKind.i64.wrap (t8 + 1)))) none) (some (false, default, ()))) := hG
    refine propOf (y141c131_0 t0_0 t0_1 t7 t8 _) ?_
    exact cnd_gg2 hG (fun h0 => cnd_gg h0 fun h1 => cnd_gg2 h1 (fun h2 => h2.2) (fun h2 => ⟨(t0_0, t0_1, t7, (IntKind.i64.wrap (t8 + 1))), rfl, rfl, h2⟩)) (fun h0 => h0.2)
  · intro s k h
    unfold g141c131_0 at h
    split at h <;> try exact h.elim
    rename_i e1
    rw [needs_iff] at h
    exact ⟨_, e1, _, (_, _, _, _), rfl, rfl, h.1 _ (List.mem_singleton.2 rfl), h.2⟩
theorem x141c131 (na0 : Nat) (da0 : Dat) (R : SV → List Blk → List Blk → Prop) : exec Try.prog [(131, c131)] (lamOf [(0, g141c131_0)]) 8 (Try.f141.body.getD .skip) (initS Try.f141.ntmps [.ro [.int .i64] na0 da0, .fn 131 []] 0 (memOf [])) (retK Try.prog Try.f141.results.toList (outK 0 (List.range 0) [] (.k) fun v U N => R v U N)) =
  (cnd (((o141c131_0 na0 da0 (↑na0 : Int) 0).isSome))
  (cnd ((((o141c131_0 na0 da0 (↑na0 : Int) 0).getD default).fst))
   (R (.int .i64 (((o141c131_0 na0 da0 (↑na0 : Int) 0).getD default).snd.fst)) [] [])
   (R (.int .i64 (-1)) [] []))
  False) := by kernel_rfl
def m141c131 (na0 : Nat) (da0 : Dat) : Int :=
  (cond ((((o141c131_0 na0 da0 (↑na0 : Int) 0).getD default).fst)) (((o141c131_0 na0 da0 (↑na0 : Int) 0).getD default).snd.fst) (-1))
def n141c131 (na0 : Nat) (da0 : Dat) : Bool :=
  ((((o141c131_0 na0 da0 (↑na0 : Int) 0).isSome)) && true)
def q141c131 (r : Int) : SV × List Blk × List Blk := (.int .i64 r, [], [])
def g141c131 : List SV → List Blk → Option OpRes := fun vs bs => match vs, bs with
  | [.ro [.int .i64] na0 da0, .fn 131 []], [] => some (resOf 0 (q141c131 (m141c131 na0 da0)) [n141c131 na0 da0])
  | _, _ => none
def c141c131 : Ctr := genC [.ro [.int .i64], .f []] g141c131
theorem p141c131 (na0 : Nat) (da0 : Dat) (hn : n141c131 na0 da0 = true) : exec Try.prog [(131, c131)] (lamOf [(0, g141c131_0)]) 8 (Try.f141.body.getD .skip) (initS Try.f141.ntmps [.ro [.int .i64] na0 da0, .fn 131 []] 0 (memOf [])) (retK Try.prog Try.f141.results.toList (outK 0 (List.range 0) [] (.k) fun v U N => (v, U, N) = (q141c131 (m141c131 na0 da0)))) :=
  propOf (x141c131 na0 da0 _) (cnd_need (and_l hn) (cnd_of (fun h0 => leaf_of (l := (((o141c131_0 na0 da0 (↑na0 : Int) 0).getD default).snd.fst)) (condT h0 rfl) rfl) (fun h0 => leaf_of (l := (-1)) (condF h0 rfl) rfl)))
theorem k141c131 : CtrOk Try.prog c141c131 141 := ctr_of (tabOk_cons k131 tabOk_nil) mix_ok 8 (fn := Try.f141) (c := (Try.f141.body.getD .skip)) (grs := []) (rh := .k) (Λ := (lamOf [(0, g141c131_0)])) Try.func141 rfl (by kernel_rfl) (lam_of rfl (lams_cons z141c131_0 lams_nil)) fun vs bs q h hn => by
  unfold g141c131 at h
  split at h <;> cases h
  exact ⟨_, rfl, p141c131 _ _ (hn _ (List.mem_singleton.2 rfl))⟩
/-! ### slices.IndexFunc[[]shotline/api.MixVessel,shotline/api.MixVessel] -/
/-! #### loop 0 -/
def l115c116_0 (t0_0 : Nat) (t0_1 : Dat) (t1 : Dat) (t7 : Int) : Nat → Int → Option (Bool × (Int) × (Unit))
  | 0, _ => none
  | f + 1, t8 => (cond ((decide (t8 < t7))) (cond ((decide (0 ≤ t8 ∧ t8 < (↑t0_0 : Int)))) (cond ((m116 (t0_1.ss t8.toNat 0) (t0_1.ii t8.toNat (0 + 1)) (t0_1.ii t8.toNat (0 + 1 + 1)) t1)) (some (true, t8, default)) (l115c116_0 t0_0 t0_1 t1 t7 f (IntKind.i64.wrap (t8 + 1)))) none) (some (false, default, ())))
abbrev o115c116_0 (t0_0 : Nat) (t0_1 : Dat) (t1 : Dat) (t7 : Int) (t8 : Int) : Option (Bool × (Int) × (Unit)) := l115c116_0 t0_0 t0_1 t1 t7 (t0_0 + t7.toNat + t8.toNat + 8) t8
def e115c116_0 (t0_0 : Nat) (t0_1 : Dat) (t1 : Dat) (t7 : Int) (r : Bool × (Int) × (Unit)) (K : XR) : Prop := cnd r.1 (K (XE.ret) [.int .i64 r.2.1] []) (K (XE.exit 0) [.any] [])
def g115c116_0 : LSum := fun s k => match czv 0 19 [0, 1, 7, 8] 0 [] s with
  | some ([.ro [.str, .int .i64, .int .i64] t0_0 t0_1, .fn 116 [.rp [.str] t1 0 0], .int .i64 t7, .int .i64 t8], []) => needs [(o115c116_0 t0_0 t0_1 t1 t7 t8).isSome] (e115c116_0 t0_0 t0_1 t1 t7 ((o115c116_0 t0_0 t0_1 t1 t7 t8).getD default) fun e vs bs => inBlk 0 k e (mkSt 0 19 [4] vs 0 bs))
  | _ => False
theorem y115c116_0 (t0_0 : Nat) (t0_1 : Dat) (t1 : Dat) (t7 : Int) (t8 : Int) (R : XR) : exec Try.prog [(116, c116)] (fun _ => none) 8 (unloop (bodyAt (Try.f115.body.getD .skip) 0)) (mkSt 0 19 [0, 1, 7, 8] [.ro [.str, .int .i64, .int .i64] t0_0 t0_1, .fn 116 [.rp [.str] t1 0 0], .int .i64 t7, .int .i64 t8] 0 []) (canonK 0 19 [0, 1, 7, 8] [4] 0 [] R) =
  (cnd ((decide (t8 < t7)))
  (cnd ((decide (0 ≤ t8 ∧ t8 < (↑t0_0 : Int))))
   (cnd ((m116 (t0_1.ss t8.toNat 0) (t0_1.ii t8.toNat (0 + 1)) (t0_1.ii t8.toNat (0 + 1 + 1)) t1))
    (R (XE.ret) [.int .i64 t8] [])
    (R (XE.normal) [.ro [.str, .int .i64, .int .i64] t0_0 t0_1, .fn 116 [.rp [.str] t1 0 0], .int .i64 t7, .int .i64 (IntKind.i64.wrap (t8 + 1))] []))
   False)
  (R (XE.exit 0) [.any] [])) := by kernel_rfl
theorem z115c116_0 : LOk Try.prog g115c116_0 (.block 0 (bodyAt (Try.f115.body.getD .skip) 0)) := by
  refine loop_blk (ι := Nat × Dat × Dat × Int × Int) (L := [(116, c116)]) (Λ := (fun _ => none)) (fuel := 8) (na := 0) (nt := 19) (nx := 0) (Lh := [0, 1, 7, 8]) (Le := [4]) (gl := []) (tabOk_cons k116 tabOk_nil) mix_ok noLam rfl (fun f x K => GG default (e115c116_0 x.1 x.2.1 x.2.2.1 x.2.2.2.1) K (l115c116_0 x.1 x.2.1 x.2.2.1 x.2.2.2.1 f x.2.2.2.2)) (fun x => [.ro [.str, .int .i64, .int .i64] x.1 x.2.1, .fn 116 [.rp [.str] x.2.2.1 0 0], .int .i64 x.2.2.2.1, .int .i64 x.2.2.2.2]) (fun x => []) (fun x K => gg_none) ?_ ?_
  · rintro f ⟨t0_0, t0_1, t1, t7, t8⟩ K hG
    have hG : GG default (e115c116_0 t0_0 t0_1 t1 t7) K (cond ((decide (t8 < t7))) (cond ((decide (0 ≤ t8 ∧ t8 < (↑t0_0 : Int)))) (cond ((m116 (t0_1.ss t8.toNat 0) (t0_1.ii t8.toNat (0 + 1)) (t0_1.ii t8.toNat (0 + 1 + 1)) t1)) (some (true, t8, default)) (l115c116_0 t0_0 t0_1 t1 t7 f (IntKind.i64.wrap (t8 + 1)))) none) (some (false, default, ()))) := hG
    refine propOf (y115c116_0 t0_0 t0_1 t1 t7 t8 _) ?_
    exact cnd_gg2 hG (fun h0 => cnd_gg h0 fun h1 => cnd_gg2 h1 (fun h2 => h2.2) (fun h2 => ⟨(t0_0, t0_1, t1, t7, (IntKind.i64.wrap (t8 + 1))), rfl, rfl, h2⟩)) (fun h0 => h0.2)
  · intro s k h
    unfold g115c116_0 at h
    split at h <;> try exact h.elim
    rename_i e1
    rw [needs_iff] at h
    exact ⟨_, e1, _, (_, _, _, _, _), rfl, rfl, h.1 _ (List.mem_singleton.2 rfl), h.2⟩
theorem x115c116 (na0 : Nat) (da0 : Dat) (da1c0 : Dat) (R : SV → List Blk → List Blk → Prop) : exec Try.prog [(116, c116)] (lamOf [(0, g115c116_0)]) 8 (Try.f115.body.getD .skip) (initS Try.f115.ntmps [.ro [.str, .int .i64, .int .i64] na0 da0, .fn 116 [.rp [.str] da1c0 0 0]] 0 (memOf [])) (retK Try.prog Try.f115.results.toList (outK 0 (List.range 0) [] (.k) fun v U N => R v U N)) =
  (cnd (((o115c116_0 na0 da0 da1c0 (↑na0 : Int) 0).isSome))
  (cnd ((((o115c116_0 na0 da0 da1c0 (↑na0 : Int) 0).getD default).fst))
   (R (.int .i64 (((o115c116_0 na0 da0 da1c0 (↑na0 : Int) 0).getD default).snd.fst)) [] [])
   (R (.int .i64 (-1)) [] []))
  False) := by kernel_rfl
def m115c116 (na0 : Nat) (da0 : Dat) (da1c0 : Dat) : Int :=
  (cond ((((o115c116_0 na0 da0 da1c0 (↑na0 : Int) 0).getD default).fst)) (((o115c116_0 na0 da0 da1c0 (↑na0 : Int) 0).getD default).snd.fst) (-1))
def n115c116 (na0 : Nat) (da0 : Dat) (da1c0 : Dat) : Bool :=
  ((((o115c116_0 na0 da0 da1c0 (↑na0 : Int) 0).isSome)) && true)
def q115c116 (r : Int) : SV × List Blk × List Blk := (.int .i64 r, [], [])
def g115c116 : List SV → List Blk → Option OpRes := fun vs bs => match vs, bs with
  | [.ro [.str, .int .i64, .int .i64] na0 da0, .fn 116 [.rp [.str] da1c0 0 0]], [] => some (resOf 0 (q115c116 (m115c116 na0 da0 da1c0)) [n115c116 na0 da0 da1c0])
  | _, _ => none
def c115c116 : Ctr := genC [.ro [.str, .int .i64, .int .i64], .f [.rp [.str]]] g115c116
theorem p115c116 (na0 : Nat) (da0 : Dat) (da1c0 : Dat) (hn : n115c116 na0 da0 da1c0 = true) : exec Try.prog [(116, c116)] (lamOf [(0, g115c116_0)]) 8 (Try.f115.body.getD .skip) (initS Try.f115.ntmps [.ro [.str, .int .i64, .int .i64] na0 da0, .fn 116 [.rp [.str] da1c0 0 0]] 0 (memOf [])) (retK Try.prog Try.f115.results.toList (outK 0 (List.range 0) [] (.k) fun v U N => (v, U, N) = (q115c116 (m115c116 na0 da0 da1c0)))) :=
  propOf (x115c116 na0 da0 da1c0 _) (cnd_need (and_l hn) (cnd_of (fun h0 => leaf_of (l := (((o115c116_0 na0 da0 da1c0 (↑na0 : Int) 0).getD default).snd.fst)) (condT h0 rfl) rfl) (fun h0 => leaf_of (l := (-1)) (condF h0 rfl) rfl)))
theorem k115c116 : CtrOk Try.prog c115c116 115 := ctr_of (tabOk_cons k116 tabOk_nil) mix_ok 8 (fn := Try.f115) (c := (Try.f115.body.getD .skip)) (grs := []) (rh := .k) (Λ := (lamOf [(0, g115c116_0)])) Try.func115 rfl (by kernel_rfl) (lam_of rfl (lams_cons z115c116_0 lams_nil)) fun vs bs q h hn => by
  unfold g115c116 at h
  split at h <;> cases h
  exact ⟨_, rfl, p115c116 _ _ _ (hn _ (List.mem_singleton.2 rfl))⟩
/-! ### shotline/gas.CheckGas -/
theorem x81 (a0_0 : Int) (a0_1 : Int) (R : SV → List Blk → List Blk → Prop) : exec Try.prog [(117, c117), (118, c118)] (fun _ => none) 8 (Try.f81.body.getD .skip) (initS Try.f81.ntmps [.agg [.int .i64 a0_0, .int .i64 a0_1]] 0 (memOf [])) (retK Try.prog Try.f81.results.toList (outK 0 (List.range 0) [] (.k) fun v U N => R v U N)) =
  (cnd ((n117 2 (datS [SV.int IntKind.i64 (m118 a0_0 0 1000), SV.int IntKind.i64 (m118 a0_1 0 1000)] 1)))
  (cnd ((bif (decide (m117 2 (datS [SV.int IntKind.i64 (m118 a0_0 0 1000), SV.int IntKind.i64 (m118 a0_1 0 1000)] 1) = 0)) then false else true))
   (R (.int .i64 (m117 2 (datS [SV.int IntKind.i64 (m118 a0_0 0 1000), SV.int IntKind.i64 (m118 a0_1 0 1000)] 1))) [] [])
   (cnd ((decide (1000 < IntKind.i64.wrap (a0_0 + a0_1))))
    (R (.int .i64 23) [] [])
    (R (.int .i64 0) [] [])))
  False) := by kernel_rfl
def m81 (a0_0 : Int) (a0_1 : Int) : Int :=
  (cond ((bif (decide (m117 2 (datS [SV.int IntKind.i64 (m118 a0_0 0 1000), SV.int IntKind.i64 (m118 a0_1 0 1000)] 1) = 0)) then false else true)) (m117 2 (datS [SV.int IntKind.i64 (m118 a0_0 0 1000), SV.int IntKind.i64 (m118 a0_1 0 1000)] 1)) (cond ((decide (1000 < IntKind.i64.wrap (a0_0 + a0_1)))) 23 0))
def n81 (a0_0 : Int) (a0_1 : Int) : Bool :=
  (((n117 2 (datS [SV.int IntKind.i64 (m118 a0_0 0 1000), SV.int IntKind.i64 (m118 a0_1 0 1000)] 1))) && true)
def q81 (r : Int) : SV × List Blk × List Blk := (.int .i64 r, [], [])
def g81 : List SV → List Blk → Option OpRes := fun vs bs => match vs, bs with
  | [.agg [.int .i64 a0_0, .int .i64 a0_1]], [] => some (resOf 0 (q81 (m81 a0_0 a0_1)) [n81 a0_0 a0_1])
  | _, _ => none
def c81 : Ctr := genC [.k] g81
theorem p81 (a0_0 : Int) (a0_1 : Int) (hn : n81 a0_0 a0_1 = true) : exec Try.prog [(117, c117), (118, c118)] (fun _ => none) 8 (Try.f81.body.getD .skip) (initS Try.f81.ntmps [.agg [.int .i64 a0_0, .int .i64 a0_1]] 0 (memOf [])) (retK Try.prog Try.f81.results.toList (outK 0 (List.range 0) [] (.k) fun v U N => (v, U, N) = (q81 (m81 a0_0 a0_1)))) :=
  propOf (x81 a0_0 a0_1 _) (cnd_need (and_l hn) (cnd_of (fun h0 => leaf_of (l := (m117 2 (datS [SV.int IntKind.i64 (m118 a0_0 0 1000), SV.int IntKind.i64 (m118 a0_1 0 1000)] 1))) (condT h0 rfl) rfl) (fun h0 => cnd_of (fun h1 => leaf_of (l := 23) (condF h0 (condT h1 rfl)) rfl) (fun h1 => leaf_of (l := 0) (condF h0 (condF h1 rfl)) rfl))))
theorem k81 : CtrOk Try.prog c81 81 := ctr_of (tabOk_cons k117 (tabOk_cons k118 tabOk_nil)) mix_ok 8 (fn := Try.f81) (c := (Try.f81.body.getD .skip)) (grs := []) (rh := .k) (Λ := (fun _ => none)) Try.func81 rfl (by kernel_rfl) noLam fun vs bs q h hn => by
  unfold g81 at h
  split at h <;> cases h
  exact ⟨_, rfl, p81 _ _ (hn _ (List.mem_singleton.2 rfl))⟩
/-! ### shotline/shotlineref06.CheckWeights -/
/-! #### loop 0 -/
def l101_0 (b0_0 : Int) (b0_1 : Int) (b0_2 : Int) (b0_3 : Int) (b0_4 : Int) (b0_5 : Int) (b1_0 : Dat) : Nat → Int → Option (Bool × (Int) × (Unit))
  | 0, _ => none
  | f + 1, t4 => (cond ((decide (t4 < (↑4 : Int)))) (cond ((decide (0 ≤ t4 ∧ t4 < (↑4 : Int)))) (cond ((decide (t4.toNat < 4))) (cond ((bif (m18 (b1_0.ii t4.toNat 0) 0 10000000) then false else true)) (some (true, 2, default)) (l101_0 b0_0 b0_1 b0_2 b0_3 b0_4 b0_5 b1_0 f (IntKind.i64.wrap (t4 + 1)))) none) none) (some (false, default, ())))
abbrev o101_0 (b0_0 : Int) (b0_1 : Int) (b0_2 : Int) (b0_3 : Int) (b0_4 : Int) (b0_5 : Int) (b1_0 : Dat) (t4 : Int) : Option (Bool × (Int) × (Unit)) := l101_0 b0_0 b0_1 b0_2 b0_3 b0_4 b0_5 b1_0 (t4.toNat + b0_0.toNat + b0_1.toNat + b0_2.toNat + b0_3.toNat + b0_4.toNat + b0_5.toNat + 8) t4
def e101_0 (b0_0 : Int) (b0_1 : Int) (b0_2 : Int) (b0_3 : Int) (b0_4 : Int) (b0_5 : Int) (b1_0 : Dat) (r : Bool × (Int) × (Unit)) (K : XR) : Prop := cnd r.1 (K (XE.ret) [.int .i64 r.2.1] [.cells 112 [.int .i64 b0_0, .int .i64 b0_1, .int .i64 b0_2, .int .i64 b0_3, .int .i64 b0_4, .int .i64 b0_5], .row 3 [.int .i64] 4 b1_0]) (K (XE.exit 0) [.any] [.cells 112 [.int .i64 b0_0, .int .i64 b0_1, .int .i64 b0_2, .int .i64 b0_3, .int .i64 b0_4, .int .i64 b0_5], .row 3 [.int .i64] 4 b1_0])
def g101_0 : LSum := fun s k => match czv 0 36 [3, 4] 2 [] s with
  | some ([.own 1 1 4, .int .i64 t4], [.cells 112 [.int .i64 b0_0, .int .i64 b0_1, .int .i64 b0_2, .int .i64 b0_3, .int .i64 b0_4, .int .i64 b0_5], .row 3 [.int .i64] 4 b1_0]) => needs [(o101_0 b0_0 b0_1 b0_2 b0_3 b0_4 b0_5 b1_0 t4).isSome] (e101_0 b0_0 b0_1 b0_2 b0_3 b0_4 b0_5 b1_0 ((o101_0 b0_0 b0_1 b0_2 b0_3 b0_4 b0_5 b1_0 t4).getD default) fun e vs bs => inBlk 0 k e (mkSt 0 36 [2] vs 2 bs))
  | _ => False
theorem y101_0 (t4 : Int) (b0_0 : Int) (b0_1 : Int) (b0_2 : Int) (b0_3 : Int) (b0_4 : Int) (b0_5 : Int) (b1_0 : Dat) (R : XR) : exec Try.prog [(18, c18)] (fun _ => none) 8 (unloop (bodyAt (Try.f101.body.getD .skip) 0)) (mkSt 0 36 [3, 4] [.own 1 1 4, .int .i64 t4] 2 [.cells 112 [.int .i64 b0_0, .int .i64 b0_1, .int .i64 b0_2, .int .i64 b0_3, .int .i64 b0_4, .int .i64 b0_5], .row 3 [.int .i64] 4 b1_0]) (canonK 0 36 [3, 4] [2] 2 [] R) =
  (cnd ((decide (t4 < (↑4 : Int))))
  (cnd ((decide (0 ≤ t4 ∧ t4 < (↑4 : Int))))
   (cnd ((decide (t4.toNat < 4)))
    (cnd ((bif (m18 (b1_0.ii t4.toNat 0) 0 10000000) then false else true))
     (R (XE.ret) [.int .i64 2] [.cells 112 [.int .i64 b0_0, .int .i64 b0_1, .int .i64 b0_2, .int .i64 b0_3, .int .i64 b0_4, .int .i64 b0_5], .row 3 [.int .i64] 4 b1_0])
     (R (XE.normal) [.own 1 1 4, .int .i64 (IntKind.i64.wrap (t4 + 1))] [.cells 112 [.int .i64 b0_0, .int .i64 b0_1, .int .i64 b0_2, .int .i64 b0_3, .int .i64 b0_4, .int .i64 b0_5], .row 3 [.int .i64] 4 b1_0]))
    False)
   False)
  (R (XE.exit 0) [.any] [.cells 112 [.int .i64 b0_0, .int .i64 b0_1, .int .i64 b0_2, .int .i64 b0_3, .int .i64 b0_4, .int .i64 b0_5], .row 3 [.int .i64] 4 b1_0])) := by kernel_rfl
theorem z101_0 : LOk Try.prog g101_0 (.block 0 (bodyAt (Try.f101.body.getD .skip) 0)) := by
  refine loop_blk (ι := Int × Int × Int × Int × Int × Int × Int × Dat) (L := [(18, c18)]) (Λ := (fun _ => none)) (fuel := 8) (na := 0) (nt := 36) (nx := 2) (Lh := [3, 4]) (Le := [2]) (gl := []) (tabOk_cons k18 tabOk_nil) mix_ok noLam rfl (fun f x K => GG default (e101_0 x.2.1 x.2.2.1 x.2.2.2.1 x.2.2.2.2.1 x.2.2.2.2.2.1 x.2.2.2.2.2.2.1 x.2.2.2.2.2.2.2) K (l101_0 x.2.1 x.2.2.1 x.2.2.2.1 x.2.2.2.2.1 x.2.2.2.2.2.1 x.2.2.2.2.2.2.1 x.2.2.2.2.2.2.2 f x.1)) (fun x => [.own 1 1 4, .int .i64 x.1]) (fun x => [.cells 112 [.int .i64 x.2.1, .int .i64 x.2.2.1, .int .i64 x.2.2.2.1, .int .i64 x.2.2.2.2.1, .int .i64 x.2.2.2.2.2.1, .int .i64 x.2.2.2.2.2.2.1], .row 3 [.int .i64] 4 x.2.2.2.2.2.2.2]) (fun x K => gg_none) ?_ ?_
  · rintro f ⟨t4, b0_0, b0_1, b0_2, b0_3, b0_4, b0_5, b1_0⟩ K hG
    have hG : GG default (e101_0 b0_0 b0_1 b0_2 b0_3 b0_4 b0_5 b1_0) K (cond ((decide (t4 < (↑4 : Int)))) (cond ((decide (0 ≤ t4 ∧ t4 < (↑4 : Int)))) (cond ((decide (t4.toNat < 4))) (cond ((bif (m18 (b1_0.ii t4.toNat 0) 0 10000000) then false else true)) (some (true, 2, default)) (l101_0 b0_0 b0_1 b0_2 b0_3 b0_4 b0_5 b1_0 f (IntKind.i64.wrap (t4 + 1)))) none) none) (some (false, default, ()))) := hG
    refine propOf (y101_0 t4 b0_0 b0_1 b0_2 b0_3 b0_4 b0_5 b1_0 _) ?_
    exact cnd_gg2 hG (fun h0 => cnd_gg h0 fun h1 => cnd_gg h1 fun h2 => cnd_gg2 h2 (fun h3 => h3.2) (fun h3 => ⟨((IntKind.i64.wrap (t4 + 1)), b0_0, b0_1, b0_2, b0_3, b0_4, b0_5, b1_0), rfl, rfl, h3⟩)) (fun h0 => h0.2)
  · intro s k h
    unfold g101_0 at h
    split at h <;> try exact h.elim
    rename_i e1
    rw [needs_iff] at h
    exact ⟨_, e1, _, (_, _, _, _, _, _, _, _), rfl, rfl, h.1 _ (List.mem_singleton.2 rfl), h.2⟩
theorem x101 (a0_0 : Int) (a0_1 : Int) (a0_2 : Int) (a0_3 : Int) (a0_4 : Int) (a0_5 : Int) (R : SV → List Blk → List Blk → Prop) : exec Try.prog [(18, c18)] (lamOf [(0, g101_0)]) 8 (Try.f101.body.getD .skip) (initS Try.f101.ntmps [.agg [.int .i64 a0_0, .int .i64 a0_1, .int .i64 a0_2, .int .i64 a0_3, .int .i64 a0_4, .int .i64 a0_5]] 0 (memOf [])) (retK Try.prog Try.f101.results.toList (outK 0 (List.range 0) [] (.k) fun v U N => R v U N)) =
  (cnd ((bif (bif (m18 a0_5 1 1000000) then false else true) then true else (bif (m18 a0_0 (-10000000000) 10000000000) then false else true)))
  (R (.int .i64 2) [] [])
  (cnd (((o101_0 a0_0 a0_1 a0_2 a0_3 a0_4 a0_5 (datS [SV.int IntKind.i64 a0_1, SV.int IntKind.i64 a0_2, SV.int IntKind.i64 a0_3, SV.int IntKind.i64 a0_4] 1) 0).isSome))
   (cnd ((((o101_0 a0_0 a0_1 a0_2 a0_3 a0_4 a0_5 (datS [SV.int IntKind.i64 a0_1, SV.int IntKind.i64 a0_2, SV.int IntKind.i64 a0_3, SV.int IntKind.i64 a0_4] 1) 0).getD default).fst))
    (R (.int .i64 (((o101_0 a0_0 a0_1 a0_2 a0_3 a0_4 a0_5 (datS [SV.int IntKind.i64 a0_1, SV.int IntKind.i64 a0_2, SV.int IntKind.i64 a0_3, SV.int IntKind.i64 a0_4] 1) 0).getD default).snd.fst)) [] [])
    (R (.int .i64 0) [] []))
   False)) := by kernel_rfl
def m101 (a0_0 : Int) (a0_1 : Int) (a0_2 : Int) (a0_3 : Int) (a0_4 : Int) (a0_5 : Int) : Int :=
  (cond ((bif (bif (m18 a0_5 1 1000000) then false else true) then true else (bif (m18 a0_0 (-10000000000) 10000000000) then false else true))) 2 (cond ((((o101_0 a0_0 a0_1 a0_2 a0_3 a0_4 a0_5 (datS [SV.int IntKind.i64 a0_1, SV.int IntKind.i64 a0_2, SV.int IntKind.i64 a0_3, SV.int IntKind.i64 a0_4] 1) 0).getD default).fst)) (((o101_0 a0_0 a0_1 a0_2 a0_3 a0_4 a0_5 (datS [SV.int IntKind.i64 a0_1, SV.int IntKind.i64 a0_2, SV.int IntKind.i64 a0_3, SV.int IntKind.i64 a0_4] 1) 0).getD default).snd.fst) 0))
def n101 (a0_0 : Int) (a0_1 : Int) (a0_2 : Int) (a0_3 : Int) (a0_4 : Int) (a0_5 : Int) : Bool :=
  (cond ((bif (bif (m18 a0_5 1 1000000) then false else true) then true else (bif (m18 a0_0 (-10000000000) 10000000000) then false else true))) true ((((o101_0 a0_0 a0_1 a0_2 a0_3 a0_4 a0_5 (datS [SV.int IntKind.i64 a0_1, SV.int IntKind.i64 a0_2, SV.int IntKind.i64 a0_3, SV.int IntKind.i64 a0_4] 1) 0).isSome)) && true))
def q101 (r : Int) : SV × List Blk × List Blk := (.int .i64 r, [], [])
def g101 : List SV → List Blk → Option OpRes := fun vs bs => match vs, bs with
  | [.agg [.int .i64 a0_0, .int .i64 a0_1, .int .i64 a0_2, .int .i64 a0_3, .int .i64 a0_4, .int .i64 a0_5]], [] => some (resOf 0 (q101 (m101 a0_0 a0_1 a0_2 a0_3 a0_4 a0_5)) [n101 a0_0 a0_1 a0_2 a0_3 a0_4 a0_5])
  | _, _ => none
def c101 : Ctr := genC [.k] g101
theorem p101 (a0_0 : Int) (a0_1 : Int) (a0_2 : Int) (a0_3 : Int) (a0_4 : Int) (a0_5 : Int) (hn : n101 a0_0 a0_1 a0_2 a0_3 a0_4 a0_5 = true) : exec Try.prog [(18, c18)] (lamOf [(0, g101_0)]) 8 (Try.f101.body.getD .skip) (initS Try.f101.ntmps [.agg [.int .i64 a0_0, .int .i64 a0_1, .int .i64 a0_2, .int .i64 a0_3, .int .i64 a0_4, .int .i64 a0_5]] 0 (memOf [])) (retK Try.prog Try.f101.results.toList (outK 0 (List.range 0) [] (.k) fun v U N => (v, U, N) = (q101 (m101 a0_0 a0_1 a0_2 a0_3 a0_4 a0_5)))) :=
  propOf (x101 a0_0 a0_1 a0_2 a0_3 a0_4 a0_5 _) (cnd_of (fun h0 => leaf_of (l := 2) (condT h0 rfl) rfl) (fun h0 => cnd_need (and_l (cond_f h0 hn)) (cnd_of (fun h1 => leaf_of (l := (((o101_0 a0_0 a0_1 a0_2 a0_3 a0_4 a0_5 (datS [SV.int IntKind.i64 a0_1, SV.int IntKind.i64 a0_2, SV.int IntKind.i64 a0_3, SV.int IntKind.i64 a0_4] 1) 0).getD default).snd.fst)) (condF h0 (condT h1 rfl)) rfl) (fun h1 => leaf_of (l := 0) (condF h0 (condF h1 rfl)) rfl))))
theorem k101 : CtrOk Try.prog c101 101 := ctr_of (tabOk_cons k18 tabOk_nil) mix_ok 8 (fn := Try.f101) (c := (Try.f101.body.getD .skip)) (grs := []) (rh := .k) (Λ := (lamOf [(0, g101_0)])) Try.func101 rfl (by kernel_rfl) (lam_of rfl (lams_cons z101_0 lams_nil)) fun vs bs q h hn => by
  unfold g101 at h
  split at h <;> cases h
  exact ⟨_, rfl, p101 _ _ _ _ _ _ (hn _ (List.mem_singleton.2 rfl))⟩
/-! ### (*shotline/mix.store).above -/
theorem x122 (da0 : Dat) (a1 : Int) (a2 : Int) (a3 : Int) (a4 : Int) (R : SV → List Blk → List Blk → Prop) : exec Try.prog [] (fun _ => none) 8 (Try.f122.body.getD .skip) (initS Try.f122.ntmps [.rp [.sl [.str, .int .i64, .int .i64], .sl [.int .i64, .int .i64, .int .i64], .int .i64, .int .i64, .int .i64, .int .i64, .int .i64, .int .i64, .int .i64] da0 0 0, .int .i64 a1, .int .i64 a2, .int .i64 a3, .int .i64 a4] 0 (memOf [])) (retK Try.prog Try.f122.results.toList (outK 0 (List.range 0) [] (.k) fun v U N => R v U N)) =
  (cnd ((decide (0 ≤ a3 ∧ a3 < (↑(da0.sn 0 0) : Int))))
  (cnd ((decide (0 ≤ a1 ∧ a1 < (↑(da0.sn 0 0) : Int))))
   (R (.bool (decide (IntKind.i64.wrap (a4 * (da0.sub 0 0).ii a1.toNat (0 + 1)) < IntKind.i64.wrap (a2 * (da0.sub 0 0).ii a3.toNat (0 + 1))))) [] [])
   False)
  False) := by kernel_rfl
def m122 (da0 : Dat) (a1 : Int) (a2 : Int) (a3 : Int) (a4 : Int) : Bool :=
  (decide (IntKind.i64.wrap (a4 * (da0.sub 0 0).ii a1.toNat (0 + 1)) < IntKind.i64.wrap (a2 * (da0.sub 0 0).ii a3.toNat (0 + 1))))
def n122 (da0 : Dat) (a1 : Int) (a2 : Int) (a3 : Int) (a4 : Int) : Bool :=
  (((decide (0 ≤ a3 ∧ a3 < (↑(da0.sn 0 0) : Int)))) && (((decide (0 ≤ a1 ∧ a1 < (↑(da0.sn 0 0) : Int)))) && true))
def q122 (r : Bool) : SV × List Blk × List Blk := (.bool r, [], [])
def g122 : List SV → List Blk → Option OpRes := fun vs bs => match vs, bs with
  | [.rp [.sl [.str, .int .i64, .int .i64], .sl [.int .i64, .int .i64, .int .i64], .int .i64, .int .i64, .int .i64, .int .i64, .int .i64, .int .i64, .int .i64] da0 0 0, .int .i64 a1, .int .i64 a2, .int .i64 a3, .int .i64 a4], [] => some (resOf 0 (q122 (m122 da0 a1 a2 a3 a4)) [n122 da0 a1 a2 a3 a4])
  | _, _ => none
def c122 : Ctr := genC [.rp [.sl [.str, .int .i64, .int .i64], .sl [.int .i64, .int .i64, .int .i64], .int .i64, .int .i64, .int .i64, .int .i64, .int .i64, .int .i64, .int .i64], .k, .k, .k, .k] g122
theorem p122 (da0 : Dat) (a1 : Int) (a2 : Int) (a3 : Int) (a4 : Int) (hn : n122 da0 a1 a2 a3 a4 = true) : exec Try.prog [] (fun _ => none) 8 (Try.f122.body.getD .skip) (initS Try.f122.ntmps [.rp [.sl [.str, .int .i64, .int .i64], .sl [.int .i64, .int .i64, .int .i64], .int .i64, .int .i64, .int .i64, .int .i64, .int .i64, .int .i64, .int .i64] da0 0 0, .int .i64 a1, .int .i64 a2, .int .i64 a3, .int .i64 a4] 0 (memOf [])) (retK Try.prog Try.f122.results.toList (outK 0 (List.range 0) [] (.k) fun v U N => (v, U, N) = (q122 (m122 da0 a1 a2 a3 a4)))) :=
  propOf (x122 da0 a1 a2 a3 a4 _) (cnd_need (and_l hn) (cnd_need (and_l (and_r hn)) (leaf_of (l := (decide (IntKind.i64.wrap (a4 * (da0.sub 0 0).ii a1.toNat (0 + 1)) < IntKind.i64.wrap (a2 * (da0.sub 0 0).ii a3.toNat (0 + 1))))) rfl rfl)))
theorem k122 : CtrOk Try.prog c122 122 := ctr_of tabOk_nil mix_ok 8 (fn := Try.f122) (c := (Try.f122.body.getD .skip)) (grs := []) (rh := .k) (Λ := (fun _ => none)) Try.func122 rfl (by kernel_rfl) noLam fun vs bs q h hn => by
  unfold g122 at h
  split at h <;> cases h
  exact ⟨_, rfl, p122 _ _ _ _ _ (hn _ (List.mem_singleton.2 rfl))⟩
/-! ### (shotline/mix.gases).share$1 -/
theorem x113 (a0 : Int) (a1 : Int) (da2 : Dat) (R : SV → List Blk → List Blk → Prop) : exec Try.prog [(114, c114)] (fun _ => none) 8 (Try.f113.body.getD .skip) (initS Try.f113.ntmps [.int .i64 a0, .int .i64 a1, .ra [.int .i64] 3 da2] 0 (memOf [])) (retK Try.prog Try.f113.results.toList (outK 0 (List.range 0) [] (.k) fun v U N => R v U N)) =
  (cnd ((decide (0 ≤ a1 ∧ a1 < (↑3 : Int))))
  (cnd ((decide (a1 < (↑3 : Int))))
   (cnd ((decide (0 ≤ a0 ∧ a0 < (↑3 : Int))))
    (cnd ((decide (a0 < (↑3 : Int))))
     (R (.int .i64 (m114 (da2.ii a1.toNat 0) (da2.ii a0.toNat 0))) [] [])
     False)
    False)
   False)
  False) := by kernel_rfl
def m113 (a0 : Int) (a1 : Int) (da2 : Dat) : Int :=
  (m114 (da2.ii a1.toNat 0) (da2.ii a0.toNat 0))
def n113 (a0 : Int) (a1 : Int) (da2 : Dat) : Bool :=
  (((decide (0 ≤ a1 ∧ a1 < (↑3 : Int)))) && (((decide (a1 < (↑3 : Int)))) && (((decide (0 ≤ a0 ∧ a0 < (↑3 : Int)))) && (((decide (a0 < (↑3 : Int)))) && true))))
def q113 (r : Int) : SV × List Blk × List Blk := (.int .i64 r, [], [])
def g113 : List SV → List Blk → Option OpRes := fun vs bs => match vs, bs with
  | [.int .i64 a0, .int .i64 a1, .ra [.int .i64] 3 da2], [] => some (resOf 0 (q113 (m113 a0 a1 da2)) [n113 a0 a1 da2])
  | _, _ => none
def c113 : Ctr := genC [.k, .k, .ra [.int .i64] 3] g113
theorem p113 (a0 : Int) (a1 : Int) (da2 : Dat) (hn : n113 a0 a1 da2 = true) : exec Try.prog [(114, c114)] (fun _ => none) 8 (Try.f113.body.getD .skip) (initS Try.f113.ntmps [.int .i64 a0, .int .i64 a1, .ra [.int .i64] 3 da2] 0 (memOf [])) (retK Try.prog Try.f113.results.toList (outK 0 (List.range 0) [] (.k) fun v U N => (v, U, N) = (q113 (m113 a0 a1 da2)))) :=
  propOf (x113 a0 a1 da2 _) (cnd_need (and_l hn) (cnd_need (and_l (and_r hn)) (cnd_need (and_l (and_r (and_r hn))) (cnd_need (and_l (and_r (and_r (and_r hn)))) (leaf_of (l := (m114 (da2.ii a1.toNat 0) (da2.ii a0.toNat 0))) rfl rfl)))))
theorem k113 : CtrOk Try.prog c113 113 := ctr_of (tabOk_cons k114 tabOk_nil) mix_ok 8 (fn := Try.f113) (c := (Try.f113.body.getD .skip)) (grs := []) (rh := .k) (Λ := (fun _ => none)) Try.func113 rfl (by kernel_rfl) noLam fun vs bs q h hn => by
  unfold g113 at h
  split at h <;> cases h
  exact ⟨_, rfl, p113 _ _ _ (hn _ (List.mem_singleton.2 rfl))⟩
/-! ### slices.ContainsFunc[[]shotline/api.MixSource,shotline/api.MixSource] -/
theorem x107c108 (na0 : Nat) (da0 : Dat) (da1c0 : Dat) (R : SV → List Blk → List Blk → Prop) : exec Try.prog [(108, c108), (140, c140c108)] (fun _ => none) 8 (Try.f107.body.getD .skip) (initS Try.f107.ntmps [.ro [.str, .int .i64, .int .i64, .int .i64, .int .i64] na0 da0, .fn 108 [.rp [.str, .int .i64, .int .i64, .int .i64, .int .i64] da1c0 0 0]] 0 (memOf [])) (retK Try.prog Try.f107.results.toList (outK 0 (List.range 0) [] (.k) fun v U N => R v U N)) =
  (cnd ((n140c108 na0 da0 da1c0))
  (R (.bool (decide (0 ≤ m140c108 na0 da0 da1c0))) [] [])
  False) := by kernel_rfl
def m107c108 (na0 : Nat) (da0 : Dat) (da1c0 : Dat) : Bool :=
  (decide (0 ≤ m140c108 na0 da0 da1c0))
def n107c108 (na0 : Nat) (da0 : Dat) (da1c0 : Dat) : Bool :=
  (((n140c108 na0 da0 da1c0)) && true)
def q107c108 (r : Bool) : SV × List Blk × List Blk := (.bool r, [], [])
def g107c108 : List SV → List Blk → Option OpRes := fun vs bs => match vs, bs with
  | [.ro [.str, .int .i64, .int .i64, .int .i64, .int .i64] na0 da0, .fn 108 [.rp [.str, .int .i64, .int .i64, .int .i64, .int .i64] da1c0 0 0]], [] => some (resOf 0 (q107c108 (m107c108 na0 da0 da1c0)) [n107c108 na0 da0 da1c0])
  | _, _ => none
def c107c108 : Ctr := genC [.ro [.str, .int .i64, .int .i64, .int .i64, .int .i64], .f [.rp [.str, .int .i64, .int .i64, .int .i64, .int .i64]]] g107c108
theorem p107c108 (na0 : Nat) (da0 : Dat) (da1c0 : Dat) (hn : n107c108 na0 da0 da1c0 = true) : exec Try.prog [(108, c108), (140, c140c108)] (fun _ => none) 8 (Try.f107.body.getD .skip) (initS Try.f107.ntmps [.ro [.str, .int .i64, .int .i64, .int .i64, .int .i64] na0 da0, .fn 108 [.rp [.str, .int .i64, .int .i64, .int .i64, .int .i64] da1c0 0 0]] 0 (memOf [])) (retK Try.prog Try.f107.results.toList (outK 0 (List.range 0) [] (.k) fun v U N => (v, U, N) = (q107c108 (m107c108 na0 da0 da1c0)))) :=
  propOf (x107c108 na0 da0 da1c0 _) (cnd_need (and_l hn) (leaf_of (l := (decide (0 ≤ m140c108 na0 da0 da1c0))) rfl rfl))
theorem k107c108 : CtrOk Try.prog c107c108 107 := ctr_of (tabOk_cons k108 (tabOk_cons k140c108 tabOk_nil)) mix_ok 8 (fn := Try.f107) (c := (Try.f107.body.getD .skip)) (grs := []) (rh := .k) (Λ := (fun _ => none)) Try.func107 rfl (by kernel_rfl) noLam fun vs bs q h hn => by
  unfold g107c108 at h
  split at h <;> cases h
  exact ⟨_, rfl, p107c108 _ _ _ (hn _ (List.mem_singleton.2 rfl))⟩
/-! ### slices.ContainsFunc[[]int,int] -/
theorem x110c111 (na0 : Nat) (da0 : Dat) (R : SV → List Blk → List Blk → Prop) : exec Try.prog [(111, c111), (141, c141c111)] (fun _ => none) 8 (Try.f110.body.getD .skip) (initS Try.f110.ntmps [.ro [.int .i64] na0 da0, .fn 111 []] 0 (memOf [])) (retK Try.prog Try.f110.results.toList (outK 0 (List.range 0) [] (.k) fun v U N => R v U N)) =
  (cnd ((n141c111 na0 da0))
  (R (.bool (decide (0 ≤ m141c111 na0 da0))) [] [])
  False) := by kernel_rfl
def m110c111 (na0 : Nat) (da0 : Dat) : Bool :=
  (decide (0 ≤ m141c111 na0 da0))
def n110c111 (na0 : Nat) (da0 : Dat) : Bool :=
  (((n141c111 na0 da0)) && true)
def q110c111 (r : Bool) : SV × List Blk × List Blk := (.bool r, [], [])
def g110c111 : List SV → List Blk → Option OpRes := fun vs bs => match vs, bs with
  | [.ro [.int .i64] na0 da0, .fn 111 []], [] => some (resOf 0 (q110c111 (m110c111 na0 da0)) [n110c111 na0 da0])
  | _, _ => none
def c110c111 : Ctr := genC [.ro [.int .i64], .f []] g110c111
theorem p110c111 (na0 : Nat) (da0 : Dat) (hn : n110c111 na0 da0 = true) : exec Try.prog [(111, c111), (141, c141c111)] (fun _ => none) 8 (Try.f110.body.getD .skip) (initS Try.f110.ntmps [.ro [.int .i64] na0 da0, .fn 111 []] 0 (memOf [])) (retK Try.prog Try.f110.results.toList (outK 0 (List.range 0) [] (.k) fun v U N => (v, U, N) = (q110c111 (m110c111 na0 da0)))) :=
  propOf (x110c111 na0 da0 _) (cnd_need (and_l hn) (leaf_of (l := (decide (0 ≤ m141c111 na0 da0))) rfl rfl))
theorem k110c111 : CtrOk Try.prog c110c111 110 := ctr_of (tabOk_cons k111 (tabOk_cons k141c111 tabOk_nil)) mix_ok 8 (fn := Try.f110) (c := (Try.f110.body.getD .skip)) (grs := []) (rh := .k) (Λ := (fun _ => none)) Try.func110 rfl (by kernel_rfl) noLam fun vs bs q h hn => by
  unfold g110c111 at h
  split at h <;> cases h
  exact ⟨_, rfl, p110c111 _ _ (hn _ (List.mem_singleton.2 rfl))⟩
/-! ### slices.ContainsFunc[[]int,int] -/
theorem x110c131 (na0 : Nat) (da0 : Dat) (R : SV → List Blk → List Blk → Prop) : exec Try.prog [(131, c131), (141, c141c131)] (fun _ => none) 8 (Try.f110.body.getD .skip) (initS Try.f110.ntmps [.ro [.int .i64] na0 da0, .fn 131 []] 0 (memOf [])) (retK Try.prog Try.f110.results.toList (outK 0 (List.range 0) [] (.k) fun v U N => R v U N)) =
  (cnd ((n141c131 na0 da0))
  (R (.bool (decide (0 ≤ m141c131 na0 da0))) [] [])
  False) := by kernel_rfl
def m110c131 (na0 : Nat) (da0 : Dat) : Bool :=
  (decide (0 ≤ m141c131 na0 da0))
def n110c131 (na0 : Nat) (da0 : Dat) : Bool :=
  (((n141c131 na0 da0)) && true)
def q110c131 (r : Bool) : SV × List Blk × List Blk := (.bool r, [], [])
def g110c131 : List SV → List Blk → Option OpRes := fun vs bs => match vs, bs with
  | [.ro [.int .i64] na0 da0, .fn 131 []], [] => some (resOf 0 (q110c131 (m110c131 na0 da0)) [n110c131 na0 da0])
  | _, _ => none
def c110c131 : Ctr := genC [.ro [.int .i64], .f []] g110c131
theorem p110c131 (na0 : Nat) (da0 : Dat) (hn : n110c131 na0 da0 = true) : exec Try.prog [(131, c131), (141, c141c131)] (fun _ => none) 8 (Try.f110.body.getD .skip) (initS Try.f110.ntmps [.ro [.int .i64] na0 da0, .fn 131 []] 0 (memOf [])) (retK Try.prog Try.f110.results.toList (outK 0 (List.range 0) [] (.k) fun v U N => (v, U, N) = (q110c131 (m110c131 na0 da0)))) :=
  propOf (x110c131 na0 da0 _) (cnd_need (and_l hn) (leaf_of (l := (decide (0 ≤ m141c131 na0 da0))) rfl rfl))
theorem k110c131 : CtrOk Try.prog c110c131 110 := ctr_of (tabOk_cons k131 (tabOk_cons k141c131 tabOk_nil)) mix_ok 8 (fn := Try.f110) (c := (Try.f110.body.getD .skip)) (grs := []) (rh := .k) (Λ := (fun _ => none)) Try.func110 rfl (by kernel_rfl) noLam fun vs bs q h hn => by
  unfold g110c131 at h
  split at h <;> cases h
  exact ⟨_, rfl, p110c131 _ _ (hn _ (List.mem_singleton.2 rfl))⟩
/-! ### shotline/mix.vessel -/
theorem x79 (na0 : Nat) (da0 : Dat) (a1 : ByteArray) (R : SV → List Blk → List Blk → Prop) : exec Try.prog [(115, c115c116), (116, c116)] (fun _ => none) 8 (Try.f79.body.getD .skip) (initS Try.f79.ntmps [.ro [.str, .int .i64, .int .i64] na0 da0, .str a1] 0 (memOf [])) (retK Try.prog Try.f79.results.toList (outK 0 (List.range 0) [] (.k) fun v U N => R v U N)) =
  (cnd ((n115c116 na0 da0 (datC [SV.str a1])))
  (R (.int .i64 (m115c116 na0 da0 (datC [SV.str a1]))) [] [])
  False) := by kernel_rfl
def m79 (na0 : Nat) (da0 : Dat) (a1 : ByteArray) : Int :=
  (m115c116 na0 da0 (datC [SV.str a1]))
def n79 (na0 : Nat) (da0 : Dat) (a1 : ByteArray) : Bool :=
  (((n115c116 na0 da0 (datC [SV.str a1]))) && true)
def q79 (r : Int) : SV × List Blk × List Blk := (.int .i64 r, [], [])
def g79 : List SV → List Blk → Option OpRes := fun vs bs => match vs, bs with
  | [.ro [.str, .int .i64, .int .i64] na0 da0, .str a1], [] => some (resOf 0 (q79 (m79 na0 da0 a1)) [n79 na0 da0 a1])
  | _, _ => none
def c79 : Ctr := genC [.ro [.str, .int .i64, .int .i64], .k] g79
theorem p79 (na0 : Nat) (da0 : Dat) (a1 : ByteArray) (hn : n79 na0 da0 a1 = true) : exec Try.prog [(115, c115c116), (116, c116)] (fun _ => none) 8 (Try.f79.body.getD .skip) (initS Try.f79.ntmps [.ro [.str, .int .i64, .int .i64] na0 da0, .str a1] 0 (memOf [])) (retK Try.prog Try.f79.results.toList (outK 0 (List.range 0) [] (.k) fun v U N => (v, U, N) = (q79 (m79 na0 da0 a1)))) :=
  propOf (x79 na0 da0 a1 _) (cnd_need (and_l hn) (leaf_of (l := (m115c116 na0 da0 (datC [SV.str a1]))) rfl rfl))
theorem k79 : CtrOk Try.prog c79 79 := ctr_of (tabOk_cons k115c116 (tabOk_cons k116 tabOk_nil)) mix_ok 8 (fn := Try.f79) (c := (Try.f79.body.getD .skip)) (grs := []) (rh := .k) (Λ := (fun _ => none)) Try.func79 rfl (by kernel_rfl) noLam fun vs bs q h hn => by
  unfold g79 at h
  split at h <;> cases h
  exact ⟨_, rfl, p79 _ _ _ (hn _ (List.mem_singleton.2 rfl))⟩
/-! ### shotline/mix.alone -/
theorem x119 (a0_0 : Int) (a0_1 : Int) (a0_2 : ByteArray) (a0_3 : ByteArray) (a0_4 : Int) (a0_5 : Int) (a0_6 : Int) (a0_7 : Bool) (R : SV → List Blk → List Blk → Prop) : exec Try.prog [(73, c73), (81, c81), (120, c120), (121, c121)] (fun _ => none) 8 (Try.f119.body.getD .skip) (initS Try.f119.ntmps [.agg [.int .i64 a0_0, .int .i64 a0_1, .str a0_2, .str a0_3, .int .i64 a0_4, .int .i64 a0_5, .int .i64 a0_6, .bool a0_7]] 0 (memOf [])) (retK Try.prog Try.f119.results.toList (outK 0 (List.range 0) [] (.k) fun v U N => R v U N)) =
  (cnd ((bif (m73 a0_0 0 2) then false else true))
  (R (.int .i64 15) [] [])
  (cnd ((decide (a0_0 = 0)))
   (cnd ((n81 a0_4 a0_5))
    (cnd ((bif (bif (bif (m73 a0_1 0 100000) then false else true) then true else (bif (m73 a0_6 1 1000000000) then false else true)) then true else (bif (decide (m81 a0_4 a0_5 = 0)) then false else true)))
     (R (.int .i64 2) [] [])
     (cnd ((bif (bif (bif (bif (bif (m120 a0_0) then false else true) then (bif (decide (a0_2 = { data := #[] })) then false else true) else false) then true else (bif (bif (m121 a0_0) then false else true) then (bif (decide (a0_3 = { data := #[] })) then false else true) else false)) then true else (bif (decide (a0_0 = 1)) then (decide (a0_2 = a0_3)) else false)) then true else (bif a0_7 then (bif (decide (a0_0 = 1)) then false else true) else false)))
      (R (.int .i64 3) [] [])
      (R (.int .i64 0) [] [])))
    False)
   (cnd ((bif (bif (bif (m73 a0_1 0 100000) then false else true) then true else (bif (m73 a0_6 1 1000000000) then false else true)) then true else (bif (bif (decide (a0_4 = 0)) then (bif (decide (a0_5 = 0)) then true else false) else false) then false else true)))
    (R (.int .i64 2) [] [])
    (cnd ((bif (bif (bif (bif (bif (m120 a0_0) then false else true) then (bif (decide (a0_2 = { data := #[] })) then false else true) else false) then true else (bif (bif (m121 a0_0) then false else true) then (bif (decide (a0_3 = { data := #[] })) then false else true) else false)) then true else (bif (decide (a0_0 = 1)) then (decide (a0_2 = a0_3)) else false)) then true else (bif a0_7 then (bif (decide (a0_0 = 1)) then false else true) else false)))
     (R (.int .i64 3) [] [])
     (R (.int .i64 0) [] []))))) := by kernel_rfl
def m119 (a0_0 : Int) (a0_1 : Int) (a0_2 : ByteArray) (a0_3 : ByteArray) (a0_4 : Int) (a0_5 : Int) (a0_6 : Int) (a0_7 : Bool) : Int :=
  (cond ((bif (m73 a0_0 0 2) then false else true)) 15 (cond ((decide (a0_0 = 0))) (cond ((bif (bif (bif (m73 a0_1 0 100000) then false else true) then true else (bif (m73 a0_6 1 1000000000) then false else true)) then true else (bif (decide (m81 a0_4 a0_5 = 0)) then false else true))) 2 (cond ((bif (bif (bif (bif (bif (m120 a0_0) then false else true) then (bif (decide (a0_2 = { data := #[] })) then false else true) else false) then true else (bif (bif (m121 a0_0) then false else true) then (bif (decide (a0_3 = { data := #[] })) then false else true) else false)) then true else (bif (decide (a0_0 = 1)) then (decide (a0_2 = a0_3)) else false)) then true else (bif a0_7 then (bif (decide (a0_0 = 1)) then false else true) else false))) 3 0)) (cond ((bif (bif (bif (m73 a0_1 0 100000) then false else true) then true else (bif (m73 a0_6 1 1000000000) then false else true)) then true else (bif (bif (decide (a0_4 = 0)) then (bif (decide (a0_5 = 0)) then true else false) else false) then false else true))) 2 (cond ((bif (bif (bif (bif (bif (m120 a0_0) then false else true) then (bif (decide (a0_2 = { data := #[] })) then false else true) else false) then true else (bif (bif (m121 a0_0) then false else true) then (bif (decide (a0_3 = { data := #[] })) then false else true) else false)) then true else (bif (decide (a0_0 = 1)) then (decide (a0_2 = a0_3)) else false)) then true else (bif a0_7 then (bif (decide (a0_0 = 1)) then false else true) else false))) 3 0))))
def n119 (a0_0 : Int) (a0_1 : Int) (a0_2 : ByteArray) (a0_3 : ByteArray) (a0_4 : Int) (a0_5 : Int) (a0_6 : Int) (a0_7 : Bool) : Bool :=
  (cond ((bif (m73 a0_0 0 2) then false else true)) true (cond ((decide (a0_0 = 0))) (((n81 a0_4 a0_5)) && true) true))
def q119 (r : Int) : SV × List Blk × List Blk := (.int .i64 r, [], [])
def g119 : List SV → List Blk → Option OpRes := fun vs bs => match vs, bs with
  | [.agg [.int .i64 a0_0, .int .i64 a0_1, .str a0_2, .str a0_3, .int .i64 a0_4, .int .i64 a0_5, .int .i64 a0_6, .bool a0_7]], [] => some (resOf 0 (q119 (m119 a0_0 a0_1 a0_2 a0_3 a0_4 a0_5 a0_6 a0_7)) [n119 a0_0 a0_1 a0_2 a0_3 a0_4 a0_5 a0_6 a0_7])
  | _, _ => none
def c119 : Ctr := genC [.k] g119
theorem p119 (a0_0 : Int) (a0_1 : Int) (a0_2 : ByteArray) (a0_3 : ByteArray) (a0_4 : Int) (a0_5 : Int) (a0_6 : Int) (a0_7 : Bool) (hn : n119 a0_0 a0_1 a0_2 a0_3 a0_4 a0_5 a0_6 a0_7 = true) : exec Try.prog [(73, c73), (81, c81), (120, c120), (121, c121)] (fun _ => none) 8 (Try.f119.body.getD .skip) (initS Try.f119.ntmps [.agg [.int .i64 a0_0, .int .i64 a0_1, .str a0_2, .str a0_3, .int .i64 a0_4, .int .i64 a0_5, .int .i64 a0_6, .bool a0_7]] 0 (memOf [])) (retK Try.prog Try.f119.results.toList (outK 0 (List.range 0) [] (.k) fun v U N => (v, U, N) = (q119 (m119 a0_0 a0_1 a0_2 a0_3 a0_4 a0_5 a0_6 a0_7)))) :=
  propOf (x119 a0_0 a0_1 a0_2 a0_3 a0_4 a0_5 a0_6 a0_7 _) (cnd_of (fun h0 => leaf_of (l := 15) (condT h0 rfl) rfl) (fun h0 => cnd_of (fun h1 => cnd_need (and_l (cond_t h1 (cond_f h0 hn))) (cnd_of (fun h2 => leaf_of (l := 2) (condF h0 (condT h1 (condT h2 rfl))) rfl) (fun h2 => cnd_of (fun h3 => leaf_of (l := 3) (condF h0 (condT h1 (condF h2 (condT h3 rfl)))) rfl) (fun h3 => leaf_of (l := 0) (condF h0 (condT h1 (condF h2 (condF h3 rfl)))) rfl)))) (fun h1 => cnd_of (fun h2 => leaf_of (l := 2) (condF h0 (condF h1 (condT h2 rfl))) rfl) (fun h2 => cnd_of (fun h3 => leaf_of (l := 3) (condF h0 (condF h1 (condF h2 (condT h3 rfl)))) rfl) (fun h3 => leaf_of (l := 0) (condF h0 (condF h1 (condF h2 (condF h3 rfl)))) rfl)))))
theorem k119 : CtrOk Try.prog c119 119 := ctr_of (tabOk_cons k73 (tabOk_cons k81 (tabOk_cons k120 (tabOk_cons k121 tabOk_nil)))) mix_ok 8 (fn := Try.f119) (c := (Try.f119.body.getD .skip)) (grs := []) (rh := .k) (Λ := (fun _ => none)) Try.func119 rfl (by kernel_rfl) noLam fun vs bs q h hn => by
  unfold g119 at h
  split at h <;> cases h
  exact ⟨_, rfl, p119 _ _ _ _ _ _ _ _ (hn _ (List.mem_singleton.2 rfl))⟩
/-! ### shotline/shotlinebase.CopyInts -/
theorem x55 (na0 : Nat) (da0 : Dat) (R : SV → List Blk → List Blk → Prop) : exec Try.prog [] (fun _ => none) 8 (Try.f55.body.getD .skip) (initS Try.f55.ntmps [.ro [.int .i64] na0 da0] 0 (memOf [])) (retK Try.prog Try.f55.results.toList (outK 0 (List.range 0) [] (.ro [.int .i64]) fun v U N => R v U N)) =
  (cnd ((decide (0 + na0 ≤ 1073741824)))
  (cnd ((decide (0 + (0 + na0) ≤ 0 + na0)))
   (R (.ro [.int .i64] (0 + na0) ((datS [] 1).app 0 da0)) [] [])
   False)
  False) := by kernel_rfl
def m55 (na0 : Nat) (da0 : Dat) : Nat × Dat :=
  ((0 + na0), ((datS [] 1).app 0 da0))
def n55 (na0 : Nat) (da0 : Dat) : Bool :=
  (((decide (0 + na0 ≤ 1073741824))) && (((decide (0 + (0 + na0) ≤ 0 + na0))) && true))
def q55 (r : Nat × Dat) : SV × List Blk × List Blk := (.ro [.int .i64] r.1 r.2, [], [])
def g55 : List SV → List Blk → Option OpRes := fun vs bs => match vs, bs with
  | [.ro [.int .i64] na0 da0], [] => some (resOf 0 (q55 (m55 na0 da0)) [n55 na0 da0])
  | _, _ => none
def c55 : Ctr := genC [.ro [.int .i64]] g55
theorem p55 (na0 : Nat) (da0 : Dat) (hn : n55 na0 da0 = true) : exec Try.prog [] (fun _ => none) 8 (Try.f55.body.getD .skip) (initS Try.f55.ntmps [.ro [.int .i64] na0 da0] 0 (memOf [])) (retK Try.prog Try.f55.results.toList (outK 0 (List.range 0) [] (.ro [.int .i64]) fun v U N => (v, U, N) = (q55 (m55 na0 da0)))) :=
  propOf (x55 na0 da0 _) (cnd_need (and_l hn) (cnd_need (and_l (and_r hn)) (leaf_of (l := ((0 + na0), ((datS [] 1).app 0 da0))) rfl rfl)))
theorem k55 : CtrOk Try.prog c55 55 := ctr_of tabOk_nil mix_ok 8 (fn := Try.f55) (c := (Try.f55.body.getD .skip)) (grs := []) (rh := .ro [.int .i64]) (Λ := (fun _ => none)) Try.func55 rfl (by kernel_rfl) noLam fun vs bs q h hn => by
  unfold g55 at h
  split at h <;> cases h
  exact ⟨_, rfl, p55 _ _ (hn _ (List.mem_singleton.2 rfl))⟩
/-! ### shotline/mix.CheckVessels -/
/-! #### loop 0 -/
def l28_0 (t0_0 : Nat) (t0_1 : Dat) (t8_1 : Dat) (t9 : Int) : Nat → Int → Option (Bool × (Int) × (Unit))
  | 0, _ => none
  | f + 1, t10 => (cond ((decide (t10 < t9))) (cond ((decide ((0 : Int) ≤ t10 ∧ t10 < (↑t0_0 : Int)))) (cond ((n78 (t8_1.ss t10.toNat 0))) (cond ((bif (m78 (t8_1.ss t10.toNat 0)) then false else true)) (some (true, 4, default)) (cond ((n79 t0_0 t0_1 (t8_1.ss t10.toNat 0))) (cond ((decide (m79 t0_0 t0_1 (t8_1.ss t10.toNat 0) < t10))) (some (true, 5, default)) (cond ((bif (bif (m73 (t8_1.ii t10.toNat (0 + 1)) 1 1000000) then false else true) then true else (bif (m73 (t8_1.ii t10.toNat (0 + 1 + 1)) 1 400000) then false else true))) (some (true, 2, default)) (l28_0 t0_0 t0_1 t8_1 t9 f (IntKind.i64.wrap (t10 + 1))))) none)) none) none) (some (false, default, ())))
abbrev o28_0 (t0_0 : Nat) (t0_1 : Dat) (t8_1 : Dat) (t9 : Int) (t10 : Int) : Option (Bool × (Int) × (Unit)) := l28_0 t0_0 t0_1 t8_1 t9 (t0_0 + t9.toNat + t10.toNat + 8) t10
def e28_0 (t0_0 : Nat) (t0_1 : Dat) (t8_1 : Dat) (t9 : Int) (r : Bool × (Int) × (Unit)) (K : XR) : Prop := cnd r.1 (K (XE.ret) [.int .i64 r.2.1] []) (K (XE.exit 0) [.any] [])
def g28_0 : LSum := fun s k => match czv 0 39 [0, 8, 9, 10] 0 [] s with
  | some ([.ro [.str, .int .i64, .int .i64] t0_0 t0_1, .ro [.str, .int .i64, .int .i64] t8_0 t8_1, .int .i64 t9, .int .i64 t10], []) => needs [decide (t0_0 = t8_0), (o28_0 t0_0 t0_1 t8_1 t9 t10).isSome] (e28_0 t0_0 t0_1 t8_1 t9 ((o28_0 t0_0 t0_1 t8_1 t9 t10).getD default) fun e vs bs => inBlk 0 k e (mkSt 0 39 [2] vs 0 bs))
  | _ => False
theorem y28_0 (t0_0 : Nat) (t0_1 : Dat) (t8_1 : Dat) (t9 : Int) (t10 : Int) (R : XR) : exec Try.prog [(73, c73), (78, c78), (79, c79)] (fun _ => none) 8 (unloop (bodyAt (Try.f28.body.getD .skip) 0)) (mkSt 0 39 [0, 8, 9, 10] [.ro [.str, .int .i64, .int .i64] t0_0 t0_1, .ro [.str, .int .i64, .int .i64] t0_0 t8_1, .int .i64 t9, .int .i64 t10] 0 []) (canonK 0 39 [0, 8, 9, 10] [2] 0 [] R) =
  (cnd ((decide (t10 < t9)))
  (cnd ((decide ((0 : Int) ≤ t10 ∧ t10 < (↑t0_0 : Int))))
   (cnd ((n78 (t8_1.ss t10.toNat 0)))
    (cnd ((bif (m78 (t8_1.ss t10.toNat 0)) then false else true))
     (R (XE.ret) [.int .i64 4] [])
     (cnd ((n79 t0_0 t0_1 (t8_1.ss t10.toNat 0)))
      (cnd ((decide (m79 t0_0 t0_1 (t8_1.ss t10.toNat 0) < t10)))
       (R (XE.ret) [.int .i64 5] [])
       (cnd ((bif (bif (m73 (t8_1.ii t10.toNat (0 + 1)) 1 1000000) then false else true) then true else (bif (m73 (t8_1.ii t10.toNat (0 + 1 + 1)) 1 400000) then false else true)))
        (R (XE.ret) [.int .i64 2] [])
        (R (XE.normal) [.ro [.str, .int .i64, .int .i64] t0_0 t0_1, .ro [.str, .int .i64, .int .i64] t0_0 t8_1, .int .i64 t9, .int .i64 (IntKind.i64.wrap (t10 + 1))] [])))
      False))
    False)
   False)
  (R (XE.exit 0) [.any] [])) := by kernel_rfl
theorem z28_0 : LOk Try.prog g28_0 (.block 0 (bodyAt (Try.f28.body.getD .skip) 0)) := by
  refine loop_blk (ι := Nat × Dat × Dat × Int × Int) (L := [(73, c73), (78, c78), (79, c79)]) (Λ := (fun _ => none)) (fuel := 8) (na := 0) (nt := 39) (nx := 0) (Lh := [0, 8, 9, 10]) (Le := [2]) (gl := []) (tabOk_cons k73 (tabOk_cons k78 (tabOk_cons k79 tabOk_nil))) mix_ok noLam rfl (fun f x K => GG default (e28_0 x.1 x.2.1 x.2.2.1 x.2.2.2.1) K (l28_0 x.1 x.2.1 x.2.2.1 x.2.2.2.1 f x.2.2.2.2)) (fun x => [.ro [.str, .int .i64, .int .i64] x.1 x.2.1, .ro [.str, .int .i64, .int .i64] x.1 x.2.2.1, .int .i64 x.2.2.2.1, .int .i64 x.2.2.2.2]) (fun x => []) (fun x K => gg_none) ?_ ?_
  · rintro f ⟨t0_0, t0_1, t8_1, t9, t10⟩ K hG
    have hG : GG default (e28_0 t0_0 t0_1 t8_1 t9) K (cond ((decide (t10 < t9))) (cond ((decide ((0 : Int) ≤ t10 ∧ t10 < (↑t0_0 : Int)))) (cond ((n78 (t8_1.ss t10.toNat 0))) (cond ((bif (m78 (t8_1.ss t10.toNat 0)) then false else true)) (some (true, 4, default)) (cond ((n79 t0_0 t0_1 (t8_1.ss t10.toNat 0))) (cond ((decide (m79 t0_0 t0_1 (t8_1.ss t10.toNat 0) < t10))) (some (true, 5, default)) (cond ((bif (bif (m73 (t8_1.ii t10.toNat (0 + 1)) 1 1000000) then false else true) then true else (bif (m73 (t8_1.ii t10.toNat (0 + 1 + 1)) 1 400000) then false else true))) (some (true, 2, default)) (l28_0 t0_0 t0_1 t8_1 t9 f (IntKind.i64.wrap (t10 + 1))))) none)) none) none) (some (false, default, ()))) := hG
    refine propOf (y28_0 t0_0 t0_1 t8_1 t9 t10 _) ?_
    exact cnd_gg2 hG (fun h0 => cnd_gg h0 fun h1 => cnd_gg h1 fun h2 => cnd_gg2 h2 (fun h3 => h3.2) (fun h3 => cnd_gg h3 fun h4 => cnd_gg2 h4 (fun h5 => h5.2) (fun h5 => cnd_gg2 h5 (fun h6 => h6.2) (fun h6 => ⟨(t0_0, t0_1, t8_1, t9, (IntKind.i64.wrap (t10 + 1))), rfl, rfl, h6⟩)))) (fun h0 => h0.2)
  · intro s k h
    unfold g28_0 at h
    split at h <;> try exact h.elim
    rename_i e1
    rw [needs_iff] at h
    have hq := h.1
    simp only [List.mem_cons, forall_eq_or_imp, decide_eq_true_eq, List.not_mem_nil, false_imp_iff, implies_true, and_true] at hq
    obtain ⟨rfl, hq⟩ := hq
    exact ⟨_, e1, _, (_, _, _, _, _), rfl, rfl, hq, h.2⟩
theorem x28 (na0 : Nat) (da0 : Dat) (R : SV → List Blk → List Blk → Prop) : exec Try.prog [(73, c73), (78, c78), (79, c79)] (lamOf [(0, g28_0)]) 8 (Try.f28.body.getD .skip) (initS Try.f28.ntmps [.ro [.str, .int .i64, .int .i64] na0 da0] 0 (memOf [])) (retK Try.prog Try.f28.results.toList (outK 0 (List.range 0) [] (.k) fun v U N => R v U N)) =
  (cnd ((decide ((20 : Int) < (↑na0 : Int))))
  (R (.int .i64 8) [] [])
  (cnd ((decide (na0 = na0)))
   (cnd (((o28_0 na0 da0 da0 (↑na0 : Int) 0).isSome))
    (cnd ((((o28_0 na0 da0 da0 (↑na0 : Int) 0).getD default).fst))
     (R (.int .i64 (((o28_0 na0 da0 da0 (↑na0 : Int) 0).getD default).snd.fst)) [] [])
     (R (.int .i64 0) [] []))
    False)
   False)) := by kernel_rfl
def m28 (na0 : Nat) (da0 : Dat) : Int :=
  (cond ((decide ((20 : Int) < (↑na0 : Int)))) 8 (cond ((((o28_0 na0 da0 da0 (↑na0 : Int) 0).getD default).fst)) (((o28_0 na0 da0 da0 (↑na0 : Int) 0).getD default).snd.fst) 0))
def n28 (na0 : Nat) (da0 : Dat) : Bool :=
  (cond ((decide ((20 : Int) < (↑na0 : Int)))) true ((((o28_0 na0 da0 da0 (↑na0 : Int) 0).isSome)) && true))
def q28 (r : Int) : SV × List Blk × List Blk := (.int .i64 r, [], [])
def g28 : List SV → List Blk → Option OpRes := fun vs bs => match vs, bs with
  | [.ro [.str, .int .i64, .int .i64] na0 da0], [] => some (resOf 0 (q28 (m28 na0 da0)) [n28 na0 da0])
  | _, _ => none
def c28 : Ctr := genC [.ro [.str, .int .i64, .int .i64]] g28
theorem p28 (na0 : Nat) (da0 : Dat) (hn : n28 na0 da0 = true) : exec Try.prog [(73, c73), (78, c78), (79, c79)] (lamOf [(0, g28_0)]) 8 (Try.f28.body.getD .skip) (initS Try.f28.ntmps [.ro [.str, .int .i64, .int .i64] na0 da0] 0 (memOf [])) (retK Try.prog Try.f28.results.toList (outK 0 (List.range 0) [] (.k) fun v U N => (v, U, N) = (q28 (m28 na0 da0)))) :=
  propOf (x28 na0 da0 _) (cnd_of (fun h0 => leaf_of (l := 8) (condT h0 rfl) rfl) (fun h0 => cnd_need (decide_eq_true rfl) (cnd_need (and_l (cond_f h0 hn)) (cnd_of (fun h1 => leaf_of (l := (((o28_0 na0 da0 da0 (↑na0 : Int) 0).getD default).snd.fst)) (condF h0 (condT h1 rfl)) rfl) (fun h1 => leaf_of (l := 0) (condF h0 (condF h1 rfl)) rfl)))))
theorem k28 : CtrOk Try.prog c28 28 := ctr_of (tabOk_cons k73 (tabOk_cons k78 (tabOk_cons k79 tabOk_nil))) mix_ok 8 (fn := Try.f28) (c := (Try.f28.body.getD .skip)) (grs := []) (rh := .k) (Λ := (lamOf [(0, g28_0)])) Try.func28 rfl (by kernel_rfl) (lam_of rfl (lams_cons z28_0 lams_nil)) fun vs bs q h hn => by
  unfold g28 at h
  split at h <;> cases h
  exact ⟨_, rfl, p28 _ _ (hn _ (List.mem_singleton.2 rfl))⟩
/-! ### shotline/shotlineref06.CheckTask -/
/-! #### loop 2 -/
def l61_2 (t3 : Int) (b0_0 : Nat) (b0_1 : Dat) (b0_2 : Int) (b0_3 : Int) (b0_4 : Int) (b0_5 : Int) (b0_6 : Int) (b0_7 : Int) (b0_8 : Int) (b0_9 : Int) (b1_0 : ByteArray) (b1_1 : Int) (b1_2 : Int) (b1_3 : Int) (b1_4 : Int) : Nat → Int → Option (Bool × (Int) × (Unit))
  | 0, _ => none
  | f + 1, t5 => (cond ((decide (t5 < t3))) (cond ((decide (0 ≤ t5 ∧ t5 < (↑b0_0 : Int)))) (cond ((decide (b0_1.ss t5.toNat 0 = b1_0))) (some (true, 5, default)) (l61_2 t3 b0_0 b0_1 b0_2 b0_3 b0_4 b0_5 b0_6 b0_7 b0_8 b0_9 b1_0 b1_1 b1_2 b1_3 b1_4 f (IntKind.i64.wrap (t5 + 1)))) none) (some (false, default, ())))
abbrev o61_2 (t3 : Int) (b0_0 : Nat) (b0_1 : Dat) (b0_2 : Int) (b0_3 : Int) (b0_4 : Int) (b0_5 : Int) (b0_6 : Int) (b0_7 : Int) (b0_8 : Int) (b0_9 : Int) (b1_0 : ByteArray) (b1_1 : Int) (b1_2 : Int) (b1_3 : Int) (b1_4 : Int) (t5 : Int) : Option (Bool × (Int) × (Unit)) := l61_2 t3 b0_0 b0_1 b0_2 b0_3 b0_4 b0_5 b0_6 b0_7 b0_8 b0_9 b1_0 b1_1 b1_2 b1_3 b1_4 (t3.toNat + t5.toNat + b0_0 + b0_2.toNat + b0_3.toNat + b0_4.toNat + b0_5.toNat + b0_6.toNat + b0_7.toNat + b0_8.toNat + b0_9.toNat + b1_0.size + b1_1.toNat + b1_2.toNat + b1_3.toNat + b1_4.toNat + 8) t5
def e61_2 (t3 : Int) (b0_0 : Nat) (b0_1 : Dat) (b0_2 : Int) (b0_3 : Int) (b0_4 : Int) (b0_5 : Int) (b0_6 : Int) (b0_7 : Int) (b0_8 : Int) (b0_9 : Int) (b1_0 : ByteArray) (b1_1 : Int) (b1_2 : Int) (b1_3 : Int) (b1_4 : Int) (r : Bool × (Int) × (Unit)) (K : XR) : Prop := cnd r.1 (K (XE.ret) [.ptr 0 0, .int .i64 r.2.1, .int .i64 t3, .ptr 1 0] [.cells 107 [.ro [.str, .int .i64, .int .i64, .int .i64, .int .i64] b0_0 b0_1, .int .i64 b0_2, .int .i64 b0_3, .int .i64 b0_4, .int .i64 b0_5, .int .i64 b0_6, .int .i64 b0_7, .int .i64 b0_8, .int .i64 b0_9], .cells 128 [.str b1_0, .int .i64 b1_1, .int .i64 b1_2, .int .i64 b1_3, .int .i64 b1_4]]) (K (XE.exit 2) [.ptr 0 0, .any, .int .i64 t3, .ptr 1 0] [.cells 107 [.ro [.str, .int .i64, .int .i64, .int .i64, .int .i64] b0_0 b0_1, .int .i64 b0_2, .int .i64 b0_3, .int .i64 b0_4, .int .i64 b0_5, .int .i64 b0_6, .int .i64 b0_7, .int .i64 b0_8, .int .i64 b0_9], .cells 128 [.str b1_0, .int .i64 b1_1, .int .i64 b1_2, .int .i64 b1_3, .int .i64 b1_4]])
def g61_2 : LSum := fun s k => match czv 0 90 [1, 3, 4, 5] 2 [] s with
  | some ([.ptr 0 0, .int .i64 t3, .ptr 1 0, .int .i64 t5], [.cells 107 [.ro [.str, .int .i64, .int .i64, .int .i64, .int .i64] b0_0 b0_1, .int .i64 b0_2, .int .i64 b0_3, .int .i64 b0_4, .int .i64 b0_5, .int .i64 b0_6, .int .i64 b0_7, .int .i64 b0_8, .int .i64 b0_9], .cells 128 [.str b1_0, .int .i64 b1_1, .int .i64 b1_2, .int .i64 b1_3, .int .i64 b1_4]]) => needs [(o61_2 t3 b0_0 b0_1 b0_2 b0_3 b0_4 b0_5 b0_6 b0_7 b0_8 b0_9 b1_0 b1_1 b1_2 b1_3 b1_4 t5).isSome] (e61_2 t3 b0_0 b0_1 b0_2 b0_3 b0_4 b0_5 b0_6 b0_7 b0_8 b0_9 b1_0 b1_1 b1_2 b1_3 b1_4 ((o61_2 t3 b0_0 b0_1 b0_2 b0_3 b0_4 b0_5 b0_6 b0_7 b0_8 b0_9 b1_0 b1_1 b1_2 b1_3 b1_4 t5).getD default) fun e vs bs => inBlk 2 k e (mkSt 0 90 [1, 2, 3, 4] vs 2 bs))
  | _ => False
theorem y61_2 (t3 : Int) (t5 : Int) (b0_0 : Nat) (b0_1 : Dat) (b0_2 : Int) (b0_3 : Int) (b0_4 : Int) (b0_5 : Int) (b0_6 : Int) (b0_7 : Int) (b0_8 : Int) (b0_9 : Int) (b1_0 : ByteArray) (b1_1 : Int) (b1_2 : Int) (b1_3 : Int) (b1_4 : Int) (R : XR) : exec Try.prog [(17, c17), (18, c18), (19, c19), (80, c80), (83, c83), (100, c100)] (fun _ => none) 8 (unloop (bodyAt (Try.f61.body.getD .skip) 2)) (mkSt 0 90 [1, 3, 4, 5] [.ptr 0 0, .int .i64 t3, .ptr 1 0, .int .i64 t5] 2 [.cells 107 [.ro [.str, .int .i64, .int .i64, .int .i64, .int .i64] b0_0 b0_1, .int .i64 b0_2, .int .i64 b0_3, .int .i64 b0_4, .int .i64 b0_5, .int .i64 b0_6, .int .i64 b0_7, .int .i64 b0_8, .int .i64 b0_9], .cells 128 [.str b1_0, .int .i64 b1_1, .int .i64 b1_2, .int .i64 b1_3, .int .i64 b1_4]]) (canonK 0 90 [1, 3, 4, 5] [1, 2, 3, 4] 2 [] R) =
  (cnd ((decide (t5 < t3)))
  (cnd ((decide (0 ≤ t5 ∧ t5 < (↑b0_0 : Int))))
   (cnd ((decide (b0_1.ss t5.toNat 0 = b1_0)))
    (R (XE.ret) [.ptr 0 0, .int .i64 5, .int .i64 t3, .ptr 1 0] [.cells 107 [.ro [.str, .int .i64, .int .i64, .int .i64, .int .i64] b0_0 b0_1, .int .i64 b0_2, .int .i64 b0_3, .int .i64 b0_4, .int .i64 b0_5, .int .i64 b0_6, .int .i64 b0_7, .int .i64 b0_8, .int .i64 b0_9], .cells 128 [.str b1_0, .int .i64 b1_1, .int .i64 b1_2, .int .i64 b1_3, .int .i64 b1_4]])
    (R (XE.normal) [.ptr 0 0, .int .i64 t3, .ptr 1 0, .int .i64 (IntKind.i64.wrap (t5 + 1))] [.cells 107 [.ro [.str, .int .i64, .int .i64, .int .i64, .int .i64] b0_0 b0_1, .int .i64 b0_2, .int .i64 b0_3, .int .i64 b0_4, .int .i64 b0_5, .int .i64 b0_6, .int .i64 b0_7, .int .i64 b0_8, .int .i64 b0_9], .cells 128 [.str b1_0, .int .i64 b1_1, .int .i64 b1_2, .int .i64 b1_3, .int .i64 b1_4]]))
   False)
  (R (XE.exit 2) [.ptr 0 0, .any, .int .i64 t3, .ptr 1 0] [.cells 107 [.ro [.str, .int .i64, .int .i64, .int .i64, .int .i64] b0_0 b0_1, .int .i64 b0_2, .int .i64 b0_3, .int .i64 b0_4, .int .i64 b0_5, .int .i64 b0_6, .int .i64 b0_7, .int .i64 b0_8, .int .i64 b0_9], .cells 128 [.str b1_0, .int .i64 b1_1, .int .i64 b1_2, .int .i64 b1_3, .int .i64 b1_4]])) := by kernel_rfl
theorem z61_2 : LOk Try.prog g61_2 (.block 2 (bodyAt (Try.f61.body.getD .skip) 2)) := by
  refine loop_blk (ι := Int × Int × Nat × Dat × Int × Int × Int × Int × Int × Int × Int × Int × ByteArray × Int × Int × Int × Int) (L := [(17, c17), (18, c18), (19, c19), (80, c80), (83, c83), (100, c100)]) (Λ := (fun _ => none)) (fuel := 8) (na := 0) (nt := 90) (nx := 2) (Lh := [1, 3, 4, 5]) (Le := [1, 2, 3, 4]) (gl := []) (tabOk_cons k17 (tabOk_cons k18 (tabOk_cons k19 (tabOk_cons k80 (tabOk_cons k83 (tabOk_cons k100 tabOk_nil)))))) mix_ok noLam rfl (fun f x K => GG default (e61_2 x.1 x.2.2.1 x.2.2.2.1 x.2.2.2.2.1 x.2.2.2.2.2.1 x.2.2.2.2.2.2.1 x.2.2.2.2.2.2.2.1 x.2.2.2.2.2.2.2.2.1 x.2.2.2.2.2.2.2.2.2.1 x.2.2.2.2.2.2.2.2.2.2.1 x.2.2.2.2.2.2.2.2.2.2.2.1 x.2.2.2.2.2.2.2.2.2.2.2.2.1 x.2.2.2.2.2.2.2.2.2.2.2.2.2.1 x.2.2.2.2.2.2.2.2.2.2.2.2.2.2.1 x.2.2.2.2.2.2.2.2.2.2.2.2.2.2.2.1 x.2.2.2.2.2.2.2.2.2.2.2.2.2.2.2.2) K (l61_2 x.1 x.2.2.1 x.2.2.2.1 x.2.2.2.2.1 x.2.2.2.2.2.1 x.2.2.2.2.2.2.1 x.2.2.2.2.2.2.2.1 x.2.2.2.2.2.2.2.2.1 x.2.2.2.2.2.2.2.2.2.1 x.2.2.2.2.2.2.2.2.2.2.1 x.2.2.2.2.2.2.2.2.2.2.2.1 x.2.2.2.2.2.2.2.2.2.2.2.2.1 x.2.2.2.2.2.2.2.2.2.2.2.2.2.1 x.2.2.2.2.2.2.2.2.2.2.2.2.2.2.1 x.2.2.2.2.2.2.2.2.2.2.2.2.2.2.2.1 x.2.2.2.2.2.2.2.2.2.2.2.2.2.2.2.2 f x.2.1)) (fun x => [.ptr 0 0, .int .i64 x.1, .ptr 1 0, .int .i64 x.2.1]) (fun x => [.cells 107 [.ro [.str, .int .i64, .int .i64, .int .i64, .int .i64] x.2.2.1 x.2.2.2.1, .int .i64 x.2.2.2.2.1, .int .i64 x.2.2.2.2.2.1, .int .i64 x.2.2.2.2.2.2.1, .int .i64 x.2.2.2.2.2.2.2.1, .int .i64 x.2.2.2.2.2.2.2.2.1, .int .i64 x.2.2.2.2.2.2.2.2.2.1, .int .i64 x.2.2.2.2.2.2.2.2.2.2.1, .int .i64 x.2.2.2.2.2.2.2.2.2.2.2.1], .cells 128 [.str x.2.2.2.2.2.2.2.2.2.2.2.2.1, .int .i64 x.2.2.2.2.2.2.2.2.2.2.2.2.2.1, .int .i64 x.2.2.2.2.2.2.2.2.2.2.2.2.2.2.1, .int .i64 x.2.2.2.2.2.2.2.2.2.2.2.2.2.2.2.1, .int .i64 x.2.2.2.2.2.2.2.2.2.2.2.2.2.2.2.2]]) (fun x K => gg_none) ?_ ?_
  · rintro f ⟨t3, t5, b0_0, b0_1, b0_2, b0_3, b0_4, b0_5, b0_6, b0_7, b0_8, b0_9, b1_0, b1_1, b1_2, b1_3, b1_4⟩ K hG
    have hG : GG default (e61_2 t3 b0_0 b0_1 b0_2 b0_3 b0_4 b0_5 b0_6 b0_7 b0_8 b0_9 b1_0 b1_1 b1_2 b1_3 b1_4) K (cond ((decide (t5 < t3))) (cond ((decide (0 ≤ t5 ∧ t5 < (↑b0_0 : Int)))) (cond ((decide (b0_1.ss t5.toNat 0 = b1_0))) (some (true, 5, default)) (l61_2 t3 b0_0 b0_1 b0_2 b0_3 b0_4 b0_5 b0_6 b0_7 b0_8 b0_9 b1_0 b1_1 b1_2 b1_3 b1_4 f (IntKind.i64.wrap (t5 + 1)))) none) (some (false, default, ()))) := hG
    refine propOf (y61_2 t3 t5 b0_0 b0_1 b0_2 b0_3 b0_4 b0_5 b0_6 b0_7 b0_8 b0_9 b1_0 b1_1 b1_2 b1_3 b1_4 _) ?_
    exact cnd_gg2 hG (fun h0 => cnd_gg h0 fun h1 => cnd_gg2 h1 (fun h2 => h2.2) (fun h2 => ⟨(t3, (IntKind.i64.wrap (t5 + 1)), b0_0, b0_1, b0_2, b0_3, b0_4, b0_5, b0_6, b0_7, b0_8, b0_9, b1_0, b1_1, b1_2, b1_3, b1_4), rfl, rfl, h2⟩)) (fun h0 => h0.2)
  · intro s k h
    unfold g61_2 at h
    split at h <;> try exact h.elim
    rename_i e1
    rw [needs_iff] at h
    exact ⟨_, e1, _, (_, _, _, _, _, _, _, _, _, _, _, _, _, _, _, _, _), rfl, rfl, h.1 _ (List.mem_singleton.2 rfl), h.2⟩
/-! #### loop 0 -/
def l61_0 (b0_0 : Nat) (b0_1 : Dat) (b0_2 : Int) (b0_3 : Int) (b0_4 : Int) (b0_5 : Int) (b0_6 : Int) (b0_7 : Int) (b0_8 : Int) (b0_9 : Int) : Nat → Int → Option (Bool × (Int) × (Unit))
  | 0, _ => none
  | f + 1, t3 => (cond ((decide (t3 < (↑b0_0 : Int)))) (cond ((decide (0 ≤ t3 ∧ t3 < (↑b0_0 : Int)))) (cond ((n80 (b0_1.ss t3.toNat 0))) (cond ((bif (m80 (b0_1.ss t3.toNat 0)) then false else true)) (some (true, 4, default)) (cond (((o61_2 t3 b0_0 b0_1 b0_2 b0_3 b0_4 b0_5 b0_6 b0_7 b0_8 b0_9 (b0_1.ss t3.toNat 0) (b0_1.ii t3.toNat (0 + 1)) (b0_1.ii t3.toNat (0 + 1 + 1)) (b0_1.ii t3.toNat (0 + 1 + 1 + 1)) (b0_1.ii t3.toNat (0 + 1 + 1 + 1 + 1)) 0).isSome)) (cond ((((o61_2 t3 b0_0 b0_1 b0_2 b0_3 b0_4 b0_5 b0_6 b0_7 b0_8 b0_9 (b0_1.ss t3.toNat 0) (b0_1.ii t3.toNat (0 + 1)) (b0_1.ii t3.toNat (0 + 1 + 1)) (b0_1.ii t3.toNat (0 + 1 + 1 + 1)) (b0_1.ii t3.toNat (0 + 1 + 1 + 1 + 1)) 0).getD default).fst)) (some (true, (((o61_2 t3 b0_0 b0_1 b0_2 b0_3 b0_4 b0_5 b0_6 b0_7 b0_8 b0_9 (b0_1.ss t3.toNat 0) (b0_1.ii t3.toNat (0 + 1)) (b0_1.ii t3.toNat (0 + 1 + 1)) (b0_1.ii t3.toNat (0 + 1 + 1 + 1)) (b0_1.ii t3.toNat (0 + 1 + 1 + 1 + 1)) 0).getD default).snd.fst), default)) (cond ((bif (decide (m83 (b0_1.ii t3.toNat (0 + 1)) (b0_1.ii t3.toNat (0 + 1 + 1)) = 0)) then false else true)) (some (true, (m83 (b0_1.ii t3.toNat (0 + 1)) (b0_1.ii t3.toNat (0 + 1 + 1))), default)) (cond ((bif (bif (m18 (b0_1.ii t3.toNat (0 + 1 + 1 + 1)) 0 1000) then false else true) then true else (bif (m18 (b0_1.ii t3.toNat (0 + 1 + 1 + 1 + 1)) 0 10000000) then false else true))) (some (true, 2, default)) (l61_0 b0_0 b0_1 b0_2 b0_3 b0_4 b0_5 b0_6 b0_7 b0_8 b0_9 f (IntKind.i64.wrap (t3 + 1)))))) none)) none) none) (some (false, default, ())))
abbrev o61_0 (b0_0 : Nat) (b0_1 : Dat) (b0_2 : Int) (b0_3 : Int) (b0_4 : Int) (b0_5 : Int) (b0_6 : Int) (b0_7 : Int) (b0_8 : Int) (b0_9 : Int) (t3 : Int) : Option (Bool × (Int) × (Unit)) := l61_0 b0_0 b0_1 b0_2 b0_3 b0_4 b0_5 b0_6 b0_7 b0_8 b0_9 (t3.toNat + b0_0 + b0_2.toNat + b0_3.toNat + b0_4.toNat + b0_5.toNat + b0_6.toNat + b0_7.toNat + b0_8.toNat + b0_9.toNat + 8) t3
def e61_0 (b0_0 : Nat) (b0_1 : Dat) (b0_2 : Int) (b0_3 : Int) (b0_4 : Int) (b0_5 : Int) (b0_6 : Int) (b0_7 : Int) (b0_8 : Int) (b0_9 : Int) (r : Bool × (Int) × (Unit)) (K : XR) : Prop := cnd r.1 (K (XE.ret) [.ptr 0 0, .int .i64 r.2.1] [.cells 107 [.ro [.str, .int .i64, .int .i64, .int .i64, .int .i64] b0_0 b0_1, .int .i64 b0_2, .int .i64 b0_3, .int .i64 b0_4, .int .i64 b0_5, .int .i64 b0_6, .int .i64 b0_7, .int .i64 b0_8, .int .i64 b0_9]]) (K (XE.exit 0) [.ptr 0 0, .any] [.cells 107 [.ro [.str, .int .i64, .int .i64, .int .i64, .int .i64] b0_0 b0_1, .int .i64 b0_2, .int .i64 b0_3, .int .i64 b0_4, .int .i64 b0_5, .int .i64 b0_6, .int .i64 b0_7, .int .i64 b0_8, .int .i64 b0_9]])
def g61_0 : LSum := fun s k => match czv 0 90 [1, 3] 1 [] s with
  | some ([.ptr 0 0, .int .i64 t3], [.cells 107 [.ro [.str, .int .i64, .int .i64, .int .i64, .int .i64] b0_0 b0_1, .int .i64 b0_2, .int .i64 b0_3, .int .i64 b0_4, .int .i64 b0_5, .int .i64 b0_6, .int .i64 b0_7, .int .i64 b0_8, .int .i64 b0_9]]) => needs [(o61_0 b0_0 b0_1 b0_2 b0_3 b0_4 b0_5 b0_6 b0_7 b0_8 b0_9 t3).isSome] (e61_0 b0_0 b0_1 b0_2 b0_3 b0_4 b0_5 b0_6 b0_7 b0_8 b0_9 ((o61_0 b0_0 b0_1 b0_2 b0_3 b0_4 b0_5 b0_6 b0_7 b0_8 b0_9 t3).getD default) fun e vs bs => inBlk 0 k e (mkSt 0 90 [1, 2] vs 1 bs))
  | _ => False
theorem y61_0 (t3 : Int) (b0_0 : Nat) (b0_1 : Dat) (b0_2 : Int) (b0_3 : Int) (b0_4 : Int) (b0_5 : Int) (b0_6 : Int) (b0_7 : Int) (b0_8 : Int) (b0_9 : Int) (R : XR) : exec Try.prog [(17, c17), (18, c18), (19, c19), (80, c80), (83, c83), (100, c100)] (lamOf [(2, g61_2)]) 8 (unloop (bodyAt (Try.f61.body.getD .skip) 0)) (mkSt 0 90 [1, 3] [.ptr 0 0, .int .i64 t3] 1 [.cells 107 [.ro [.str, .int .i64, .int .i64, .int .i64, .int .i64] b0_0 b0_1, .int .i64 b0_2, .int .i64 b0_3, .int .i64 b0_4, .int .i64 b0_5, .int .i64 b0_6, .int .i64 b0_7, .int .i64 b0_8, .int .i64 b0_9]]) (canonK 0 90 [1, 3] [1, 2] 1 [] R) =
  (cnd ((decide (t3 < (↑b0_0 : Int))))
  (cnd ((decide (0 ≤ t3 ∧ t3 < (↑b0_0 : Int))))
   (cnd ((n80 (b0_1.ss t3.toNat 0)))
    (cnd ((bif (m80 (b0_1.ss t3.toNat 0)) then false else true))
     (R (XE.ret) [.ptr 0 0, .int .i64 4] [.cells 107 [.ro [.str, .int .i64, .int .i64, .int .i64, .int .i64] b0_0 b0_1, .int .i64 b0_2, .int .i64 b0_3, .int .i64 b0_4, .int .i64 b0_5, .int .i64 b0_6, .int .i64 b0_7, .int .i64 b0_8, .int .i64 b0_9]])
     (cnd (((o61_2 t3 b0_0 b0_1 b0_2 b0_3 b0_4 b0_5 b0_6 b0_7 b0_8 b0_9 (b0_1.ss t3.toNat 0) (b0_1.ii t3.toNat (0 + 1)) (b0_1.ii t3.toNat (0 + 1 + 1)) (b0_1.ii t3.toNat (0 + 1 + 1 + 1)) (b0_1.ii t3.toNat (0 + 1 + 1 + 1 + 1)) 0).isSome))
      (cnd ((((o61_2 t3 b0_0 b0_1 b0_2 b0_3 b0_4 b0_5 b0_6 b0_7 b0_8 b0_9 (b0_1.ss t3.toNat 0) (b0_1.ii t3.toNat (0 + 1)) (b0_1.ii t3.toNat (0 + 1 + 1)) (b0_1.ii t3.toNat (0 + 1 + 1 + 1)) (b0_1.ii t3.toNat (0 + 1 + 1 + 1 + 1)) 0).getD default).fst))
       (R (XE.ret) [.ptr 0 0, .int .i64 (((o61_2 t3 b0_0 b0_1 b0_2 b0_3 b0_4 b0_5 b0_6 b0_7 b0_8 b0_9 (b0_1.ss t3.toNat 0) (b0_1.ii t3.toNat (0 + 1)) (b0_1.ii t3.toNat (0 + 1 + 1)) (b0_1.ii t3.toNat (0 + 1 + 1 + 1)) (b0_1.ii t3.toNat (0 + 1 + 1 + 1 + 1)) 0).getD default).snd.fst)] [.cells 107 [.ro [.str, .int .i64, .int .i64, .int .i64, .int .i64] b0_0 b0_1, .int .i64 b0_2, .int .i64 b0_3, .int .i64 b0_4, .int .i64 b0_5, .int .i64 b0_6, .int .i64 b0_7, .int .i64 b0_8, .int .i64 b0_9]])
       (cnd ((bif (decide (m83 (b0_1.ii t3.toNat (0 + 1)) (b0_1.ii t3.toNat (0 + 1 + 1)) = 0)) then false else true))
        (R (XE.ret) [.ptr 0 0, .int .i64 (m83 (b0_1.ii t3.toNat (0 + 1)) (b0_1.ii t3.toNat (0 + 1 + 1)))] [.cells 107 [.ro [.str, .int .i64, .int .i64, .int .i64, .int .i64] b0_0 b0_1, .int .i64 b0_2, .int .i64 b0_3, .int .i64 b0_4, .int .i64 b0_5, .int .i64 b0_6, .int .i64 b0_7, .int .i64 b0_8, .int .i64 b0_9]])
        (cnd ((bif (bif (m18 (b0_1.ii t3.toNat (0 + 1 + 1 + 1)) 0 1000) then false else true) then true else (bif (m18 (b0_1.ii t3.toNat (0 + 1 + 1 + 1 + 1)) 0 10000000) then false else true)))
         (R (XE.ret) [.ptr 0 0, .int .i64 2] [.cells 107 [.ro [.str, .int .i64, .int .i64, .int .i64, .int .i64] b0_0 b0_1, .int .i64 b0_2, .int .i64 b0_3, .int .i64 b0_4, .int .i64 b0_5, .int .i64 b0_6, .int .i64 b0_7, .int .i64 b0_8, .int .i64 b0_9]])
         (R (XE.normal) [.ptr 0 0, .int .i64 (IntKind.i64.wrap (t3 + 1))] [.cells 107 [.ro [.str, .int .i64, .int .i64, .int .i64, .int .i64] b0_0 b0_1, .int .i64 b0_2, .int .i64 b0_3, .int .i64 b0_4, .int .i64 b0_5, .int .i64 b0_6, .int .i64 b0_7, .int .i64 b0_8, .int .i64 b0_9]]))))
      False))
    False)
   False)
  (R (XE.exit 0) [.ptr 0 0, .any] [.cells 107 [.ro [.str, .int .i64, .int .i64, .int .i64, .int .i64] b0_0 b0_1, .int .i64 b0_2, .int .i64 b0_3, .int .i64 b0_4, .int .i64 b0_5, .int .i64 b0_6, .int .i64 b0_7, .int .i64 b0_8, .int .i64 b0_9]])) := by kernel_rfl
theorem z61_0 : LOk Try.prog g61_0 (.block 0 (bodyAt (Try.f61.body.getD .skip) 0)) := by
  refine loop_blk (ι := Int × Nat × Dat × Int × Int × Int × Int × Int × Int × Int × Int) (L := [(17, c17), (18, c18), (19, c19), (80, c80), (83, c83), (100, c100)]) (Λ := (lamOf [(2, g61_2)])) (fuel := 8) (na := 0) (nt := 90) (nx := 1) (Lh := [1, 3]) (Le := [1, 2]) (gl := []) (tabOk_cons k17 (tabOk_cons k18 (tabOk_cons k19 (tabOk_cons k80 (tabOk_cons k83 (tabOk_cons k100 tabOk_nil)))))) mix_ok (lam_of rfl (lams_cons z61_2 lams_nil)) rfl (fun f x K => GG default (e61_0 x.2.1 x.2.2.1 x.2.2.2.1 x.2.2.2.2.1 x.2.2.2.2.2.1 x.2.2.2.2.2.2.1 x.2.2.2.2.2.2.2.1 x.2.2.2.2.2.2.2.2.1 x.2.2.2.2.2.2.2.2.2.1 x.2.2.2.2.2.2.2.2.2.2) K (l61_0 x.2.1 x.2.2.1 x.2.2.2.1 x.2.2.2.2.1 x.2.2.2.2.2.1 x.2.2.2.2.2.2.1 x.2.2.2.2.2.2.2.1 x.2.2.2.2.2.2.2.2.1 x.2.2.2.2.2.2.2.2.2.1 x.2.2.2.2.2.2.2.2.2.2 f x.1)) (fun x => [.ptr 0 0, .int .i64 x.1]) (fun x => [.cells 107 [.ro [.str, .int .i64, .int .i64, .int .i64, .int .i64] x.2.1 x.2.2.1, .int .i64 x.2.2.2.1, .int .i64 x.2.2.2.2.1, .int .i64 x.2.2.2.2.2.1, .int .i64 x.2.2.2.2.2.2.1, .int .i64 x.2.2.2.2.2.2.2.1, .int .i64 x.2.2.2.2.2.2.2.2.1, .int .i64 x.2.2.2.2.2.2.2.2.2.1, .int .i64 x.2.2.2.2.2.2.2.2.2.2]]) (fun x K => gg_none) ?_ ?_
  · rintro f ⟨t3, b0_0, b0_1, b0_2, b0_3, b0_4, b0_5, b0_6, b0_7, b0_8, b0_9⟩ K hG
    have hG : GG default (e61_0 b0_0 b0_1 b0_2 b0_3 b0_4 b0_5 b0_6 b0_7 b0_8 b0_9) K (cond ((decide (t3 < (↑b0_0 : Int)))) (cond ((decide (0 ≤ t3 ∧ t3 < (↑b0_0 : Int)))) (cond ((n80 (b0_1.ss t3.toNat 0))) (cond ((bif (m80 (b0_1.ss t3.toNat 0)) then false else true)) (some (true, 4, default)) (cond (((o61_2 t3 b0_0 b0_1 b0_2 b0_3 b0_4 b0_5 b0_6 b0_7 b0_8 b0_9 (b0_1.ss t3.toNat 0) (b0_1.ii t3.toNat (0 + 1)) (b0_1.ii t3.toNat (0 + 1 + 1)) (b0_1.ii t3.toNat (0 + 1 + 1 + 1)) (b0_1.ii t3.toNat (0 + 1 + 1 + 1 + 1)) 0).isSome)) (cond ((((o61_2 t3 b0_0 b0_1 b0_2 b0_3 b0_4 b0_5 b0_6 b0_7 b0_8 b0_9 (b0_1.ss t3.toNat 0) (b0_1.ii t3.toNat (0 + 1)) (b0_1.ii t3.toNat (0 + 1 + 1)) (b0_1.ii t3.toNat (0 + 1 + 1 + 1)) (b0_1.ii t3.toNat (0 + 1 + 1 + 1 + 1)) 0).getD default).fst)) (some (true, (((o61_2 t3 b0_0 b0_1 b0_2 b0_3 b0_4 b0_5 b0_6 b0_7 b0_8 b0_9 (b0_1.ss t3.toNat 0) (b0_1.ii t3.toNat (0 + 1)) (b0_1.ii t3.toNat (0 + 1 + 1)) (b0_1.ii t3.toNat (0 + 1 + 1 + 1)) (b0_1.ii t3.toNat (0 + 1 + 1 + 1 + 1)) 0).getD default).snd.fst), default)) (cond ((bif (decide (m83 (b0_1.ii t3.toNat (0 + 1)) (b0_1.ii t3.toNat (0 + 1 + 1)) = 0)) then false else true)) (some (true, (m83 (b0_1.ii t3.toNat (0 + 1)) (b0_1.ii t3.toNat (0 + 1 + 1))), default)) (cond ((bif (bif (m18 (b0_1.ii t3.toNat (0 + 1 + 1 + 1)) 0 1000) then false else true) then true else (bif (m18 (b0_1.ii t3.toNat (0 + 1 + 1 + 1 + 1)) 0 10000000) then false else true))) (some (true, 2, default)) (l61_0 b0_0 b0_1 b0_2 b0_3 b0_4 b0_5 b0_6 b0_7 b0_8 b0_9 f (IntKind.i64.wrap (t3 + 1)))))) none)) none) none) (some (false, default, ()))) := hG
    refine propOf (y61_0 t3 b0_0 b0_1 b0_2 b0_3 b0_4 b0_5 b0_6 b0_7 b0_8 b0_9 _) ?_
    exact cnd_gg2 hG (fun h0 => cnd_gg h0 fun h1 => cnd_gg h1 fun h2 => cnd_gg2 h2 (fun h3 => h3.2) (fun h3 => cnd_gg h3 fun h4 => cnd_gg2 h4 (fun h5 => h5.2) (fun h5 => cnd_gg2 h5 (fun h6 => h6.2) (fun h6 => cnd_gg2 h6 (fun h7 => h7.2) (fun h7 => ⟨((IntKind.i64.wrap (t3 + 1)), b0_0, b0_1, b0_2, b0_3, b0_4, b0_5, b0_6, b0_7, b0_8, b0_9), rfl, rfl, h7⟩))))) (fun h0 => h0.2)
  · intro s k h
    unfold g61_0 at h
    split at h <;> try exact h.elim
    rename_i e1
    rw [needs_iff] at h
    exact ⟨_, e1, _, (_, _, _, _, _, _, _, _, _, _, _), rfl, rfl, h.1 _ (List.mem_singleton.2 rfl), h.2⟩
theorem x61 (na0_0 : Nat) (da0_0 : Dat) (a0_1 : Int) (a0_2 : Int) (a0_3 : Int) (a0_4 : Int) (a0_5 : Int) (a0_6 : Int) (a0_7 : Int) (a0_8 : Int) (R : SV → List Blk → List Blk → Prop) : exec Try.prog [(17, c17), (18, c18), (19, c19), (80, c80), (83, c83), (100, c100)] (lamOf [(2, g61_2), (0, g61_0)]) 8 (Try.f61.body.getD .skip) (initS Try.f61.ntmps [.agg [.ro [.str, .int .i64, .int .i64, .int .i64, .int .i64] na0_0 da0_0, .int .i64 a0_1, .int .i64 a0_2, .int .i64 a0_3, .int .i64 a0_4, .int .i64 a0_5, .int .i64 a0_6, .int .i64 a0_7, .int .i64 a0_8]] 0 (memOf [])) (retK Try.prog Try.f61.results.toList (outK 0 (List.range 0) [] (.k) fun v U N => R v U N)) =
  (cnd ((decide ((↑na0_0 : Int) = 0)))
  (R (.int .i64 10) [] [])
  (cnd ((decide (5 < (↑na0_0 : Int))))
   (R (.int .i64 8) [] [])
   (cnd (((o61_0 na0_0 da0_0 a0_1 a0_2 a0_3 a0_4 a0_5 a0_6 a0_7 a0_8 0).isSome))
    (cnd ((((o61_0 na0_0 da0_0 a0_1 a0_2 a0_3 a0_4 a0_5 a0_6 a0_7 a0_8 0).getD default).fst))
     (R (.int .i64 (((o61_0 na0_0 da0_0 a0_1 a0_2 a0_3 a0_4 a0_5 a0_6 a0_7 a0_8 0).getD default).snd.fst)) [] [])
     (cnd ((bif (decide (m17 a0_1 a0_2 a0_3 = 0)) then false else true))
      (R (.int .i64 (m17 a0_1 a0_2 a0_3)) [] [])
      (cnd ((bif (bif (m18 a0_4 1 10000000) then false else true) then true else (decide (a0_4 < m19 a0_1 a0_2 a0_3))))
       (R (.int .i64 2) [] [])
       (cnd ((bif (decide (m100 a0_5 a0_6 = 0)) then false else true))
        (R (.int .i64 (m100 a0_5 a0_6)) [] [])
        (R (.int .i64 (m100 a0_7 a0_8)) [] [])))))
    False))) := by kernel_rfl
def m61 (na0_0 : Nat) (da0_0 : Dat) (a0_1 : Int) (a0_2 : Int) (a0_3 : Int) (a0_4 : Int) (a0_5 : Int) (a0_6 : Int) (a0_7 : Int) (a0_8 : Int) : Int :=
  (cond ((decide ((↑na0_0 : Int) = 0))) 10 (cond ((decide (5 < (↑na0_0 : Int)))) 8 (cond ((((o61_0 na0_0 da0_0 a0_1 a0_2 a0_3 a0_4 a0_5 a0_6 a0_7 a0_8 0).getD default).fst)) (((o61_0 na0_0 da0_0 a0_1 a0_2 a0_3 a0_4 a0_5 a0_6 a0_7 a0_8 0).getD default).snd.fst) (cond ((bif (decide (m17 a0_1 a0_2 a0_3 = 0)) then false else true)) (m17 a0_1 a0_2 a0_3) (cond ((bif (bif (m18 a0_4 1 10000000) then false else true) then true else (decide (a0_4 < m19 a0_1 a0_2 a0_3)))) 2 (cond ((bif (decide (m100 a0_5 a0_6 = 0)) then false else true)) (m100 a0_5 a0_6) (m100 a0_7 a0_8)))))))
def n61 (na0_0 : Nat) (da0_0 : Dat) (a0_1 : Int) (a0_2 : Int) (a0_3 : Int) (a0_4 : Int) (a0_5 : Int) (a0_6 : Int) (a0_7 : Int) (a0_8 : Int) : Bool :=
  (cond ((decide ((↑na0_0 : Int) = 0))) true (cond ((decide (5 < (↑na0_0 : Int)))) true ((((o61_0 na0_0 da0_0 a0_1 a0_2 a0_3 a0_4 a0_5 a0_6 a0_7 a0_8 0).isSome)) && true)))
def q61 (r : Int) : SV × List Blk × List Blk := (.int .i64 r, [], [])
def g61 : List SV → List Blk → Option OpRes := fun vs bs => match vs, bs with
  | [.agg [.ro [.str, .int .i64, .int .i64, .int .i64, .int .i64] na0_0 da0_0, .int .i64 a0_1, .int .i64 a0_2, .int .i64 a0_3, .int .i64 a0_4, .int .i64 a0_5, .int .i64 a0_6, .int .i64 a0_7, .int .i64 a0_8]], [] => some (resOf 0 (q61 (m61 na0_0 da0_0 a0_1 a0_2 a0_3 a0_4 a0_5 a0_6 a0_7 a0_8)) [n61 na0_0 da0_0 a0_1 a0_2 a0_3 a0_4 a0_5 a0_6 a0_7 a0_8])
  | _, _ => none
def c61 : Ctr := genC [.a [.ro [.str, .int .i64, .int .i64, .int .i64, .int .i64], .k, .k, .k, .k, .k, .k, .k, .k]] g61
theorem p61 (na0_0 : Nat) (da0_0 : Dat) (a0_1 : Int) (a0_2 : Int) (a0_3 : Int) (a0_4 : Int) (a0_5 : Int) (a0_6 : Int) (a0_7 : Int) (a0_8 : Int) (hn : n61 na0_0 da0_0 a0_1 a0_2 a0_3 a0_4 a0_5 a0_6 a0_7 a0_8 = true) : exec Try.prog [(17, c17), (18, c18), (19, c19), (80, c80), (83, c83), (100, c100)] (lamOf [(2, g61_2), (0, g61_0)]) 8 (Try.f61.body.getD .skip) (initS Try.f61.ntmps [.agg [.ro [.str, .int .i64, .int .i64, .int .i64, .int .i64] na0_0 da0_0, .int .i64 a0_1, .int .i64 a0_2, .int .i64 a0_3, .int .i64 a0_4, .int .i64 a0_5, .int .i64 a0_6, .int .i64 a0_7, .int .i64 a0_8]] 0 (memOf [])) (retK Try.prog Try.f61.results.toList (outK 0 (List.range 0) [] (.k) fun v U N => (v, U, N) = (q61 (m61 na0_0 da0_0 a0_1 a0_2 a0_3 a0_4 a0_5 a0_6 a0_7 a0_8)))) :=
  propOf (x61 na0_0 da0_0 a0_1 a0_2 a0_3 a0_4 a0_5 a0_6 a0_7 a0_8 _) (cnd_of (fun h0 => leaf_of (l := 10) (condT h0 rfl) rfl) (fun h0 => cnd_of (fun h1 => leaf_of (l := 8) (condF h0 (condT h1 rfl)) rfl) (fun h1 => cnd_need (and_l (cond_f h1 (cond_f h0 hn))) (cnd_of (fun h2 => leaf_of (l := (((o61_0 na0_0 da0_0 a0_1 a0_2 a0_3 a0_4 a0_5 a0_6 a0_7 a0_8 0).getD default).snd.fst)) (condF h0 (condF h1 (condT h2 rfl))) rfl) (fun h2 => cnd_of (fun h3 => leaf_of (l := (m17 a0_1 a0_2 a0_3)) (condF h0 (condF h1 (condF h2 (condT h3 rfl)))) rfl) (fun h3 => cnd_of (fun h4 => leaf_of (l := 2) (condF h0 (condF h1 (condF h2 (condF h3 (condT h4 rfl))))) rfl) (fun h4 => cnd_of (fun h5 => leaf_of (l := (m100 a0_5 a0_6)) (condF h0 (condF h1 (condF h2 (condF h3 (condF h4 (condT h5 rfl)))))) rfl) (fun h5 => leaf_of (l := (m100 a0_7 a0_8)) (condF h0 (condF h1 (condF h2 (condF h3 (condF h4 (condF h5 rfl)))))) rfl))))))))
theorem k61 : CtrOk Try.prog c61 61 := ctr_of (tabOk_cons k17 (tabOk_cons k18 (tabOk_cons k19 (tabOk_cons k80 (tabOk_cons k83 (tabOk_cons k100 tabOk_nil)))))) mix_ok 8 (fn := Try.f61) (c := (Try.f61.body.getD .skip)) (grs := []) (rh := .k) (Λ := (lamOf [(2, g61_2), (0, g61_0)])) Try.func61 rfl (by kernel_rfl) (lam_of rfl (lams_cons z61_2 (lams_cons z61_0 lams_nil))) fun vs bs q h hn => by
  unfold g61 at h
  split at h <;> cases h
  exact ⟨_, rfl, p61 _ _ _ _ _ _ _ _ _ _ (hn _ (List.mem_singleton.2 rfl))⟩
/-! ### shotline/shotlinelaw06.Room -/
theorem x68  (R : SV → List Blk → List Blk → Prop) : exec Try.prog [] (fun _ => none) 8 (Try.f68.body.getD .skip) (initS Try.f68.ntmps [] 0 (memOf [])) (retK Try.prog Try.f68.results.toList (outK 0 (List.range 0) [] (.ro [.str, .int .i64, .int .i64]) fun v U N => R v U N)) =
  (R (.ro [.str, .int .i64, .int .i64] 2 (datS [SV.str { data := #[98, 97, 110, 107] }, SV.int IntKind.i64 50000, SV.int IntKind.i64 300000, SV.str { data := #[115, 49, 50] }, SV.int IntKind.i64 12000, SV.int IntKind.i64 232000] 3)) [] []) := by kernel_rfl
def m68  : Dat :=
  (datS [SV.str { data := #[98, 97, 110, 107] }, SV.int IntKind.i64 50000, SV.int IntKind.i64 300000, SV.str { data := #[115, 49, 50] }, SV.int IntKind.i64 12000, SV.int IntKind.i64 232000] 3)
def q68 (r : Dat) : SV × List Blk × List Blk := (.ro [.str, .int .i64, .int .i64] 2 r, [], [])
def g68 : List SV → List Blk → Option OpRes := fun vs bs => match vs, bs with
  | [], [] => some (resOf 0 (q68 (m68)) [])
  | _, _ => none
def c68 : Ctr := genC [] g68
theorem p68  : exec Try.prog [] (fun _ => none) 8 (Try.f68.body.getD .skip) (initS Try.f68.ntmps [] 0 (memOf [])) (retK Try.prog Try.f68.results.toList (outK 0 (List.range 0) [] (.ro [.str, .int .i64, .int .i64]) fun v U N => (v, U, N) = (q68 (m68)))) :=
  propOf (x68  _) (leaf_of (l := (datS [SV.str { data := #[98, 97, 110, 107] }, SV.int IntKind.i64 50000, SV.int IntKind.i64 300000, SV.str { data := #[115, 49, 50] }, SV.int IntKind.i64 12000, SV.int IntKind.i64 232000] 3)) rfl rfl)
theorem k68 : CtrOk Try.prog c68 68 := ctr_of tabOk_nil mix_ok 8 (fn := Try.f68) (c := (Try.f68.body.getD .skip)) (grs := []) (rh := .ro [.str, .int .i64, .int .i64]) (Λ := (fun _ => none)) Try.func68 rfl (by kernel_rfl) noLam fun vs bs q h _ => by
  unfold g68 at h
  split at h <;> cases h
  exact ⟨_, rfl, p68 ⟩
/-! ### shotline/shotlinelaw06.Diary -/
theorem x69  (R : SV → List Blk → List Blk → Prop) : exec Try.prog [] (fun _ => none) 8 (Try.f69.body.getD .skip) (initS Try.f69.ntmps [] 0 (memOf [])) (retK Try.prog Try.f69.results.toList (outK 0 (List.range 0) [] (.ro [.int .i64, .int .i64, .str, .str, .int .i64, .int .i64, .int .i64, .bool]) fun v U N => R v U N)) =
  (R (.ro [.int .i64, .int .i64, .str, .str, .int .i64, .int .i64, .int .i64, .bool] 2 (datS [SV.int IntKind.i64 0, SV.int IntKind.i64 1, SV.str { data := #[] }, SV.str { data := #[98, 97, 110, 107] }, SV.int IntKind.i64 210, SV.int IntKind.i64 0, SV.int IntKind.i64 10000000, SV.bool false, SV.int IntKind.i64 1, SV.int IntKind.i64 1, SV.str { data := #[98, 97, 110, 107] }, SV.str { data := #[115, 49, 50] }, SV.int IntKind.i64 0, SV.int IntKind.i64 0, SV.int IntKind.i64 1900000, SV.bool false] 8)) [] []) := by kernel_rfl
def m69  : Dat :=
  (datS [SV.int IntKind.i64 0, SV.int IntKind.i64 1, SV.str { data := #[] }, SV.str { data := #[98, 97, 110, 107] }, SV.int IntKind.i64 210, SV.int IntKind.i64 0, SV.int IntKind.i64 10000000, SV.bool false, SV.int IntKind.i64 1, SV.int IntKind.i64 1, SV.str { data := #[98, 97, 110, 107] }, SV.str { data := #[115, 49, 50] }, SV.int IntKind.i64 0, SV.int IntKind.i64 0, SV.int IntKind.i64 1900000, SV.bool false] 8)
def q69 (r : Dat) : SV × List Blk × List Blk := (.ro [.int .i64, .int .i64, .str, .str, .int .i64, .int .i64, .int .i64, .bool] 2 r, [], [])
def g69 : List SV → List Blk → Option OpRes := fun vs bs => match vs, bs with
  | [], [] => some (resOf 0 (q69 (m69)) [])
  | _, _ => none
def c69 : Ctr := genC [] g69
theorem p69  : exec Try.prog [] (fun _ => none) 8 (Try.f69.body.getD .skip) (initS Try.f69.ntmps [] 0 (memOf [])) (retK Try.prog Try.f69.results.toList (outK 0 (List.range 0) [] (.ro [.int .i64, .int .i64, .str, .str, .int .i64, .int .i64, .int .i64, .bool]) fun v U N => (v, U, N) = (q69 (m69)))) :=
  propOf (x69  _) (leaf_of (l := (datS [SV.int IntKind.i64 0, SV.int IntKind.i64 1, SV.str { data := #[] }, SV.str { data := #[98, 97, 110, 107] }, SV.int IntKind.i64 210, SV.int IntKind.i64 0, SV.int IntKind.i64 10000000, SV.bool false, SV.int IntKind.i64 1, SV.int IntKind.i64 1, SV.str { data := #[98, 97, 110, 107] }, SV.str { data := #[115, 49, 50] }, SV.int IntKind.i64 0, SV.int IntKind.i64 0, SV.int IntKind.i64 1900000, SV.bool false] 8)) rfl rfl)
theorem k69 : CtrOk Try.prog c69 69 := ctr_of tabOk_nil mix_ok 8 (fn := Try.f69) (c := (Try.f69.body.getD .skip)) (grs := []) (rh := .ro [.int .i64, .int .i64, .str, .str, .int .i64, .int .i64, .int .i64, .bool]) (Λ := (fun _ => none)) Try.func69 rfl (by kernel_rfl) noLam fun vs bs q h _ => by
  unfold g69 at h
  split at h <;> cases h
  exact ⟨_, rfl, p69 ⟩
/-! ### shotline/shotlinelaw06.Nitrox -/
theorem x70  (R : SV → List Blk → List Blk → Prop) : exec Try.prog [] (fun _ => none) 8 (Try.f70.body.getD .skip) (initS Try.f70.ntmps [] 0 (memOf [])) (retK Try.prog Try.f70.results.toList (outK 0 (List.range 0) [] (.t [.ro [.str, .int .i64, .int .i64, .int .i64, .int .i64], .k, .k, .k, .k, .k, .k, .k, .k]) fun v U N => R v U N)) =
  (R (.agg [.ro [.str, .int .i64, .int .i64, .int .i64, .int .i64] 2 (datS [SV.str { data := #[97, 105, 114] }, SV.int IntKind.i64 210, SV.int IntKind.i64 0, SV.int IntKind.i64 2, SV.int IntKind.i64 10000, SV.str { data := #[111, 50] }, SV.int IntKind.i64 1000, SV.int IntKind.i64 0, SV.int IntKind.i64 50, SV.int IntKind.i64 5000] 5), .int .i64 0, .int .i64 0, .int .i64 0, .int .i64 790, .int .i64 320, .int .i64 340, .int .i64 0, .int .i64 0]) [] []) := by kernel_rfl
def m70  : Dat × Int × Int × Int × Int × Int × Int × Int × Int :=
  ((datS [SV.str { data := #[97, 105, 114] }, SV.int IntKind.i64 210, SV.int IntKind.i64 0, SV.int IntKind.i64 2, SV.int IntKind.i64 10000, SV.str { data := #[111, 50] }, SV.int IntKind.i64 1000, SV.int IntKind.i64 0, SV.int IntKind.i64 50, SV.int IntKind.i64 5000] 5), 0, 0, 0, 790, 320, 340, 0, 0)
def q70 (r : Dat × Int × Int × Int × Int × Int × Int × Int × Int) : SV × List Blk × List Blk := (.agg [.ro [.str, .int .i64, .int .i64, .int .i64, .int .i64] 2 r.1, .int .i64 r.2.1, .int .i64 r.2.2.1, .int .i64 r.2.2.2.1, .int .i64 r.2.2.2.2.1, .int .i64 r.2.2.2.2.2.1, .int .i64 r.2.2.2.2.2.2.1, .int .i64 r.2.2.2.2.2.2.2.1, .int .i64 r.2.2.2.2.2.2.2.2], [], [])
def g70 : List SV → List Blk → Option OpRes := fun vs bs => match vs, bs with
  | [], [] => some (resOf 0 (q70 (m70)) [])
  | _, _ => none
def c70 : Ctr := genC [] g70
theorem p70  : exec Try.prog [] (fun _ => none) 8 (Try.f70.body.getD .skip) (initS Try.f70.ntmps [] 0 (memOf [])) (retK Try.prog Try.f70.results.toList (outK 0 (List.range 0) [] (.t [.ro [.str, .int .i64, .int .i64, .int .i64, .int .i64], .k, .k, .k, .k, .k, .k, .k, .k]) fun v U N => (v, U, N) = (q70 (m70)))) :=
  propOf (x70  _) (leaf_of (l := ((datS [SV.str { data := #[97, 105, 114] }, SV.int IntKind.i64 210, SV.int IntKind.i64 0, SV.int IntKind.i64 2, SV.int IntKind.i64 10000, SV.str { data := #[111, 50] }, SV.int IntKind.i64 1000, SV.int IntKind.i64 0, SV.int IntKind.i64 50, SV.int IntKind.i64 5000] 5), 0, 0, 0, 790, 320, 340, 0, 0)) rfl rfl)
theorem k70 : CtrOk Try.prog c70 70 := ctr_of tabOk_nil mix_ok 8 (fn := Try.f70) (c := (Try.f70.body.getD .skip)) (grs := []) (rh := .t [.ro [.str, .int .i64, .int .i64, .int .i64, .int .i64], .k, .k, .k, .k, .k, .k, .k, .k]) (Λ := (fun _ => none)) Try.func70 rfl (by kernel_rfl) noLam fun vs bs q h _ => by
  unfold g70 at h
  split at h <;> cases h
  exact ⟨_, rfl, p70 ⟩
/-! ### shotline/shotlineref06.Value -/
/-! #### loop 0 -/
def l102_0 (t2 : Bool) (b0_0 : Nat) (b0_1 : Dat) (b0_2 : Int) (b0_3 : Int) (b0_4 : Int) (b0_5 : Int) (b0_6 : Int) (b0_7 : Int) (b0_8 : Int) (b0_9 : Int) (b1_0 : Int) (b1_1 : Int) (b1_2 : Int) (b1_3 : Int) (b1_4 : Int) (b1_5 : Int) : Nat → Int → Int → Option (Int)
  | 0, _, _ => none
  | f + 1, t9, t10 => (cond ((decide (t10 < (↑b0_0 : Int)))) (cond ((decide ((0 : Int) ≤ t10 ∧ t10 < (↑b0_0 : Int)))) (cond (t2) (l102_0 t2 b0_0 b0_1 b0_2 b0_3 b0_4 b0_5 b0_6 b0_7 b0_8 b0_9 b1_0 b1_1 b1_2 b1_3 b1_4 b1_5 f (IntKind.i64.wrap (t9 - IntKind.i64.wrap (b0_1.ii t10.toNat (0 + 1 + 1 + 1 + 1) * imax 0 (IntKind.i64.wrap (IntKind.i64.wrap (IntKind.i64.wrap (b1_0 + IntKind.i64.wrap (b0_1.ii t10.toNat (0 + 1) * IntKind.i64.wrap (b1_1 - b1_2))) + IntKind.i64.wrap (b0_1.ii t10.toNat (0 + 1 + 1) * IntKind.i64.wrap (b1_3 - b1_4))) - 0))))) (IntKind.i64.wrap (t10 + 1))) (l102_0 t2 b0_0 b0_1 b0_2 b0_3 b0_4 b0_5 b0_6 b0_7 b0_8 b0_9 b1_0 b1_1 b1_2 b1_3 b1_4 b1_5 f (IntKind.i64.wrap (t9 - IntKind.i64.wrap (b0_1.ii t10.toNat (0 + 1 + 1 + 1 + 1) * imax 0 (IntKind.i64.wrap (IntKind.i64.wrap (IntKind.i64.wrap (b1_0 + IntKind.i64.wrap (b0_1.ii t10.toNat (0 + 1) * IntKind.i64.wrap (b1_1 - b1_2))) + IntKind.i64.wrap (b0_1.ii t10.toNat (0 + 1 + 1) * IntKind.i64.wrap (b1_3 - b1_4))) - IntKind.i64.wrap (b1_5 * b0_1.ii t10.toNat (0 + 1 + 1 + 1))))))) (IntKind.i64.wrap (t10 + 1)))) none) (some t9))
abbrev o102_0 (t2 : Bool) (b0_0 : Nat) (b0_1 : Dat) (b0_2 : Int) (b0_3 : Int) (b0_4 : Int) (b0_5 : Int) (b0_6 : Int) (b0_7 : Int) (b0_8 : Int) (b0_9 : Int) (b1_0 : Int) (b1_1 : Int) (b1_2 : Int) (b1_3 : Int) (b1_4 : Int) (b1_5 : Int) (t9 : Int) (t10 : Int) : Option (Int) := l102_0 t2 b0_0 b0_1 b0_2 b0_3 b0_4 b0_5 b0_6 b0_7 b0_8 b0_9 b1_0 b1_1 b1_2 b1_3 b1_4 b1_5 (t9.toNat + t10.toNat + b0_0 + b0_2.toNat + b0_3.toNat + b0_4.toNat + b0_5.toNat + b0_6.toNat + b0_7.toNat + b0_8.toNat + b0_9.toNat + b1_0.toNat + b1_1.toNat + b1_2.toNat + b1_3.toNat + b1_4.toNat + b1_5.toNat + 8) t9 t10
def e102_0 (t2 : Bool) (b0_0 : Nat) (b0_1 : Dat) (b0_2 : Int) (b0_3 : Int) (b0_4 : Int) (b0_5 : Int) (b0_6 : Int) (b0_7 : Int) (b0_8 : Int) (b0_9 : Int) (b1_0 : Int) (b1_1 : Int) (b1_2 : Int) (b1_3 : Int) (b1_4 : Int) (b1_5 : Int) (r : Int) (K : XR) : Prop := K (XE.exit 0) [.int .i64 r] [.cells 107 [.ro [.str, .int .i64, .int .i64, .int .i64, .int .i64] b0_0 b0_1, .int .i64 b0_2, .int .i64 b0_3, .int .i64 b0_4, .int .i64 b0_5, .int .i64 b0_6, .int .i64 b0_7, .int .i64 b0_8, .int .i64 b0_9], .cells 112 [.int .i64 b1_0, .int .i64 b1_1, .int .i64 b1_2, .int .i64 b1_3, .int .i64 b1_4, .int .i64 b1_5]]
def g102_0 : LSum := fun s k => match czv 0 129 [2, 3, 4, 9, 10] 2 [] s with
  | some ([.bool t2, .ptr 0 0, .ptr 1 0, .int .i64 t9, .int .i64 t10], [.cells 107 [.ro [.str, .int .i64, .int .i64, .int .i64, .int .i64] b0_0 b0_1, .int .i64 b0_2, .int .i64 b0_3, .int .i64 b0_4, .int .i64 b0_5, .int .i64 b0_6, .int .i64 b0_7, .int .i64 b0_8, .int .i64 b0_9], .cells 112 [.int .i64 b1_0, .int .i64 b1_1, .int .i64 b1_2, .int .i64 b1_3, .int .i64 b1_4, .int .i64 b1_5]]) => needs [(o102_0 t2 b0_0 b0_1 b0_2 b0_3 b0_4 b0_5 b0_6 b0_7 b0_8 b0_9 b1_0 b1_1 b1_2 b1_3 b1_4 b1_5 t9 t10).isSome] (e102_0 t2 b0_0 b0_1 b0_2 b0_3 b0_4 b0_5 b0_6 b0_7 b0_8 b0_9 b1_0 b1_1 b1_2 b1_3 b1_4 b1_5 ((o102_0 t2 b0_0 b0_1 b0_2 b0_3 b0_4 b0_5 b0_6 b0_7 b0_8 b0_9 b1_0 b1_1 b1_2 b1_3 b1_4 b1_5 t9 t10).getD default) fun e vs bs => inBlk 0 k e (mkSt 0 129 [9] vs 2 bs))
  | _ => False
theorem y102_0 (t2 : Bool) (t9 : Int) (t10 : Int) (b0_0 : Nat) (b0_1 : Dat) (b0_2 : Int) (b0_3 : Int) (b0_4 : Int) (b0_5 : Int) (b0_6 : Int) (b0_7 : Int) (b0_8 : Int) (b0_9 : Int) (b1_0 : Int) (b1_1 : Int) (b1_2 : Int) (b1_3 : Int) (b1_4 : Int) (b1_5 : Int) (R : XR) : exec Try.prog [(19, c19)] (fun _ => none) 8 (unloop (bodyAt (Try.f102.body.getD .skip) 0)) (mkSt 0 129 [2, 3, 4, 9, 10] [.bool t2, .ptr 0 0, .ptr 1 0, .int .i64 t9, .int .i64 t10] 2 [.cells 107 [.ro [.str, .int .i64, .int .i64, .int .i64, .int .i64] b0_0 b0_1, .int .i64 b0_2, .int .i64 b0_3, .int .i64 b0_4, .int .i64 b0_5, .int .i64 b0_6, .int .i64 b0_7, .int .i64 b0_8, .int .i64 b0_9], .cells 112 [.int .i64 b1_0, .int .i64 b1_1, .int .i64 b1_2, .int .i64 b1_3, .int .i64 b1_4, .int .i64 b1_5]]) (canonK 0 129 [2, 3, 4, 9, 10] [9] 2 [] R) =
  (cnd ((decide (t10 < (↑b0_0 : Int))))
  (cnd ((decide ((0 : Int) ≤ t10 ∧ t10 < (↑b0_0 : Int))))
   (cnd (t2)
    (R (XE.normal) [.bool t2, .ptr 0 0, .ptr 1 0, .int .i64 (IntKind.i64.wrap (t9 - IntKind.i64.wrap (b0_1.ii t10.toNat (0 + 1 + 1 + 1 + 1) * imax 0 (IntKind.i64.wrap (IntKind.i64.wrap (IntKind.i64.wrap (b1_0 + IntKind.i64.wrap (b0_1.ii t10.toNat (0 + 1) * IntKind.i64.wrap (b1_1 - b1_2))) + IntKind.i64.wrap (b0_1.ii t10.toNat (0 + 1 + 1) * IntKind.i64.wrap (b1_3 - b1_4))) - 0))))), .int .i64 (IntKind.i64.wrap (t10 + 1))] [.cells 107 [.ro [.str, .int .i64, .int .i64, .int .i64, .int .i64] b0_0 b0_1, .int .i64 b0_2, .int .i64 b0_3, .int .i64 b0_4, .int .i64 b0_5, .int .i64 b0_6, .int .i64 b0_7, .int .i64 b0_8, .int .i64 b0_9], .cells 112 [.int .i64 b1_0, .int .i64 b1_1, .int .i64 b1_2, .int .i64 b1_3, .int .i64 b1_4, .int .i64 b1_5]])
    (R (XE.normal) [.bool t2, .ptr 0 0, .ptr 1 0, .int .i64 (IntKind.i64.wrap (t9 - IntKind.i64.wrap (b0_1.ii t10.toNat (0 + 1 + 1 + 1 + 1) * imax 0 (IntKind.i64.wrap (IntKind.i64.wrap (IntKind.i64.wrap (b1_0 + IntKind.i64.wrap (b0_1.ii t10.toNat (0 + 1) * IntKind.i64.wrap (b1_1 - b1_2))) + IntKind.i64.wrap (b0_1.ii t10.toNat (0 + 1 + 1) * IntKind.i64.wrap (b1_3 - b1_4))) - IntKind.i64.wrap (b1_5 * b0_1.ii t10.toNat (0 + 1 + 1 + 1))))))), .int .i64 (IntKind.i64.wrap (t10 + 1))] [.cells 107 [.ro [.str, .int .i64, .int .i64, .int .i64, .int .i64] b0_0 b0_1, .int .i64 b0_2, .int .i64 b0_3, .int .i64 b0_4, .int .i64 b0_5, .int .i64 b0_6, .int .i64 b0_7, .int .i64 b0_8, .int .i64 b0_9], .cells 112 [.int .i64 b1_0, .int .i64 b1_1, .int .i64 b1_2, .int .i64 b1_3, .int .i64 b1_4, .int .i64 b1_5]]))
   False)
  (R (XE.exit 0) [.int .i64 t9] [.cells 107 [.ro [.str, .int .i64, .int .i64, .int .i64, .int .i64] b0_0 b0_1, .int .i64 b0_2, .int .i64 b0_3, .int .i64 b0_4, .int .i64 b0_5, .int .i64 b0_6, .int .i64 b0_7, .int .i64 b0_8, .int .i64 b0_9], .cells 112 [.int .i64 b1_0, .int .i64 b1_1, .int .i64 b1_2, .int .i64 b1_3, .int .i64 b1_4, .int .i64 b1_5]])) := by kernel_rfl
theorem z102_0 : LOk Try.prog g102_0 (.block 0 (bodyAt (Try.f102.body.getD .skip) 0)) := by
  refine loop_blk (ι := Bool × Int × Int × Nat × Dat × Int × Int × Int × Int × Int × Int × Int × Int × Int × Int × Int × Int × Int × Int) (L := [(19, c19)]) (Λ := (fun _ => none)) (fuel := 8) (na := 0) (nt := 129) (nx := 2) (Lh := [2, 3, 4, 9, 10]) (Le := [9]) (gl := []) (tabOk_cons k19 tabOk_nil) mix_ok noLam rfl (fun f x K => GG default (e102_0 x.1 x.2.2.2.1 x.2.2.2.2.1 x.2.2.2.2.2.1 x.2.2.2.2.2.2.1 x.2.2.2.2.2.2.2.1 x.2.2.2.2.2.2.2.2.1 x.2.2.2.2.2.2.2.2.2.1 x.2.2.2.2.2.2.2.2.2.2.1 x.2.2.2.2.2.2.2.2.2.2.2.1 x.2.2.2.2.2.2.2.2.2.2.2.2.1 x.2.2.2.2.2.2.2.2.2.2.2.2.2.1 x.2.2.2.2.2.2.2.2.2.2.2.2.2.2.1 x.2.2.2.2.2.2.2.2.2.2.2.2.2.2.2.1 x.2.2.2.2.2.2.2.2.2.2.2.2.2.2.2.2.1 x.2.2.2.2.2.2.2.2.2.2.2.2.2.2.2.2.2.1 x.2.2.2.2.2.2.2.2.2.2.2.2.2.2.2.2.2.2) K (l102_0 x.1 x.2.2.2.1 x.2.2.2.2.1 x.2.2.2.2.2.1 x.2.2.2.2.2.2.1 x.2.2.2.2.2.2.2.1 x.2.2.2.2.2.2.2.2.1 x.2.2.2.2.2.2.2.2.2.1 x.2.2.2.2.2.2.2.2.2.2.1 x.2.2.2.2.2.2.2.2.2.2.2.1 x.2.2.2.2.2.2.2.2.2.2.2.2.1 x.2.2.2.2.2.2.2.2.2.2.2.2.2.1 x.2.2.2.2.2.2.2.2.2.2.2.2.2.2.1 x.2.2.2.2.2.2.2.2.2.2.2.2.2.2.2.1 x.2.2.2.2.2.2.2.2.2.2.2.2.2.2.2.2.1 x.2.2.2.2.2.2.2.2.2.2.2.2.2.2.2.2.2.1 x.2.2.2.2.2.2.2.2.2.2.2.2.2.2.2.2.2.2 f x.2.1 x.2.2.1)) (fun x => [.bool x.1, .ptr 0 0, .ptr 1 0, .int .i64 x.2.1, .int .i64 x.2.2.1]) (fun x => [.cells 107 [.ro [.str, .int .i64, .int .i64, .int .i64, .int .i64] x.2.2.2.1 x.2.2.2.2.1, .int .i64 x.2.2.2.2.2.1, .int .i64 x.2.2.2.2.2.2.1, .int .i64 x.2.2.2.2.2.2.2.1, .int .i64 x.2.2.2.2.2.2.2.2.1, .int .i64 x.2.2.2.2.2.2.2.2.2.1, .int .i64 x.2.2.2.2.2.2.2.2.2.2.1, .int .i64 x.2.2.2.2.2.2.2.2.2.2.2.1, .int .i64 x.2.2.2.2.2.2.2.2.2.2.2.2.1], .cells 112 [.int .i64 x.2.2.2.2.2.2.2.2.2.2.2.2.2.1, .int .i64 x.2.2.2.2.2.2.2.2.2.2.2.2.2.2.1, .int .i64 x.2.2.2.2.2.2.2.2.2.2.2.2.2.2.2.1, .int .i64 x.2.2.2.2.2.2.2.2.2.2.2.2.2.2.2.2.1, .int .i64 x.2.2.2.2.2.2.2.2.2.2.2.2.2.2.2.2.2.1, .int .i64 x.2.2.2.2.2.2.2.2.2.2.2.2.2.2.2.2.2.2]]) (fun x K => gg_none) ?_ ?_
  · rintro f ⟨t2, t9, t10, b0_0, b0_1, b0_2, b0_3, b0_4, b0_5, b0_6, b0_7, b0_8, b0_9, b1_0, b1_1, b1_2, b1_3, b1_4, b1_5⟩ K hG
    have hG : GG default (e102_0 t2 b0_0 b0_1 b0_2 b0_3 b0_4 b0_5 b0_6 b0_7 b0_8 b0_9 b1_0 b1_1 b1_2 b1_3 b1_4 b1_5) K (cond ((decide (t10 < (↑b0_0 : Int)))) (cond ((decide ((0 : Int) ≤ t10 ∧ t10 < (↑b0_0 : Int)))) (cond (t2) (l102_0 t2 b0_0 b0_1 b0_2 b0_3 b0_4 b0_5 b0_6 b0_7 b0_8 b0_9 b1_0 b1_1 b1_2 b1_3 b1_4 b1_5 f (IntKind.i64.wrap (t9 - IntKind.i64.wrap (b0_1.ii t10.toNat (0 + 1 + 1 + 1 + 1) * imax 0 (IntKind.i64.wrap (IntKind.i64.wrap (IntKind.i64.wrap (b1_0 + IntKind.i64.wrap (b0_1.ii t10.toNat (0 + 1) * IntKind.i64.wrap (b1_1 - b1_2))) + IntKind.i64.wrap (b0_1.ii t10.toNat (0 + 1 + 1) * IntKind.i64.wrap (b1_3 - b1_4))) - 0))))) (IntKind.i64.wrap (t10 + 1))) (l102_0 t2 b0_0 b0_1 b0_2 b0_3 b0_4 b0_5 b0_6 b0_7 b0_8 b0_9 b1_0 b1_1 b1_2 b1_3 b1_4 b1_5 f (IntKind.i64.wrap (t9 - IntKind.i64.wrap (b0_1.ii t10.toNat (0 + 1 + 1 + 1 + 1) * imax 0 (IntKind.i64.wrap (IntKind.i64.wrap (IntKind.i64.wrap (b1_0 + IntKind.i64.wrap (b0_1.ii t10.toNat (0 + 1) * IntKind.i64.wrap (b1_1 - b1_2))) + IntKind.i64.wrap (b0_1.ii t10.toNat (0 + 1 + 1) * IntKind.i64.wrap (b1_3 - b1_4))) - IntKind.i64.wrap (b1_5 * b0_1.ii t10.toNat (0 + 1 + 1 + 1))))))) (IntKind.i64.wrap (t10 + 1)))) none) (some t9)) := hG
    refine propOf (y102_0 t2 t9 t10 b0_0 b0_1 b0_2 b0_3 b0_4 b0_5 b0_6 b0_7 b0_8 b0_9 b1_0 b1_1 b1_2 b1_3 b1_4 b1_5 _) ?_
    exact cnd_gg2 hG (fun h0 => cnd_gg h0 fun h1 => cnd_gg2 h1 (fun h2 => ⟨(t2, (IntKind.i64.wrap (t9 - IntKind.i64.wrap (b0_1.ii t10.toNat (0 + 1 + 1 + 1 + 1) * imax 0 (IntKind.i64.wrap (IntKind.i64.wrap (IntKind.i64.wrap (b1_0 + IntKind.i64.wrap (b0_1.ii t10.toNat (0 + 1) * IntKind.i64.wrap (b1_1 - b1_2))) + IntKind.i64.wrap (b0_1.ii t10.toNat (0 + 1 + 1) * IntKind.i64.wrap (b1_3 - b1_4))) - 0))))), (IntKind.i64.wrap (t10 + 1)), b0_0, b0_1, b0_2, b0_3, b0_4, b0_5, b0_6, b0_7, b0_8, b0_9, b1_0, b1_1, b1_2, b1_3, b1_4, b1_5), rfl, rfl, h2⟩) (fun h2 => ⟨(t2, (IntKind.i64.wrap (t9 - IntKind.i64.wrap (b0_1.ii t10.toNat (0 + 1 + 1 + 1 + 1) * imax 0 (IntKind.i64.wrap (IntKind.i64.wrap (IntKind.i64.wrap (b1_0 + IntKind.i64.wrap (b0_1.ii t10.toNat (0 + 1) * IntKind.i64.wrap (b1_1 - b1_2))) + IntKind.i64.wrap (b0_1.ii t10.toNat (0 + 1 + 1) * IntKind.i64.wrap (b1_3 - b1_4))) - IntKind.i64.wrap (b1_5 * b0_1.ii t10.toNat (0 + 1 + 1 + 1))))))), (IntKind.i64.wrap (t10 + 1)), b0_0, b0_1, b0_2, b0_3, b0_4, b0_5, b0_6, b0_7, b0_8, b0_9, b1_0, b1_1, b1_2, b1_3, b1_4, b1_5), rfl, rfl, h2⟩)) (fun h0 => h0.2)
  · intro s k h
    unfold g102_0 at h
    split at h <;> try exact h.elim
    rename_i e1
    rw [needs_iff] at h
    exact ⟨_, e1, _, (_, _, _, _, _, _, _, _, _, _, _, _, _, _, _, _, _, _, _), rfl, rfl, h.1 _ (List.mem_singleton.2 rfl), h.2⟩
theorem x102 (na0_0 : Nat) (da0_0 : Dat) (a0_1 : Int) (a0_2 : Int) (a0_3 : Int) (a0_4 : Int) (a0_5 : Int) (a0_6 : Int) (a0_7 : Int) (a0_8 : Int) (a1_0 : Int) (a1_1 : Int) (a1_2 : Int) (a1_3 : Int) (a1_4 : Int) (a1_5 : Int) (a2 : Bool) (R : SV → List Blk → List Blk → Prop) : exec Try.prog [(19, c19)] (lamOf [(0, g102_0)]) 8 (Try.f102.body.getD .skip) (initS Try.f102.ntmps [.agg [.ro [.str, .int .i64, .int .i64, .int .i64, .int .i64] na0_0 da0_0, .int .i64 a0_1, .int .i64 a0_2, .int .i64 a0_3, .int .i64 a0_4, .int .i64 a0_5, .int .i64 a0_6, .int .i64 a0_7, .int .i64 a0_8], .agg [.int .i64 a1_0, .int .i64 a1_1, .int .i64 a1_2, .int .i64 a1_3, .int .i64 a1_4, .int .i64 a1_5], .bool a2] 0 (memOf [])) (retK Try.prog Try.f102.results.toList (outK 0 (List.range 0) [] (.k) fun v U N => R v U N)) =
  (cnd (((o102_0 a2 na0_0 da0_0 a0_1 a0_2 a0_3 a0_4 a0_5 a0_6 a0_7 a0_8 a1_0 a1_1 a1_2 a1_3 a1_4 a1_5 (IntKind.i64.wrap (IntKind.i64.wrap (IntKind.i64.wrap (IntKind.i64.wrap (IntKind.i64.wrap (a1_0 * IntKind.i64.wrap (a0_4 - m19 a0_1 a0_2 a0_3)) + IntKind.i64.wrap (a1_1 * IntKind.i64.wrap (IntKind.i64.wrap (a0_5 * a0_4) - IntKind.i64.wrap (1000 * a0_1)))) - IntKind.i64.wrap (a1_2 * IntKind.i64.wrap (IntKind.i64.wrap (a0_6 * a0_4) - IntKind.i64.wrap (1000 * a0_1)))) + IntKind.i64.wrap (a1_3 * IntKind.i64.wrap (IntKind.i64.wrap (a0_7 * a0_4) - IntKind.i64.wrap (1000 * a0_2)))) - IntKind.i64.wrap (a1_4 * IntKind.i64.wrap (IntKind.i64.wrap (a0_8 * a0_4) - IntKind.i64.wrap (1000 * a0_2))))) 0).isSome))
  (R (.int .i64 ((o102_0 a2 na0_0 da0_0 a0_1 a0_2 a0_3 a0_4 a0_5 a0_6 a0_7 a0_8 a1_0 a1_1 a1_2 a1_3 a1_4 a1_5 (IntKind.i64.wrap (IntKind.i64.wrap (IntKind.i64.wrap (IntKind.i64.wrap (IntKind.i64.wrap (a1_0 * IntKind.i64.wrap (a0_4 - m19 a0_1 a0_2 a0_3)) + IntKind.i64.wrap (a1_1 * IntKind.i64.wrap (IntKind.i64.wrap (a0_5 * a0_4) - IntKind.i64.wrap (1000 * a0_1)))) - IntKind.i64.wrap (a1_2 * IntKind.i64.wrap (IntKind.i64.wrap (a0_6 * a0_4) - IntKind.i64.wrap (1000 * a0_1)))) + IntKind.i64.wrap (a1_3 * IntKind.i64.wrap (IntKind.i64.wrap (a0_7 * a0_4) - IntKind.i64.wrap (1000 * a0_2)))) - IntKind.i64.wrap (a1_4 * IntKind.i64.wrap (IntKind.i64.wrap (a0_8 * a0_4) - IntKind.i64.wrap (1000 * a0_2))))) 0).getD default)) [] [])
  False) := by kernel_rfl
def m102 (na0_0 : Nat) (da0_0 : Dat) (a0_1 : Int) (a0_2 : Int) (a0_3 : Int) (a0_4 : Int) (a0_5 : Int) (a0_6 : Int) (a0_7 : Int) (a0_8 : Int) (a1_0 : Int) (a1_1 : Int) (a1_2 : Int) (a1_3 : Int) (a1_4 : Int) (a1_5 : Int) (a2 : Bool) : Int :=
  ((o102_0 a2 na0_0 da0_0 a0_1 a0_2 a0_3 a0_4 a0_5 a0_6 a0_7 a0_8 a1_0 a1_1 a1_2 a1_3 a1_4 a1_5 (IntKind.i64.wrap (IntKind.i64.wrap (IntKind.i64.wrap (IntKind.i64.wrap (IntKind.i64.wrap (a1_0 * IntKind.i64.wrap (a0_4 - m19 a0_1 a0_2 a0_3)) + IntKind.i64.wrap (a1_1 * IntKind.i64.wrap (IntKind.i64.wrap (a0_5 * a0_4) - IntKind.i64.wrap (1000 * a0_1)))) - IntKind.i64.wrap (a1_2 * IntKind.i64.wrap (IntKind.i64.wrap (a0_6 * a0_4) - IntKind.i64.wrap (1000 * a0_1)))) + IntKind.i64.wrap (a1_3 * IntKind.i64.wrap (IntKind.i64.wrap (a0_7 * a0_4) - IntKind.i64.wrap (1000 * a0_2)))) - IntKind.i64.wrap (a1_4 * IntKind.i64.wrap (IntKind.i64.wrap (a0_8 * a0_4) - IntKind.i64.wrap (1000 * a0_2))))) 0).getD default)
def n102 (na0_0 : Nat) (da0_0 : Dat) (a0_1 : Int) (a0_2 : Int) (a0_3 : Int) (a0_4 : Int) (a0_5 : Int) (a0_6 : Int) (a0_7 : Int) (a0_8 : Int) (a1_0 : Int) (a1_1 : Int) (a1_2 : Int) (a1_3 : Int) (a1_4 : Int) (a1_5 : Int) (a2 : Bool) : Bool :=
  ((((o102_0 a2 na0_0 da0_0 a0_1 a0_2 a0_3 a0_4 a0_5 a0_6 a0_7 a0_8 a1_0 a1_1 a1_2 a1_3 a1_4 a1_5 (IntKind.i64.wrap (IntKind.i64.wrap (IntKind.i64.wrap (IntKind.i64.wrap (IntKind.i64.wrap (a1_0 * IntKind.i64.wrap (a0_4 - m19 a0_1 a0_2 a0_3)) + IntKind.i64.wrap (a1_1 * IntKind.i64.wrap (IntKind.i64.wrap (a0_5 * a0_4) - IntKind.i64.wrap (1000 * a0_1)))) - IntKind.i64.wrap (a1_2 * IntKind.i64.wrap (IntKind.i64.wrap (a0_6 * a0_4) - IntKind.i64.wrap (1000 * a0_1)))) + IntKind.i64.wrap (a1_3 * IntKind.i64.wrap (IntKind.i64.wrap (a0_7 * a0_4) - IntKind.i64.wrap (1000 * a0_2)))) - IntKind.i64.wrap (a1_4 * IntKind.i64.wrap (IntKind.i64.wrap (a0_8 * a0_4) - IntKind.i64.wrap (1000 * a0_2))))) 0).isSome)) && true)
def q102 (r : Int) : SV × List Blk × List Blk := (.int .i64 r, [], [])
def g102 : List SV → List Blk → Option OpRes := fun vs bs => match vs, bs with
  | [.agg [.ro [.str, .int .i64, .int .i64, .int .i64, .int .i64] na0_0 da0_0, .int .i64 a0_1, .int .i64 a0_2, .int .i64 a0_3, .int .i64 a0_4, .int .i64 a0_5, .int .i64 a0_6, .int .i64 a0_7, .int .i64 a0_8], .agg [.int .i64 a1_0, .int .i64 a1_1, .int .i64 a1_2, .int .i64 a1_3, .int .i64 a1_4, .int .i64 a1_5], .bool a2], [] => some (resOf 0 (q102 (m102 na0_0 da0_0 a0_1 a0_2 a0_3 a0_4 a0_5 a0_6 a0_7 a0_8 a1_0 a1_1 a1_2 a1_3 a1_4 a1_5 a2)) [n102 na0_0 da0_0 a0_1 a0_2 a0_3 a0_4 a0_5 a0_6 a0_7 a0_8 a1_0 a1_1 a1_2 a1_3 a1_4 a1_5 a2])
  | _, _ => none
def c102 : Ctr := genC [.a [.ro [.str, .int .i64, .int .i64, .int .i64, .int .i64], .k, .k, .k, .k, .k, .k, .k, .k], .k, .k] g102
theorem p102 (na0_0 : Nat) (da0_0 : Dat) (a0_1 : Int) (a0_2 : Int) (a0_3 : Int) (a0_4 : Int) (a0_5 : Int) (a0_6 : Int) (a0_7 : Int) (a0_8 : Int) (a1_0 : Int) (a1_1 : Int) (a1_2 : Int) (a1_3 : Int) (a1_4 : Int) (a1_5 : Int) (a2 : Bool) (hn : n102 na0_0 da0_0 a0_1 a0_2 a0_3 a0_4 a0_5 a0_6 a0_7 a0_8 a1_0 a1_1 a1_2 a1_3 a1_4 a1_5 a2 = true) : exec Try.prog [(19, c19)] (lamOf [(0, g102_0)]) 8 (Try.f102.body.getD .skip) (initS Try.f102.ntmps [.agg [.ro [.str, .int .i64, .int .i64, .int .i64, .int .i64] na0_0 da0_0, .int .i64 a0_1, .int .i64 a0_2, .int .i64 a0_3, .int .i64 a0_4, .int .i64 a0_5, .int .i64 a0_6, .int .i64 a0_7, .int .i64 a0_8], .agg [.int .i64 a1_0, .int .i64 a1_1, .int .i64 a1_2, .int .i64 a1_3, .int .i64 a1_4, .int .i64 a1_5], .bool a2] 0 (memOf [])) (retK Try.prog Try.f102.results.toList (outK 0 (List.range 0) [] (.k) fun v U N => (v, U, N) = (q102 (m102 na0_0 da0_0 a0_1 a0_2 a0_3 a0_4 a0_5 a0_6 a0_7 a0_8 a1_0 a1_1 a1_2 a1_3 a1_4 a1_5 a2)))) :=
  propOf (x102 na0_0 da0_0 a0_1 a0_2 a0_3 a0_4 a0_5 a0_6 a0_7 a0_8 a1_0 a1_1 a1_2 a1_3 a1_4 a1_5 a2 _) (cnd_need (and_l hn) (leaf_of (l := ((o102_0 a2 na0_0 da0_0 a0_1 a0_2 a0_3 a0_4 a0_5 a0_6 a0_7 a0_8 a1_0 a1_1 a1_2 a1_3 a1_4 a1_5 (IntKind.i64.wrap (IntKind.i64.wrap (IntKind.i64.wrap (IntKind.i64.wrap (IntKind.i64.wrap (a1_0 * IntKind.i64.wrap (a0_4 - m19 a0_1 a0_2 a0_3)) + IntKind.i64.wrap (a1_1 * IntKind.i64.wrap (IntKind.i64.wrap (a0_5 * a0_4) - IntKind.i64.wrap (1000 * a0_1)))) - IntKind.i64.wrap (a1_2 * IntKind.i64.wrap (IntKind.i64.wrap (a0_6 * a0_4) - IntKind.i64.wrap (1000 * a0_1)))) + IntKind.i64.wrap (a1_3 * IntKind.i64.wrap (IntKind.i64.wrap (a0_7 * a0_4) - IntKind.i64.wrap (1000 * a0_2)))) - IntKind.i64.wrap (a1_4 * IntKind.i64.wrap (IntKind.i64.wrap (a0_8 * a0_4) - IntKind.i64.wrap (1000 * a0_2))))) 0).getD default)) rfl rfl))
theorem k102 : CtrOk Try.prog c102 102 := ctr_of (tabOk_cons k19 tabOk_nil) mix_ok 8 (fn := Try.f102) (c := (Try.f102.body.getD .skip)) (grs := []) (rh := .k) (Λ := (lamOf [(0, g102_0)])) Try.func102 rfl (by kernel_rfl) (lam_of rfl (lams_cons z102_0 lams_nil)) fun vs bs q h hn => by
  unfold g102 at h
  split at h <;> cases h
  exact ⟨_, rfl, p102 _ _ _ _ _ _ _ _ _ _ _ _ _ _ _ _ _ (hn _ (List.mem_singleton.2 rfl))⟩
/-! ### shotline/mix.checkContent -/
theorem x71 (a0_0 : Int) (a0_1 : Int) (a0_2 : Int) (R : SV → List Blk → List Blk → Prop) : exec Try.prog [(72, c72), (74, c74), (110, c110c111), (111, c111)] (fun _ => none) 8 (Try.f71.body.getD .skip) (initS Try.f71.ntmps [.agg [.int .i64 a0_0, .int .i64 a0_1, .int .i64 a0_2]] 0 (memOf [])) (retK Try.prog Try.f71.results.toList (outK 0 (List.range 0) [] (.k) fun v U N => R v U N)) =
  (cnd ((n110c111 ((↑3 : Int) - 0).toNat (datS [SV.int IntKind.i64 (m72 a0_0 a0_1 a0_2).fst, SV.int IntKind.i64 (m72 a0_0 a0_1 a0_2).snd.fst, SV.int IntKind.i64 (m72 a0_0 a0_1 a0_2).snd.snd] 1)))
  (cnd ((bif (m110c111 ((↑3 : Int) - 0).toNat (datS [SV.int IntKind.i64 (m72 a0_0 a0_1 a0_2).fst, SV.int IntKind.i64 (m72 a0_0 a0_1 a0_2).snd.fst, SV.int IntKind.i64 (m72 a0_0 a0_1 a0_2).snd.snd] 1)) then true else (decide ((1000000000 : Int) < m74 (m72 a0_0 a0_1 a0_2).fst (m72 a0_0 a0_1 a0_2).snd.fst (m72 a0_0 a0_1 a0_2).snd.snd))))
   (R (.int .i64 2) [] [])
   (R (.int .i64 0) [] []))
  False) := by kernel_rfl
noncomputable def m71 (a0_0 : Int) (a0_1 : Int) (a0_2 : Int) : Int :=
  (cond ((bif (m110c111 ((↑3 : Int) - 0).toNat (datS [SV.int IntKind.i64 (m72 a0_0 a0_1 a0_2).fst, SV.int IntKind.i64 (m72 a0_0 a0_1 a0_2).snd.fst, SV.int IntKind.i64 (m72 a0_0 a0_1 a0_2).snd.snd] 1)) then true else (decide ((1000000000 : Int) < m74 (m72 a0_0 a0_1 a0_2).fst (m72 a0_0 a0_1 a0_2).snd.fst (m72 a0_0 a0_1 a0_2).snd.snd)))) 2 0)
noncomputable def n71 (a0_0 : Int) (a0_1 : Int) (a0_2 : Int) : Bool :=
  (((n110c111 ((↑3 : Int) - 0).toNat (datS [SV.int IntKind.i64 (m72 a0_0 a0_1 a0_2).fst, SV.int IntKind.i64 (m72 a0_0 a0_1 a0_2).snd.fst, SV.int IntKind.i64 (m72 a0_0 a0_1 a0_2).snd.snd] 1))) && true)
noncomputable def q71 (r : Int) : SV × List Blk × List Blk := (.int .i64 r, [], [])
noncomputable def g71 : List SV → List Blk → Option OpRes := fun vs bs => match vs, bs with
  | [.agg [.int .i64 a0_0, .int .i64 a0_1, .int .i64 a0_2]], [] => some (resOf 0 (q71 (m71 a0_0 a0_1 a0_2)) [n71 a0_0 a0_1 a0_2])
  | _, _ => none
noncomputable def c71 : Ctr := genC [.k] g71
theorem p71 (a0_0 : Int) (a0_1 : Int) (a0_2 : Int) (hn : n71 a0_0 a0_1 a0_2 = true) : exec Try.prog [(72, c72), (74, c74), (110, c110c111), (111, c111)] (fun _ => none) 8 (Try.f71.body.getD .skip) (initS Try.f71.ntmps [.agg [.int .i64 a0_0, .int .i64 a0_1, .int .i64 a0_2]] 0 (memOf [])) (retK Try.prog Try.f71.results.toList (outK 0 (List.range 0) [] (.k) fun v U N => (v, U, N) = (q71 (m71 a0_0 a0_1 a0_2)))) :=
  propOf (x71 a0_0 a0_1 a0_2 _) (cnd_need (and_l hn) (cnd_of (fun h0 => leaf_of (l := 2) (condT h0 rfl) rfl) (fun h0 => leaf_of (l := 0) (condF h0 rfl) rfl)))
theorem k71 : CtrOk Try.prog c71 71 := ctr_of (tabOk_cons k72 (tabOk_cons k74 (tabOk_cons k110c111 (tabOk_cons k111 tabOk_nil)))) mix_ok 8 (fn := Try.f71) (c := (Try.f71.body.getD .skip)) (grs := []) (rh := .k) (Λ := (fun _ => none)) Try.func71 rfl (by kernel_rfl) noLam fun vs bs q h hn => by
  unfold g71 at h
  split at h <;> cases h
  exact ⟨_, rfl, p71 _ _ _ (hn _ (List.mem_singleton.2 rfl))⟩
/-! ### shotline/mix.isProof -/
theorem x97 (a0_0 : Int) (a0_1 : Int) (a0_2 : Int) (a0_3 : Int) (a0_4 : Int) (a0_5 : Int) (R : SV → List Blk → List Blk → Prop) : exec Try.prog [(73, c73), (110, c110c131), (131, c131)] (fun _ => none) 8 (Try.f97.body.getD .skip) (initS Try.f97.ntmps [.agg [.int .i64 a0_0, .int .i64 a0_1, .int .i64 a0_2, .int .i64 a0_3, .int .i64 a0_4, .int .i64 a0_5]] 0 (memOf [])) (retK Try.prog Try.f97.results.toList (outK 0 (List.range 0) [] (.k) fun v U N => R v U N)) =
  (cnd ((bif (bif (bif (m73 a0_5 1 1000000) then (m73 a0_0 (-10000000000) 10000000000) else false) then false else true) then true else true))
  (cnd ((bif (bif (bif (m73 a0_5 1 1000000) then (m73 a0_0 (-10000000000) 10000000000) else false) then false else true) then true else (n110c131 ((↑4 : Int) - 0).toNat (datS [SV.int IntKind.i64 a0_1, SV.int IntKind.i64 a0_2, SV.int IntKind.i64 a0_3, SV.int IntKind.i64 a0_4] 1))))
   (R (.bool (bif (bif (m73 a0_5 1 1000000) then (m73 a0_0 (-10000000000) 10000000000) else false) then (bif (m110c131 ((↑4 : Int) - 0).toNat (datS [SV.int IntKind.i64 a0_1, SV.int IntKind.i64 a0_2, SV.int IntKind.i64 a0_3, SV.int IntKind.i64 a0_4] 1)) then false else true) else false)) [] [])
   False)
  False) := by kernel_rfl
noncomputable def m97 (a0_0 : Int) (a0_1 : Int) (a0_2 : Int) (a0_3 : Int) (a0_4 : Int) (a0_5 : Int) : Bool :=
  (bif (bif (m73 a0_5 1 1000000) then (m73 a0_0 (-10000000000) 10000000000) else false) then (bif (m110c131 ((↑4 : Int) - 0).toNat (datS [SV.int IntKind.i64 a0_1, SV.int IntKind.i64 a0_2, SV.int IntKind.i64 a0_3, SV.int IntKind.i64 a0_4] 1)) then false else true) else false)
noncomputable def n97 (a0_0 : Int) (a0_1 : Int) (a0_2 : Int) (a0_3 : Int) (a0_4 : Int) (a0_5 : Int) : Bool :=
  (((bif (bif (bif (m73 a0_5 1 1000000) then (m73 a0_0 (-10000000000) 10000000000) else false) then false else true) then true else true)) && (((bif (bif (bif (m73 a0_5 1 1000000) then (m73 a0_0 (-10000000000) 10000000000) else false) then false else true) then true else (n110c131 ((↑4 : Int) - 0).toNat (datS [SV.int IntKind.i64 a0_1, SV.int IntKind.i64 a0_2, SV.int IntKind.i64 a0_3, SV.int IntKind.i64 a0_4] 1)))) && true))
noncomputable def q97 (r : Bool) : SV × List Blk × List Blk := (.bool r, [], [])
noncomputable def g97 : List SV → List Blk → Option OpRes := fun vs bs => match vs, bs with
  | [.agg [.int .i64 a0_0, .int .i64 a0_1, .int .i64 a0_2, .int .i64 a0_3, .int .i64 a0_4, .int .i64 a0_5]], [] => some (resOf 0 (q97 (m97 a0_0 a0_1 a0_2 a0_3 a0_4 a0_5)) [n97 a0_0 a0_1 a0_2 a0_3 a0_4 a0_5])
  | _, _ => none
noncomputable def c97 : Ctr := genC [.k] g97
theorem p97 (a0_0 : Int) (a0_1 : Int) (a0_2 : Int) (a0_3 : Int) (a0_4 : Int) (a0_5 : Int) (hn : n97 a0_0 a0_1 a0_2 a0_3 a0_4 a0_5 = true) : exec Try.prog [(73, c73), (110, c110c131), (131, c131)] (fun _ => none) 8 (Try.f97.body.getD .skip) (initS Try.f97.ntmps [.agg [.int .i64 a0_0, .int .i64 a0_1, .int .i64 a0_2, .int .i64 a0_3, .int .i64 a0_4, .int .i64 a0_5]] 0 (memOf [])) (retK Try.prog Try.f97.results.toList (outK 0 (List.range 0) [] (.k) fun v U N => (v, U, N) = (q97 (m97 a0_0 a0_1 a0_2 a0_3 a0_4 a0_5)))) :=
  propOf (x97 a0_0 a0_1 a0_2 a0_3 a0_4 a0_5 _) (cnd_need (and_l hn) (cnd_need (and_l (and_r hn)) (leaf_of (l := (bif (bif (m73 a0_5 1 1000000) then (m73 a0_0 (-10000000000) 10000000000) else false) then (bif (m110c131 ((↑4 : Int) - 0).toNat (datS [SV.int IntKind.i64 a0_1, SV.int IntKind.i64 a0_2, SV.int IntKind.i64 a0_3, SV.int IntKind.i64 a0_4] 1)) then false else true) else false)) rfl rfl)))
theorem k97 : CtrOk Try.prog c97 97 := ctr_of (tabOk_cons k73 (tabOk_cons k110c131 (tabOk_cons k131 tabOk_nil))) mix_ok 8 (fn := Try.f97) (c := (Try.f97.body.getD .skip)) (grs := []) (rh := .k) (Λ := (fun _ => none)) Try.func97 rfl (by kernel_rfl) noLam fun vs bs q h hn => by
  unfold g97 at h
  split at h <;> cases h
  exact ⟨_, rfl, p97 _ _ _ _ _ _ (hn _ (List.mem_singleton.2 rfl))⟩
end Go.Proofs.Ytmjcegbnbnbceaa
