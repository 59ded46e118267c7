/-
  Contracts of functions: models, equations by the kernel, contracts. Conditions: none.
-/
import Derived.Test.YtbhldggbjjailaaSyY
import Derived.Test.YtbhldggbjjailaaBase
import Derived.KernelRfl
namespace Go.Proofs.Ytbhldggbjjailaa
open Go Go.Sy
set_option linter.unusedVariables false
set_option maxRecDepth 100000
set_option maxHeartbeats 2000000
attribute [local irreducible] Go.IntKind.wrap Int.tdiv Int.tmod Int.fdiv
/-! ### shotline/shotlinebase.Within -/
theorem x24 (a0 : Int) (a1 : Int) (a2 : Int) (R : SV → List Blk → List Blk → Prop) : exec Try.prog [] (fun _ => none) 8 (Try.f24.body.getD .skip) (initS Try.f24.ntmps [.int .i64 a0, .int .i64 a1, .int .i64 a2] 0 (memOf [])) (retK Try.prog Try.f24.results.toList (outK 0 (List.range 0) [] (.k) fun v U N => R v U N)) =
 (R (.bool (bif (decide (a1 ≤ a0)) then (decide (a0 ≤ a2)) else false)) [] []) := by kernel_rfl
noncomputable def m24 (a0 : Int) (a1 : Int) (a2 : Int) : Bool :=
 (bif (decide (a1 ≤ a0)) then (decide (a0 ≤ a2)) else false)
noncomputable def q24 (r : Bool) : SV × List Blk × List Blk := (.bool r, [], [])
noncomputable def g24 : List SV → List Blk → Option OpRes := fun vs bs => match vs, bs with
  | [.int .i64 a0, .int .i64 a1, .int .i64 a2], [] => some (resOf 0 (q24 (m24 a0 a1 a2)) [])
  | _, _ => none
noncomputable def c24 : Ctr := genC [.k, .k, .k] g24
theorem p24 (a0 : Int) (a1 : Int) (a2 : Int) : exec Try.prog [] (fun _ => none) 8 (Try.f24.body.getD .skip) (initS Try.f24.ntmps [.int .i64 a0, .int .i64 a1, .int .i64 a2] 0 (memOf [])) (retK Try.prog Try.f24.results.toList (outK 0 (List.range 0) [] (.k) fun v U N => (v, U, N) = (q24 (m24 a0 a1 a2)))) :=
  propOf (x24 a0 a1 a2 _) (leaf_of (l := (bif (decide (a1 ≤ a0)) then (decide (a0 ≤ a2)) else false)) rfl rfl)
theorem k24 : CtrOk Try.prog c24 24 := ctr_of tabOk_nil mix_ok 8 (fn := Try.f24) (c := (Try.f24.body.getD .skip)) (grs := []) (rh := .k) (Λ := (fun _ => none)) Try.func24 rfl (by kernel_rfl) noLam fun vs bs q h _ => by
  unfold g24 at h
  split at h <;> cases h
  exact ⟨_, rfl, p24 _ _ _⟩
/-! ### shotline/shotlinebase.Mod -/
theorem x31 (a0 : Int) (a1 : Int) (R : SV → List Blk → List Blk → Prop) : exec Try.prog [] (fun _ => none) 8 (Try.f31.body.getD .skip) (initS Try.f31.ntmps [.int .i64 a0, .int .i64 a1] 0 (memOf [])) (retK Try.prog Try.f31.results.toList (outK 0 (List.range 0) [] (.k) fun v U N => R v U N)) =
 (cnd ((bif (decide (a1 = 0)) then false else true))
 (cnd ((decide ((a0.tmod a1) < 0)))
 (R (.int .i64 (IntKind.i64.wrap ((a0.tmod a1) + a1))) [] [])
 (R (.int .i64 (a0.tmod a1)) [] []))
  False) := by kernel_rfl
noncomputable def m31 (a0 : Int) (a1 : Int) : Int :=
 (cond ((decide ((a0.tmod a1) < 0))) (IntKind.i64.wrap ((a0.tmod a1) + a1)) (a0.tmod a1))
noncomputable def n31 (a0 : Int) (a1 : Int) : Bool :=
 (((bif (decide (a1 = 0)) then false else true)) && true)
noncomputable def q31 (r : Int) : SV × List Blk × List Blk := (.int .i64 r, [], [])
noncomputable def g31 : List SV → List Blk → Option OpRes := fun vs bs => match vs, bs with
  | [.int .i64 a0, .int .i64 a1], [] => some (resOf 0 (q31 (m31 a0 a1)) [n31 a0 a1])
  | _, _ => none
noncomputable def c31 : Ctr := genC [.k, .k] g31
theorem p31 (a0 : Int) (a1 : Int) (hn : n31 a0 a1 = true) : exec Try.prog [] (fun _ => none) 8 (Try.f31.body.getD .skip) (initS Try.f31.ntmps [.int .i64 a0, .int .i64 a1] 0 (memOf [])) (retK Try.prog Try.f31.results.toList (outK 0 (List.range 0) [] (.k) fun v U N => (v, U, N) = (q31 (m31 a0 a1)))) :=
  propOf (x31 a0 a1 _) (cnd_need (and_l hn) (cnd_of (fun h0 => leaf_of (l := (IntKind.i64.wrap ((a0.tmod a1) + a1))) (condT h0 rfl) rfl) (fun h0 => leaf_of (l := (a0.tmod a1)) (condF h0 rfl) rfl)))
theorem k31 : CtrOk Try.prog c31 31 := ctr_of tabOk_nil mix_ok 8 (fn := Try.f31) (c := (Try.f31.body.getD .skip)) (grs := []) (rh := .k) (Λ := (fun _ => none)) Try.func31 rfl (by kernel_rfl) noLam fun vs bs q h hn => by
  unfold g31 at h
  split at h <;> cases h
  exact ⟨_, rfl, p31 _ _ (hn _ (List.mem_singleton.2 rfl))⟩
/-! ### shotline/shotlinebase.Floor -/
theorem x104 (a0 : Int) (a1 : Int) (R : SV → List Blk → List Blk → Prop) : exec Try.prog [] (fun _ => none) 8 (Try.f104.body.getD .skip) (initS Try.f104.ntmps [.int .i64 a0, .int .i64 a1] 0 (memOf [])) (retK Try.prog Try.f104.results.toList (outK 0 (List.range 0) [] (.k) fun v U N => R v U N)) =
 (cnd ((bif (decide (a1 = 0)) then false else true))
 (cnd ((bif (decide (a1 = 0)) then false else true))
 (cnd ((decide ((a0.tmod a1) < 0)))
 (R (.int .i64 (IntKind.i64.wrap ((IntKind.i64.wrap (a0.tdiv a1)) - 1))) [] [])
 (R (.int .i64 (IntKind.i64.wrap (a0.tdiv a1))) [] []))
   False)
  False) := by kernel_rfl
noncomputable def m104 (a0 : Int) (a1 : Int) : Int :=
 (cond ((decide ((a0.tmod a1) < 0))) (IntKind.i64.wrap ((IntKind.i64.wrap (a0.tdiv a1)) - 1)) (IntKind.i64.wrap (a0.tdiv a1)))
noncomputable def n104 (a0 : Int) (a1 : Int) : Bool :=
 (((bif (decide (a1 = 0)) then false else true)) && (((bif (decide (a1 = 0)) then false else true)) && true))
noncomputable def q104 (r : Int) : SV × List Blk × List Blk := (.int .i64 r, [], [])
noncomputable def g104 : List SV → List Blk → Option OpRes := fun vs bs => match vs, bs with
  | [.int .i64 a0, .int .i64 a1], [] => some (resOf 0 (q104 (m104 a0 a1)) [n104 a0 a1])
  | _, _ => none
noncomputable def c104 : Ctr := genC [.k, .k] g104
theorem p104 (a0 : Int) (a1 : Int) (hn : n104 a0 a1 = true) : exec Try.prog [] (fun _ => none) 8 (Try.f104.body.getD .skip) (initS Try.f104.ntmps [.int .i64 a0, .int .i64 a1] 0 (memOf [])) (retK Try.prog Try.f104.results.toList (outK 0 (List.range 0) [] (.k) fun v U N => (v, U, N) = (q104 (m104 a0 a1)))) :=
  propOf (x104 a0 a1 _) (cnd_need (and_l hn) (cnd_need (and_l (and_r hn)) (cnd_of (fun h0 => leaf_of (l := (IntKind.i64.wrap ((IntKind.i64.wrap (a0.tdiv a1)) - 1))) (condT h0 rfl) rfl) (fun h0 => leaf_of (l := (IntKind.i64.wrap (a0.tdiv a1))) (condF h0 rfl) rfl))))
theorem k104 : CtrOk Try.prog c104 104 := ctr_of tabOk_nil mix_ok 8 (fn := Try.f104) (c := (Try.f104.body.getD .skip)) (grs := []) (rh := .k) (Λ := (fun _ => none)) Try.func104 rfl (by kernel_rfl) noLam fun vs bs q h hn => by
  unfold g104 at h
  split at h <;> cases h
  exact ⟨_, rfl, p104 _ _ (hn _ (List.mem_singleton.2 rfl))⟩
/-! ### shotline/site.within -/
theorem x95 (a0 : Int) (a1 : Int) (a2 : Int) (R : SV → List Blk → List Blk → Prop) : exec Try.prog [] (fun _ => none) 8 (Try.f95.body.getD .skip) (initS Try.f95.ntmps [.int .i64 a0, .int .i64 a1, .int .i64 a2] 0 (memOf [])) (retK Try.prog Try.f95.results.toList (outK 0 (List.range 0) [] (.k) fun v U N => R v U N)) =
 (R (.bool (bif (decide (a1 ≤ a0)) then (decide (a0 ≤ a2)) else false)) [] []) := by kernel_rfl
noncomputable def m95 (a0 : Int) (a1 : Int) (a2 : Int) : Bool :=
 (bif (decide (a1 ≤ a0)) then (decide (a0 ≤ a2)) else false)
noncomputable def q95 (r : Bool) : SV × List Blk × List Blk := (.bool r, [], [])
noncomputable def g95 : List SV → List Blk → Option OpRes := fun vs bs => match vs, bs with
  | [.int .i64 a0, .int .i64 a1, .int .i64 a2], [] => some (resOf 0 (q95 (m95 a0 a1 a2)) [])
  | _, _ => none
noncomputable def c95 : Ctr := genC [.k, .k, .k] g95
theorem p95 (a0 : Int) (a1 : Int) (a2 : Int) : exec Try.prog [] (fun _ => none) 8 (Try.f95.body.getD .skip) (initS Try.f95.ntmps [.int .i64 a0, .int .i64 a1, .int .i64 a2] 0 (memOf [])) (retK Try.prog Try.f95.results.toList (outK 0 (List.range 0) [] (.k) fun v U N => (v, U, N) = (q95 (m95 a0 a1 a2)))) :=
  propOf (x95 a0 a1 a2 _) (leaf_of (l := (bif (decide (a1 ≤ a0)) then (decide (a0 ≤ a2)) else false)) rfl rfl)
theorem k95 : CtrOk Try.prog c95 95 := ctr_of tabOk_nil mix_ok 8 (fn := Try.f95) (c := (Try.f95.body.getD .skip)) (grs := []) (rh := .k) (Λ := (fun _ => none)) Try.func95 rfl (by kernel_rfl) noLam fun vs bs q h _ => by
  unfold g95 at h
  split at h <;> cases h
  exact ⟨_, rfl, p95 _ _ _⟩
/-! ### shotline/site.down -/
theorem x131 (a0 : Int) (a1 : Int) (R : SV → List Blk → List Blk → Prop) : exec Try.prog [] (fun _ => none) 8 (Try.f131.body.getD .skip) (initS Try.f131.ntmps [.int .i64 a0, .int .i64 a1] 0 (memOf [])) (retK Try.prog Try.f131.results.toList (outK 0 (List.range 0) [] (.k) fun v U N => R v U N)) =
 (cnd ((decide (a0 < (0 : Int))))
 (cnd ((bif (decide (a1 = 0)) then false else true))
 (R (.int .i64 (IntKind.i64.wrap (0 - (IntKind.i64.wrap ((IntKind.i64.wrap ((IntKind.i64.wrap ((IntKind.i64.wrap (0 - a0)) + a1)) - 1)).tdiv a1))))) [] [])
   False)
 (cnd ((bif (decide (a1 = 0)) then false else true))
 (R (.int .i64 (IntKind.i64.wrap (a0.tdiv a1))) [] [])
   False)) := by kernel_rfl
noncomputable def m131 (a0 : Int) (a1 : Int) : Int :=
 (cond ((decide (a0 < (0 : Int)))) (IntKind.i64.wrap (0 - (IntKind.i64.wrap ((IntKind.i64.wrap ((IntKind.i64.wrap ((IntKind.i64.wrap (0 - a0)) + a1)) - 1)).tdiv a1)))) (IntKind.i64.wrap (a0.tdiv a1)))
noncomputable def n131 (a0 : Int) (a1 : Int) : Bool :=
 (cond ((decide (a0 < (0 : Int)))) (((bif (decide (a1 = 0)) then false else true)) && true) (((bif (decide (a1 = 0)) then false else true)) && true))
noncomputable def q131 (r : Int) : SV × List Blk × List Blk := (.int .i64 r, [], [])
noncomputable def g131 : List SV → List Blk → Option OpRes := fun vs bs => match vs, bs with
  | [.int .i64 a0, .int .i64 a1], [] => some (resOf 0 (q131 (m131 a0 a1)) [n131 a0 a1])
  | _, _ => none
noncomputable def c131 : Ctr := genC [.k, .k] g131
theorem p131 (a0 : Int) (a1 : Int) (hn : n131 a0 a1 = true) : exec Try.prog [] (fun _ => none) 8 (Try.f131.body.getD .skip) (initS Try.f131.ntmps [.int .i64 a0, .int .i64 a1] 0 (memOf [])) (retK Try.prog Try.f131.results.toList (outK 0 (List.range 0) [] (.k) fun v U N => (v, U, N) = (q131 (m131 a0 a1)))) :=
  propOf (x131 a0 a1 _) (cnd_of (fun h0 => cnd_need (and_l (cond_t h0 hn)) (leaf_of (l := (IntKind.i64.wrap (0 - (IntKind.i64.wrap ((IntKind.i64.wrap ((IntKind.i64.wrap ((IntKind.i64.wrap (0 - a0)) + a1)) - 1)).tdiv a1))))) (condT h0 rfl) rfl)) (fun h0 => cnd_need (and_l (cond_f h0 hn)) (leaf_of (l := (IntKind.i64.wrap (a0.tdiv a1))) (condF h0 rfl) rfl)))
theorem k131 : CtrOk Try.prog c131 131 := ctr_of tabOk_nil mix_ok 8 (fn := Try.f131) (c := (Try.f131.body.getD .skip)) (grs := []) (rh := .k) (Λ := (fun _ => none)) Try.func131 rfl (by kernel_rfl) noLam fun vs bs q h hn => by
  unfold g131 at h
  split at h <;> cases h
  exact ⟨_, rfl, p131 _ _ (hn _ (List.mem_singleton.2 rfl))⟩
/-! ### shotline/site.negated -/
theorem x139 (a0_0 : Int) (a0_1 : Int) (R : SV → List Blk → List Blk → Prop) : exec Try.prog [] (fun _ => none) 8 (Try.f139.body.getD .skip) (initS Try.f139.ntmps [.agg [.int .i64 a0_0, .int .i64 a0_1]] 0 (memOf [])) (retK Try.prog Try.f139.results.toList (outK 0 (List.range 0) [] (.k) fun v U N => R v U N)) =
 (R (.agg [.int .i64 (IntKind.i64.wrap (0 - a0_1)), .int .i64 (IntKind.i64.wrap (0 - a0_0))]) [] []) := by kernel_rfl
noncomputable def m139 (a0_0 : Int) (a0_1 : Int) : Int × Int :=
 ((IntKind.i64.wrap (0 - a0_1)), (IntKind.i64.wrap (0 - a0_0)))
noncomputable def q139 (r : Int × Int) : SV × List Blk × List Blk := (.agg [.int .i64 r.1, .int .i64 r.2], [], [])
noncomputable def g139 : List SV → List Blk → Option OpRes := fun vs bs => match vs, bs with
  | [.agg [.int .i64 a0_0, .int .i64 a0_1]], [] => some (resOf 0 (q139 (m139 a0_0 a0_1)) [])
  | _, _ => none
noncomputable def c139 : Ctr := genC [.k] g139
theorem p139 (a0_0 : Int) (a0_1 : Int) : exec Try.prog [] (fun _ => none) 8 (Try.f139.body.getD .skip) (initS Try.f139.ntmps [.agg [.int .i64 a0_0, .int .i64 a0_1]] 0 (memOf [])) (retK Try.prog Try.f139.results.toList (outK 0 (List.range 0) [] (.k) fun v U N => (v, U, N) = (q139 (m139 a0_0 a0_1)))) :=
  propOf (x139 a0_0 a0_1 _) (leaf_of (l := ((IntKind.i64.wrap (0 - a0_1)), (IntKind.i64.wrap (0 - a0_0)))) rfl rfl)
theorem k139 : CtrOk Try.prog c139 139 := ctr_of tabOk_nil mix_ok 8 (fn := Try.f139) (c := (Try.f139.body.getD .skip)) (grs := []) (rh := .k) (Λ := (fun _ => none)) Try.func139 rfl (by kernel_rfl) noLam fun vs bs q h _ => by
  unfold g139 at h
  split at h <;> cases h
  exact ⟨_, rfl, p139 _ _⟩
/-! ### shotline/shotlineref08.less -/
theorem x121 (a0_0 : Int) (a0_1 : Int) (R : SV → List Blk → List Blk → Prop) : exec Try.prog [] (fun _ => none) 8 (Try.f121.body.getD .skip) (initS Try.f121.ntmps [.agg [.int .i64 a0_0, .int .i64 a0_1]] 0 (memOf [])) (retK Try.prog Try.f121.results.toList (outK 0 (List.range 0) [] (.k) fun v U N => R v U N)) =
 (R (.agg [.int .i64 (IntKind.i64.wrap (0 - a0_1)), .int .i64 (IntKind.i64.wrap (0 - a0_0))]) [] []) := by kernel_rfl
noncomputable def m121 (a0_0 : Int) (a0_1 : Int) : Int × Int :=
 ((IntKind.i64.wrap (0 - a0_1)), (IntKind.i64.wrap (0 - a0_0)))
noncomputable def q121 (r : Int × Int) : SV × List Blk × List Blk := (.agg [.int .i64 r.1, .int .i64 r.2], [], [])
noncomputable def g121 : List SV → List Blk → Option OpRes := fun vs bs => match vs, bs with
  | [.agg [.int .i64 a0_0, .int .i64 a0_1]], [] => some (resOf 0 (q121 (m121 a0_0 a0_1)) [])
  | _, _ => none
noncomputable def c121 : Ctr := genC [.k] g121
theorem p121 (a0_0 : Int) (a0_1 : Int) : exec Try.prog [] (fun _ => none) 8 (Try.f121.body.getD .skip) (initS Try.f121.ntmps [.agg [.int .i64 a0_0, .int .i64 a0_1]] 0 (memOf [])) (retK Try.prog Try.f121.results.toList (outK 0 (List.range 0) [] (.k) fun v U N => (v, U, N) = (q121 (m121 a0_0 a0_1)))) :=
  propOf (x121 a0_0 a0_1 _) (leaf_of (l := ((IntKind.i64.wrap (0 - a0_1)), (IntKind.i64.wrap (0 - a0_0)))) rfl rfl)
theorem k121 : CtrOk Try.prog c121 121 := ctr_of tabOk_nil mix_ok 8 (fn := Try.f121) (c := (Try.f121.body.getD .skip)) (grs := []) (rh := .k) (Λ := (fun _ => none)) Try.func121 rfl (by kernel_rfl) noLam fun vs bs q h _ => by
  unfold g121 at h
  split at h <;> cases h
  exact ⟨_, rfl, p121 _ _⟩
/-! ### shotline/site.root -/
noncomputable def l136_0 (t0 : Int) : Nat → Int → Int → Option (Int)
  | 0, _, _ => none
  | f + 1, t3, t4 => (cond ((decide (t4 < t3))) (cond ((bif (decide (t4 = 0)) then false else true)) (l136_0 t0 f t4 (IntKind.i64.wrap ((IntKind.i64.wrap (t4 + (IntKind.i64.wrap (t0.tdiv t4)))).tdiv 2))) none) (some t3))
noncomputable abbrev o136_0 (t0 : Int) (t3 : Int) (t4 : Int) : Option (Int) := l136_0 t0 (t0.toNat + t3.toNat + t4.toNat + 8) t3 t4
noncomputable def e136_0 (t0 : Int) (r : Int) (K : XR) : Prop := K (XE.exit 0) [.int .i64 r] []
noncomputable def g136_0 : LSum := fun s k => match czv 0 23 [0, 3, 4] 0 [] s with
  | some ([.int .i64 t0, .int .i64 t3, .int .i64 t4], []) => needs [(o136_0 t0 t3 t4).isSome] (e136_0 t0 ((o136_0 t0 t3 t4).getD default) fun e vs bs => inBlk 0 k e (mkSt 0 23 [3] vs 0 bs))
  | _ => False
theorem y136_0 (t0 : Int) (t3 : Int) (t4 : Int) (R : XR) : exec Try.prog [] (fun _ => none) 8 (unloop (bodyAt (Try.f136.body.getD .skip) 0)) (mkSt 0 23 [0, 3, 4] [.int .i64 t0, .int .i64 t3, .int .i64 t4] 0 []) (canonK 0 23 [0, 3, 4] [3] 0 [] R) =
 (cnd ((decide (t4 < t3)))
 (cnd ((bif (decide (t4 = 0)) then false else true))
 (R (XE.normal) [.int .i64 t0, .int .i64 t4, .int .i64 (IntKind.i64.wrap ((IntKind.i64.wrap (t4 + (IntKind.i64.wrap (t0.tdiv t4)))).tdiv 2))] [])
   False)
 (R (XE.exit 0) [.int .i64 t3] [])) := by kernel_rfl
theorem z136_0 : LOk Try.prog g136_0 (.block 0 (bodyAt (Try.f136.body.getD .skip) 0)) := by
  refine loop_blk (ι := Int × Int × Int) (L := []) (Λ := (fun _ => none)) (fuel := 8) (na := 0) (nt := 23) (nx := 0) (Lh := [0, 3, 4]) (Le := [3]) (gl := []) tabOk_nil mix_ok noLam rfl (fun f x K => GG default (e136_0 x.1) K (l136_0 x.1 f x.2.1 x.2.2)) (fun x => [.int .i64 x.1, .int .i64 x.2.1, .int .i64 x.2.2]) (fun x => []) (fun x K => gg_none) ?_ ?_
  · rintro f ⟨t0, t3, t4⟩ K hG
    have hG : GG default (e136_0 t0) K (cond ((decide (t4 < t3))) (cond ((bif (decide (t4 = 0)) then false else true)) (l136_0 t0 f t4 (IntKind.i64.wrap ((IntKind.i64.wrap (t4 + (IntKind.i64.wrap (t0.tdiv t4)))).tdiv 2))) none) (some t3)) := hG
    refine propOf (y136_0 t0 t3 t4 _) ?_
    exact cnd_gg2 hG (fun h0 => cnd_gg h0 fun h1 => ⟨(t0, t4, (IntKind.i64.wrap ((IntKind.i64.wrap (t4 + (IntKind.i64.wrap (t0.tdiv t4)))).tdiv 2))), rfl, rfl, h1⟩) (fun h0 => h0.2)
  · intro s k h
    unfold g136_0 at h
    split at h <;> try exact h.elim
    rename_i e1
    rw [needs_iff] at h
    exact ⟨_, e1, _, (_, _, _), rfl, rfl, h.1 _ (List.mem_singleton.2 rfl), h.2⟩
theorem x136 (a0 : Int) (R : SV → List Blk → List Blk → Prop) : exec Try.prog [] (lamOf [(0, g136_0)]) 8 (Try.f136.body.getD .skip) (initS Try.f136.ntmps [.int .i64 a0] 0 (memOf [])) (retK Try.prog Try.f136.results.toList (outK 0 (List.range 0) [] (.k) fun v U N => R v U N)) =
 (cnd ((decide (a0 < (2 : Int))))
 (R (.int .i64 a0) [] [])
 (cnd (((o136_0 a0 a0 (IntKind.i64.wrap ((IntKind.i64.wrap (a0 + 1)).tdiv 2))).isSome))
 (R (.int .i64 ((o136_0 a0 a0 (IntKind.i64.wrap ((IntKind.i64.wrap (a0 + 1)).tdiv 2))).getD default)) [] [])
   False)) := by kernel_rfl
noncomputable def m136 (a0 : Int) : Int :=
 (cond ((decide (a0 < (2 : Int)))) a0 ((o136_0 a0 a0 (IntKind.i64.wrap ((IntKind.i64.wrap (a0 + 1)).tdiv 2))).getD default))
noncomputable def n136 (a0 : Int) : Bool :=
 (cond ((decide (a0 < (2 : Int)))) true ((((o136_0 a0 a0 (IntKind.i64.wrap ((IntKind.i64.wrap (a0 + 1)).tdiv 2))).isSome)) && true))
noncomputable def q136 (r : Int) : SV × List Blk × List Blk := (.int .i64 r, [], [])
noncomputable def g136 : List SV → List Blk → Option OpRes := fun vs bs => match vs, bs with
  | [.int .i64 a0], [] => some (resOf 0 (q136 (m136 a0)) [n136 a0])
  | _, _ => none
noncomputable def c136 : Ctr := genC [.k] g136
theorem p136 (a0 : Int) (hn : n136 a0 = true) : exec Try.prog [] (lamOf [(0, g136_0)]) 8 (Try.f136.body.getD .skip) (initS Try.f136.ntmps [.int .i64 a0] 0 (memOf [])) (retK Try.prog Try.f136.results.toList (outK 0 (List.range 0) [] (.k) fun v U N => (v, U, N) = (q136 (m136 a0)))) :=
  propOf (x136 a0 _) (cnd_of (fun h0 => leaf_of (l := a0) (condT h0 rfl) rfl) (fun h0 => cnd_need (and_l (cond_f h0 hn)) (leaf_of (l := ((o136_0 a0 a0 (IntKind.i64.wrap ((IntKind.i64.wrap (a0 + 1)).tdiv 2))).getD default)) (condF h0 rfl) rfl)))
theorem k136 : CtrOk Try.prog c136 136 := ctr_of tabOk_nil mix_ok 8 (fn := Try.f136) (c := (Try.f136.body.getD .skip)) (grs := []) (rh := .k) (Λ := (lamOf [(0, g136_0)])) Try.func136 rfl (by kernel_rfl) (lam_of rfl (lams_cons z136_0 lams_nil)) fun vs bs q h hn => by
  unfold g136 at h
  split at h <;> cases h
  exact ⟨_, rfl, p136 _ (hn _ (List.mem_singleton.2 rfl))⟩

/-! ### shotline/shotlineref08.IsMinute -/
theorem x39 (a0 : Int) (R : SV → List Blk → List Blk → Prop) : exec Try.prog [(24, c24)] (fun _ => none) 8 (Try.f39.body.getD .skip) (initS Try.f39.ntmps [.int .i64 a0] 0 (memOf [])) (retK Try.prog Try.f39.results.toList (outK 0 (List.range 0) [] (.k) fun v U N => R v U N)) =
 (R (.bool (m24 a0 0 1000000)) [] []) := by kernel_rfl
noncomputable def m39 (a0 : Int) : Bool :=
 (m24 a0 0 1000000)
noncomputable def q39 (r : Bool) : SV × List Blk × List Blk := (.bool r, [], [])
noncomputable def g39 : List SV → List Blk → Option OpRes := fun vs bs => match vs, bs with
  | [.int .i64 a0], [] => some (resOf 0 (q39 (m39 a0)) [])
  | _, _ => none
noncomputable def c39 : Ctr := genC [.k] g39
theorem p39 (a0 : Int) : exec Try.prog [(24, c24)] (fun _ => none) 8 (Try.f39.body.getD .skip) (initS Try.f39.ntmps [.int .i64 a0] 0 (memOf [])) (retK Try.prog Try.f39.results.toList (outK 0 (List.range 0) [] (.k) fun v U N => (v, U, N) = (q39 (m39 a0)))) :=
  propOf (x39 a0 _) (leaf_of (l := (m24 a0 0 1000000)) rfl rfl)
theorem k39 : CtrOk Try.prog c39 39 := ctr_of (tabOk_cons k24 tabOk_nil) mix_ok 8 (fn := Try.f39) (c := (Try.f39.body.getD .skip)) (grs := []) (rh := .k) (Λ := (fun _ => none)) Try.func39 rfl (by kernel_rfl) noLam fun vs bs q h _ => by
  unfold g39 at h
  split at h <;> cases h
  exact ⟨_, rfl, p39 _⟩
/-! ### shotline/site.isMinute -/
theorem x93 (a0 : Int) (R : SV → List Blk → List Blk → Prop) : exec Try.prog [(95, c95)] (fun _ => none) 8 (Try.f93.body.getD .skip) (initS Try.f93.ntmps [.int .i64 a0] 0 (memOf [])) (retK Try.prog Try.f93.results.toList (outK 0 (List.range 0) [] (.k) fun v U N => R v U N)) =
 (R (.bool (m95 a0 0 1000000)) [] []) := by kernel_rfl
noncomputable def m93 (a0 : Int) : Bool :=
 (m95 a0 0 1000000)
noncomputable def q93 (r : Bool) : SV × List Blk × List Blk := (.bool r, [], [])
noncomputable def g93 : List SV → List Blk → Option OpRes := fun vs bs => match vs, bs with
  | [.int .i64 a0], [] => some (resOf 0 (q93 (m93 a0)) [])
  | _, _ => none
noncomputable def c93 : Ctr := genC [.k] g93
theorem p93 (a0 : Int) : exec Try.prog [(95, c95)] (fun _ => none) 8 (Try.f93.body.getD .skip) (initS Try.f93.ntmps [.int .i64 a0] 0 (memOf [])) (retK Try.prog Try.f93.results.toList (outK 0 (List.range 0) [] (.k) fun v U N => (v, U, N) = (q93 (m93 a0)))) :=
  propOf (x93 a0 _) (leaf_of (l := (m95 a0 0 1000000)) rfl rfl)
theorem k93 : CtrOk Try.prog c93 93 := ctr_of (tabOk_cons k95 tabOk_nil) mix_ok 8 (fn := Try.f93) (c := (Try.f93.body.getD .skip)) (grs := []) (rh := .k) (Λ := (fun _ => none)) Try.func93 rfl (by kernel_rfl) noLam fun vs bs q h _ => by
  unfold g93 at h
  split at h <;> cases h
  exact ⟨_, rfl, p93 _⟩
/-! ### shotline/site.isWave -/
theorem x122 (a0_0 : Int) (a0_1 : Int) (a0_2 : Int) (R : SV → List Blk → List Blk → Prop) : exec Try.prog [(95, c95)] (fun _ => none) 8 (Try.f122.body.getD .skip) (initS Try.f122.ntmps [.agg [.int .i64 a0_0, .int .i64 a0_1, .int .i64 a0_2]] 0 (memOf [])) (retK Try.prog Try.f122.results.toList (outK 0 (List.range 0) [] (.k) fun v U N => R v U N)) =
 (R (.bool (bif (bif (m95 a0_0 0 100000) then (m95 a0_1 1 100000) else false) then (m95 a0_2 0 4095) else false)) [] []) := by kernel_rfl
noncomputable def m122 (a0_0 : Int) (a0_1 : Int) (a0_2 : Int) : Bool :=
 (bif (bif (m95 a0_0 0 100000) then (m95 a0_1 1 100000) else false) then (m95 a0_2 0 4095) else false)
noncomputable def q122 (r : Bool) : SV × List Blk × List Blk := (.bool r, [], [])
noncomputable def g122 : List SV → List Blk → Option OpRes := fun vs bs => match vs, bs with
  | [.agg [.int .i64 a0_0, .int .i64 a0_1, .int .i64 a0_2]], [] => some (resOf 0 (q122 (m122 a0_0 a0_1 a0_2)) [])
  | _, _ => none
noncomputable def c122 : Ctr := genC [.k] g122
theorem p122 (a0_0 : Int) (a0_1 : Int) (a0_2 : Int) : exec Try.prog [(95, c95)] (fun _ => none) 8 (Try.f122.body.getD .skip) (initS Try.f122.ntmps [.agg [.int .i64 a0_0, .int .i64 a0_1, .int .i64 a0_2]] 0 (memOf [])) (retK Try.prog Try.f122.results.toList (outK 0 (List.range 0) [] (.k) fun v U N => (v, U, N) = (q122 (m122 a0_0 a0_1 a0_2)))) :=
  propOf (x122 a0_0 a0_1 a0_2 _) (leaf_of (l := (bif (bif (m95 a0_0 0 100000) then (m95 a0_1 1 100000) else false) then (m95 a0_2 0 4095) else false)) rfl rfl)
theorem k122 : CtrOk Try.prog c122 122 := ctr_of (tabOk_cons k95 tabOk_nil) mix_ok 8 (fn := Try.f122) (c := (Try.f122.body.getD .skip)) (grs := []) (rh := .k) (Λ := (fun _ => none)) Try.func122 rfl (by kernel_rfl) noLam fun vs bs q h _ => by
  unfold g122 at h
  split at h <;> cases h
  exact ⟨_, rfl, p122 _ _ _⟩
/-! ### shotline/shotlinebase.Ceil -/
theorem x105 (a0 : Int) (a1 : Int) (R : SV → List Blk → List Blk → Prop) : exec Try.prog [(104, c104)] (fun _ => none) 8 (Try.f105.body.getD .skip) (initS Try.f105.ntmps [.int .i64 a0, .int .i64 a1] 0 (memOf [])) (retK Try.prog Try.f105.results.toList (outK 0 (List.range 0) [] (.k) fun v U N => R v U N)) =
 (cnd ((n104 (IntKind.i64.wrap (0 - a0)) a1))
 (R (.int .i64 (IntKind.i64.wrap (0 - (m104 (IntKind.i64.wrap (0 - a0)) a1)))) [] [])
  False) := by kernel_rfl
noncomputable def m105 (a0 : Int) (a1 : Int) : Int :=
 (IntKind.i64.wrap (0 - (m104 (IntKind.i64.wrap (0 - a0)) a1)))
noncomputable def n105 (a0 : Int) (a1 : Int) : Bool :=
 (((n104 (IntKind.i64.wrap (0 - a0)) a1)) && true)
noncomputable def q105 (r : Int) : SV × List Blk × List Blk := (.int .i64 r, [], [])
noncomputable def g105 : List SV → List Blk → Option OpRes := fun vs bs => match vs, bs with
  | [.int .i64 a0, .int .i64 a1], [] => some (resOf 0 (q105 (m105 a0 a1)) [n105 a0 a1])
  | _, _ => none
noncomputable def c105 : Ctr := genC [.k, .k] g105
theorem p105 (a0 : Int) (a1 : Int) (hn : n105 a0 a1 = true) : exec Try.prog [(104, c104)] (fun _ => none) 8 (Try.f105.body.getD .skip) (initS Try.f105.ntmps [.int .i64 a0, .int .i64 a1] 0 (memOf [])) (retK Try.prog Try.f105.results.toList (outK 0 (List.range 0) [] (.k) fun v U N => (v, U, N) = (q105 (m105 a0 a1)))) :=
  propOf (x105 a0 a1 _) (cnd_need (and_l hn) (leaf_of (l := (IntKind.i64.wrap (0 - (m104 (IntKind.i64.wrap (0 - a0)) a1)))) rfl rfl))
theorem k105 : CtrOk Try.prog c105 105 := ctr_of (tabOk_cons k104 tabOk_nil) mix_ok 8 (fn := Try.f105) (c := (Try.f105.body.getD .skip)) (grs := []) (rh := .k) (Λ := (fun _ => none)) Try.func105 rfl (by kernel_rfl) noLam fun vs bs q h hn => by
  unfold g105 at h
  split at h <;> cases h
  exact ⟨_, rfl, p105 _ _ (hn _ (List.mem_singleton.2 rfl))⟩
/-! ### shotline/site.up -/
theorem x132 (a0 : Int) (a1 : Int) (R : SV → List Blk → List Blk → Prop) : exec Try.prog [(131, c131)] (fun _ => none) 8 (Try.f132.body.getD .skip) (initS Try.f132.ntmps [.int .i64 a0, .int .i64 a1] 0 (memOf [])) (retK Try.prog Try.f132.results.toList (outK 0 (List.range 0) [] (.k) fun v U N => R v U N)) =
 (cnd ((n131 (IntKind.i64.wrap (0 - a0)) a1))
 (R (.int .i64 (IntKind.i64.wrap (0 - (m131 (IntKind.i64.wrap (0 - a0)) a1)))) [] [])
  False) := by kernel_rfl
noncomputable def m132 (a0 : Int) (a1 : Int) : Int :=
 (IntKind.i64.wrap (0 - (m131 (IntKind.i64.wrap (0 - a0)) a1)))
noncomputable def n132 (a0 : Int) (a1 : Int) : Bool :=
 (((n131 (IntKind.i64.wrap (0 - a0)) a1)) && true)
noncomputable def q132 (r : Int) : SV × List Blk × List Blk := (.int .i64 r, [], [])
noncomputable def g132 : List SV → List Blk → Option OpRes := fun vs bs => match vs, bs with
  | [.int .i64 a0, .int .i64 a1], [] => some (resOf 0 (q132 (m132 a0 a1)) [n132 a0 a1])
  | _, _ => none
noncomputable def c132 : Ctr := genC [.k, .k] g132
theorem p132 (a0 : Int) (a1 : Int) (hn : n132 a0 a1 = true) : exec Try.prog [(131, c131)] (fun _ => none) 8 (Try.f132.body.getD .skip) (initS Try.f132.ntmps [.int .i64 a0, .int .i64 a1] 0 (memOf [])) (retK Try.prog Try.f132.results.toList (outK 0 (List.range 0) [] (.k) fun v U N => (v, U, N) = (q132 (m132 a0 a1)))) :=
  propOf (x132 a0 a1 _) (cnd_need (and_l hn) (leaf_of (l := (IntKind.i64.wrap (0 - (m131 (IntKind.i64.wrap (0 - a0)) a1)))) rfl rfl))
theorem k132 : CtrOk Try.prog c132 132 := ctr_of (tabOk_cons k131 tabOk_nil) mix_ok 8 (fn := Try.f132) (c := (Try.f132.body.getD .skip)) (grs := []) (rh := .k) (Λ := (fun _ => none)) Try.func132 rfl (by kernel_rfl) noLam fun vs bs q h hn => by
  unfold g132 at h
  split at h <;> cases h
  exact ⟨_, rfl, p132 _ _ (hn _ (List.mem_singleton.2 rfl))⟩
/-! ### shotline/site.isLimit -/
theorem x82 (a0 : Int) (R : SV → List Blk → List Blk → Prop) : exec Try.prog [(95, c95)] (fun _ => none) 8 (Try.f82.body.getD .skip) (initS Try.f82.ntmps [.int .i64 a0] 0 (memOf [])) (retK Try.prog Try.f82.results.toList (outK 0 (List.range 0) [] (.k) fun v U N => R v U N)) =
 (R (.bool (m95 a0 0 10000000)) [] []) := by kernel_rfl
noncomputable def m82 (a0 : Int) : Bool :=
 (m95 a0 0 10000000)
noncomputable def q82 (r : Bool) : SV × List Blk × List Blk := (.bool r, [], [])
noncomputable def g82 : List SV → List Blk → Option OpRes := fun vs bs => match vs, bs with
  | [.int .i64 a0], [] => some (resOf 0 (q82 (m82 a0)) [])
  | _, _ => none
noncomputable def c82 : Ctr := genC [.k] g82
theorem p82 (a0 : Int) : exec Try.prog [(95, c95)] (fun _ => none) 8 (Try.f82.body.getD .skip) (initS Try.f82.ntmps [.int .i64 a0] 0 (memOf [])) (retK Try.prog Try.f82.results.toList (outK 0 (List.range 0) [] (.k) fun v U N => (v, U, N) = (q82 (m82 a0)))) :=
  propOf (x82 a0 _) (leaf_of (l := (m95 a0 0 10000000)) rfl rfl)
theorem k82 : CtrOk Try.prog c82 82 := ctr_of (tabOk_cons k95 tabOk_nil) mix_ok 8 (fn := Try.f82) (c := (Try.f82.body.getD .skip)) (grs := []) (rh := .k) (Λ := (fun _ => none)) Try.func82 rfl (by kernel_rfl) noLam fun vs bs q h _ => by
  unfold g82 at h
  split at h <;> cases h
  exact ⟨_, rfl, p82 _⟩
/-! ### shotline/site.isForce -/
theorem x88 (a0 : Int) (R : SV → List Blk → List Blk → Prop) : exec Try.prog [(95, c95)] (fun _ => none) 8 (Try.f88.body.getD .skip) (initS Try.f88.ntmps [.int .i64 a0] 0 (memOf [])) (retK Try.prog Try.f88.results.toList (outK 0 (List.range 0) [] (.k) fun v U N => R v U N)) =
 (R (.bool (m95 a0 0 200)) [] []) := by kernel_rfl
noncomputable def m88 (a0 : Int) : Bool :=
 (m95 a0 0 200)
noncomputable def q88 (r : Bool) : SV × List Blk × List Blk := (.bool r, [], [])
noncomputable def g88 : List SV → List Blk → Option OpRes := fun vs bs => match vs, bs with
  | [.int .i64 a0], [] => some (resOf 0 (q88 (m88 a0)) [])
  | _, _ => none
noncomputable def c88 : Ctr := genC [.k] g88
theorem p88 (a0 : Int) : exec Try.prog [(95, c95)] (fun _ => none) 8 (Try.f88.body.getD .skip) (initS Try.f88.ntmps [.int .i64 a0] 0 (memOf [])) (retK Try.prog Try.f88.results.toList (outK 0 (List.range 0) [] (.k) fun v U N => (v, U, N) = (q88 (m88 a0)))) :=
  propOf (x88 a0 _) (leaf_of (l := (m95 a0 0 200)) rfl rfl)
theorem k88 : CtrOk Try.prog c88 88 := ctr_of (tabOk_cons k95 tabOk_nil) mix_ok 8 (fn := Try.f88) (c := (Try.f88.body.getD .skip)) (grs := []) (rh := .k) (Λ := (fun _ => none)) Try.func88 rfl (by kernel_rfl) noLam fun vs bs q h _ => by
  unfold g88 at h
  split at h <;> cases h
  exact ⟨_, rfl, p88 _⟩
/-! ### shotline/site.rootUp -/
theorem x137 (a0 : Int) (R : SV → List Blk → List Blk → Prop) : exec Try.prog [(136, c136)] (fun _ => none) 8 (Try.f137.body.getD .skip) (initS Try.f137.ntmps [.int .i64 a0] 0 (memOf [])) (retK Try.prog Try.f137.results.toList (outK 0 (List.range 0) [] (.k) fun v U N => R v U N)) =
 (cnd ((n136 a0))
 (cnd ((decide ((IntKind.i64.wrap ((m136 a0) * (m136 a0))) < a0)))
 (R (.int .i64 (IntKind.i64.wrap ((m136 a0) + 1))) [] [])
 (R (.int .i64 (m136 a0)) [] []))
  False) := by kernel_rfl
noncomputable def m137 (a0 : Int) : Int :=
 (cond ((decide ((IntKind.i64.wrap ((m136 a0) * (m136 a0))) < a0))) (IntKind.i64.wrap ((m136 a0) + 1)) (m136 a0))
noncomputable def n137 (a0 : Int) : Bool :=
 (((n136 a0)) && true)
noncomputable def q137 (r : Int) : SV × List Blk × List Blk := (.int .i64 r, [], [])
noncomputable def g137 : List SV → List Blk → Option OpRes := fun vs bs => match vs, bs with
  | [.int .i64 a0], [] => some (resOf 0 (q137 (m137 a0)) [n137 a0])
  | _, _ => none
noncomputable def c137 : Ctr := genC [.k] g137
theorem p137 (a0 : Int) (hn : n137 a0 = true) : exec Try.prog [(136, c136)] (fun _ => none) 8 (Try.f137.body.getD .skip) (initS Try.f137.ntmps [.int .i64 a0] 0 (memOf [])) (retK Try.prog Try.f137.results.toList (outK 0 (List.range 0) [] (.k) fun v U N => (v, U, N) = (q137 (m137 a0)))) :=
  propOf (x137 a0 _) (cnd_need (and_l hn) (cnd_of (fun h0 => leaf_of (l := (IntKind.i64.wrap ((m136 a0) + 1))) (condT h0 rfl) rfl) (fun h0 => leaf_of (l := (m136 a0)) (condF h0 rfl) rfl)))
theorem k137 : CtrOk Try.prog c137 137 := ctr_of (tabOk_cons k136 tabOk_nil) mix_ok 8 (fn := Try.f137) (c := (Try.f137.body.getD .skip)) (grs := []) (rh := .k) (Λ := (fun _ => none)) Try.func137 rfl (by kernel_rfl) noLam fun vs bs q h hn => by
  unfold g137 at h
  split at h <;> cases h
  exact ⟨_, rfl, p137 _ (hn _ (List.mem_singleton.2 rfl))⟩
/-! ### shotline/shotlineref08.CheckWave -/
theorem x53 (a0_0 : Int) (a0_1 : Int) (a0_2 : Int) (R : SV → List Blk → List Blk → Prop) : exec Try.prog [(24, c24)] (fun _ => none) 8 (Try.f53.body.getD .skip) (initS Try.f53.ntmps [.agg [.int .i64 a0_0, .int .i64 a0_1, .int .i64 a0_2]] 0 (memOf [])) (retK Try.prog Try.f53.results.toList (outK 0 (List.range 0) [] (.k) fun v U N => R v U N)) =
 (cnd ((bif (bif (bif (m24 a0_0 0 100000) then false else true) then true else (bif (m24 a0_1 1 100000) then false else true)) then true else (bif (m24 a0_2 0 4095) then false else true)))
 (R (.int .i64 2) [] [])
 (R (.int .i64 0) [] [])) := by kernel_rfl
noncomputable def m53 (a0_0 : Int) (a0_1 : Int) (a0_2 : Int) : Int :=
 (cond ((bif (bif (bif (m24 a0_0 0 100000) then false else true) then true else (bif (m24 a0_1 1 100000) then false else true)) then true else (bif (m24 a0_2 0 4095) then false else true))) 2 0)
noncomputable def q53 (r : Int) : SV × List Blk × List Blk := (.int .i64 r, [], [])
noncomputable def g53 : List SV → List Blk → Option OpRes := fun vs bs => match vs, bs with
  | [.agg [.int .i64 a0_0, .int .i64 a0_1, .int .i64 a0_2]], [] => some (resOf 0 (q53 (m53 a0_0 a0_1 a0_2)) [])
  | _, _ => none
noncomputable def c53 : Ctr := genC [.k] g53
theorem p53 (a0_0 : Int) (a0_1 : Int) (a0_2 : Int) : exec Try.prog [(24, c24)] (fun _ => none) 8 (Try.f53.body.getD .skip) (initS Try.f53.ntmps [.agg [.int .i64 a0_0, .int .i64 a0_1, .int .i64 a0_2]] 0 (memOf [])) (retK Try.prog Try.f53.results.toList (outK 0 (List.range 0) [] (.k) fun v U N => (v, U, N) = (q53 (m53 a0_0 a0_1 a0_2)))) :=
  propOf (x53 a0_0 a0_1 a0_2 _) (cnd_of (fun h0 => leaf_of (l := 2) (condT h0 rfl) rfl) (fun h0 => leaf_of (l := 0) (condF h0 rfl) rfl))
theorem k53 : CtrOk Try.prog c53 53 := ctr_of (tabOk_cons k24 tabOk_nil) mix_ok 8 (fn := Try.f53) (c := (Try.f53.body.getD .skip)) (grs := []) (rh := .k) (Λ := (fun _ => none)) Try.func53 rfl (by kernel_rfl) noLam fun vs bs q h _ => by
  unfold g53 at h
  split at h <;> cases h
  exact ⟨_, rfl, p53 _ _ _⟩

/-! ### shotline/shotlinebase.Root -/
noncomputable def l149_0 (t0 : Int) : Nat → Int → Int → Option (Int)
  | 0, _, _ => none
  | f + 1, t3, t4 => (cond ((decide ((0 : Int) < t4))) (cond ((decide ((IntKind.i64.wrap ((IntKind.i64.wrap (t3 + t4)) * (IntKind.i64.wrap (t3 + t4)))) ≤ t0))) (l149_0 t0 f (IntKind.i64.wrap (t3 + t4)) (IntKind.i64.wrap (t4.tdiv 2))) (l149_0 t0 f t3 (IntKind.i64.wrap (t4.tdiv 2)))) (some t3))
noncomputable abbrev o149_0 (t0 : Int) (t3 : Int) (t4 : Int) : Option (Int) := l149_0 t0 (40 + t0.toNat) t3 t4
noncomputable def e149_0 (t0 : Int) (r : Int) (K : XR) : Prop := K (XE.exit 0) [.int .i64 r] []
noncomputable def g149_0 : LSum := fun s k => match czv 0 22 [0, 3, 4] 0 [] s with
  | some ([.int .i64 t0, .int .i64 t3, .int .i64 t4], []) => needs [(o149_0 t0 t3 t4).isSome] (e149_0 t0 ((o149_0 t0 t3 t4).getD default) fun e vs bs => inBlk 0 k e (mkSt 0 22 [3] vs 0 bs))
  | _ => False
theorem y149_0 (t0 : Int) (t3 : Int) (t4 : Int) (R : XR) : exec Try.prog [] (fun _ => none) 8 (unloop (bodyAt (Try.f149.body.getD .skip) 0)) (mkSt 0 22 [0, 3, 4] [.int .i64 t0, .int .i64 t3, .int .i64 t4] 0 []) (canonK 0 22 [0, 3, 4] [3] 0 [] R) =
 (cnd ((decide ((0 : Int) < t4)))
 (cnd ((decide ((IntKind.i64.wrap ((IntKind.i64.wrap (t3 + t4)) * (IntKind.i64.wrap (t3 + t4)))) ≤ t0)))
 (R (XE.normal) [.int .i64 t0, .int .i64 (IntKind.i64.wrap (t3 + t4)), .int .i64 (IntKind.i64.wrap (t4.tdiv 2))] [])
 (R (XE.normal) [.int .i64 t0, .int .i64 t3, .int .i64 (IntKind.i64.wrap (t4.tdiv 2))] []))
 (R (XE.exit 0) [.int .i64 t3] [])) := by kernel_rfl
theorem z149_0 : LOk Try.prog g149_0 (.block 0 (bodyAt (Try.f149.body.getD .skip) 0)) := by
  refine loop_blk (ι := Int × Int × Int) (L := []) (Λ := (fun _ => none)) (fuel := 8) (na := 0) (nt := 22) (nx := 0) (Lh := [0, 3, 4]) (Le := [3]) (gl := []) tabOk_nil mix_ok noLam rfl (fun f x K => GG default (e149_0 x.1) K (l149_0 x.1 f x.2.1 x.2.2)) (fun x => [.int .i64 x.1, .int .i64 x.2.1, .int .i64 x.2.2]) (fun x => []) (fun x K => gg_none) ?_ ?_
  · rintro f ⟨t0, t3, t4⟩ K hG
    have hG : GG default (e149_0 t0) K (cond ((decide ((0 : Int) < t4))) (cond ((decide ((IntKind.i64.wrap ((IntKind.i64.wrap (t3 + t4)) * (IntKind.i64.wrap (t3 + t4)))) ≤ t0))) (l149_0 t0 f (IntKind.i64.wrap (t3 + t4)) (IntKind.i64.wrap (t4.tdiv 2))) (l149_0 t0 f t3 (IntKind.i64.wrap (t4.tdiv 2)))) (some t3)) := hG
    refine propOf (y149_0 t0 t3 t4 _) ?_
    exact cnd_gg2 hG (fun h0 => cnd_gg2 h0 (fun h1 => ⟨(t0, (IntKind.i64.wrap (t3 + t4)), (IntKind.i64.wrap (t4.tdiv 2))), rfl, rfl, h1⟩) (fun h1 => ⟨(t0, t3, (IntKind.i64.wrap (t4.tdiv 2))), rfl, rfl, h1⟩)) (fun h0 => h0.2)
  · intro s k h
    unfold g149_0 at h
    split at h <;> try exact h.elim
    rename_i e1
    rw [needs_iff] at h
    exact ⟨_, e1, _, (_, _, _), rfl, rfl, h.1 _ (List.mem_singleton.2 rfl), h.2⟩
theorem x149 (a0 : Int) (R : SV → List Blk → List Blk → Prop) : exec Try.prog [] (lamOf [(0, g149_0)]) 8 (Try.f149.body.getD .skip) (initS Try.f149.ntmps [.int .i64 a0] 0 (memOf [])) (retK Try.prog Try.f149.results.toList (outK 0 (List.range 0) [] (.k) fun v U N => R v U N)) =
 (cnd (((o149_0 a0 0 1073741824).isSome))
 (R (.int .i64 ((o149_0 a0 0 1073741824).getD default)) [] [])
  False) := by kernel_rfl
noncomputable def m149 (a0 : Int) : Int :=
 ((o149_0 a0 0 1073741824).getD default)
noncomputable def n149 (a0 : Int) : Bool :=
 ((((o149_0 a0 0 1073741824).isSome)) && true)
noncomputable def q149 (r : Int) : SV × List Blk × List Blk := (.int .i64 r, [], [])
noncomputable def g149 : List SV → List Blk → Option OpRes := fun vs bs => match vs, bs with
  | [.int .i64 a0], [] => some (resOf 0 (q149 (m149 a0)) [n149 a0])
  | _, _ => none
noncomputable def c149 : Ctr := genC [.k] g149
theorem p149 (a0 : Int) (hn : n149 a0 = true) : exec Try.prog [] (lamOf [(0, g149_0)]) 8 (Try.f149.body.getD .skip) (initS Try.f149.ntmps [.int .i64 a0] 0 (memOf [])) (retK Try.prog Try.f149.results.toList (outK 0 (List.range 0) [] (.k) fun v U N => (v, U, N) = (q149 (m149 a0)))) :=
  propOf (x149 a0 _) (cnd_need (and_l hn) (leaf_of (l := ((o149_0 a0 0 1073741824).getD default)) rfl rfl))
theorem k149 : CtrOk Try.prog c149 149 := ctr_of tabOk_nil mix_ok 8 (fn := Try.f149) (c := (Try.f149.body.getD .skip)) (grs := []) (rh := .k) (Λ := (lamOf [(0, g149_0)])) Try.func149 rfl (by kernel_rfl) (lam_of rfl (lams_cons z149_0 lams_nil)) fun vs bs q h hn => by
  unfold g149 at h
  split at h <;> cases h
  exact ⟨_, rfl, p149 _ (hn _ (List.mem_singleton.2 rfl))⟩
/-! ### shotline/site.angle -/
theorem x123 (a0_0 : Int) (a0_1 : Int) (a0_2 : Int) (a1 : Int) (R : SV → List Blk → List Blk → Prop) : exec Try.prog [(131, c131), (132, c132)] (fun _ => none) 8 (Try.f123.body.getD .skip) (initS Try.f123.ntmps [.agg [.int .i64 a0_0, .int .i64 a0_1, .int .i64 a0_2], .int .i64 a1] 0 (memOf [])) (retK Try.prog Try.f123.results.toList (outK 0 (List.range 0) [] (.k) fun v U N => R v U N)) =
 (cnd ((bif (decide ((IntKind.i64.wrap (4096 * a0_1)) = 0)) then false else true))
 (cnd ((n131 ((IntKind.i64.wrap ((IntKind.i64.wrap (a0_2 * a0_1)) + (IntKind.i64.wrap (4096 * a1)))).tmod (IntKind.i64.wrap (4096 * a0_1))) a0_1))
 (cnd ((n132 ((IntKind.i64.wrap ((IntKind.i64.wrap (a0_2 * a0_1)) + (IntKind.i64.wrap (4096 * a1)))).tmod (IntKind.i64.wrap (4096 * a0_1))) a0_1))
 (R (.agg [.int .i64 (m131 ((IntKind.i64.wrap ((IntKind.i64.wrap (a0_2 * a0_1)) + (IntKind.i64.wrap (4096 * a1)))).tmod (IntKind.i64.wrap (4096 * a0_1))) a0_1), .int .i64 (m132 ((IntKind.i64.wrap ((IntKind.i64.wrap (a0_2 * a0_1)) + (IntKind.i64.wrap (4096 * a1)))).tmod (IntKind.i64.wrap (4096 * a0_1))) a0_1)]) [] [])
    False)
   False)
  False) := by kernel_rfl
noncomputable def m123 (a0_0 : Int) (a0_1 : Int) (a0_2 : Int) (a1 : Int) : Int × Int :=
 ((m131 ((IntKind.i64.wrap ((IntKind.i64.wrap (a0_2 * a0_1)) + (IntKind.i64.wrap (4096 * a1)))).tmod (IntKind.i64.wrap (4096 * a0_1))) a0_1), (m132 ((IntKind.i64.wrap ((IntKind.i64.wrap (a0_2 * a0_1)) + (IntKind.i64.wrap (4096 * a1)))).tmod (IntKind.i64.wrap (4096 * a0_1))) a0_1))
noncomputable def n123 (a0_0 : Int) (a0_1 : Int) (a0_2 : Int) (a1 : Int) : Bool :=
 (((bif (decide ((IntKind.i64.wrap (4096 * a0_1)) = 0)) then false else true)) && (((n131 ((IntKind.i64.wrap ((IntKind.i64.wrap (a0_2 * a0_1)) + (IntKind.i64.wrap (4096 * a1)))).tmod (IntKind.i64.wrap (4096 * a0_1))) a0_1)) && (((n132 ((IntKind.i64.wrap ((IntKind.i64.wrap (a0_2 * a0_1)) + (IntKind.i64.wrap (4096 * a1)))).tmod (IntKind.i64.wrap (4096 * a0_1))) a0_1)) && true)))
noncomputable def q123 (r : Int × Int) : SV × List Blk × List Blk := (.agg [.int .i64 r.1, .int .i64 r.2], [], [])
noncomputable def g123 : List SV → List Blk → Option OpRes := fun vs bs => match vs, bs with
  | [.agg [.int .i64 a0_0, .int .i64 a0_1, .int .i64 a0_2], .int .i64 a1], [] => some (resOf 0 (q123 (m123 a0_0 a0_1 a0_2 a1)) [n123 a0_0 a0_1 a0_2 a1])
  | _, _ => none
noncomputable def c123 : Ctr := genC [.k, .k] g123
theorem p123 (a0_0 : Int) (a0_1 : Int) (a0_2 : Int) (a1 : Int) (hn : n123 a0_0 a0_1 a0_2 a1 = true) : exec Try.prog [(131, c131), (132, c132)] (fun _ => none) 8 (Try.f123.body.getD .skip) (initS Try.f123.ntmps [.agg [.int .i64 a0_0, .int .i64 a0_1, .int .i64 a0_2], .int .i64 a1] 0 (memOf [])) (retK Try.prog Try.f123.results.toList (outK 0 (List.range 0) [] (.k) fun v U N => (v, U, N) = (q123 (m123 a0_0 a0_1 a0_2 a1)))) :=
  propOf (x123 a0_0 a0_1 a0_2 a1 _) (cnd_need (and_l hn) (cnd_need (and_l (and_r hn)) (cnd_need (and_l (and_r (and_r hn))) (leaf_of (l := ((m131 ((IntKind.i64.wrap ((IntKind.i64.wrap (a0_2 * a0_1)) + (IntKind.i64.wrap (4096 * a1)))).tmod (IntKind.i64.wrap (4096 * a0_1))) a0_1), (m132 ((IntKind.i64.wrap ((IntKind.i64.wrap (a0_2 * a0_1)) + (IntKind.i64.wrap (4096 * a1)))).tmod (IntKind.i64.wrap (4096 * a0_1))) a0_1))) rfl rfl))))
theorem k123 : CtrOk Try.prog c123 123 := ctr_of (tabOk_cons k131 (tabOk_cons k132 tabOk_nil)) mix_ok 8 (fn := Try.f123) (c := (Try.f123.body.getD .skip)) (grs := []) (rh := .k) (Λ := (fun _ => none)) Try.func123 rfl (by kernel_rfl) noLam fun vs bs q h hn => by
  unfold g123 at h
  split at h <;> cases h
  exact ⟨_, rfl, p123 _ _ _ _ (hn _ (List.mem_singleton.2 rfl))⟩
/-! ### shotline/shotlineref08.AngleAt -/
theorem x54 (a0_0 : Int) (a0_1 : Int) (a0_2 : Int) (a1 : Int) (R : SV → List Blk → List Blk → Prop) : exec Try.prog [(104, c104), (105, c105)] (fun _ => none) 8 (Try.f54.body.getD .skip) (initS Try.f54.ntmps [.agg [.int .i64 a0_0, .int .i64 a0_1, .int .i64 a0_2], .int .i64 a1] 0 (memOf [])) (retK Try.prog Try.f54.results.toList (outK 0 (List.range 0) [] (.k) fun v U N => R v U N)) =
 (cnd ((n104 (IntKind.i64.wrap (4096 * a1)) a0_1))
 (cnd ((n105 (IntKind.i64.wrap (4096 * a1)) a0_1))
 (cnd ((n104 (IntKind.i64.wrap (a0_2 + (m104 (IntKind.i64.wrap (4096 * a1)) a0_1))) 4096))
 (R (.agg [.int .i64 (IntKind.i64.wrap ((IntKind.i64.wrap (a0_2 + (m104 (IntKind.i64.wrap (4096 * a1)) a0_1))) - (IntKind.i64.wrap ((m104 (IntKind.i64.wrap (a0_2 + (m104 (IntKind.i64.wrap (4096 * a1)) a0_1))) 4096) * 4096)))), .int .i64 (IntKind.i64.wrap ((IntKind.i64.wrap (a0_2 + (m105 (IntKind.i64.wrap (4096 * a1)) a0_1))) - (IntKind.i64.wrap ((m104 (IntKind.i64.wrap (a0_2 + (m104 (IntKind.i64.wrap (4096 * a1)) a0_1))) 4096) * 4096))))]) [] [])
    False)
   False)
  False) := by kernel_rfl
noncomputable def m54 (a0_0 : Int) (a0_1 : Int) (a0_2 : Int) (a1 : Int) : Int × Int :=
 ((IntKind.i64.wrap ((IntKind.i64.wrap (a0_2 + (m104 (IntKind.i64.wrap (4096 * a1)) a0_1))) - (IntKind.i64.wrap ((m104 (IntKind.i64.wrap (a0_2 + (m104 (IntKind.i64.wrap (4096 * a1)) a0_1))) 4096) * 4096)))), (IntKind.i64.wrap ((IntKind.i64.wrap (a0_2 + (m105 (IntKind.i64.wrap (4096 * a1)) a0_1))) - (IntKind.i64.wrap ((m104 (IntKind.i64.wrap (a0_2 + (m104 (IntKind.i64.wrap (4096 * a1)) a0_1))) 4096) * 4096)))))
noncomputable def n54 (a0_0 : Int) (a0_1 : Int) (a0_2 : Int) (a1 : Int) : Bool :=
 (((n104 (IntKind.i64.wrap (4096 * a1)) a0_1)) && (((n105 (IntKind.i64.wrap (4096 * a1)) a0_1)) && (((n104 (IntKind.i64.wrap (a0_2 + (m104 (IntKind.i64.wrap (4096 * a1)) a0_1))) 4096)) && true)))
noncomputable def q54 (r : Int × Int) : SV × List Blk × List Blk := (.agg [.int .i64 r.1, .int .i64 r.2], [], [])
noncomputable def g54 : List SV → List Blk → Option OpRes := fun vs bs => match vs, bs with
  | [.agg [.int .i64 a0_0, .int .i64 a0_1, .int .i64 a0_2], .int .i64 a1], [] => some (resOf 0 (q54 (m54 a0_0 a0_1 a0_2 a1)) [n54 a0_0 a0_1 a0_2 a1])
  | _, _ => none
noncomputable def c54 : Ctr := genC [.k, .k] g54
theorem p54 (a0_0 : Int) (a0_1 : Int) (a0_2 : Int) (a1 : Int) (hn : n54 a0_0 a0_1 a0_2 a1 = true) : exec Try.prog [(104, c104), (105, c105)] (fun _ => none) 8 (Try.f54.body.getD .skip) (initS Try.f54.ntmps [.agg [.int .i64 a0_0, .int .i64 a0_1, .int .i64 a0_2], .int .i64 a1] 0 (memOf [])) (retK Try.prog Try.f54.results.toList (outK 0 (List.range 0) [] (.k) fun v U N => (v, U, N) = (q54 (m54 a0_0 a0_1 a0_2 a1)))) :=
  propOf (x54 a0_0 a0_1 a0_2 a1 _) (cnd_need (and_l hn) (cnd_need (and_l (and_r hn)) (cnd_need (and_l (and_r (and_r hn))) (leaf_of (l := ((IntKind.i64.wrap ((IntKind.i64.wrap (a0_2 + (m104 (IntKind.i64.wrap (4096 * a1)) a0_1))) - (IntKind.i64.wrap ((m104 (IntKind.i64.wrap (a0_2 + (m104 (IntKind.i64.wrap (4096 * a1)) a0_1))) 4096) * 4096)))), (IntKind.i64.wrap ((IntKind.i64.wrap (a0_2 + (m105 (IntKind.i64.wrap (4096 * a1)) a0_1))) - (IntKind.i64.wrap ((m104 (IntKind.i64.wrap (a0_2 + (m104 (IntKind.i64.wrap (4096 * a1)) a0_1))) 4096) * 4096)))))) rfl rfl))))
theorem k54 : CtrOk Try.prog c54 54 := ctr_of (tabOk_cons k104 (tabOk_cons k105 tabOk_nil)) mix_ok 8 (fn := Try.f54) (c := (Try.f54.body.getD .skip)) (grs := []) (rh := .k) (Λ := (fun _ => none)) Try.func54 rfl (by kernel_rfl) noLam fun vs bs q h hn => by
  unfold g54 at h
  split at h <;> cases h
  exact ⟨_, rfl, p54 _ _ _ _ (hn _ (List.mem_singleton.2 rfl))⟩
/-! ### shotline/site.checkSpan -/
theorem x83 (a0_0 : Int) (a0_1 : Int) (R : SV → List Blk → List Blk → Prop) : exec Try.prog [(93, c93)] (fun _ => none) 8 (Try.f83.body.getD .skip) (initS Try.f83.ntmps [.agg [.int .i64 a0_0, .int .i64 a0_1]] 0 (memOf [])) (retK Try.prog Try.f83.results.toList (outK 0 (List.range 0) [] (.k) fun v U N => R v U N)) =
 (cnd ((bif (bif (m93 a0_0) then false else true) then true else (bif (m93 a0_1) then false else true)))
 (R (.int .i64 2) [] [])
 (cnd ((decide (a0_1 < a0_0)))
 (R (.int .i64 9) [] [])
 (cnd ((decide ((3000 : Int) < (IntKind.i64.wrap ((IntKind.i64.wrap (a0_1 - a0_0)) + 1)))))
 (R (.int .i64 8) [] [])
 (R (.int .i64 0) [] [])))) := by kernel_rfl
noncomputable def m83 (a0_0 : Int) (a0_1 : Int) : Int :=
 (cond ((bif (bif (m93 a0_0) then false else true) then true else (bif (m93 a0_1) then false else true))) 2 (cond ((decide (a0_1 < a0_0))) 9 (cond ((decide ((3000 : Int) < (IntKind.i64.wrap ((IntKind.i64.wrap (a0_1 - a0_0)) + 1))))) 8 0)))
noncomputable def q83 (r : Int) : SV × List Blk × List Blk := (.int .i64 r, [], [])
noncomputable def g83 : List SV → List Blk → Option OpRes := fun vs bs => match vs, bs with
  | [.agg [.int .i64 a0_0, .int .i64 a0_1]], [] => some (resOf 0 (q83 (m83 a0_0 a0_1)) [])
  | _, _ => none
noncomputable def c83 : Ctr := genC [.k] g83
theorem p83 (a0_0 : Int) (a0_1 : Int) : exec Try.prog [(93, c93)] (fun _ => none) 8 (Try.f83.body.getD .skip) (initS Try.f83.ntmps [.agg [.int .i64 a0_0, .int .i64 a0_1]] 0 (memOf [])) (retK Try.prog Try.f83.results.toList (outK 0 (List.range 0) [] (.k) fun v U N => (v, U, N) = (q83 (m83 a0_0 a0_1)))) :=
  propOf (x83 a0_0 a0_1 _) (cnd_of (fun h0 => leaf_of (l := 2) (condT h0 rfl) rfl) (fun h0 => cnd_of (fun h1 => leaf_of (l := 9) (condF h0 (condT h1 rfl)) rfl) (fun h1 => cnd_of (fun h2 => leaf_of (l := 8) (condF h0 (condF h1 (condT h2 rfl))) rfl) (fun h2 => leaf_of (l := 0) (condF h0 (condF h1 (condF h2 rfl))) rfl))))
theorem k83 : CtrOk Try.prog c83 83 := ctr_of (tabOk_cons k93 tabOk_nil) mix_ok 8 (fn := Try.f83) (c := (Try.f83.body.getD .skip)) (grs := []) (rh := .k) (Λ := (fun _ => none)) Try.func83 rfl (by kernel_rfl) noLam fun vs bs q h _ => by
  unfold g83 at h
  split at h <;> cases h
  exact ⟨_, rfl, p83 _ _⟩
/-! ### shotline/shotlineref08.CheckSpan -/
theorem x23 (a0_0 : Int) (a0_1 : Int) (R : SV → List Blk → List Blk → Prop) : exec Try.prog [(39, c39)] (fun _ => none) 8 (Try.f23.body.getD .skip) (initS Try.f23.ntmps [.agg [.int .i64 a0_0, .int .i64 a0_1]] 0 (memOf [])) (retK Try.prog Try.f23.results.toList (outK 0 (List.range 0) [] (.k) fun v U N => R v U N)) =
 (cnd ((bif (bif (m39 a0_0) then false else true) then true else (bif (m39 a0_1) then false else true)))
 (R (.int .i64 2) [] [])
 (cnd ((decide (a0_1 < a0_0)))
 (R (.int .i64 9) [] [])
 (cnd ((decide (3000 ≤ (IntKind.i64.wrap (a0_1 - a0_0)))))
 (R (.int .i64 8) [] [])
 (R (.int .i64 0) [] [])))) := by kernel_rfl
noncomputable def m23 (a0_0 : Int) (a0_1 : Int) : Int :=
 (cond ((bif (bif (m39 a0_0) then false else true) then true else (bif (m39 a0_1) then false else true))) 2 (cond ((decide (a0_1 < a0_0))) 9 (cond ((decide (3000 ≤ (IntKind.i64.wrap (a0_1 - a0_0))))) 8 0)))
noncomputable def q23 (r : Int) : SV × List Blk × List Blk := (.int .i64 r, [], [])
noncomputable def g23 : List SV → List Blk → Option OpRes := fun vs bs => match vs, bs with
  | [.agg [.int .i64 a0_0, .int .i64 a0_1]], [] => some (resOf 0 (q23 (m23 a0_0 a0_1)) [])
  | _, _ => none
noncomputable def c23 : Ctr := genC [.k] g23
theorem p23 (a0_0 : Int) (a0_1 : Int) : exec Try.prog [(39, c39)] (fun _ => none) 8 (Try.f23.body.getD .skip) (initS Try.f23.ntmps [.agg [.int .i64 a0_0, .int .i64 a0_1]] 0 (memOf [])) (retK Try.prog Try.f23.results.toList (outK 0 (List.range 0) [] (.k) fun v U N => (v, U, N) = (q23 (m23 a0_0 a0_1)))) :=
  propOf (x23 a0_0 a0_1 _) (cnd_of (fun h0 => leaf_of (l := 2) (condT h0 rfl) rfl) (fun h0 => cnd_of (fun h1 => leaf_of (l := 9) (condF h0 (condT h1 rfl)) rfl) (fun h1 => cnd_of (fun h2 => leaf_of (l := 8) (condF h0 (condF h1 (condT h2 rfl))) rfl) (fun h2 => leaf_of (l := 0) (condF h0 (condF h1 (condF h2 rfl))) rfl))))
theorem k23 : CtrOk Try.prog c23 23 := ctr_of (tabOk_cons k39 tabOk_nil) mix_ok 8 (fn := Try.f23) (c := (Try.f23.body.getD .skip)) (grs := []) (rh := .k) (Λ := (fun _ => none)) Try.func23 rfl (by kernel_rfl) noLam fun vs bs q h _ => by
  unfold g23 at h
  split at h <;> cases h
  exact ⟨_, rfl, p23 _ _⟩
/-! ### shotline/shotlinelaw08.few -/
theorem x37 (a0_0 : Int) (na0_1 : Nat) (da0_1 : Dat) (R : SV → List Blk → List Blk → Prop) : exec Try.prog [] (fun _ => none) 8 (Try.f37.body.getD .skip) (initS Try.f37.ntmps [.agg [.int .i64 a0_0, .ro [.int .i64, .int .i64, .int .i64] na0_1 da0_1]] 0 (memOf [])) (retK Try.prog Try.f37.results.toList (outK 0 (List.range 0) [] (.k) fun v U N => R v U N)) =
 (R (.bool (bif (decide (((↑na0_1 : Int)) ≤ 4)) then true else (bif (decide ((10 : Int) < ((↑na0_1 : Int)))) then (decide (((↑na0_1 : Int)) ≤ 12)) else false))) [] []) := by kernel_rfl
noncomputable def m37 (a0_0 : Int) (na0_1 : Nat) (da0_1 : Dat) : Bool :=
 (bif (decide (((↑na0_1 : Int)) ≤ 4)) then true else (bif (decide ((10 : Int) < ((↑na0_1 : Int)))) then (decide (((↑na0_1 : Int)) ≤ 12)) else false))
noncomputable def q37 (r : Bool) : SV × List Blk × List Blk := (.bool r, [], [])
noncomputable def g37 : List SV → List Blk → Option OpRes := fun vs bs => match vs, bs with
  | [.agg [.int .i64 a0_0, .ro [.int .i64, .int .i64, .int .i64] na0_1 da0_1]], [] => some (resOf 0 (q37 (m37 a0_0 na0_1 da0_1)) [])
  | _, _ => none
noncomputable def c37 : Ctr := genC [.a [.k, .ro [.int .i64, .int .i64, .int .i64]]] g37
theorem p37 (a0_0 : Int) (na0_1 : Nat) (da0_1 : Dat) : exec Try.prog [] (fun _ => none) 8 (Try.f37.body.getD .skip) (initS Try.f37.ntmps [.agg [.int .i64 a0_0, .ro [.int .i64, .int .i64, .int .i64] na0_1 da0_1]] 0 (memOf [])) (retK Try.prog Try.f37.results.toList (outK 0 (List.range 0) [] (.k) fun v U N => (v, U, N) = (q37 (m37 a0_0 na0_1 da0_1)))) :=
  propOf (x37 a0_0 na0_1 da0_1 _) (leaf_of (l := (bif (decide (((↑na0_1 : Int)) ≤ 4)) then true else (bif (decide ((10 : Int) < ((↑na0_1 : Int)))) then (decide (((↑na0_1 : Int)) ≤ 12)) else false))) rfl rfl)
theorem k37 : CtrOk Try.prog c37 37 := ctr_of tabOk_nil mix_ok 8 (fn := Try.f37) (c := (Try.f37.body.getD .skip)) (grs := []) (rh := .k) (Λ := (fun _ => none)) Try.func37 rfl (by kernel_rfl) noLam fun vs bs q h _ => by
  unfold g37 at h
  split at h <;> cases h
  exact ⟨_, rfl, p37 _ _ _⟩
/-! ### shotline/shotlineref08.CheckTide -/
noncomputable def l20_0 (b0_0 : Int) (b0_1 : Nat) (b0_2 : Dat) : Nat → Int → Option (Bool × (Int) × (Unit))
  | 0, _ => none
  | f + 1, t3 => (cond ((decide (t3 < ((↑b0_1 : Int))))) (cond ((decide (0 ≤ t3 ∧ t3 < (↑b0_1 : Int)))) (cond ((bif (decide ((m53 (b0_2.ii t3.toNat 0) (b0_2.ii t3.toNat (0 + 1)) (b0_2.ii t3.toNat ((0 + 1) + 1))) = 0)) then false else true)) (some (true, (m53 (b0_2.ii t3.toNat 0) (b0_2.ii t3.toNat (0 + 1)) (b0_2.ii t3.toNat ((0 + 1) + 1))), default)) (l20_0 b0_0 b0_1 b0_2 f (IntKind.i64.wrap (t3 + 1)))) none) (some (false, default, ())))
noncomputable abbrev o20_0 (b0_0 : Int) (b0_1 : Nat) (b0_2 : Dat) (t3 : Int) : Option (Bool × (Int) × (Unit)) := l20_0 b0_0 b0_1 b0_2 (t3.toNat + b0_0.toNat + b0_1 + 8) t3
noncomputable def e20_0 (b0_0 : Int) (b0_1 : Nat) (b0_2 : Dat) (r : Bool × (Int) × (Unit)) (K : XR) : Prop := cnd r.1 (K (XE.ret) [.int .i64 r.2.1] [.cells 24 [.int .i64 b0_0, .ro [.int .i64, .int .i64, .int .i64] b0_1 b0_2]]) (K (XE.exit 0) [.any] [.cells 24 [.int .i64 b0_0, .ro [.int .i64, .int .i64, .int .i64] b0_1 b0_2]])
noncomputable def g20_0 : LSum := fun s k => match czv 0 29 [1, 3] 1 [] s with
  | some ([.ptr 0 0, .int .i64 t3], [.cells 24 [.int .i64 b0_0, .ro [.int .i64, .int .i64, .int .i64] b0_1 b0_2]]) => needs [(o20_0 b0_0 b0_1 b0_2 t3).isSome] (e20_0 b0_0 b0_1 b0_2 ((o20_0 b0_0 b0_1 b0_2 t3).getD default) fun e vs bs => inBlk 0 k e (mkSt 0 29 [2] vs 1 bs))
  | _ => False
theorem y20_0 (t3 : Int) (b0_0 : Int) (b0_1 : Nat) (b0_2 : Dat) (R : XR) : exec Try.prog [(24, c24), (53, c53)] (fun _ => none) 8 (unloop (bodyAt (Try.f20.body.getD .skip) 0)) (mkSt 0 29 [1, 3] [.ptr 0 0, .int .i64 t3] 1 [.cells 24 [.int .i64 b0_0, .ro [.int .i64, .int .i64, .int .i64] b0_1 b0_2]]) (canonK 0 29 [1, 3] [2] 1 [] R) =
 (cnd ((decide (t3 < ((↑b0_1 : Int)))))
 (cnd ((decide (0 ≤ t3 ∧ t3 < (↑b0_1 : Int))))
 (cnd ((bif (decide ((m53 (b0_2.ii t3.toNat 0) (b0_2.ii t3.toNat (0 + 1)) (b0_2.ii t3.toNat ((0 + 1) + 1))) = 0)) then false else true))
 (R (XE.ret) [.int .i64 (m53 (b0_2.ii t3.toNat 0) (b0_2.ii t3.toNat (0 + 1)) (b0_2.ii t3.toNat ((0 + 1) + 1)))] [.cells 24 [.int .i64 b0_0, .ro [.int .i64, .int .i64, .int .i64] b0_1 b0_2]])
 (R (XE.normal) [.ptr 0 0, .int .i64 (IntKind.i64.wrap (t3 + 1))] [.cells 24 [.int .i64 b0_0, .ro [.int .i64, .int .i64, .int .i64] b0_1 b0_2]]))
   False)
 (R (XE.exit 0) [.any] [.cells 24 [.int .i64 b0_0, .ro [.int .i64, .int .i64, .int .i64] b0_1 b0_2]])) := by kernel_rfl
theorem z20_0 : LOk Try.prog g20_0 (.block 0 (bodyAt (Try.f20.body.getD .skip) 0)) := by
  refine loop_blk (ι := Int × Int × Nat × Dat) (L := [(24, c24), (53, c53)]) (Λ := (fun _ => none)) (fuel := 8) (na := 0) (nt := 29) (nx := 1) (Lh := [1, 3]) (Le := [2]) (gl := []) (tabOk_cons k24 (tabOk_cons k53 tabOk_nil)) mix_ok noLam rfl (fun f x K => GG default (e20_0 x.2.1 x.2.2.1 x.2.2.2) K (l20_0 x.2.1 x.2.2.1 x.2.2.2 f x.1)) (fun x => [.ptr 0 0, .int .i64 x.1]) (fun x => [.cells 24 [.int .i64 x.2.1, .ro [.int .i64, .int .i64, .int .i64] x.2.2.1 x.2.2.2]]) (fun x K => gg_none) ?_ ?_
  · rintro f ⟨t3, b0_0, b0_1, b0_2⟩ K hG
    have hG : GG default (e20_0 b0_0 b0_1 b0_2) K (cond ((decide (t3 < ((↑b0_1 : Int))))) (cond ((decide (0 ≤ t3 ∧ t3 < (↑b0_1 : Int)))) (cond ((bif (decide ((m53 (b0_2.ii t3.toNat 0) (b0_2.ii t3.toNat (0 + 1)) (b0_2.ii t3.toNat ((0 + 1) + 1))) = 0)) then false else true)) (some (true, (m53 (b0_2.ii t3.toNat 0) (b0_2.ii t3.toNat (0 + 1)) (b0_2.ii t3.toNat ((0 + 1) + 1))), default)) (l20_0 b0_0 b0_1 b0_2 f (IntKind.i64.wrap (t3 + 1)))) none) (some (false, default, ()))) := hG
    refine propOf (y20_0 t3 b0_0 b0_1 b0_2 _) ?_
    exact cnd_gg2 hG (fun h0 => cnd_gg h0 fun h1 => cnd_gg2 h1 (fun h2 => h2.2) (fun h2 => ⟨((IntKind.i64.wrap (t3 + 1)), b0_0, b0_1, b0_2), rfl, rfl, h2⟩)) (fun h0 => h0.2)
  · intro s k h
    unfold g20_0 at h
    split at h <;> try exact h.elim
    rename_i e1
    rw [needs_iff] at h
    exact ⟨_, e1, _, (_, _, _, _), rfl, rfl, h.1 _ (List.mem_singleton.2 rfl), h.2⟩
theorem x20 (a0_0 : Int) (na0_1 : Nat) (da0_1 : Dat) (R : SV → List Blk → List Blk → Prop) : exec Try.prog [(24, c24), (53, c53)] (lamOf [(0, g20_0)]) 8 (Try.f20.body.getD .skip) (initS Try.f20.ntmps [.agg [.int .i64 a0_0, .ro [.int .i64, .int .i64, .int .i64] na0_1 da0_1]] 0 (memOf [])) (retK Try.prog Try.f20.results.toList (outK 0 (List.range 0) [] (.k) fun v U N => R v U N)) =
 (cnd ((bif (m24 a0_0 (-100000) 100000) then false else true))
 (R (.int .i64 2) [] [])
 (cnd ((decide ((10 : Int) < ((↑na0_1 : Int)))))
 (R (.int .i64 8) [] [])
 (cnd (((o20_0 a0_0 na0_1 da0_1 0).isSome))
 (cnd ((((o20_0 a0_0 na0_1 da0_1 0).getD default).1))
 (R (.int .i64 (((o20_0 a0_0 na0_1 da0_1 0).getD default).2.1)) [] [])
 (R (.int .i64 0) [] []))
    False))) := by kernel_rfl
noncomputable def m20 (a0_0 : Int) (na0_1 : Nat) (da0_1 : Dat) : Int :=
 (cond ((bif (m24 a0_0 (-100000) 100000) then false else true)) 2 (cond ((decide ((10 : Int) < ((↑na0_1 : Int))))) 8 (cond ((((o20_0 a0_0 na0_1 da0_1 0).getD default).1)) (((o20_0 a0_0 na0_1 da0_1 0).getD default).2.1) 0)))
noncomputable def n20 (a0_0 : Int) (na0_1 : Nat) (da0_1 : Dat) : Bool :=
 (cond ((bif (m24 a0_0 (-100000) 100000) then false else true)) true (cond ((decide ((10 : Int) < ((↑na0_1 : Int))))) true ((((o20_0 a0_0 na0_1 da0_1 0).isSome)) && true)))
noncomputable def q20 (r : Int) : SV × List Blk × List Blk := (.int .i64 r, [], [])
noncomputable def g20 : List SV → List Blk → Option OpRes := fun vs bs => match vs, bs with
  | [.agg [.int .i64 a0_0, .ro [.int .i64, .int .i64, .int .i64] na0_1 da0_1]], [] => some (resOf 0 (q20 (m20 a0_0 na0_1 da0_1)) [n20 a0_0 na0_1 da0_1])
  | _, _ => none
noncomputable def c20 : Ctr := genC [.a [.k, .ro [.int .i64, .int .i64, .int .i64]]] g20
theorem p20 (a0_0 : Int) (na0_1 : Nat) (da0_1 : Dat) (hn : n20 a0_0 na0_1 da0_1 = true) : exec Try.prog [(24, c24), (53, c53)] (lamOf [(0, g20_0)]) 8 (Try.f20.body.getD .skip) (initS Try.f20.ntmps [.agg [.int .i64 a0_0, .ro [.int .i64, .int .i64, .int .i64] na0_1 da0_1]] 0 (memOf [])) (retK Try.prog Try.f20.results.toList (outK 0 (List.range 0) [] (.k) fun v U N => (v, U, N) = (q20 (m20 a0_0 na0_1 da0_1)))) :=
  propOf (x20 a0_0 na0_1 da0_1 _) (cnd_of (fun h0 => leaf_of (l := 2) (condT h0 rfl) rfl) (fun h0 => cnd_of (fun h1 => leaf_of (l := 8) (condF h0 (condT h1 rfl)) rfl) (fun h1 => cnd_need (and_l (cond_f h1 (cond_f h0 hn))) (cnd_of (fun h2 => leaf_of (l := (((o20_0 a0_0 na0_1 da0_1 0).getD default).2.1)) (condF h0 (condF h1 (condT h2 rfl))) rfl) (fun h2 => leaf_of (l := 0) (condF h0 (condF h1 (condF h2 rfl))) rfl)))))
theorem k20 : CtrOk Try.prog c20 20 := ctr_of (tabOk_cons k24 (tabOk_cons k53 tabOk_nil)) mix_ok 8 (fn := Try.f20) (c := (Try.f20.body.getD .skip)) (grs := []) (rh := .k) (Λ := (lamOf [(0, g20_0)])) Try.func20 rfl (by kernel_rfl) (lam_of rfl (lams_cons z20_0 lams_nil)) fun vs bs q h hn => by
  unfold g20 at h
  split at h <;> cases h
  exact ⟨_, rfl, p20 _ _ _ (hn _ (List.mem_singleton.2 rfl))⟩

/-! ### (shotline/site.ray).turned -/
theorem x148 (a0_0 : Int) (a0_1 : Int) (a0_2 : Int) (a0_3 : Int) (a1_0 : Int) (a1_1 : Int) (a1_2 : Int) (a1_3 : Int) (R : SV → List Blk → List Blk → Prop) : exec Try.prog [(131, c131), (132, c132)] (fun _ => none) 8 (Try.f148.body.getD .skip) (initS Try.f148.ntmps [.agg [.int .i64 a0_0, .int .i64 a0_1, .int .i64 a0_2, .int .i64 a0_3], .agg [.int .i64 a1_0, .int .i64 a1_1, .int .i64 a1_2, .int .i64 a1_3]] 0 (memOf [])) (retK Try.prog Try.f148.results.toList (outK 0 (List.range 0) [] (.k) fun v U N => R v U N)) =
 (cnd ((n131 (IntKind.i64.wrap ((IntKind.i64.wrap (a0_0 * a1_0)) - (IntKind.i64.wrap (a0_3 * a1_3)))) 100000000))
 (cnd ((n132 (IntKind.i64.wrap ((IntKind.i64.wrap (a0_1 * a1_1)) - (IntKind.i64.wrap (a0_2 * a1_2)))) 100000000))
 (cnd ((n131 (IntKind.i64.wrap ((IntKind.i64.wrap (a0_2 * a1_0)) + (IntKind.i64.wrap (a0_0 * a1_2)))) 100000000))
 (cnd ((n132 (IntKind.i64.wrap ((IntKind.i64.wrap (a0_3 * a1_1)) + (IntKind.i64.wrap (a0_1 * a1_3)))) 100000000))
 (R (.agg [.int .i64 (imax 0 (m131 (IntKind.i64.wrap ((IntKind.i64.wrap (a0_0 * a1_0)) - (IntKind.i64.wrap (a0_3 * a1_3)))) 100000000)), .int .i64 (m132 (IntKind.i64.wrap ((IntKind.i64.wrap (a0_1 * a1_1)) - (IntKind.i64.wrap (a0_2 * a1_2)))) 100000000), .int .i64 (m131 (IntKind.i64.wrap ((IntKind.i64.wrap (a0_2 * a1_0)) + (IntKind.i64.wrap (a0_0 * a1_2)))) 100000000), .int .i64 (imin 100000000 (m132 (IntKind.i64.wrap ((IntKind.i64.wrap (a0_3 * a1_1)) + (IntKind.i64.wrap (a0_1 * a1_3)))) 100000000))]) [] [])
     False)
    False)
   False)
  False) := by kernel_rfl
noncomputable def m148 (a0_0 : Int) (a0_1 : Int) (a0_2 : Int) (a0_3 : Int) (a1_0 : Int) (a1_1 : Int) (a1_2 : Int) (a1_3 : Int) : Int × Int × Int × Int :=
 ((imax 0 (m131 (IntKind.i64.wrap ((IntKind.i64.wrap (a0_0 * a1_0)) - (IntKind.i64.wrap (a0_3 * a1_3)))) 100000000)), (m132 (IntKind.i64.wrap ((IntKind.i64.wrap (a0_1 * a1_1)) - (IntKind.i64.wrap (a0_2 * a1_2)))) 100000000), (m131 (IntKind.i64.wrap ((IntKind.i64.wrap (a0_2 * a1_0)) + (IntKind.i64.wrap (a0_0 * a1_2)))) 100000000), (imin 100000000 (m132 (IntKind.i64.wrap ((IntKind.i64.wrap (a0_3 * a1_1)) + (IntKind.i64.wrap (a0_1 * a1_3)))) 100000000)))
noncomputable def n148 (a0_0 : Int) (a0_1 : Int) (a0_2 : Int) (a0_3 : Int) (a1_0 : Int) (a1_1 : Int) (a1_2 : Int) (a1_3 : Int) : Bool :=
 (((n131 (IntKind.i64.wrap ((IntKind.i64.wrap (a0_0 * a1_0)) - (IntKind.i64.wrap (a0_3 * a1_3)))) 100000000)) && (((n132 (IntKind.i64.wrap ((IntKind.i64.wrap (a0_1 * a1_1)) - (IntKind.i64.wrap (a0_2 * a1_2)))) 100000000)) && (((n131 (IntKind.i64.wrap ((IntKind.i64.wrap (a0_2 * a1_0)) + (IntKind.i64.wrap (a0_0 * a1_2)))) 100000000)) && (((n132 (IntKind.i64.wrap ((IntKind.i64.wrap (a0_3 * a1_1)) + (IntKind.i64.wrap (a0_1 * a1_3)))) 100000000)) && true))))
noncomputable def q148 (r : Int × Int × Int × Int) : SV × List Blk × List Blk := (.agg [.int .i64 r.1, .int .i64 r.2.1, .int .i64 r.2.2.1, .int .i64 r.2.2.2], [], [])
noncomputable def g148 : List SV → List Blk → Option OpRes := fun vs bs => match vs, bs with
  | [.agg [.int .i64 a0_0, .int .i64 a0_1, .int .i64 a0_2, .int .i64 a0_3], .agg [.int .i64 a1_0, .int .i64 a1_1, .int .i64 a1_2, .int .i64 a1_3]], [] => some (resOf 0 (q148 (m148 a0_0 a0_1 a0_2 a0_3 a1_0 a1_1 a1_2 a1_3)) [n148 a0_0 a0_1 a0_2 a0_3 a1_0 a1_1 a1_2 a1_3])
  | _, _ => none
noncomputable def c148 : Ctr := genC [.k, .k] g148
theorem p148 (a0_0 : Int) (a0_1 : Int) (a0_2 : Int) (a0_3 : Int) (a1_0 : Int) (a1_1 : Int) (a1_2 : Int) (a1_3 : Int) (hn : n148 a0_0 a0_1 a0_2 a0_3 a1_0 a1_1 a1_2 a1_3 = true) : exec Try.prog [(131, c131), (132, c132)] (fun _ => none) 8 (Try.f148.body.getD .skip) (initS Try.f148.ntmps [.agg [.int .i64 a0_0, .int .i64 a0_1, .int .i64 a0_2, .int .i64 a0_3], .agg [.int .i64 a1_0, .int .i64 a1_1, .int .i64 a1_2, .int .i64 a1_3]] 0 (memOf [])) (retK Try.prog Try.f148.results.toList (outK 0 (List.range 0) [] (.k) fun v U N => (v, U, N) = (q148 (m148 a0_0 a0_1 a0_2 a0_3 a1_0 a1_1 a1_2 a1_3)))) :=
  propOf (x148 a0_0 a0_1 a0_2 a0_3 a1_0 a1_1 a1_2 a1_3 _) (cnd_need (and_l hn) (cnd_need (and_l (and_r hn)) (cnd_need (and_l (and_r (and_r hn))) (cnd_need (and_l (and_r (and_r (and_r hn)))) (leaf_of (l := ((imax 0 (m131 (IntKind.i64.wrap ((IntKind.i64.wrap (a0_0 * a1_0)) - (IntKind.i64.wrap (a0_3 * a1_3)))) 100000000)), (m132 (IntKind.i64.wrap ((IntKind.i64.wrap (a0_1 * a1_1)) - (IntKind.i64.wrap (a0_2 * a1_2)))) 100000000), (m131 (IntKind.i64.wrap ((IntKind.i64.wrap (a0_2 * a1_0)) + (IntKind.i64.wrap (a0_0 * a1_2)))) 100000000), (imin 100000000 (m132 (IntKind.i64.wrap ((IntKind.i64.wrap (a0_3 * a1_1)) + (IntKind.i64.wrap (a0_1 * a1_3)))) 100000000)))) rfl rfl)))))
theorem k148 : CtrOk Try.prog c148 148 := ctr_of (tabOk_cons k131 (tabOk_cons k132 tabOk_nil)) mix_ok 8 (fn := Try.f148) (c := (Try.f148.body.getD .skip)) (grs := []) (rh := .k) (Λ := (fun _ => none)) Try.func148 rfl (by kernel_rfl) noLam fun vs bs q h hn => by
  unfold g148 at h
  split at h <;> cases h
  exact ⟨_, rfl, p148 _ _ _ _ _ _ _ _ (hn _ (List.mem_singleton.2 rfl))⟩

/-! ### shotline/site.CheckTide$1 -/
theorem x146 (a0_0 : Int) (a0_1 : Int) (a0_2 : Int) (R : SV → List Blk → List Blk → Prop) : exec Try.prog [(122, c122)] (fun _ => none) 8 (Try.f146.body.getD .skip) (initS Try.f146.ntmps [.agg [.int .i64 a0_0, .int .i64 a0_1, .int .i64 a0_2]] 0 (memOf [])) (retK Try.prog Try.f146.results.toList (outK 0 (List.range 0) [] (.k) fun v U N => R v U N)) =
 (R (.bool (bif (m122 a0_0 a0_1 a0_2) then false else true)) [] []) := by kernel_rfl
noncomputable def m146 (a0_0 : Int) (a0_1 : Int) (a0_2 : Int) : Bool :=
 (bif (m122 a0_0 a0_1 a0_2) then false else true)
noncomputable def q146 (r : Bool) : SV × List Blk × List Blk := (.bool r, [], [])
noncomputable def g146 : List SV → List Blk → Option OpRes := fun vs bs => match vs, bs with
  | [.agg [.int .i64 a0_0, .int .i64 a0_1, .int .i64 a0_2]], [] => some (resOf 0 (q146 (m146 a0_0 a0_1 a0_2)) [])
  | _, _ => none
noncomputable def c146 : Ctr := genC [.k] g146
theorem p146 (a0_0 : Int) (a0_1 : Int) (a0_2 : Int) : exec Try.prog [(122, c122)] (fun _ => none) 8 (Try.f146.body.getD .skip) (initS Try.f146.ntmps [.agg [.int .i64 a0_0, .int .i64 a0_1, .int .i64 a0_2]] 0 (memOf [])) (retK Try.prog Try.f146.results.toList (outK 0 (List.range 0) [] (.k) fun v U N => (v, U, N) = (q146 (m146 a0_0 a0_1 a0_2)))) :=
  propOf (x146 a0_0 a0_1 a0_2 _) (leaf_of (l := (bif (m122 a0_0 a0_1 a0_2) then false else true)) rfl rfl)
theorem k146 : CtrOk Try.prog c146 146 := ctr_of (tabOk_cons k122 tabOk_nil) mix_ok 8 (fn := Try.f146) (c := (Try.f146.body.getD .skip)) (grs := []) (rh := .k) (Λ := (fun _ => none)) Try.func146 rfl (by kernel_rfl) noLam fun vs bs q h _ => by
  unfold g146 at h
  split at h <;> cases h
  exact ⟨_, rfl, p146 _ _ _⟩
/-! ### shotline/shotlineref08.up -/
theorem x150 (a0 : Int) (R : SV → List Blk → List Blk → Prop) : exec Try.prog [(149, c149)] (fun _ => none) 8 (Try.f150.body.getD .skip) (initS Try.f150.ntmps [.int .i64 a0] 0 (memOf [])) (retK Try.prog Try.f150.results.toList (outK 0 (List.range 0) [] (.k) fun v U N => R v U N)) =
 (cnd ((n149 a0))
 (cnd ((decide ((IntKind.i64.wrap ((m149 a0) * (m149 a0))) < a0)))
 (R (.int .i64 (IntKind.i64.wrap ((m149 a0) + 1))) [] [])
 (R (.int .i64 (m149 a0)) [] []))
  False) := by kernel_rfl
noncomputable def m150 (a0 : Int) : Int :=
 (cond ((decide ((IntKind.i64.wrap ((m149 a0) * (m149 a0))) < a0))) (IntKind.i64.wrap ((m149 a0) + 1)) (m149 a0))
noncomputable def n150 (a0 : Int) : Bool :=
 (((n149 a0)) && true)
noncomputable def q150 (r : Int) : SV × List Blk × List Blk := (.int .i64 r, [], [])
noncomputable def g150 : List SV → List Blk → Option OpRes := fun vs bs => match vs, bs with
  | [.int .i64 a0], [] => some (resOf 0 (q150 (m150 a0)) [n150 a0])
  | _, _ => none
noncomputable def c150 : Ctr := genC [.k] g150
theorem p150 (a0 : Int) (hn : n150 a0 = true) : exec Try.prog [(149, c149)] (fun _ => none) 8 (Try.f150.body.getD .skip) (initS Try.f150.ntmps [.int .i64 a0] 0 (memOf [])) (retK Try.prog Try.f150.results.toList (outK 0 (List.range 0) [] (.k) fun v U N => (v, U, N) = (q150 (m150 a0)))) :=
  propOf (x150 a0 _) (cnd_need (and_l hn) (cnd_of (fun h0 => leaf_of (l := (IntKind.i64.wrap ((m149 a0) + 1))) (condT h0 rfl) rfl) (fun h0 => leaf_of (l := (m149 a0)) (condF h0 rfl) rfl)))
theorem k150 : CtrOk Try.prog c150 150 := ctr_of (tabOk_cons k149 tabOk_nil) mix_ok 8 (fn := Try.f150) (c := (Try.f150.body.getD .skip)) (grs := []) (rh := .k) (Λ := (fun _ => none)) Try.func150 rfl (by kernel_rfl) noLam fun vs bs q h hn => by
  unfold g150 at h
  split at h <;> cases h
  exact ⟨_, rfl, p150 _ (hn _ (List.mem_singleton.2 rfl))⟩
/-! ### slices.IndexFunc[[]shotline/api.TideWave,shotline/api.TideWave] -/
noncomputable def l161c146_0 (t0_0 : Nat) (t0_1 : Dat) (t7 : Int) : Nat → Int → Option (Bool × (Int) × (Unit))
  | 0, _ => none
  | f + 1, t8 => (cond ((decide (t8 < t7))) (cond ((decide (0 ≤ t8 ∧ t8 < (↑t0_0 : Int)))) (cond ((m146 (t0_1.ii t8.toNat 0) (t0_1.ii t8.toNat (0 + 1)) (t0_1.ii t8.toNat ((0 + 1) + 1)))) (some (true, t8, default)) (l161c146_0 t0_0 t0_1 t7 f (IntKind.i64.wrap (t8 + 1)))) none) (some (false, default, ())))
noncomputable abbrev o161c146_0 (t0_0 : Nat) (t0_1 : Dat) (t7 : Int) (t8 : Int) : Option (Bool × (Int) × (Unit)) := l161c146_0 t0_0 t0_1 t7 (t0_0 + t7.toNat + t8.toNat + 8) t8
noncomputable def e161c146_0 (t0_0 : Nat) (t0_1 : Dat) (t7 : Int) (r : Bool × (Int) × (Unit)) (K : XR) : Prop := cnd r.1 (K (XE.ret) [.int .i64 r.2.1] []) (K (XE.exit 0) [.any] [])
noncomputable def g161c146_0 : LSum := fun s k => match czv 0 19 [0, 1, 7, 8] 0 [] s with
  | some ([.ro [.int .i64, .int .i64, .int .i64] t0_0 t0_1, .fn 146 [], .int .i64 t7, .int .i64 t8], []) => needs [(o161c146_0 t0_0 t0_1 t7 t8).isSome] (e161c146_0 t0_0 t0_1 t7 ((o161c146_0 t0_0 t0_1 t7 t8).getD default) fun e vs bs => inBlk 0 k e (mkSt 0 19 [4] vs 0 bs))
  | _ => False
theorem y161c146_0 (t0_0 : Nat) (t0_1 : Dat) (t7 : Int) (t8 : Int) (R : XR) : exec Try.prog [(146, c146)] (fun _ => none) 8 (unloop (bodyAt (Try.f161.body.getD .skip) 0)) (mkSt 0 19 [0, 1, 7, 8] [.ro [.int .i64, .int .i64, .int .i64] t0_0 t0_1, .fn 146 [], .int .i64 t7, .int .i64 t8] 0 []) (canonK 0 19 [0, 1, 7, 8] [4] 0 [] R) =
 (cnd ((decide (t8 < t7)))
 (cnd ((decide (0 ≤ t8 ∧ t8 < (↑t0_0 : Int))))
 (cnd ((m146 (t0_1.ii t8.toNat 0) (t0_1.ii t8.toNat (0 + 1)) (t0_1.ii t8.toNat ((0 + 1) + 1))))
 (R (XE.ret) [.int .i64 t8] [])
 (R (XE.normal) [.ro [.int .i64, .int .i64, .int .i64] t0_0 t0_1, .fn 146 [], .int .i64 t7, .int .i64 (IntKind.i64.wrap (t8 + 1))] []))
   False)
 (R (XE.exit 0) [.any] [])) := by kernel_rfl
theorem z161c146_0 : LOk Try.prog g161c146_0 (.block 0 (bodyAt (Try.f161.body.getD .skip) 0)) := by
  refine loop_blk (ι := Nat × Dat × Int × Int) (L := [(146, c146)]) (Λ := (fun _ => none)) (fuel := 8) (na := 0) (nt := 19) (nx := 0) (Lh := [0, 1, 7, 8]) (Le := [4]) (gl := []) (tabOk_cons k146 tabOk_nil) mix_ok noLam rfl (fun f x K => GG default (e161c146_0 x.1 x.2.1 x.2.2.1) K (l161c146_0 x.1 x.2.1 x.2.2.1 f x.2.2.2)) (fun x => [.ro [.int .i64, .int .i64, .int .i64] x.1 x.2.1, .fn 146 [], .int .i64 x.2.2.1, .int .i64 x.2.2.2]) (fun x => []) (fun x K => gg_none) ?_ ?_
  · rintro f ⟨t0_0, t0_1, t7, t8⟩ K hG
    have hG : GG default (e161c146_0 t0_0 t0_1 t7) K (cond ((decide (t8 < t7))) (cond ((decide (0 ≤ t8 ∧ t8 < (↑t0_0 : Int)))) (cond ((m146 (t0_1.ii t8.toNat 0) (t0_1.ii t8.toNat (0 + 1)) (t0_1.ii t8.toNat ((0 + 1) + 1)))) (some (true, t8, default)) (l161c146_0 t0_0 t0_1 t7 f (IntKind.i64.wrap (t8 + 1)))) none) (some (false, default, ()))) := hG
    refine propOf (y161c146_0 t0_0 t0_1 t7 t8 _) ?_
    exact cnd_gg2 hG (fun h0 => cnd_gg h0 fun h1 => cnd_gg2 h1 (fun h2 => h2.2) (fun h2 => ⟨(t0_0, t0_1, t7, (IntKind.i64.wrap (t8 + 1))), rfl, rfl, h2⟩)) (fun h0 => h0.2)
  · intro s k h
    unfold g161c146_0 at h
    split at h <;> try exact h.elim
    rename_i e1
    rw [needs_iff] at h
    exact ⟨_, e1, _, (_, _, _, _), rfl, rfl, h.1 _ (List.mem_singleton.2 rfl), h.2⟩
theorem x161c146 (na0 : Nat) (da0 : Dat) (R : SV → List Blk → List Blk → Prop) : exec Try.prog [(146, c146)] (lamOf [(0, g161c146_0)]) 8 (Try.f161.body.getD .skip) (initS Try.f161.ntmps [.ro [.int .i64, .int .i64, .int .i64] na0 da0, .fn 146 []] 0 (memOf [])) (retK Try.prog Try.f161.results.toList (outK 0 (List.range 0) [] (.k) fun v U N => R v U N)) =
 (cnd (((o161c146_0 na0 da0 ((↑na0 : Int)) 0).isSome))
 (cnd ((((o161c146_0 na0 da0 ((↑na0 : Int)) 0).getD default).1))
 (R (.int .i64 (((o161c146_0 na0 da0 ((↑na0 : Int)) 0).getD default).2.1)) [] [])
 (R (.int .i64 (-1)) [] []))
  False) := by kernel_rfl
noncomputable def m161c146 (na0 : Nat) (da0 : Dat) : Int :=
 (cond ((((o161c146_0 na0 da0 ((↑na0 : Int)) 0).getD default).1)) (((o161c146_0 na0 da0 ((↑na0 : Int)) 0).getD default).2.1) (-1))
noncomputable def n161c146 (na0 : Nat) (da0 : Dat) : Bool :=
 ((((o161c146_0 na0 da0 ((↑na0 : Int)) 0).isSome)) && true)
noncomputable def q161c146 (r : Int) : SV × List Blk × List Blk := (.int .i64 r, [], [])
noncomputable def g161c146 : List SV → List Blk → Option OpRes := fun vs bs => match vs, bs with
  | [.ro [.int .i64, .int .i64, .int .i64] na0 da0, .fn 146 []], [] => some (resOf 0 (q161c146 (m161c146 na0 da0)) [n161c146 na0 da0])
  | _, _ => none
noncomputable def c161c146 : Ctr := genC [.ro [.int .i64, .int .i64, .int .i64], .f []] g161c146
theorem p161c146 (na0 : Nat) (da0 : Dat) (hn : n161c146 na0 da0 = true) : exec Try.prog [(146, c146)] (lamOf [(0, g161c146_0)]) 8 (Try.f161.body.getD .skip) (initS Try.f161.ntmps [.ro [.int .i64, .int .i64, .int .i64] na0 da0, .fn 146 []] 0 (memOf [])) (retK Try.prog Try.f161.results.toList (outK 0 (List.range 0) [] (.k) fun v U N => (v, U, N) = (q161c146 (m161c146 na0 da0)))) :=
  propOf (x161c146 na0 da0 _) (cnd_need (and_l hn) (cnd_of (fun h0 => leaf_of (l := (((o161c146_0 na0 da0 ((↑na0 : Int)) 0).getD default).2.1)) (condT h0 rfl) rfl) (fun h0 => leaf_of (l := (-1)) (condF h0 rfl) rfl)))
theorem k161c146 : CtrOk Try.prog c161c146 161 := ctr_of (tabOk_cons k146 tabOk_nil) mix_ok 8 (fn := Try.f161) (c := (Try.f161.body.getD .skip)) (grs := []) (rh := .k) (Λ := (lamOf [(0, g161c146_0)])) Try.func161 rfl (by kernel_rfl) (lam_of rfl (lams_cons z161c146_0 lams_nil)) fun vs bs q h hn => by
  unfold g161c146 at h
  split at h <;> cases h
  exact ⟨_, rfl, p161c146 _ _ (hn _ (List.mem_singleton.2 rfl))⟩

/-! ### (*shotline/site.circle).ray -/
noncomputable def l138_0 (t0 : Dat) (t1 : Int) (b0_0 : Int) (b0_1 : Int) (b0_2 : Int) (b0_3 : Int) : Nat → Int → Int → Int → Int → Int → Option (Int × Int × Int × Int)
  | 0, _, _, _, _, _ => none
  | f + 1, t6, b1_0, b1_1, b1_2, b1_3 => (cond ((decide (t6 ≤ 10))) (cond ((decide (0 ≤ t6))) (cond ((bif (decide ((IntKind.i64.wrap ((↑((BitVec.ofInt IntKind.i64.bits t1 &&& BitVec.ofInt IntKind.i64.bits (Int.fdiv 1024 (2 ^ (min t6.toNat IntKind.i64.bits)))).toNat) : Int))) = 0)) then false else true)) (cond ((decide (0 ≤ t6 ∧ t6 < (↑11 : Int)))) (cond ((decide (t6 < ((↑11 : Int))))) (cond ((n148 b1_0 b1_1 b1_2 b1_3 (t0.ii t6.toNat 0) (t0.ii t6.toNat (0 + 1)) (t0.ii t6.toNat ((0 + 1) + 1)) (t0.ii t6.toNat (((0 + 1) + 1) + 1)))) (l138_0 t0 t1 b0_0 b0_1 b0_2 b0_3 f (IntKind.i64.wrap (t6 + 1)) ((m148 b1_0 b1_1 b1_2 b1_3 (t0.ii t6.toNat 0) (t0.ii t6.toNat (0 + 1)) (t0.ii t6.toNat ((0 + 1) + 1)) (t0.ii t6.toNat (((0 + 1) + 1) + 1))).1) ((m148 b1_0 b1_1 b1_2 b1_3 (t0.ii t6.toNat 0) (t0.ii t6.toNat (0 + 1)) (t0.ii t6.toNat ((0 + 1) + 1)) (t0.ii t6.toNat (((0 + 1) + 1) + 1))).2.1) ((m148 b1_0 b1_1 b1_2 b1_3 (t0.ii t6.toNat 0) (t0.ii t6.toNat (0 + 1)) (t0.ii t6.toNat ((0 + 1) + 1)) (t0.ii t6.toNat (((0 + 1) + 1) + 1))).2.2.1) ((m148 b1_0 b1_1 b1_2 b1_3 (t0.ii t6.toNat 0) (t0.ii t6.toNat (0 + 1)) (t0.ii t6.toNat ((0 + 1) + 1)) (t0.ii t6.toNat (((0 + 1) + 1) + 1))).2.2.2)) none) none) none) (l138_0 t0 t1 b0_0 b0_1 b0_2 b0_3 f (IntKind.i64.wrap (t6 + 1)) b1_0 b1_1 b1_2 b1_3)) none) (some (b1_0, b1_1, b1_2, b1_3)))
noncomputable abbrev o138_0 (t0 : Dat) (t1 : Int) (b0_0 : Int) (b0_1 : Int) (b0_2 : Int) (b0_3 : Int) (t6 : Int) (b1_0 : Int) (b1_1 : Int) (b1_2 : Int) (b1_3 : Int) : Option (Int × Int × Int × Int) := l138_0 t0 t1 b0_0 b0_1 b0_2 b0_3 (30 + t1.toNat) t6 b1_0 b1_1 b1_2 b1_3
noncomputable def e138_0 (t0 : Dat) (t1 : Int) (b0_0 : Int) (b0_1 : Int) (b0_2 : Int) (b0_3 : Int) (r : Int × Int × Int × Int) (K : XR) : Prop := K (XE.exit 0) [.ptr 0 0, .ptr 1 0] [.cells 179 [.int .i64 b0_0, .int .i64 b0_1, .int .i64 b0_2, .int .i64 b0_3], .cells 179 [.int .i64 r.1, .int .i64 r.2.1, .int .i64 r.2.2.1, .int .i64 r.2.2.2]]
noncomputable def g138_0 : LSum := fun s k => match czv 0 26 [0, 1, 4, 5, 6] 2 [] s with
  | some ([.ra [.int .i64, .int .i64, .int .i64, .int .i64] 11 t0, .int .i64 t1, .ptr 0 0, .ptr 1 0, .int .i64 t6], [.cells 179 [.int .i64 b0_0, .int .i64 b0_1, .int .i64 b0_2, .int .i64 b0_3], .cells 179 [.int .i64 b1_0, .int .i64 b1_1, .int .i64 b1_2, .int .i64 b1_3]]) => needs [(o138_0 t0 t1 b0_0 b0_1 b0_2 b0_3 t6 b1_0 b1_1 b1_2 b1_3).isSome] (e138_0 t0 t1 b0_0 b0_1 b0_2 b0_3 ((o138_0 t0 t1 b0_0 b0_1 b0_2 b0_3 t6 b1_0 b1_1 b1_2 b1_3).getD default) fun e vs bs => inBlk 0 k e (mkSt 0 26 [4, 5] vs 2 bs))
  | _ => False
theorem y138_0 (t0 : Dat) (t1 : Int) (t6 : Int) (b0_0 : Int) (b0_1 : Int) (b0_2 : Int) (b0_3 : Int) (b1_0 : Int) (b1_1 : Int) (b1_2 : Int) (b1_3 : Int) (R : XR) : exec Try.prog [(148, c148)] (fun _ => none) 8 (unloop (bodyAt (Try.f138.body.getD .skip) 0)) (mkSt 0 26 [0, 1, 4, 5, 6] [.ra [.int .i64, .int .i64, .int .i64, .int .i64] 11 t0, .int .i64 t1, .ptr 0 0, .ptr 1 0, .int .i64 t6] 2 [.cells 179 [.int .i64 b0_0, .int .i64 b0_1, .int .i64 b0_2, .int .i64 b0_3], .cells 179 [.int .i64 b1_0, .int .i64 b1_1, .int .i64 b1_2, .int .i64 b1_3]]) (canonK 0 26 [0, 1, 4, 5, 6] [4, 5] 2 [] R) =
 (cnd ((decide (t6 ≤ 10)))
 (cnd ((decide (0 ≤ t6)))
 (cnd ((bif (decide ((IntKind.i64.wrap ((↑((BitVec.ofInt IntKind.i64.bits t1 &&& BitVec.ofInt IntKind.i64.bits (Int.fdiv 1024 (2 ^ (min t6.toNat IntKind.i64.bits)))).toNat) : Int))) = 0)) then false else true))
 (cnd ((decide (0 ≤ t6 ∧ t6 < (↑11 : Int))))
 (cnd ((decide (t6 < ((↑11 : Int)))))
 (cnd ((n148 b1_0 b1_1 b1_2 b1_3 (t0.ii t6.toNat 0) (t0.ii t6.toNat (0 + 1)) (t0.ii t6.toNat ((0 + 1) + 1)) (t0.ii t6.toNat (((0 + 1) + 1) + 1))))
 (R (XE.normal) [.ra [.int .i64, .int .i64, .int .i64, .int .i64] 11 t0, .int .i64 t1, .ptr 0 0, .ptr 1 0, .int .i64 (IntKind.i64.wrap (t6 + 1))] [.cells 179 [.int .i64 b0_0, .int .i64 b0_1, .int .i64 b0_2, .int .i64 b0_3], .cells 179 [.int .i64 ((m148 b1_0 b1_1 b1_2 b1_3 (t0.ii t6.toNat 0) (t0.ii t6.toNat (0 + 1)) (t0.ii t6.toNat ((0 + 1) + 1)) (t0.ii t6.toNat (((0 + 1) + 1) + 1))).1), .int .i64 ((m148 b1_0 b1_1 b1_2 b1_3 (t0.ii t6.toNat 0) (t0.ii t6.toNat (0 + 1)) (t0.ii t6.toNat ((0 + 1) + 1)) (t0.ii t6.toNat (((0 + 1) + 1) + 1))).2.1), .int .i64 ((m148 b1_0 b1_1 b1_2 b1_3 (t0.ii t6.toNat 0) (t0.ii t6.toNat (0 + 1)) (t0.ii t6.toNat ((0 + 1) + 1)) (t0.ii t6.toNat (((0 + 1) + 1) + 1))).2.2.1), .int .i64 ((m148 b1_0 b1_1 b1_2 b1_3 (t0.ii t6.toNat 0) (t0.ii t6.toNat (0 + 1)) (t0.ii t6.toNat ((0 + 1) + 1)) (t0.ii t6.toNat (((0 + 1) + 1) + 1))).2.2.2)]])
       False)
      False)
     False)
 (R (XE.normal) [.ra [.int .i64, .int .i64, .int .i64, .int .i64] 11 t0, .int .i64 t1, .ptr 0 0, .ptr 1 0, .int .i64 (IntKind.i64.wrap (t6 + 1))] [.cells 179 [.int .i64 b0_0, .int .i64 b0_1, .int .i64 b0_2, .int .i64 b0_3], .cells 179 [.int .i64 b1_0, .int .i64 b1_1, .int .i64 b1_2, .int .i64 b1_3]]))
   False)
 (R (XE.exit 0) [.ptr 0 0, .ptr 1 0] [.cells 179 [.int .i64 b0_0, .int .i64 b0_1, .int .i64 b0_2, .int .i64 b0_3], .cells 179 [.int .i64 b1_0, .int .i64 b1_1, .int .i64 b1_2, .int .i64 b1_3]])) := by kernel_rfl
theorem z138_0 : LOk Try.prog g138_0 (.block 0 (bodyAt (Try.f138.body.getD .skip) 0)) := by
  refine loop_blk (ι := Dat × Int × Int × Int × Int × Int × Int × Int × Int × Int × Int) (L := [(148, c148)]) (Λ := (fun _ => none)) (fuel := 8) (na := 0) (nt := 26) (nx := 2) (Lh := [0, 1, 4, 5, 6]) (Le := [4, 5]) (gl := []) (tabOk_cons k148 tabOk_nil) mix_ok noLam rfl (fun f x K => GG default (e138_0 x.1 x.2.1 x.2.2.2.1 x.2.2.2.2.1 x.2.2.2.2.2.1 x.2.2.2.2.2.2.1) K (l138_0 x.1 x.2.1 x.2.2.2.1 x.2.2.2.2.1 x.2.2.2.2.2.1 x.2.2.2.2.2.2.1 f x.2.2.1 x.2.2.2.2.2.2.2.1 x.2.2.2.2.2.2.2.2.1 x.2.2.2.2.2.2.2.2.2.1 x.2.2.2.2.2.2.2.2.2.2)) (fun x => [.ra [.int .i64, .int .i64, .int .i64, .int .i64] 11 x.1, .int .i64 x.2.1, .ptr 0 0, .ptr 1 0, .int .i64 x.2.2.1]) (fun x => [.cells 179 [.int .i64 x.2.2.2.1, .int .i64 x.2.2.2.2.1, .int .i64 x.2.2.2.2.2.1, .int .i64 x.2.2.2.2.2.2.1], .cells 179 [.int .i64 x.2.2.2.2.2.2.2.1, .int .i64 x.2.2.2.2.2.2.2.2.1, .int .i64 x.2.2.2.2.2.2.2.2.2.1, .int .i64 x.2.2.2.2.2.2.2.2.2.2]]) (fun x K => gg_none) ?_ ?_
  · rintro f ⟨t0, t1, t6, b0_0, b0_1, b0_2, b0_3, b1_0, b1_1, b1_2, b1_3⟩ K hG
    have hG : GG default (e138_0 t0 t1 b0_0 b0_1 b0_2 b0_3) K (cond ((decide (t6 ≤ 10))) (cond ((decide (0 ≤ t6))) (cond ((bif (decide ((IntKind.i64.wrap ((↑((BitVec.ofInt IntKind.i64.bits t1 &&& BitVec.ofInt IntKind.i64.bits (Int.fdiv 1024 (2 ^ (min t6.toNat IntKind.i64.bits)))).toNat) : Int))) = 0)) then false else true)) (cond ((decide (0 ≤ t6 ∧ t6 < (↑11 : Int)))) (cond ((decide (t6 < ((↑11 : Int))))) (cond ((n148 b1_0 b1_1 b1_2 b1_3 (t0.ii t6.toNat 0) (t0.ii t6.toNat (0 + 1)) (t0.ii t6.toNat ((0 + 1) + 1)) (t0.ii t6.toNat (((0 + 1) + 1) + 1)))) (l138_0 t0 t1 b0_0 b0_1 b0_2 b0_3 f (IntKind.i64.wrap (t6 + 1)) ((m148 b1_0 b1_1 b1_2 b1_3 (t0.ii t6.toNat 0) (t0.ii t6.toNat (0 + 1)) (t0.ii t6.toNat ((0 + 1) + 1)) (t0.ii t6.toNat (((0 + 1) + 1) + 1))).1) ((m148 b1_0 b1_1 b1_2 b1_3 (t0.ii t6.toNat 0) (t0.ii t6.toNat (0 + 1)) (t0.ii t6.toNat ((0 + 1) + 1)) (t0.ii t6.toNat (((0 + 1) + 1) + 1))).2.1) ((m148 b1_0 b1_1 b1_2 b1_3 (t0.ii t6.toNat 0) (t0.ii t6.toNat (0 + 1)) (t0.ii t6.toNat ((0 + 1) + 1)) (t0.ii t6.toNat (((0 + 1) + 1) + 1))).2.2.1) ((m148 b1_0 b1_1 b1_2 b1_3 (t0.ii t6.toNat 0) (t0.ii t6.toNat (0 + 1)) (t0.ii t6.toNat ((0 + 1) + 1)) (t0.ii t6.toNat (((0 + 1) + 1) + 1))).2.2.2)) none) none) none) (l138_0 t0 t1 b0_0 b0_1 b0_2 b0_3 f (IntKind.i64.wrap (t6 + 1)) b1_0 b1_1 b1_2 b1_3)) none) (some (b1_0, b1_1, b1_2, b1_3))) := hG
    refine propOf (y138_0 t0 t1 t6 b0_0 b0_1 b0_2 b0_3 b1_0 b1_1 b1_2 b1_3 _) ?_
    exact cnd_gg2 hG (fun h0 => cnd_gg h0 fun h1 => cnd_gg2 h1 (fun h2 => cnd_gg h2 fun h3 => cnd_gg h3 fun h4 => cnd_gg h4 fun h5 => ⟨(t0, t1, (IntKind.i64.wrap (t6 + 1)), b0_0, b0_1, b0_2, b0_3, ((m148 b1_0 b1_1 b1_2 b1_3 (t0.ii t6.toNat 0) (t0.ii t6.toNat (0 + 1)) (t0.ii t6.toNat ((0 + 1) + 1)) (t0.ii t6.toNat (((0 + 1) + 1) + 1))).1), ((m148 b1_0 b1_1 b1_2 b1_3 (t0.ii t6.toNat 0) (t0.ii t6.toNat (0 + 1)) (t0.ii t6.toNat ((0 + 1) + 1)) (t0.ii t6.toNat (((0 + 1) + 1) + 1))).2.1), ((m148 b1_0 b1_1 b1_2 b1_3 (t0.ii t6.toNat 0) (t0.ii t6.toNat (0 + 1)) (t0.ii t6.toNat ((0 + 1) + 1)) (t0.ii t6.toNat (((0 + 1) + 1) + 1))).2.2.1), ((m148 b1_0 b1_1 b1_2 b1_3 (t0.ii t6.toNat 0) (t0.ii t6.toNat (0 + 1)) (t0.ii t6.toNat ((0 + 1) + 1)) (t0.ii t6.toNat (((0 + 1) + 1) + 1))).2.2.2)), rfl, rfl, h5⟩) (fun h2 => ⟨(t0, t1, (IntKind.i64.wrap (t6 + 1)), b0_0, b0_1, b0_2, b0_3, b1_0, b1_1, b1_2, b1_3), rfl, rfl, h2⟩)) (fun h0 => h0.2)
  · intro s k h
    unfold g138_0 at h
    split at h <;> try exact h.elim
    rename_i e1
    rw [needs_iff] at h
    exact ⟨_, e1, _, (_, _, _, _, _, _, _, _, _, _, _), rfl, rfl, h.1 _ (List.mem_singleton.2 rfl), h.2⟩
theorem x138 (da0 : Dat) (a1 : Int) (R : SV → List Blk → List Blk → Prop) : exec Try.prog [(148, c148)] (lamOf [(0, g138_0)]) 8 (Try.f138.body.getD .skip) (initS Try.f138.ntmps [.ra [.int .i64, .int .i64, .int .i64, .int .i64] 11 da0, .int .i64 a1] 0 (memOf [])) (retK Try.prog Try.f138.results.toList (outK 0 (List.range 0) [] (.k) fun v U N => R v U N)) =
 (cnd (((o138_0 da0 a1 0 0 0 0 1 100000000 100000000 0 0).isSome))
 (R (.agg [.int .i64 (((o138_0 da0 a1 0 0 0 0 1 100000000 100000000 0 0).getD default).1), .int .i64 (((o138_0 da0 a1 0 0 0 0 1 100000000 100000000 0 0).getD default).2.1), .int .i64 (((o138_0 da0 a1 0 0 0 0 1 100000000 100000000 0 0).getD default).2.2.1), .int .i64 (((o138_0 da0 a1 0 0 0 0 1 100000000 100000000 0 0).getD default).2.2.2)]) [] [])
  False) := by kernel_rfl
noncomputable def m138 (da0 : Dat) (a1 : Int) : Int × Int × Int × Int :=
 ((((o138_0 da0 a1 0 0 0 0 1 100000000 100000000 0 0).getD default).1), (((o138_0 da0 a1 0 0 0 0 1 100000000 100000000 0 0).getD default).2.1), (((o138_0 da0 a1 0 0 0 0 1 100000000 100000000 0 0).getD default).2.2.1), (((o138_0 da0 a1 0 0 0 0 1 100000000 100000000 0 0).getD default).2.2.2))
noncomputable def n138 (da0 : Dat) (a1 : Int) : Bool :=
 ((((o138_0 da0 a1 0 0 0 0 1 100000000 100000000 0 0).isSome)) && true)
noncomputable def q138 (r : Int × Int × Int × Int) : SV × List Blk × List Blk := (.agg [.int .i64 r.1, .int .i64 r.2.1, .int .i64 r.2.2.1, .int .i64 r.2.2.2], [], [])
noncomputable def g138 : List SV → List Blk → Option OpRes := fun vs bs => match vs, bs with
  | [.ra [.int .i64, .int .i64, .int .i64, .int .i64] 11 da0, .int .i64 a1], [] => some (resOf 0 (q138 (m138 da0 a1)) [n138 da0 a1])
  | _, _ => none
noncomputable def c138 : Ctr := genC [.ra [.int .i64, .int .i64, .int .i64, .int .i64] 11, .k] g138
theorem p138 (da0 : Dat) (a1 : Int) (hn : n138 da0 a1 = true) : exec Try.prog [(148, c148)] (lamOf [(0, g138_0)]) 8 (Try.f138.body.getD .skip) (initS Try.f138.ntmps [.ra [.int .i64, .int .i64, .int .i64, .int .i64] 11 da0, .int .i64 a1] 0 (memOf [])) (retK Try.prog Try.f138.results.toList (outK 0 (List.range 0) [] (.k) fun v U N => (v, U, N) = (q138 (m138 da0 a1)))) :=
  propOf (x138 da0 a1 _) (cnd_need (and_l hn) (leaf_of (l := ((((o138_0 da0 a1 0 0 0 0 1 100000000 100000000 0 0).getD default).1), (((o138_0 da0 a1 0 0 0 0 1 100000000 100000000 0 0).getD default).2.1), (((o138_0 da0 a1 0 0 0 0 1 100000000 100000000 0 0).getD default).2.2.1), (((o138_0 da0 a1 0 0 0 0 1 100000000 100000000 0 0).getD default).2.2.2))) rfl rfl))
theorem k138 : CtrOk Try.prog c138 138 := ctr_of (tabOk_cons k148 tabOk_nil) mix_ok 8 (fn := Try.f138) (c := (Try.f138.body.getD .skip)) (grs := []) (rh := .k) (Λ := (lamOf [(0, g138_0)])) Try.func138 rfl (by kernel_rfl) (lam_of rfl (lams_cons z138_0 lams_nil)) fun vs bs q h hn => by
  unfold g138 at h
  split at h <;> cases h
  exact ⟨_, rfl, p138 _ _ (hn _ (List.mem_singleton.2 rfl))⟩
/-! ### slices.ContainsFunc[[]shotline/api.TideWave,shotline/api.TideWave] -/
theorem x145c146 (na0 : Nat) (da0 : Dat) (R : SV → List Blk → List Blk → Prop) : exec Try.prog [(146, c146), (161, c161c146)] (fun _ => none) 8 (Try.f145.body.getD .skip) (initS Try.f145.ntmps [.ro [.int .i64, .int .i64, .int .i64] na0 da0, .fn 146 []] 0 (memOf [])) (retK Try.prog Try.f145.results.toList (outK 0 (List.range 0) [] (.k) fun v U N => R v U N)) =
 (cnd ((n161c146 na0 da0))
 (R (.bool (decide (0 ≤ (m161c146 na0 da0)))) [] [])
  False) := by kernel_rfl
noncomputable def m145c146 (na0 : Nat) (da0 : Dat) : Bool :=
 (decide (0 ≤ (m161c146 na0 da0)))
noncomputable def n145c146 (na0 : Nat) (da0 : Dat) : Bool :=
 (((n161c146 na0 da0)) && true)
noncomputable def q145c146 (r : Bool) : SV × List Blk × List Blk := (.bool r, [], [])
noncomputable def g145c146 : List SV → List Blk → Option OpRes := fun vs bs => match vs, bs with
  | [.ro [.int .i64, .int .i64, .int .i64] na0 da0, .fn 146 []], [] => some (resOf 0 (q145c146 (m145c146 na0 da0)) [n145c146 na0 da0])
  | _, _ => none
noncomputable def c145c146 : Ctr := genC [.ro [.int .i64, .int .i64, .int .i64], .f []] g145c146
theorem p145c146 (na0 : Nat) (da0 : Dat) (hn : n145c146 na0 da0 = true) : exec Try.prog [(146, c146), (161, c161c146)] (fun _ => none) 8 (Try.f145.body.getD .skip) (initS Try.f145.ntmps [.ro [.int .i64, .int .i64, .int .i64] na0 da0, .fn 146 []] 0 (memOf [])) (retK Try.prog Try.f145.results.toList (outK 0 (List.range 0) [] (.k) fun v U N => (v, U, N) = (q145c146 (m145c146 na0 da0)))) :=
  propOf (x145c146 na0 da0 _) (cnd_need (and_l hn) (leaf_of (l := (decide (0 ≤ (m161c146 na0 da0)))) rfl rfl))
theorem k145c146 : CtrOk Try.prog c145c146 145 := ctr_of (tabOk_cons k146 (tabOk_cons k161c146 tabOk_nil)) mix_ok 8 (fn := Try.f145) (c := (Try.f145.body.getD .skip)) (grs := []) (rh := .k) (Λ := (fun _ => none)) Try.func145 rfl (by kernel_rfl) noLam fun vs bs q h hn => by
  unfold g145c146 at h
  split at h <;> cases h
  exact ⟨_, rfl, p145c146 _ _ (hn _ (List.mem_singleton.2 rfl))⟩

/-! ### shotline/site.CheckTide -/
theorem x129 (a0_0 : Int) (na0_1 : Nat) (da0_1 : Dat) (R : SV → List Blk → List Blk → Prop) : exec Try.prog [(95, c95), (145, c145c146), (146, c146)] (fun _ => none) 8 (Try.f129.body.getD .skip) (initS Try.f129.ntmps [.agg [.int .i64 a0_0, .ro [.int .i64, .int .i64, .int .i64] na0_1 da0_1]] 0 (memOf [])) (retK Try.prog Try.f129.results.toList (outK 0 (List.range 0) [] (.k) fun v U N => R v U N)) =
 (cnd ((bif (m95 a0_0 (-100000) 100000) then false else true))
 (R (.int .i64 2) [] [])
 (cnd ((decide ((10 : Int) < ((↑na0_1 : Int)))))
 (R (.int .i64 8) [] [])
 (cnd ((n145c146 na0_1 da0_1))
 (cnd ((m145c146 na0_1 da0_1))
 (R (.int .i64 2) [] [])
 (R (.int .i64 0) [] []))
    False))) := by kernel_rfl
noncomputable def m129 (a0_0 : Int) (na0_1 : Nat) (da0_1 : Dat) : Int :=
 (cond ((bif (m95 a0_0 (-100000) 100000) then false else true)) 2 (cond ((decide ((10 : Int) < ((↑na0_1 : Int))))) 8 (cond ((m145c146 na0_1 da0_1)) 2 0)))
noncomputable def n129 (a0_0 : Int) (na0_1 : Nat) (da0_1 : Dat) : Bool :=
 (cond ((bif (m95 a0_0 (-100000) 100000) then false else true)) true (cond ((decide ((10 : Int) < ((↑na0_1 : Int))))) true (((n145c146 na0_1 da0_1)) && true)))
noncomputable def q129 (r : Int) : SV × List Blk × List Blk := (.int .i64 r, [], [])
noncomputable def g129 : List SV → List Blk → Option OpRes := fun vs bs => match vs, bs with
  | [.agg [.int .i64 a0_0, .ro [.int .i64, .int .i64, .int .i64] na0_1 da0_1]], [] => some (resOf 0 (q129 (m129 a0_0 na0_1 da0_1)) [n129 a0_0 na0_1 da0_1])
  | _, _ => none
noncomputable def c129 : Ctr := genC [.a [.k, .ro [.int .i64, .int .i64, .int .i64]]] g129
theorem p129 (a0_0 : Int) (na0_1 : Nat) (da0_1 : Dat) (hn : n129 a0_0 na0_1 da0_1 = true) : exec Try.prog [(95, c95), (145, c145c146), (146, c146)] (fun _ => none) 8 (Try.f129.body.getD .skip) (initS Try.f129.ntmps [.agg [.int .i64 a0_0, .ro [.int .i64, .int .i64, .int .i64] na0_1 da0_1]] 0 (memOf [])) (retK Try.prog Try.f129.results.toList (outK 0 (List.range 0) [] (.k) fun v U N => (v, U, N) = (q129 (m129 a0_0 na0_1 da0_1)))) :=
  propOf (x129 a0_0 na0_1 da0_1 _) (cnd_of (fun h0 => leaf_of (l := 2) (condT h0 rfl) rfl) (fun h0 => cnd_of (fun h1 => leaf_of (l := 8) (condF h0 (condT h1 rfl)) rfl) (fun h1 => cnd_need (and_l (cond_f h1 (cond_f h0 hn))) (cnd_of (fun h2 => leaf_of (l := 2) (condF h0 (condF h1 (condT h2 rfl))) rfl) (fun h2 => leaf_of (l := 0) (condF h0 (condF h1 (condF h2 rfl))) rfl)))))
theorem k129 : CtrOk Try.prog c129 129 := ctr_of (tabOk_cons k95 (tabOk_cons k145c146 (tabOk_cons k146 tabOk_nil))) mix_ok 8 (fn := Try.f129) (c := (Try.f129.body.getD .skip)) (grs := []) (rh := .k) (Λ := (fun _ => none)) Try.func129 rfl (by kernel_rfl) noLam fun vs bs q h hn => by
  unfold g129 at h
  split at h <;> cases h
  exact ⟨_, rfl, p129 _ _ _ (hn _ (List.mem_singleton.2 rfl))⟩
/-! ### (*shotline/site.circle).cos -/
theorem x119 (da0 : Dat) (a1 : Int) (R : SV → List Blk → List Blk → Prop) : exec Try.prog [(138, c138), (139, c139)] (fun _ => none) 8 (Try.f119.body.getD .skip) (initS Try.f119.ntmps [.ra [.int .i64, .int .i64, .int .i64, .int .i64] 11 da0, .int .i64 a1] 0 (memOf [])) (retK Try.prog Try.f119.results.toList (outK 0 (List.range 0) [] (.k) fun v U N => R v U N)) =
 (cnd ((n138 da0 (a1.tmod 1024)))
 (cnd ((decide (((IntKind.i64.wrap (a1.tdiv 1024)).tmod 4) = 0)))
 (R (.agg [.int .i64 ((m138 da0 (a1.tmod 1024)).1), .int .i64 ((m138 da0 (a1.tmod 1024)).2.1)]) [] [])
 (cnd ((decide (((IntKind.i64.wrap (a1.tdiv 1024)).tmod 4) = 1)))
 (R (.agg [.int .i64 ((m139 ((m138 da0 (a1.tmod 1024)).2.2.1) ((m138 da0 (a1.tmod 1024)).2.2.2)).1), .int .i64 ((m139 ((m138 da0 (a1.tmod 1024)).2.2.1) ((m138 da0 (a1.tmod 1024)).2.2.2)).2)]) [] [])
 (cnd ((decide (((IntKind.i64.wrap (a1.tdiv 1024)).tmod 4) = 2)))
 (R (.agg [.int .i64 ((m139 ((m138 da0 (a1.tmod 1024)).1) ((m138 da0 (a1.tmod 1024)).2.1)).1), .int .i64 ((m139 ((m138 da0 (a1.tmod 1024)).1) ((m138 da0 (a1.tmod 1024)).2.1)).2)]) [] [])
 (R (.agg [.int .i64 ((m138 da0 (a1.tmod 1024)).2.2.1), .int .i64 ((m138 da0 (a1.tmod 1024)).2.2.2)]) [] []))))
  False) := by kernel_rfl
noncomputable def m119 (da0 : Dat) (a1 : Int) : Int × Int :=
 (cond ((decide (((IntKind.i64.wrap (a1.tdiv 1024)).tmod 4) = 0))) (((m138 da0 (a1.tmod 1024)).1), ((m138 da0 (a1.tmod 1024)).2.1)) (cond ((decide (((IntKind.i64.wrap (a1.tdiv 1024)).tmod 4) = 1))) (((m139 ((m138 da0 (a1.tmod 1024)).2.2.1) ((m138 da0 (a1.tmod 1024)).2.2.2)).1), ((m139 ((m138 da0 (a1.tmod 1024)).2.2.1) ((m138 da0 (a1.tmod 1024)).2.2.2)).2)) (cond ((decide (((IntKind.i64.wrap (a1.tdiv 1024)).tmod 4) = 2))) (((m139 ((m138 da0 (a1.tmod 1024)).1) ((m138 da0 (a1.tmod 1024)).2.1)).1), ((m139 ((m138 da0 (a1.tmod 1024)).1) ((m138 da0 (a1.tmod 1024)).2.1)).2)) (((m138 da0 (a1.tmod 1024)).2.2.1), ((m138 da0 (a1.tmod 1024)).2.2.2)))))
noncomputable def n119 (da0 : Dat) (a1 : Int) : Bool :=
 (((n138 da0 (a1.tmod 1024))) && true)
noncomputable def q119 (r : Int × Int) : SV × List Blk × List Blk := (.agg [.int .i64 r.1, .int .i64 r.2], [], [])
noncomputable def g119 : List SV → List Blk → Option OpRes := fun vs bs => match vs, bs with
  | [.ra [.int .i64, .int .i64, .int .i64, .int .i64] 11 da0, .int .i64 a1], [] => some (resOf 0 (q119 (m119 da0 a1)) [n119 da0 a1])
  | _, _ => none
noncomputable def c119 : Ctr := genC [.ra [.int .i64, .int .i64, .int .i64, .int .i64] 11, .k] g119
theorem p119 (da0 : Dat) (a1 : Int) (hn : n119 da0 a1 = true) : exec Try.prog [(138, c138), (139, c139)] (fun _ => none) 8 (Try.f119.body.getD .skip) (initS Try.f119.ntmps [.ra [.int .i64, .int .i64, .int .i64, .int .i64] 11 da0, .int .i64 a1] 0 (memOf [])) (retK Try.prog Try.f119.results.toList (outK 0 (List.range 0) [] (.k) fun v U N => (v, U, N) = (q119 (m119 da0 a1)))) :=
  propOf (x119 da0 a1 _) (cnd_need (and_l hn) (cnd_of (fun h0 => leaf_of (l := (((m138 da0 (a1.tmod 1024)).1), ((m138 da0 (a1.tmod 1024)).2.1))) (condT h0 rfl) rfl) (fun h0 => cnd_of (fun h1 => leaf_of (l := (((m139 ((m138 da0 (a1.tmod 1024)).2.2.1) ((m138 da0 (a1.tmod 1024)).2.2.2)).1), ((m139 ((m138 da0 (a1.tmod 1024)).2.2.1) ((m138 da0 (a1.tmod 1024)).2.2.2)).2))) (condF h0 (condT h1 rfl)) rfl) (fun h1 => cnd_of (fun h2 => leaf_of (l := (((m139 ((m138 da0 (a1.tmod 1024)).1) ((m138 da0 (a1.tmod 1024)).2.1)).1), ((m139 ((m138 da0 (a1.tmod 1024)).1) ((m138 da0 (a1.tmod 1024)).2.1)).2))) (condF h0 (condF h1 (condT h2 rfl))) rfl) (fun h2 => leaf_of (l := (((m138 da0 (a1.tmod 1024)).2.2.1), ((m138 da0 (a1.tmod 1024)).2.2.2))) (condF h0 (condF h1 (condF h2 rfl))) rfl)))))
theorem k119 : CtrOk Try.prog c119 119 := ctr_of (tabOk_cons k138 (tabOk_cons k139 tabOk_nil)) mix_ok 8 (fn := Try.f119) (c := (Try.f119.body.getD .skip)) (grs := []) (rh := .k) (Λ := (fun _ => none)) Try.func119 rfl (by kernel_rfl) noLam fun vs bs q h hn => by
  unfold g119 at h
  split at h <;> cases h
  exact ⟨_, rfl, p119 _ _ (hn _ (List.mem_singleton.2 rfl))⟩

/-! ### shotline/shotlineref08.halves -/
noncomputable def gg149 (M : Int → Int) (N : Int → Bool) : List SV → List Blk → Option OpRes := fun vs bs => match vs, bs with
  | [.int .i64 a0], [] => some (resOf 0 (q149 (M a0)) [N a0])
  | _, _ => none
noncomputable def gg150 (M : Int → Int) (N : Int → Bool) : List SV → List Blk → Option OpRes := fun vs bs => match vs, bs with
  | [.int .i64 a0], [] => some (resOf 0 (q150 (M a0)) [N a0])
  | _, _ => none
noncomputable def t140_0 (M145 : Int → Int) (M146 : Int → Int) : Int := IntKind.i64.wrap ((IntKind.i64.wrap (100000000 + (M145 5000000000000000))) * 50000000)
noncomputable def t140_1 (M145 : Int → Int) (M146 : Int → Int) : Int := IntKind.i64.wrap ((IntKind.i64.wrap (100000000 + (M146 5000000000000000))) * 50000000)
noncomputable def t140_2 (M145 : Int → Int) (M146 : Int → Int) : Int := IntKind.i64.wrap ((IntKind.i64.wrap (100000000 - (M146 5000000000000000))) * 50000000)
noncomputable def t140_3 (M145 : Int → Int) (M146 : Int → Int) : Int := IntKind.i64.wrap ((IntKind.i64.wrap (100000000 - (M145 5000000000000000))) * 50000000)
noncomputable def t140_4 (M145 : Int → Int) (M146 : Int → Int) : Int := IntKind.i64.wrap ((IntKind.i64.wrap (100000000 + (M145 (t140_0 M145 M146)))) * 50000000)
noncomputable def t140_5 (M145 : Int → Int) (M146 : Int → Int) : Int := IntKind.i64.wrap ((IntKind.i64.wrap (100000000 + (M146 (t140_1 M145 M146)))) * 50000000)
noncomputable def t140_6 (M145 : Int → Int) (M146 : Int → Int) : Int := IntKind.i64.wrap ((IntKind.i64.wrap (100000000 - (M146 (t140_1 M145 M146)))) * 50000000)
noncomputable def t140_7 (M145 : Int → Int) (M146 : Int → Int) : Int := IntKind.i64.wrap ((IntKind.i64.wrap (100000000 - (M145 (t140_0 M145 M146)))) * 50000000)
noncomputable def t140_8 (M145 : Int → Int) (M146 : Int → Int) : Int := IntKind.i64.wrap ((IntKind.i64.wrap (100000000 + (M145 (t140_4 M145 M146)))) * 50000000)
noncomputable def t140_9 (M145 : Int → Int) (M146 : Int → Int) : Int := IntKind.i64.wrap ((IntKind.i64.wrap (100000000 + (M146 (t140_5 M145 M146)))) * 50000000)
noncomputable def t140_10 (M145 : Int → Int) (M146 : Int → Int) : Int := IntKind.i64.wrap ((IntKind.i64.wrap (100000000 - (M146 (t140_5 M145 M146)))) * 50000000)
noncomputable def t140_11 (M145 : Int → Int) (M146 : Int → Int) : Int := IntKind.i64.wrap ((IntKind.i64.wrap (100000000 - (M145 (t140_4 M145 M146)))) * 50000000)
noncomputable def t140_12 (M145 : Int → Int) (M146 : Int → Int) : Int := IntKind.i64.wrap ((IntKind.i64.wrap (100000000 + (M145 (t140_8 M145 M146)))) * 50000000)
noncomputable def t140_13 (M145 : Int → Int) (M146 : Int → Int) : Int := IntKind.i64.wrap ((IntKind.i64.wrap (100000000 + (M146 (t140_9 M145 M146)))) * 50000000)
noncomputable def t140_14 (M145 : Int → Int) (M146 : Int → Int) : Int := IntKind.i64.wrap ((IntKind.i64.wrap (100000000 - (M146 (t140_9 M145 M146)))) * 50000000)
noncomputable def t140_15 (M145 : Int → Int) (M146 : Int → Int) : Int := IntKind.i64.wrap ((IntKind.i64.wrap (100000000 - (M145 (t140_8 M145 M146)))) * 50000000)
noncomputable def t140_16 (M145 : Int → Int) (M146 : Int → Int) : Int := IntKind.i64.wrap ((IntKind.i64.wrap (100000000 + (M145 (t140_12 M145 M146)))) * 50000000)
noncomputable def t140_17 (M145 : Int → Int) (M146 : Int → Int) : Int := IntKind.i64.wrap ((IntKind.i64.wrap (100000000 + (M146 (t140_13 M145 M146)))) * 50000000)
noncomputable def t140_18 (M145 : Int → Int) (M146 : Int → Int) : Int := IntKind.i64.wrap ((IntKind.i64.wrap (100000000 - (M146 (t140_13 M145 M146)))) * 50000000)
noncomputable def t140_19 (M145 : Int → Int) (M146 : Int → Int) : Int := IntKind.i64.wrap ((IntKind.i64.wrap (100000000 - (M145 (t140_12 M145 M146)))) * 50000000)
noncomputable def t140_20 (M145 : Int → Int) (M146 : Int → Int) : Int := IntKind.i64.wrap ((IntKind.i64.wrap (100000000 + (M145 (t140_16 M145 M146)))) * 50000000)
noncomputable def t140_21 (M145 : Int → Int) (M146 : Int → Int) : Int := IntKind.i64.wrap ((IntKind.i64.wrap (100000000 + (M146 (t140_17 M145 M146)))) * 50000000)
noncomputable def t140_22 (M145 : Int → Int) (M146 : Int → Int) : Int := IntKind.i64.wrap ((IntKind.i64.wrap (100000000 - (M146 (t140_17 M145 M146)))) * 50000000)
noncomputable def t140_23 (M145 : Int → Int) (M146 : Int → Int) : Int := IntKind.i64.wrap ((IntKind.i64.wrap (100000000 - (M145 (t140_16 M145 M146)))) * 50000000)
noncomputable def t140_24 (M145 : Int → Int) (M146 : Int → Int) : Int := IntKind.i64.wrap ((IntKind.i64.wrap (100000000 + (M145 (t140_20 M145 M146)))) * 50000000)
noncomputable def t140_25 (M145 : Int → Int) (M146 : Int → Int) : Int := IntKind.i64.wrap ((IntKind.i64.wrap (100000000 + (M146 (t140_21 M145 M146)))) * 50000000)
noncomputable def t140_26 (M145 : Int → Int) (M146 : Int → Int) : Int := IntKind.i64.wrap ((IntKind.i64.wrap (100000000 - (M146 (t140_21 M145 M146)))) * 50000000)
noncomputable def t140_27 (M145 : Int → Int) (M146 : Int → Int) : Int := IntKind.i64.wrap ((IntKind.i64.wrap (100000000 - (M145 (t140_20 M145 M146)))) * 50000000)
noncomputable def t140_28 (M145 : Int → Int) (M146 : Int → Int) : Int := IntKind.i64.wrap ((IntKind.i64.wrap (100000000 + (M145 (t140_24 M145 M146)))) * 50000000)
noncomputable def t140_29 (M145 : Int → Int) (M146 : Int → Int) : Int := IntKind.i64.wrap ((IntKind.i64.wrap (100000000 + (M146 (t140_25 M145 M146)))) * 50000000)
noncomputable def t140_30 (M145 : Int → Int) (M146 : Int → Int) : Int := IntKind.i64.wrap ((IntKind.i64.wrap (100000000 - (M146 (t140_25 M145 M146)))) * 50000000)
noncomputable def t140_31 (M145 : Int → Int) (M146 : Int → Int) : Int := IntKind.i64.wrap ((IntKind.i64.wrap (100000000 - (M145 (t140_24 M145 M146)))) * 50000000)
noncomputable def t140_32 (M145 : Int → Int) (M146 : Int → Int) : Int := IntKind.i64.wrap ((IntKind.i64.wrap (100000000 + (M145 (t140_28 M145 M146)))) * 50000000)
noncomputable def t140_33 (M145 : Int → Int) (M146 : Int → Int) : Int := IntKind.i64.wrap ((IntKind.i64.wrap (100000000 + (M146 (t140_29 M145 M146)))) * 50000000)
noncomputable def t140_34 (M145 : Int → Int) (M146 : Int → Int) : Int := IntKind.i64.wrap ((IntKind.i64.wrap (100000000 - (M146 (t140_29 M145 M146)))) * 50000000)
noncomputable def t140_35 (M145 : Int → Int) (M146 : Int → Int) : Int := IntKind.i64.wrap ((IntKind.i64.wrap (100000000 - (M145 (t140_28 M145 M146)))) * 50000000)
noncomputable def U140 (M145 : Int → Int) (M146 : Int → Int) (N145 : Int → Bool) (N146 : Int → Bool) (z0 : Int) (z1 : Int) (z2 : Int) (z3 : Int) (z4 : Int) (z5 : Int) (z6 : Int) (z7 : Int) (z8 : Int) (z9 : Int) (z10 : Int) (z11 : Int) (z12 : Int) (z13 : Int) (z14 : Int) (z15 : Int) (z16 : Int) (z17 : Int) (z18 : Int) (z19 : Int) (z20 : Int) (z21 : Int) (z22 : Int) (z23 : Int) (z24 : Int) (z25 : Int) (z26 : Int) (z27 : Int) (z28 : Int) (z29 : Int) (z30 : Int) (z31 : Int) (z32 : Int) (z33 : Int) (z34 : Int) (z35 : Int) (R : SV → List Blk → List Blk → Prop) : Prop :=
 (cnd ((N145 5000000000000000))
 (cnd ((N146 5000000000000000))
 (cnd ((N145 5000000000000000))
 (cnd ((N146 5000000000000000))
 (cnd ((N145 z0))
 (cnd ((N146 z1))
 (cnd ((N145 z2))
 (cnd ((N146 z3))
 (cnd ((N145 z4))
 (cnd ((N146 z5))
 (cnd ((N145 z6))
 (cnd ((N146 z7))
 (cnd ((N145 z8))
 (cnd ((N146 z9))
 (cnd ((N145 z10))
 (cnd ((N146 z11))
 (cnd ((N145 z12))
 (cnd ((N146 z13))
 (cnd ((N145 z14))
 (cnd ((N146 z15))
 (cnd ((N145 z16))
 (cnd ((N146 z17))
 (cnd ((N145 z18))
 (cnd ((N146 z19))
 (cnd ((N145 z20))
 (cnd ((N146 z21))
 (cnd ((N145 z22))
 (cnd ((N146 z23))
 (cnd ((N145 z24))
 (cnd ((N146 z25))
 (cnd ((N145 z26))
 (cnd ((N146 z27))
 (cnd ((N145 z28))
 (cnd ((N146 z29))
 (cnd ((N145 z30))
 (cnd ((N146 z31))
 (cnd ((N145 z32))
 (cnd ((N146 z33))
 (cnd ((N145 z34))
 (cnd ((N146 z35))
 (R (.tup [.agg [.int .i64 0, .int .i64 0, .int .i64 (M145 5000000000000000), .int .i64 (M146 5000000000000000), .int .i64 (M145 z0), .int .i64 (M146 z1), .int .i64 (M145 z4), .int .i64 (M146 z5), .int .i64 (M145 z8), .int .i64 (M146 z9), .int .i64 (M145 z12), .int .i64 (M146 z13), .int .i64 (M145 z16), .int .i64 (M146 z17), .int .i64 (M145 z20), .int .i64 (M146 z21), .int .i64 (M145 z24), .int .i64 (M146 z25), .int .i64 (M145 z28), .int .i64 (M146 z29), .int .i64 (M145 z32), .int .i64 (M146 z33)], .agg [.int .i64 100000000, .int .i64 100000000, .int .i64 (M145 5000000000000000), .int .i64 (M146 5000000000000000), .int .i64 (M145 z2), .int .i64 (M146 z3), .int .i64 (M145 z6), .int .i64 (M146 z7), .int .i64 (M145 z10), .int .i64 (M146 z11), .int .i64 (M145 z14), .int .i64 (M146 z15), .int .i64 (M145 z18), .int .i64 (M146 z19), .int .i64 (M145 z22), .int .i64 (M146 z23), .int .i64 (M145 z26), .int .i64 (M146 z27), .int .i64 (M145 z30), .int .i64 (M146 z31), .int .i64 (M145 z34), .int .i64 (M146 z35)]]) [] [])
                                         False)
                                        False)
                                       False)
                                      False)
                                     False)
                                    False)
                                   False)
                                  False)
                                 False)
                                False)
                               False)
                              False)
                             False)
                            False)
                           False)
                          False)
                         False)
                        False)
                       False)
                      False)
                     False)
                    False)
                   False)
                  False)
                 False)
                False)
               False)
              False)
             False)
            False)
           False)
          False)
         False)
        False)
       False)
      False)
     False)
    False)
   False)
  False)
theorem x140 (M145 : Int → Int) (M146 : Int → Int) (N145 : Int → Bool) (N146 : Int → Bool) (R : SV → List Blk → List Blk → Prop) : exec Try.prog [(149, genC [.k] (gg149 M145 N145)), (150, genC [.k] (gg150 M146 N146))] (fun _ => none) 24 (Try.f140.body.getD .skip) (initS Try.f140.ntmps [] 0 (memOf [])) (retK Try.prog Try.f140.results.toList (outK 0 (List.range 0) [] (.k) fun v U N => R v U N)) =
  U140 M145 M146 N145 N146 (t140_0 M145 M146) (t140_1 M145 M146) (t140_2 M145 M146) (t140_3 M145 M146) (t140_4 M145 M146) (t140_5 M145 M146) (t140_6 M145 M146) (t140_7 M145 M146) (t140_8 M145 M146) (t140_9 M145 M146) (t140_10 M145 M146) (t140_11 M145 M146) (t140_12 M145 M146) (t140_13 M145 M146) (t140_14 M145 M146) (t140_15 M145 M146) (t140_16 M145 M146) (t140_17 M145 M146) (t140_18 M145 M146) (t140_19 M145 M146) (t140_20 M145 M146) (t140_21 M145 M146) (t140_22 M145 M146) (t140_23 M145 M146) (t140_24 M145 M146) (t140_25 M145 M146) (t140_26 M145 M146) (t140_27 M145 M146) (t140_28 M145 M146) (t140_29 M145 M146) (t140_30 M145 M146) (t140_31 M145 M146) (t140_32 M145 M146) (t140_33 M145 M146) (t140_34 M145 M146) (t140_35 M145 M146) R := by kernel_rfl
noncomputable def w140  (z0 : Int) (z1 : Int) (z2 : Int) (z3 : Int) (z4 : Int) (z5 : Int) (z6 : Int) (z7 : Int) (z8 : Int) (z9 : Int) (z10 : Int) (z11 : Int) (z12 : Int) (z13 : Int) (z14 : Int) (z15 : Int) (z16 : Int) (z17 : Int) (z18 : Int) (z19 : Int) (z20 : Int) (z21 : Int) (z22 : Int) (z23 : Int) (z24 : Int) (z25 : Int) (z26 : Int) (z27 : Int) (z28 : Int) (z29 : Int) (z30 : Int) (z31 : Int) (z32 : Int) (z33 : Int) (z34 : Int) (z35 : Int) : Int × Int × Int × Int × Int × Int × Int × Int × Int × Int × Int × Int × Int × Int × Int × Int × Int × Int × Int × Int × Int × Int × Int × Int × Int × Int × Int × Int × Int × Int × Int × Int × Int × Int × Int × Int × Int × Int × Int × Int × Int × Int × Int × Int :=
 (0, 0, (m149 5000000000000000), (m150 5000000000000000), (m149 z0), (m150 z1), (m149 z4), (m150 z5), (m149 z8), (m150 z9), (m149 z12), (m150 z13), (m149 z16), (m150 z17), (m149 z20), (m150 z21), (m149 z24), (m150 z25), (m149 z28), (m150 z29), (m149 z32), (m150 z33), 100000000, 100000000, (m149 5000000000000000), (m150 5000000000000000), (m149 z2), (m150 z3), (m149 z6), (m150 z7), (m149 z10), (m150 z11), (m149 z14), (m150 z15), (m149 z18), (m150 z19), (m149 z22), (m150 z23), (m149 z26), (m150 z27), (m149 z30), (m150 z31), (m149 z34), (m150 z35))
noncomputable def v140  (z0 : Int) (z1 : Int) (z2 : Int) (z3 : Int) (z4 : Int) (z5 : Int) (z6 : Int) (z7 : Int) (z8 : Int) (z9 : Int) (z10 : Int) (z11 : Int) (z12 : Int) (z13 : Int) (z14 : Int) (z15 : Int) (z16 : Int) (z17 : Int) (z18 : Int) (z19 : Int) (z20 : Int) (z21 : Int) (z22 : Int) (z23 : Int) (z24 : Int) (z25 : Int) (z26 : Int) (z27 : Int) (z28 : Int) (z29 : Int) (z30 : Int) (z31 : Int) (z32 : Int) (z33 : Int) (z34 : Int) (z35 : Int) : Bool :=
 (((n149 5000000000000000)) && (((n150 5000000000000000)) && (((n149 5000000000000000)) && (((n150 5000000000000000)) && (((n149 z0)) && (((n150 z1)) && (((n149 z2)) && (((n150 z3)) && (((n149 z4)) && (((n150 z5)) && (((n149 z6)) && (((n150 z7)) && (((n149 z8)) && (((n150 z9)) && (((n149 z10)) && (((n150 z11)) && (((n149 z12)) && (((n150 z13)) && (((n149 z14)) && (((n150 z15)) && (((n149 z16)) && (((n150 z17)) && (((n149 z18)) && (((n150 z19)) && (((n149 z20)) && (((n150 z21)) && (((n149 z22)) && (((n150 z23)) && (((n149 z24)) && (((n150 z25)) && (((n149 z26)) && (((n150 z27)) && (((n149 z28)) && (((n150 z29)) && (((n149 z30)) && (((n150 z31)) && (((n149 z32)) && (((n150 z33)) && (((n149 z34)) && (((n150 z35)) && true))))))))))))))))))))))))))))))))))))))))
noncomputable def m140  : Int × Int × Int × Int × Int × Int × Int × Int × Int × Int × Int × Int × Int × Int × Int × Int × Int × Int × Int × Int × Int × Int × Int × Int × Int × Int × Int × Int × Int × Int × Int × Int × Int × Int × Int × Int × Int × Int × Int × Int × Int × Int × Int × Int := w140 (t140_0 m149 m150) (t140_1 m149 m150) (t140_2 m149 m150) (t140_3 m149 m150) (t140_4 m149 m150) (t140_5 m149 m150) (t140_6 m149 m150) (t140_7 m149 m150) (t140_8 m149 m150) (t140_9 m149 m150) (t140_10 m149 m150) (t140_11 m149 m150) (t140_12 m149 m150) (t140_13 m149 m150) (t140_14 m149 m150) (t140_15 m149 m150) (t140_16 m149 m150) (t140_17 m149 m150) (t140_18 m149 m150) (t140_19 m149 m150) (t140_20 m149 m150) (t140_21 m149 m150) (t140_22 m149 m150) (t140_23 m149 m150) (t140_24 m149 m150) (t140_25 m149 m150) (t140_26 m149 m150) (t140_27 m149 m150) (t140_28 m149 m150) (t140_29 m149 m150) (t140_30 m149 m150) (t140_31 m149 m150) (t140_32 m149 m150) (t140_33 m149 m150) (t140_34 m149 m150) (t140_35 m149 m150)
noncomputable def n140  : Bool := v140 (t140_0 m149 m150) (t140_1 m149 m150) (t140_2 m149 m150) (t140_3 m149 m150) (t140_4 m149 m150) (t140_5 m149 m150) (t140_6 m149 m150) (t140_7 m149 m150) (t140_8 m149 m150) (t140_9 m149 m150) (t140_10 m149 m150) (t140_11 m149 m150) (t140_12 m149 m150) (t140_13 m149 m150) (t140_14 m149 m150) (t140_15 m149 m150) (t140_16 m149 m150) (t140_17 m149 m150) (t140_18 m149 m150) (t140_19 m149 m150) (t140_20 m149 m150) (t140_21 m149 m150) (t140_22 m149 m150) (t140_23 m149 m150) (t140_24 m149 m150) (t140_25 m149 m150) (t140_26 m149 m150) (t140_27 m149 m150) (t140_28 m149 m150) (t140_29 m149 m150) (t140_30 m149 m150) (t140_31 m149 m150) (t140_32 m149 m150) (t140_33 m149 m150) (t140_34 m149 m150) (t140_35 m149 m150)
noncomputable def q140 (r : Int × Int × Int × Int × Int × Int × Int × Int × Int × Int × Int × Int × Int × Int × Int × Int × Int × Int × Int × Int × Int × Int × Int × Int × Int × Int × Int × Int × Int × Int × Int × Int × Int × Int × Int × Int × Int × Int × Int × Int × Int × Int × Int × Int) : SV × List Blk × List Blk := (.tup [.agg [.int .i64 r.1, .int .i64 r.2.1, .int .i64 r.2.2.1, .int .i64 r.2.2.2.1, .int .i64 r.2.2.2.2.1, .int .i64 r.2.2.2.2.2.1, .int .i64 r.2.2.2.2.2.2.1, .int .i64 r.2.2.2.2.2.2.2.1, .int .i64 r.2.2.2.2.2.2.2.2.1, .int .i64 r.2.2.2.2.2.2.2.2.2.1, .int .i64 r.2.2.2.2.2.2.2.2.2.2.1, .int .i64 r.2.2.2.2.2.2.2.2.2.2.2.1, .int .i64 r.2.2.2.2.2.2.2.2.2.2.2.2.1, .int .i64 r.2.2.2.2.2.2.2.2.2.2.2.2.2.1, .int .i64 r.2.2.2.2.2.2.2.2.2.2.2.2.2.2.1, .int .i64 r.2.2.2.2.2.2.2.2.2.2.2.2.2.2.2.1, .int .i64 r.2.2.2.2.2.2.2.2.2.2.2.2.2.2.2.2.1, .int .i64 r.2.2.2.2.2.2.2.2.2.2.2.2.2.2.2.2.2.1, .int .i64 r.2.2.2.2.2.2.2.2.2.2.2.2.2.2.2.2.2.2.1, .int .i64 r.2.2.2.2.2.2.2.2.2.2.2.2.2.2.2.2.2.2.2.1, .int .i64 r.2.2.2.2.2.2.2.2.2.2.2.2.2.2.2.2.2.2.2.2.1, .int .i64 r.2.2.2.2.2.2.2.2.2.2.2.2.2.2.2.2.2.2.2.2.2.1], .agg [.int .i64 r.2.2.2.2.2.2.2.2.2.2.2.2.2.2.2.2.2.2.2.2.2.2.1, .int .i64 r.2.2.2.2.2.2.2.2.2.2.2.2.2.2.2.2.2.2.2.2.2.2.2.1, .int .i64 r.2.2.2.2.2.2.2.2.2.2.2.2.2.2.2.2.2.2.2.2.2.2.2.2.1, .int .i64 r.2.2.2.2.2.2.2.2.2.2.2.2.2.2.2.2.2.2.2.2.2.2.2.2.2.1, .int .i64 r.2.2.2.2.2.2.2.2.2.2.2.2.2.2.2.2.2.2.2.2.2.2.2.2.2.2.1, .int .i64 r.2.2.2.2.2.2.2.2.2.2.2.2.2.2.2.2.2.2.2.2.2.2.2.2.2.2.2.1, .int .i64 r.2.2.2.2.2.2.2.2.2.2.2.2.2.2.2.2.2.2.2.2.2.2.2.2.2.2.2.2.1, .int .i64 r.2.2.2.2.2.2.2.2.2.2.2.2.2.2.2.2.2.2.2.2.2.2.2.2.2.2.2.2.2.1, .int .i64 r.2.2.2.2.2.2.2.2.2.2.2.2.2.2.2.2.2.2.2.2.2.2.2.2.2.2.2.2.2.2.1, .int .i64 r.2.2.2.2.2.2.2.2.2.2.2.2.2.2.2.2.2.2.2.2.2.2.2.2.2.2.2.2.2.2.2.1, .int .i64 r.2.2.2.2.2.2.2.2.2.2.2.2.2.2.2.2.2.2.2.2.2.2.2.2.2.2.2.2.2.2.2.2.1, .int .i64 r.2.2.2.2.2.2.2.2.2.2.2.2.2.2.2.2.2.2.2.2.2.2.2.2.2.2.2.2.2.2.2.2.2.1, .int .i64 r.2.2.2.2.2.2.2.2.2.2.2.2.2.2.2.2.2.2.2.2.2.2.2.2.2.2.2.2.2.2.2.2.2.2.1, .int .i64 r.2.2.2.2.2.2.2.2.2.2.2.2.2.2.2.2.2.2.2.2.2.2.2.2.2.2.2.2.2.2.2.2.2.2.2.1, .int .i64 r.2.2.2.2.2.2.2.2.2.2.2.2.2.2.2.2.2.2.2.2.2.2.2.2.2.2.2.2.2.2.2.2.2.2.2.2.1, .int .i64 r.2.2.2.2.2.2.2.2.2.2.2.2.2.2.2.2.2.2.2.2.2.2.2.2.2.2.2.2.2.2.2.2.2.2.2.2.2.1, .int .i64 r.2.2.2.2.2.2.2.2.2.2.2.2.2.2.2.2.2.2.2.2.2.2.2.2.2.2.2.2.2.2.2.2.2.2.2.2.2.2.1, .int .i64 r.2.2.2.2.2.2.2.2.2.2.2.2.2.2.2.2.2.2.2.2.2.2.2.2.2.2.2.2.2.2.2.2.2.2.2.2.2.2.2.1, .int .i64 r.2.2.2.2.2.2.2.2.2.2.2.2.2.2.2.2.2.2.2.2.2.2.2.2.2.2.2.2.2.2.2.2.2.2.2.2.2.2.2.2.1, .int .i64 r.2.2.2.2.2.2.2.2.2.2.2.2.2.2.2.2.2.2.2.2.2.2.2.2.2.2.2.2.2.2.2.2.2.2.2.2.2.2.2.2.2.1, .int .i64 r.2.2.2.2.2.2.2.2.2.2.2.2.2.2.2.2.2.2.2.2.2.2.2.2.2.2.2.2.2.2.2.2.2.2.2.2.2.2.2.2.2.2.1, .int .i64 r.2.2.2.2.2.2.2.2.2.2.2.2.2.2.2.2.2.2.2.2.2.2.2.2.2.2.2.2.2.2.2.2.2.2.2.2.2.2.2.2.2.2.2]], [], [])
noncomputable def g140 : List SV → List Blk → Option OpRes := fun vs bs => match vs, bs with
  | [], [] => some (resOf 0 (q140 (m140)) [n140 ])
  | _, _ => none
noncomputable def c140 : Ctr := genC [] g140
theorem u140  (z0 : Int) (z1 : Int) (z2 : Int) (z3 : Int) (z4 : Int) (z5 : Int) (z6 : Int) (z7 : Int) (z8 : Int) (z9 : Int) (z10 : Int) (z11 : Int) (z12 : Int) (z13 : Int) (z14 : Int) (z15 : Int) (z16 : Int) (z17 : Int) (z18 : Int) (z19 : Int) (z20 : Int) (z21 : Int) (z22 : Int) (z23 : Int) (z24 : Int) (z25 : Int) (z26 : Int) (z27 : Int) (z28 : Int) (z29 : Int) (z30 : Int) (z31 : Int) (z32 : Int) (z33 : Int) (z34 : Int) (z35 : Int) (hn : v140 z0 z1 z2 z3 z4 z5 z6 z7 z8 z9 z10 z11 z12 z13 z14 z15 z16 z17 z18 z19 z20 z21 z22 z23 z24 z25 z26 z27 z28 z29 z30 z31 z32 z33 z34 z35 = true) : U140 m149 m150 n149 n150 z0 z1 z2 z3 z4 z5 z6 z7 z8 z9 z10 z11 z12 z13 z14 z15 z16 z17 z18 z19 z20 z21 z22 z23 z24 z25 z26 z27 z28 z29 z30 z31 z32 z33 z34 z35 (fun v U N => (v, U, N) = q140 (w140 z0 z1 z2 z3 z4 z5 z6 z7 z8 z9 z10 z11 z12 z13 z14 z15 z16 z17 z18 z19 z20 z21 z22 z23 z24 z25 z26 z27 z28 z29 z30 z31 z32 z33 z34 z35)) :=
  cnd_need (and_l hn) (cnd_need (and_l (and_r hn)) (cnd_need (and_l (and_r (and_r hn))) (cnd_need (and_l (and_r (and_r (and_r hn)))) (cnd_need (and_l (and_r (and_r (and_r (and_r hn))))) (cnd_need (and_l (and_r (and_r (and_r (and_r (and_r hn)))))) (cnd_need (and_l (and_r (and_r (and_r (and_r (and_r (and_r hn))))))) (cnd_need (and_l (and_r (and_r (and_r (and_r (and_r (and_r (and_r hn)))))))) (cnd_need (and_l (and_r (and_r (and_r (and_r (and_r (and_r (and_r (and_r hn))))))))) (cnd_need (and_l (and_r (and_r (and_r (and_r (and_r (and_r (and_r (and_r (and_r hn)))))))))) (cnd_need (and_l (and_r (and_r (and_r (and_r (and_r (and_r (and_r (and_r (and_r (and_r hn))))))))))) (cnd_need (and_l (and_r (and_r (and_r (and_r (and_r (and_r (and_r (and_r (and_r (and_r (and_r hn)))))))))))) (cnd_need (and_l (and_r (and_r (and_r (and_r (and_r (and_r (and_r (and_r (and_r (and_r (and_r (and_r hn))))))))))))) (cnd_need (and_l (and_r (and_r (and_r (and_r (and_r (and_r (and_r (and_r (and_r (and_r (and_r (and_r (and_r hn)))))))))))))) (cnd_need (and_l (and_r (and_r (and_r (and_r (and_r (and_r (and_r (and_r (and_r (and_r (and_r (and_r (and_r (and_r hn))))))))))))))) (cnd_need (and_l (and_r (and_r (and_r (and_r (and_r (and_r (and_r (and_r (and_r (and_r (and_r (and_r (and_r (and_r (and_r hn)))))))))))))))) (cnd_need (and_l (and_r (and_r (and_r (and_r (and_r (and_r (and_r (and_r (and_r (and_r (and_r (and_r (and_r (and_r (and_r (and_r hn))))))))))))))))) (cnd_need (and_l (and_r (and_r (and_r (and_r (and_r (and_r (and_r (and_r (and_r (and_r (and_r (and_r (and_r (and_r (and_r (and_r (and_r hn)))))))))))))))))) (cnd_need (and_l (and_r (and_r (and_r (and_r (and_r (and_r (and_r (and_r (and_r (and_r (and_r (and_r (and_r (and_r (and_r (and_r (and_r (and_r hn))))))))))))))))))) (cnd_need (and_l (and_r (and_r (and_r (and_r (and_r (and_r (and_r (and_r (and_r (and_r (and_r (and_r (and_r (and_r (and_r (and_r (and_r (and_r (and_r hn)))))))))))))))))))) (cnd_need (and_l (and_r (and_r (and_r (and_r (and_r (and_r (and_r (and_r (and_r (and_r (and_r (and_r (and_r (and_r (and_r (and_r (and_r (and_r (and_r (and_r hn))))))))))))))))))))) (cnd_need (and_l (and_r (and_r (and_r (and_r (and_r (and_r (and_r (and_r (and_r (and_r (and_r (and_r (and_r (and_r (and_r (and_r (and_r (and_r (and_r (and_r (and_r hn)))))))))))))))))))))) (cnd_need (and_l (and_r (and_r (and_r (and_r (and_r (and_r (and_r (and_r (and_r (and_r (and_r (and_r (and_r (and_r (and_r (and_r (and_r (and_r (and_r (and_r (and_r (and_r hn))))))))))))))))))))))) (cnd_need (and_l (and_r (and_r (and_r (and_r (and_r (and_r (and_r (and_r (and_r (and_r (and_r (and_r (and_r (and_r (and_r (and_r (and_r (and_r (and_r (and_r (and_r (and_r (and_r hn)))))))))))))))))))))))) (cnd_need (and_l (and_r (and_r (and_r (and_r (and_r (and_r (and_r (and_r (and_r (and_r (and_r (and_r (and_r (and_r (and_r (and_r (and_r (and_r (and_r (and_r (and_r (and_r (and_r (and_r hn))))))))))))))))))))))))) (cnd_need (and_l (and_r (and_r (and_r (and_r (and_r (and_r (and_r (and_r (and_r (and_r (and_r (and_r (and_r (and_r (and_r (and_r (and_r (and_r (and_r (and_r (and_r (and_r (and_r (and_r (and_r hn)))))))))))))))))))))))))) (cnd_need (and_l (and_r (and_r (and_r (and_r (and_r (and_r (and_r (and_r (and_r (and_r (and_r (and_r (and_r (and_r (and_r (and_r (and_r (and_r (and_r (and_r (and_r (and_r (and_r (and_r (and_r (and_r hn))))))))))))))))))))))))))) (cnd_need (and_l (and_r (and_r (and_r (and_r (and_r (and_r (and_r (and_r (and_r (and_r (and_r (and_r (and_r (and_r (and_r (and_r (and_r (and_r (and_r (and_r (and_r (and_r (and_r (and_r (and_r (and_r (and_r hn)))))))))))))))))))))))))))) (cnd_need (and_l (and_r (and_r (and_r (and_r (and_r (and_r (and_r (and_r (and_r (and_r (and_r (and_r (and_r (and_r (and_r (and_r (and_r (and_r (and_r (and_r (and_r (and_r (and_r (and_r (and_r (and_r (and_r (and_r hn))))))))))))))))))))))))))))) (cnd_need (and_l (and_r (and_r (and_r (and_r (and_r (and_r (and_r (and_r (and_r (and_r (and_r (and_r (and_r (and_r (and_r (and_r (and_r (and_r (and_r (and_r (and_r (and_r (and_r (and_r (and_r (and_r (and_r (and_r (and_r hn)))))))))))))))))))))))))))))) (cnd_need (and_l (and_r (and_r (and_r (and_r (and_r (and_r (and_r (and_r (and_r (and_r (and_r (and_r (and_r (and_r (and_r (and_r (and_r (and_r (and_r (and_r (and_r (and_r (and_r (and_r (and_r (and_r (and_r (and_r (and_r (and_r hn))))))))))))))))))))))))))))))) (cnd_need (and_l (and_r (and_r (and_r (and_r (and_r (and_r (and_r (and_r (and_r (and_r (and_r (and_r (and_r (and_r (and_r (and_r (and_r (and_r (and_r (and_r (and_r (and_r (and_r (and_r (and_r (and_r (and_r (and_r (and_r (and_r (and_r hn)))))))))))))))))))))))))))))))) (cnd_need (and_l (and_r (and_r (and_r (and_r (and_r (and_r (and_r (and_r (and_r (and_r (and_r (and_r (and_r (and_r (and_r (and_r (and_r (and_r (and_r (and_r (and_r (and_r (and_r (and_r (and_r (and_r (and_r (and_r (and_r (and_r (and_r (and_r hn))))))))))))))))))))))))))))))))) (cnd_need (and_l (and_r (and_r (and_r (and_r (and_r (and_r (and_r (and_r (and_r (and_r (and_r (and_r (and_r (and_r (and_r (and_r (and_r (and_r (and_r (and_r (and_r (and_r (and_r (and_r (and_r (and_r (and_r (and_r (and_r (and_r (and_r (and_r (and_r hn)))))))))))))))))))))))))))))))))) (cnd_need (and_l (and_r (and_r (and_r (and_r (and_r (and_r (and_r (and_r (and_r (and_r (and_r (and_r (and_r (and_r (and_r (and_r (and_r (and_r (and_r (and_r (and_r (and_r (and_r (and_r (and_r (and_r (and_r (and_r (and_r (and_r (and_r (and_r (and_r (and_r hn))))))))))))))))))))))))))))))))))) (cnd_need (and_l (and_r (and_r (and_r (and_r (and_r (and_r (and_r (and_r (and_r (and_r (and_r (and_r (and_r (and_r (and_r (and_r (and_r (and_r (and_r (and_r (and_r (and_r (and_r (and_r (and_r (and_r (and_r (and_r (and_r (and_r (and_r (and_r (and_r (and_r (and_r hn)))))))))))))))))))))))))))))))))))) (cnd_need (and_l (and_r (and_r (and_r (and_r (and_r (and_r (and_r (and_r (and_r (and_r (and_r (and_r (and_r (and_r (and_r (and_r (and_r (and_r (and_r (and_r (and_r (and_r (and_r (and_r (and_r (and_r (and_r (and_r (and_r (and_r (and_r (and_r (and_r (and_r (and_r (and_r hn))))))))))))))))))))))))))))))))))))) (cnd_need (and_l (and_r (and_r (and_r (and_r (and_r (and_r (and_r (and_r (and_r (and_r (and_r (and_r (and_r (and_r (and_r (and_r (and_r (and_r (and_r (and_r (and_r (and_r (and_r (and_r (and_r (and_r (and_r (and_r (and_r (and_r (and_r (and_r (and_r (and_r (and_r (and_r (and_r hn)))))))))))))))))))))))))))))))))))))) (cnd_need (and_l (and_r (and_r (and_r (and_r (and_r (and_r (and_r (and_r (and_r (and_r (and_r (and_r (and_r (and_r (and_r (and_r (and_r (and_r (and_r (and_r (and_r (and_r (and_r (and_r (and_r (and_r (and_r (and_r (and_r (and_r (and_r (and_r (and_r (and_r (and_r (and_r (and_r (and_r hn))))))))))))))))))))))))))))))))))))))) (cnd_need (and_l (and_r (and_r (and_r (and_r (and_r (and_r (and_r (and_r (and_r (and_r (and_r (and_r (and_r (and_r (and_r (and_r (and_r (and_r (and_r (and_r (and_r (and_r (and_r (and_r (and_r (and_r (and_r (and_r (and_r (and_r (and_r (and_r (and_r (and_r (and_r (and_r (and_r (and_r (and_r hn)))))))))))))))))))))))))))))))))))))))) (leaf_of (l := (0, 0, (m149 5000000000000000), (m150 5000000000000000), (m149 z0), (m150 z1), (m149 z4), (m150 z5), (m149 z8), (m150 z9), (m149 z12), (m150 z13), (m149 z16), (m150 z17), (m149 z20), (m150 z21), (m149 z24), (m150 z25), (m149 z28), (m150 z29), (m149 z32), (m150 z33), 100000000, 100000000, (m149 5000000000000000), (m150 5000000000000000), (m149 z2), (m150 z3), (m149 z6), (m150 z7), (m149 z10), (m150 z11), (m149 z14), (m150 z15), (m149 z18), (m150 z19), (m149 z22), (m150 z23), (m149 z26), (m150 z27), (m149 z30), (m150 z31), (m149 z34), (m150 z35))) rfl rfl))))))))))))))))))))))))))))))))))))))))
theorem p140  (hn : n140  = true) : exec Try.prog [(149, c149), (150, c150)] (fun _ => none) 24 (Try.f140.body.getD .skip) (initS Try.f140.ntmps [] 0 (memOf [])) (retK Try.prog Try.f140.results.toList (outK 0 (List.range 0) [] (.k) fun v U N => (v, U, N) = (q140 (m140)))) :=
  propOf (x140 m149 m150 n149 n150 _) (u140 (t140_0 m149 m150) (t140_1 m149 m150) (t140_2 m149 m150) (t140_3 m149 m150) (t140_4 m149 m150) (t140_5 m149 m150) (t140_6 m149 m150) (t140_7 m149 m150) (t140_8 m149 m150) (t140_9 m149 m150) (t140_10 m149 m150) (t140_11 m149 m150) (t140_12 m149 m150) (t140_13 m149 m150) (t140_14 m149 m150) (t140_15 m149 m150) (t140_16 m149 m150) (t140_17 m149 m150) (t140_18 m149 m150) (t140_19 m149 m150) (t140_20 m149 m150) (t140_21 m149 m150) (t140_22 m149 m150) (t140_23 m149 m150) (t140_24 m149 m150) (t140_25 m149 m150) (t140_26 m149 m150) (t140_27 m149 m150) (t140_28 m149 m150) (t140_29 m149 m150) (t140_30 m149 m150) (t140_31 m149 m150) (t140_32 m149 m150) (t140_33 m149 m150) (t140_34 m149 m150) (t140_35 m149 m150) hn)
theorem k140 : CtrOk Try.prog c140 140 := ctr_of (tabOk_cons k149 (tabOk_cons k150 tabOk_nil)) mix_ok 24 (fn := Try.f140) (c := (Try.f140.body.getD .skip)) (grs := []) (rh := .k) (Λ := (fun _ => none)) Try.func140 rfl (by kernel_rfl) noLam fun vs bs q h hn => by
  unfold g140 at h
  split at h <;> cases h
  exact ⟨_, rfl, p140  (hn _ (List.mem_singleton.2 rfl))⟩

end Go.Proofs.Ytbhldggbjjailaa
