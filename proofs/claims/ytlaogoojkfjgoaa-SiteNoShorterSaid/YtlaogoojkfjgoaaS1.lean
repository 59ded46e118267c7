/-
  Contracts of functions: models, equations by the kernel, contracts. Conditions: none.
-/
import Derived.Test.YtlaogoojkfjgoaaSyY
import Derived.Test.YtlaogoojkfjgoaaBase
import Derived.KernelRfl
namespace Go.Proofs.Ytlaogoojkfjgoaa
open Go Go.Sy
set_option linter.unusedVariables false
set_option maxRecDepth 100000
set_option maxHeartbeats 2000000
attribute [local irreducible] Go.IntKind.wrap Int.tdiv Int.tmod Int.fdiv
/-! ### shotline/shotlinebase.Within -/
theorem x29 (a0 : Int) (a1 : Int) (a2 : Int) (R : SV → List Blk → List Blk → Prop) : exec Try.prog [] (fun _ => none) 8 (Try.f29.body.getD .skip) (initS Try.f29.ntmps [.int .i64 a0, .int .i64 a1, .int .i64 a2] 0 (memOf [])) (retK Try.prog Try.f29.results.toList (outK 0 (List.range 0) [] (.k) fun v U N => R v U N)) =
  (R (.bool (bif (decide (a1 ≤ a0)) then (decide (a0 ≤ a2)) else false)) [] []) := by kernel_rfl
noncomputable def m29 (a0 : Int) (a1 : Int) (a2 : Int) : Bool :=
  (bif (decide (a1 ≤ a0)) then (decide (a0 ≤ a2)) else false)
noncomputable def q29 (r : Bool) : SV × List Blk × List Blk := (.bool r, [], [])
noncomputable def g29 : List SV → List Blk → Option OpRes := fun vs bs => match vs, bs with
  | [.int .i64 a0, .int .i64 a1, .int .i64 a2], [] => some (resOf 0 (q29 (m29 a0 a1 a2)) [])
  | _, _ => none
noncomputable def c29 : Ctr := genC [.k, .k, .k] g29
theorem p29 (a0 : Int) (a1 : Int) (a2 : Int) : exec Try.prog [] (fun _ => none) 8 (Try.f29.body.getD .skip) (initS Try.f29.ntmps [.int .i64 a0, .int .i64 a1, .int .i64 a2] 0 (memOf [])) (retK Try.prog Try.f29.results.toList (outK 0 (List.range 0) [] (.k) fun v U N => (v, U, N) = (q29 (m29 a0 a1 a2)))) :=
  propOf (x29 a0 a1 a2 _) (leaf_of (l := (bif (decide (a1 ≤ a0)) then (decide (a0 ≤ a2)) else false)) rfl rfl)
theorem k29 : CtrOk Try.prog c29 29 := ctr_of tabOk_nil mix_ok 8 (fn := Try.f29) (c := (Try.f29.body.getD .skip)) (grs := []) (rh := .k) (Λ := (fun _ => none)) Try.func29 rfl (by kernel_rfl) noLam fun vs bs q h _ => by
  unfold g29 at h
  split at h <;> cases h
  exact ⟨_, rfl, p29 _ _ _⟩
/-! ### shotline/shotlinebase.Floor -/
theorem x83 (a0 : Int) (a1 : Int) (R : SV → List Blk → List Blk → Prop) : exec Try.prog [] (fun _ => none) 8 (Try.f83.body.getD .skip) (initS Try.f83.ntmps [.int .i64 a0, .int .i64 a1] 0 (memOf [])) (retK Try.prog Try.f83.results.toList (outK 0 (List.range 0) [] (.k) fun v U N => R v U N)) =
  (cnd ((bif (decide (a1 = 0)) then false else true))
  (cnd ((bif (decide (a1 = 0)) then false else true))
   (cnd ((decide ((a0.tmod a1) < 0)))
    (R (.int .i64 (IntKind.i64.wrap ((IntKind.i64.wrap (a0.tdiv a1)) - 1))) [] [])
    (R (.int .i64 (IntKind.i64.wrap (a0.tdiv a1))) [] []))
   False)
  False) := by kernel_rfl
noncomputable def m83 (a0 : Int) (a1 : Int) : Int :=
  (cond ((decide ((a0.tmod a1) < 0))) (IntKind.i64.wrap ((IntKind.i64.wrap (a0.tdiv a1)) - 1)) (IntKind.i64.wrap (a0.tdiv a1)))
noncomputable def n83 (a0 : Int) (a1 : Int) : Bool :=
  (((bif (decide (a1 = 0)) then false else true)) && (((bif (decide (a1 = 0)) then false else true)) && true))
noncomputable def q83 (r : Int) : SV × List Blk × List Blk := (.int .i64 r, [], [])
noncomputable def g83 : List SV → List Blk → Option OpRes := fun vs bs => match vs, bs with
  | [.int .i64 a0, .int .i64 a1], [] => some (resOf 0 (q83 (m83 a0 a1)) [n83 a0 a1])
  | _, _ => none
noncomputable def c83 : Ctr := genC [.k, .k] g83
theorem p83 (a0 : Int) (a1 : Int) (hn : n83 a0 a1 = true) : exec Try.prog [] (fun _ => none) 8 (Try.f83.body.getD .skip) (initS Try.f83.ntmps [.int .i64 a0, .int .i64 a1] 0 (memOf [])) (retK Try.prog Try.f83.results.toList (outK 0 (List.range 0) [] (.k) fun v U N => (v, U, N) = (q83 (m83 a0 a1)))) :=
  propOf (x83 a0 a1 _) (cnd_need (and_l hn) (cnd_need (and_l (and_r hn)) (cnd_of (fun h0 => leaf_of (l := (IntKind.i64.wrap ((IntKind.i64.wrap (a0.tdiv a1)) - 1))) (condT h0 rfl) rfl) (fun h0 => leaf_of (l := (IntKind.i64.wrap (a0.tdiv a1))) (condF h0 rfl) rfl))))
theorem k83 : CtrOk Try.prog c83 83 := ctr_of tabOk_nil mix_ok 8 (fn := Try.f83) (c := (Try.f83.body.getD .skip)) (grs := []) (rh := .k) (Λ := (fun _ => none)) Try.func83 rfl (by kernel_rfl) noLam fun vs bs q h hn => by
  unfold g83 at h
  split at h <;> cases h
  exact ⟨_, rfl, p83 _ _ (hn _ (List.mem_singleton.2 rfl))⟩
/-! ### shotline/site.within -/
theorem x96 (a0 : Int) (a1 : Int) (a2 : Int) (R : SV → List Blk → List Blk → Prop) : exec Try.prog [] (fun _ => none) 8 (Try.f96.body.getD .skip) (initS Try.f96.ntmps [.int .i64 a0, .int .i64 a1, .int .i64 a2] 0 (memOf [])) (retK Try.prog Try.f96.results.toList (outK 0 (List.range 0) [] (.k) fun v U N => R v U N)) =
  (R (.bool (bif (decide (a1 ≤ a0)) then (decide (a0 ≤ a2)) else false)) [] []) := by kernel_rfl
noncomputable def m96 (a0 : Int) (a1 : Int) (a2 : Int) : Bool :=
  (bif (decide (a1 ≤ a0)) then (decide (a0 ≤ a2)) else false)
noncomputable def q96 (r : Bool) : SV × List Blk × List Blk := (.bool r, [], [])
noncomputable def g96 : List SV → List Blk → Option OpRes := fun vs bs => match vs, bs with
  | [.int .i64 a0, .int .i64 a1, .int .i64 a2], [] => some (resOf 0 (q96 (m96 a0 a1 a2)) [])
  | _, _ => none
noncomputable def c96 : Ctr := genC [.k, .k, .k] g96
theorem p96 (a0 : Int) (a1 : Int) (a2 : Int) : exec Try.prog [] (fun _ => none) 8 (Try.f96.body.getD .skip) (initS Try.f96.ntmps [.int .i64 a0, .int .i64 a1, .int .i64 a2] 0 (memOf [])) (retK Try.prog Try.f96.results.toList (outK 0 (List.range 0) [] (.k) fun v U N => (v, U, N) = (q96 (m96 a0 a1 a2)))) :=
  propOf (x96 a0 a1 a2 _) (leaf_of (l := (bif (decide (a1 ≤ a0)) then (decide (a0 ≤ a2)) else false)) rfl rfl)
theorem k96 : CtrOk Try.prog c96 96 := ctr_of tabOk_nil mix_ok 8 (fn := Try.f96) (c := (Try.f96.body.getD .skip)) (grs := []) (rh := .k) (Λ := (fun _ => none)) Try.func96 rfl (by kernel_rfl) noLam fun vs bs q h _ => by
  unfold g96 at h
  split at h <;> cases h
  exact ⟨_, rfl, p96 _ _ _⟩
/-! ### shotline/site.down -/
theorem x127 (a0 : Int) (a1 : Int) (R : SV → List Blk → List Blk → Prop) : exec Try.prog [] (fun _ => none) 8 (Try.f127.body.getD .skip) (initS Try.f127.ntmps [.int .i64 a0, .int .i64 a1] 0 (memOf [])) (retK Try.prog Try.f127.results.toList (outK 0 (List.range 0) [] (.k) fun v U N => R v U N)) =
  (cnd ((decide (a0 < (0 : Int))))
  (cnd ((bif (decide (a1 = 0)) then false else true))
   (R (.int .i64 (IntKind.i64.wrap (0 - (IntKind.i64.wrap ((IntKind.i64.wrap ((IntKind.i64.wrap ((IntKind.i64.wrap (0 - a0)) + a1)) - 1)).tdiv a1))))) [] [])
   False)
  (cnd ((bif (decide (a1 = 0)) then false else true))
   (R (.int .i64 (IntKind.i64.wrap (a0.tdiv a1))) [] [])
   False)) := by kernel_rfl
noncomputable def m127 (a0 : Int) (a1 : Int) : Int :=
  (cond ((decide (a0 < (0 : Int)))) (IntKind.i64.wrap (0 - (IntKind.i64.wrap ((IntKind.i64.wrap ((IntKind.i64.wrap ((IntKind.i64.wrap (0 - a0)) + a1)) - 1)).tdiv a1)))) (IntKind.i64.wrap (a0.tdiv a1)))
noncomputable def n127 (a0 : Int) (a1 : Int) : Bool :=
  (cond ((decide (a0 < (0 : Int)))) (((bif (decide (a1 = 0)) then false else true)) && true) (((bif (decide (a1 = 0)) then false else true)) && true))
noncomputable def q127 (r : Int) : SV × List Blk × List Blk := (.int .i64 r, [], [])
noncomputable def g127 : List SV → List Blk → Option OpRes := fun vs bs => match vs, bs with
  | [.int .i64 a0, .int .i64 a1], [] => some (resOf 0 (q127 (m127 a0 a1)) [n127 a0 a1])
  | _, _ => none
noncomputable def c127 : Ctr := genC [.k, .k] g127
theorem p127 (a0 : Int) (a1 : Int) (hn : n127 a0 a1 = true) : exec Try.prog [] (fun _ => none) 8 (Try.f127.body.getD .skip) (initS Try.f127.ntmps [.int .i64 a0, .int .i64 a1] 0 (memOf [])) (retK Try.prog Try.f127.results.toList (outK 0 (List.range 0) [] (.k) fun v U N => (v, U, N) = (q127 (m127 a0 a1)))) :=
  propOf (x127 a0 a1 _) (cnd_of (fun h0 => cnd_need (and_l (cond_t h0 hn)) (leaf_of (l := (IntKind.i64.wrap (0 - (IntKind.i64.wrap ((IntKind.i64.wrap ((IntKind.i64.wrap ((IntKind.i64.wrap (0 - a0)) + a1)) - 1)).tdiv a1))))) (condT h0 rfl) rfl)) (fun h0 => cnd_need (and_l (cond_f h0 hn)) (leaf_of (l := (IntKind.i64.wrap (a0.tdiv a1))) (condF h0 rfl) rfl)))
theorem k127 : CtrOk Try.prog c127 127 := ctr_of tabOk_nil mix_ok 8 (fn := Try.f127) (c := (Try.f127.body.getD .skip)) (grs := []) (rh := .k) (Λ := (fun _ => none)) Try.func127 rfl (by kernel_rfl) noLam fun vs bs q h hn => by
  unfold g127 at h
  split at h <;> cases h
  exact ⟨_, rfl, p127 _ _ (hn _ (List.mem_singleton.2 rfl))⟩
/-! ### shotline/site.negated -/
theorem x134 (a0_0 : Int) (a0_1 : Int) (R : SV → List Blk → List Blk → Prop) : exec Try.prog [] (fun _ => none) 8 (Try.f134.body.getD .skip) (initS Try.f134.ntmps [.agg [.int .i64 a0_0, .int .i64 a0_1]] 0 (memOf [])) (retK Try.prog Try.f134.results.toList (outK 0 (List.range 0) [] (.k) fun v U N => R v U N)) =
  (R (.agg [.int .i64 (IntKind.i64.wrap (0 - a0_1)), .int .i64 (IntKind.i64.wrap (0 - a0_0))]) [] []) := by kernel_rfl
noncomputable def m134 (a0_0 : Int) (a0_1 : Int) : Int × Int :=
  ((IntKind.i64.wrap (0 - a0_1)), (IntKind.i64.wrap (0 - a0_0)))
noncomputable def q134 (r : Int × Int) : SV × List Blk × List Blk := (.agg [.int .i64 r.1, .int .i64 r.2], [], [])
noncomputable def g134 : List SV → List Blk → Option OpRes := fun vs bs => match vs, bs with
  | [.agg [.int .i64 a0_0, .int .i64 a0_1]], [] => some (resOf 0 (q134 (m134 a0_0 a0_1)) [])
  | _, _ => none
noncomputable def c134 : Ctr := genC [.k] g134
theorem p134 (a0_0 : Int) (a0_1 : Int) : exec Try.prog [] (fun _ => none) 8 (Try.f134.body.getD .skip) (initS Try.f134.ntmps [.agg [.int .i64 a0_0, .int .i64 a0_1]] 0 (memOf [])) (retK Try.prog Try.f134.results.toList (outK 0 (List.range 0) [] (.k) fun v U N => (v, U, N) = (q134 (m134 a0_0 a0_1)))) :=
  propOf (x134 a0_0 a0_1 _) (leaf_of (l := ((IntKind.i64.wrap (0 - a0_1)), (IntKind.i64.wrap (0 - a0_0)))) rfl rfl)
theorem k134 : CtrOk Try.prog c134 134 := ctr_of tabOk_nil mix_ok 8 (fn := Try.f134) (c := (Try.f134.body.getD .skip)) (grs := []) (rh := .k) (Λ := (fun _ => none)) Try.func134 rfl (by kernel_rfl) noLam fun vs bs q h _ => by
  unfold g134 at h
  split at h <;> cases h
  exact ⟨_, rfl, p134 _ _⟩
/-! ### shotline/shotlineref08.less -/
theorem x101 (a0_0 : Int) (a0_1 : Int) (R : SV → List Blk → List Blk → Prop) : exec Try.prog [] (fun _ => none) 8 (Try.f101.body.getD .skip) (initS Try.f101.ntmps [.agg [.int .i64 a0_0, .int .i64 a0_1]] 0 (memOf [])) (retK Try.prog Try.f101.results.toList (outK 0 (List.range 0) [] (.k) fun v U N => R v U N)) =
  (R (.agg [.int .i64 (IntKind.i64.wrap (0 - a0_1)), .int .i64 (IntKind.i64.wrap (0 - a0_0))]) [] []) := by kernel_rfl
noncomputable def m101 (a0_0 : Int) (a0_1 : Int) : Int × Int :=
  ((IntKind.i64.wrap (0 - a0_1)), (IntKind.i64.wrap (0 - a0_0)))
noncomputable def q101 (r : Int × Int) : SV × List Blk × List Blk := (.agg [.int .i64 r.1, .int .i64 r.2], [], [])
noncomputable def g101 : List SV → List Blk → Option OpRes := fun vs bs => match vs, bs with
  | [.agg [.int .i64 a0_0, .int .i64 a0_1]], [] => some (resOf 0 (q101 (m101 a0_0 a0_1)) [])
  | _, _ => none
noncomputable def c101 : Ctr := genC [.k] g101
theorem p101 (a0_0 : Int) (a0_1 : Int) : exec Try.prog [] (fun _ => none) 8 (Try.f101.body.getD .skip) (initS Try.f101.ntmps [.agg [.int .i64 a0_0, .int .i64 a0_1]] 0 (memOf [])) (retK Try.prog Try.f101.results.toList (outK 0 (List.range 0) [] (.k) fun v U N => (v, U, N) = (q101 (m101 a0_0 a0_1)))) :=
  propOf (x101 a0_0 a0_1 _) (leaf_of (l := ((IntKind.i64.wrap (0 - a0_1)), (IntKind.i64.wrap (0 - a0_0)))) rfl rfl)
theorem k101 : CtrOk Try.prog c101 101 := ctr_of tabOk_nil mix_ok 8 (fn := Try.f101) (c := (Try.f101.body.getD .skip)) (grs := []) (rh := .k) (Λ := (fun _ => none)) Try.func101 rfl (by kernel_rfl) noLam fun vs bs q h _ => by
  unfold g101 at h
  split at h <;> cases h
  exact ⟨_, rfl, p101 _ _⟩
/-! ### shotline/site.root -/
/-! #### loop 0 -/
noncomputable def l131_0 (t0 : Int) : Nat → Int → Int → Option (Int)
  | 0, _, _ => none
  | f + 1, t3, t4 => (cond ((decide (t4 < t3))) (cond ((bif (decide (t4 = 0)) then false else true)) (l131_0 t0 f t4 (IntKind.i64.wrap ((IntKind.i64.wrap (t4 + (IntKind.i64.wrap (t0.tdiv t4)))).tdiv 2))) none) (some t3))
noncomputable abbrev o131_0 (t0 : Int) (t3 : Int) (t4 : Int) : Option (Int) := l131_0 t0 (t0.toNat + t3.toNat + t4.toNat + 8) t3 t4
noncomputable def e131_0 (t0 : Int) (r : Int) (K : XR) : Prop := K (XE.exit 0) [.int .i64 r] []
noncomputable def g131_0 : LSum := fun s k => match czv 0 23 [0, 3, 4] 0 [] s with
  | some ([.int .i64 t0, .int .i64 t3, .int .i64 t4], []) => needs [(o131_0 t0 t3 t4).isSome] (e131_0 t0 ((o131_0 t0 t3 t4).getD default) fun e vs bs => inBlk 0 k e (mkSt 0 23 [3] vs 0 bs))
  | _ => False
theorem y131_0 (t0 : Int) (t3 : Int) (t4 : Int) (R : XR) : exec Try.prog [] (fun _ => none) 8 (unloop (bodyAt (Try.f131.body.getD .skip) 0)) (mkSt 0 23 [0, 3, 4] [.int .i64 t0, .int .i64 t3, .int .i64 t4] 0 []) (canonK 0 23 [0, 3, 4] [3] 0 [] R) =
  (cnd ((decide (t4 < t3)))
  (cnd ((bif (decide (t4 = 0)) then false else true))
   (R (XE.normal) [.int .i64 t0, .int .i64 t4, .int .i64 (IntKind.i64.wrap ((IntKind.i64.wrap (t4 + (IntKind.i64.wrap (t0.tdiv t4)))).tdiv 2))] [])
   False)
  (R (XE.exit 0) [.int .i64 t3] [])) := by kernel_rfl
theorem z131_0 : LOk Try.prog g131_0 (.block 0 (bodyAt (Try.f131.body.getD .skip) 0)) := by
  refine loop_blk (ι := Int × Int × Int) (L := []) (Λ := (fun _ => none)) (fuel := 8) (na := 0) (nt := 23) (nx := 0) (Lh := [0, 3, 4]) (Le := [3]) (gl := []) tabOk_nil mix_ok noLam rfl (fun f x K => GG default (e131_0 x.1) K (l131_0 x.1 f x.2.1 x.2.2)) (fun x => [.int .i64 x.1, .int .i64 x.2.1, .int .i64 x.2.2]) (fun x => []) (fun x K => gg_none) ?_ ?_
  · rintro f ⟨t0, t3, t4⟩ K hG
    have hG : GG default (e131_0 t0) K (cond ((decide (t4 < t3))) (cond ((bif (decide (t4 = 0)) then false else true)) (l131_0 t0 f t4 (IntKind.i64.wrap ((IntKind.i64.wrap (t4 + (IntKind.i64.wrap (t0.tdiv t4)))).tdiv 2))) none) (some t3)) := hG
    refine propOf (y131_0 t0 t3 t4 _) ?_
    exact cnd_gg2 hG (fun h0 => cnd_gg h0 fun h1 => ⟨(t0, t4, (IntKind.i64.wrap ((IntKind.i64.wrap (t4 + (IntKind.i64.wrap (t0.tdiv t4)))).tdiv 2))), rfl, rfl, h1⟩) (fun h0 => h0.2)
  · intro s k h
    unfold g131_0 at h
    split at h <;> try exact h.elim
    rename_i e1
    rw [needs_iff] at h
    exact ⟨_, e1, _, (_, _, _), rfl, rfl, h.1 _ (List.mem_singleton.2 rfl), h.2⟩
theorem x131 (a0 : Int) (R : SV → List Blk → List Blk → Prop) : exec Try.prog [] (lamOf [(0, g131_0)]) 8 (Try.f131.body.getD .skip) (initS Try.f131.ntmps [.int .i64 a0] 0 (memOf [])) (retK Try.prog Try.f131.results.toList (outK 0 (List.range 0) [] (.k) fun v U N => R v U N)) =
  (cnd ((decide (a0 < (2 : Int))))
  (R (.int .i64 a0) [] [])
  (cnd (((o131_0 a0 a0 (IntKind.i64.wrap ((IntKind.i64.wrap (a0 + 1)).tdiv 2))).isSome))
   (R (.int .i64 ((o131_0 a0 a0 (IntKind.i64.wrap ((IntKind.i64.wrap (a0 + 1)).tdiv 2))).getD default)) [] [])
   False)) := by kernel_rfl
noncomputable def m131 (a0 : Int) : Int :=
  (cond ((decide (a0 < (2 : Int)))) a0 ((o131_0 a0 a0 (IntKind.i64.wrap ((IntKind.i64.wrap (a0 + 1)).tdiv 2))).getD default))
noncomputable def n131 (a0 : Int) : Bool :=
  (cond ((decide (a0 < (2 : Int)))) true ((((o131_0 a0 a0 (IntKind.i64.wrap ((IntKind.i64.wrap (a0 + 1)).tdiv 2))).isSome)) && true))
noncomputable def q131 (r : Int) : SV × List Blk × List Blk := (.int .i64 r, [], [])
noncomputable def g131 : List SV → List Blk → Option OpRes := fun vs bs => match vs, bs with
  | [.int .i64 a0], [] => some (resOf 0 (q131 (m131 a0)) [n131 a0])
  | _, _ => none
noncomputable def c131 : Ctr := genC [.k] g131
theorem p131 (a0 : Int) (hn : n131 a0 = true) : exec Try.prog [] (lamOf [(0, g131_0)]) 8 (Try.f131.body.getD .skip) (initS Try.f131.ntmps [.int .i64 a0] 0 (memOf [])) (retK Try.prog Try.f131.results.toList (outK 0 (List.range 0) [] (.k) fun v U N => (v, U, N) = (q131 (m131 a0)))) :=
  propOf (x131 a0 _) (cnd_of (fun h0 => leaf_of (l := a0) (condT h0 rfl) rfl) (fun h0 => cnd_need (and_l (cond_f h0 hn)) (leaf_of (l := ((o131_0 a0 a0 (IntKind.i64.wrap ((IntKind.i64.wrap (a0 + 1)).tdiv 2))).getD default)) (condF h0 rfl) rfl)))
theorem k131 : CtrOk Try.prog c131 131 := ctr_of tabOk_nil mix_ok 8 (fn := Try.f131) (c := (Try.f131.body.getD .skip)) (grs := []) (rh := .k) (Λ := (lamOf [(0, g131_0)])) Try.func131 rfl (by kernel_rfl) (lam_of rfl (lams_cons z131_0 lams_nil)) fun vs bs q h hn => by
  unfold g131 at h
  split at h <;> cases h
  exact ⟨_, rfl, p131 _ (hn _ (List.mem_singleton.2 rfl))⟩
/-! ### shotline/shotlineref08.IsMinute -/
theorem x22 (a0 : Int) (R : SV → List Blk → List Blk → Prop) : exec Try.prog [(29, c29)] (fun _ => none) 8 (Try.f22.body.getD .skip) (initS Try.f22.ntmps [.int .i64 a0] 0 (memOf [])) (retK Try.prog Try.f22.results.toList (outK 0 (List.range 0) [] (.k) fun v U N => R v U N)) =
  (R (.bool (m29 a0 0 1000000)) [] []) := by kernel_rfl
noncomputable def m22 (a0 : Int) : Bool :=
  (m29 a0 0 1000000)
noncomputable def q22 (r : Bool) : SV × List Blk × List Blk := (.bool r, [], [])
noncomputable def g22 : List SV → List Blk → Option OpRes := fun vs bs => match vs, bs with
  | [.int .i64 a0], [] => some (resOf 0 (q22 (m22 a0)) [])
  | _, _ => none
noncomputable def c22 : Ctr := genC [.k] g22
theorem p22 (a0 : Int) : exec Try.prog [(29, c29)] (fun _ => none) 8 (Try.f22.body.getD .skip) (initS Try.f22.ntmps [.int .i64 a0] 0 (memOf [])) (retK Try.prog Try.f22.results.toList (outK 0 (List.range 0) [] (.k) fun v U N => (v, U, N) = (q22 (m22 a0)))) :=
  propOf (x22 a0 _) (leaf_of (l := (m29 a0 0 1000000)) rfl rfl)
theorem k22 : CtrOk Try.prog c22 22 := ctr_of (tabOk_cons k29 tabOk_nil) mix_ok 8 (fn := Try.f22) (c := (Try.f22.body.getD .skip)) (grs := []) (rh := .k) (Λ := (fun _ => none)) Try.func22 rfl (by kernel_rfl) noLam fun vs bs q h _ => by
  unfold g22 at h
  split at h <;> cases h
  exact ⟨_, rfl, p22 _⟩
/-! ### shotline/site.isMinute -/
theorem x80 (a0 : Int) (R : SV → List Blk → List Blk → Prop) : exec Try.prog [(96, c96)] (fun _ => none) 8 (Try.f80.body.getD .skip) (initS Try.f80.ntmps [.int .i64 a0] 0 (memOf [])) (retK Try.prog Try.f80.results.toList (outK 0 (List.range 0) [] (.k) fun v U N => R v U N)) =
  (R (.bool (m96 a0 0 1000000)) [] []) := by kernel_rfl
noncomputable def m80 (a0 : Int) : Bool :=
  (m96 a0 0 1000000)
noncomputable def q80 (r : Bool) : SV × List Blk × List Blk := (.bool r, [], [])
noncomputable def g80 : List SV → List Blk → Option OpRes := fun vs bs => match vs, bs with
  | [.int .i64 a0], [] => some (resOf 0 (q80 (m80 a0)) [])
  | _, _ => none
noncomputable def c80 : Ctr := genC [.k] g80
theorem p80 (a0 : Int) : exec Try.prog [(96, c96)] (fun _ => none) 8 (Try.f80.body.getD .skip) (initS Try.f80.ntmps [.int .i64 a0] 0 (memOf [])) (retK Try.prog Try.f80.results.toList (outK 0 (List.range 0) [] (.k) fun v U N => (v, U, N) = (q80 (m80 a0)))) :=
  propOf (x80 a0 _) (leaf_of (l := (m96 a0 0 1000000)) rfl rfl)
theorem k80 : CtrOk Try.prog c80 80 := ctr_of (tabOk_cons k96 tabOk_nil) mix_ok 8 (fn := Try.f80) (c := (Try.f80.body.getD .skip)) (grs := []) (rh := .k) (Λ := (fun _ => none)) Try.func80 rfl (by kernel_rfl) noLam fun vs bs q h _ => by
  unfold g80 at h
  split at h <;> cases h
  exact ⟨_, rfl, p80 _⟩
/-! ### shotline/site.isWave -/
theorem x102 (a0_0 : Int) (a0_1 : Int) (a0_2 : Int) (R : SV → List Blk → List Blk → Prop) : exec Try.prog [(96, c96)] (fun _ => none) 8 (Try.f102.body.getD .skip) (initS Try.f102.ntmps [.agg [.int .i64 a0_0, .int .i64 a0_1, .int .i64 a0_2]] 0 (memOf [])) (retK Try.prog Try.f102.results.toList (outK 0 (List.range 0) [] (.k) fun v U N => R v U N)) =
  (R (.bool (bif (bif (m96 a0_0 0 100000) then (m96 a0_1 1 100000) else false) then (m96 a0_2 0 4095) else false)) [] []) := by kernel_rfl
noncomputable def m102 (a0_0 : Int) (a0_1 : Int) (a0_2 : Int) : Bool :=
  (bif (bif (m96 a0_0 0 100000) then (m96 a0_1 1 100000) else false) then (m96 a0_2 0 4095) else false)
noncomputable def q102 (r : Bool) : SV × List Blk × List Blk := (.bool r, [], [])
noncomputable def g102 : List SV → List Blk → Option OpRes := fun vs bs => match vs, bs with
  | [.agg [.int .i64 a0_0, .int .i64 a0_1, .int .i64 a0_2]], [] => some (resOf 0 (q102 (m102 a0_0 a0_1 a0_2)) [])
  | _, _ => none
noncomputable def c102 : Ctr := genC [.k] g102
theorem p102 (a0_0 : Int) (a0_1 : Int) (a0_2 : Int) : exec Try.prog [(96, c96)] (fun _ => none) 8 (Try.f102.body.getD .skip) (initS Try.f102.ntmps [.agg [.int .i64 a0_0, .int .i64 a0_1, .int .i64 a0_2]] 0 (memOf [])) (retK Try.prog Try.f102.results.toList (outK 0 (List.range 0) [] (.k) fun v U N => (v, U, N) = (q102 (m102 a0_0 a0_1 a0_2)))) :=
  propOf (x102 a0_0 a0_1 a0_2 _) (leaf_of (l := (bif (bif (m96 a0_0 0 100000) then (m96 a0_1 1 100000) else false) then (m96 a0_2 0 4095) else false)) rfl rfl)
theorem k102 : CtrOk Try.prog c102 102 := ctr_of (tabOk_cons k96 tabOk_nil) mix_ok 8 (fn := Try.f102) (c := (Try.f102.body.getD .skip)) (grs := []) (rh := .k) (Λ := (fun _ => none)) Try.func102 rfl (by kernel_rfl) noLam fun vs bs q h _ => by
  unfold g102 at h
  split at h <;> cases h
  exact ⟨_, rfl, p102 _ _ _⟩
/-! ### shotline/shotlinebase.Ceil -/
theorem x84 (a0 : Int) (a1 : Int) (R : SV → List Blk → List Blk → Prop) : exec Try.prog [(83, c83)] (fun _ => none) 8 (Try.f84.body.getD .skip) (initS Try.f84.ntmps [.int .i64 a0, .int .i64 a1] 0 (memOf [])) (retK Try.prog Try.f84.results.toList (outK 0 (List.range 0) [] (.k) fun v U N => R v U N)) =
  (cnd ((n83 (IntKind.i64.wrap (0 - a0)) a1))
  (R (.int .i64 (IntKind.i64.wrap (0 - (m83 (IntKind.i64.wrap (0 - a0)) a1)))) [] [])
  False) := by kernel_rfl
noncomputable def m84 (a0 : Int) (a1 : Int) : Int :=
  (IntKind.i64.wrap (0 - (m83 (IntKind.i64.wrap (0 - a0)) a1)))
noncomputable def n84 (a0 : Int) (a1 : Int) : Bool :=
  (((n83 (IntKind.i64.wrap (0 - a0)) a1)) && true)
noncomputable def q84 (r : Int) : SV × List Blk × List Blk := (.int .i64 r, [], [])
noncomputable def g84 : List SV → List Blk → Option OpRes := fun vs bs => match vs, bs with
  | [.int .i64 a0, .int .i64 a1], [] => some (resOf 0 (q84 (m84 a0 a1)) [n84 a0 a1])
  | _, _ => none
noncomputable def c84 : Ctr := genC [.k, .k] g84
theorem p84 (a0 : Int) (a1 : Int) (hn : n84 a0 a1 = true) : exec Try.prog [(83, c83)] (fun _ => none) 8 (Try.f84.body.getD .skip) (initS Try.f84.ntmps [.int .i64 a0, .int .i64 a1] 0 (memOf [])) (retK Try.prog Try.f84.results.toList (outK 0 (List.range 0) [] (.k) fun v U N => (v, U, N) = (q84 (m84 a0 a1)))) :=
  propOf (x84 a0 a1 _) (cnd_need (and_l hn) (leaf_of (l := (IntKind.i64.wrap (0 - (m83 (IntKind.i64.wrap (0 - a0)) a1)))) rfl rfl))
theorem k84 : CtrOk Try.prog c84 84 := ctr_of (tabOk_cons k83 tabOk_nil) mix_ok 8 (fn := Try.f84) (c := (Try.f84.body.getD .skip)) (grs := []) (rh := .k) (Λ := (fun _ => none)) Try.func84 rfl (by kernel_rfl) noLam fun vs bs q h hn => by
  unfold g84 at h
  split at h <;> cases h
  exact ⟨_, rfl, p84 _ _ (hn _ (List.mem_singleton.2 rfl))⟩
/-! ### shotline/site.up -/
theorem x128 (a0 : Int) (a1 : Int) (R : SV → List Blk → List Blk → Prop) : exec Try.prog [(127, c127)] (fun _ => none) 8 (Try.f128.body.getD .skip) (initS Try.f128.ntmps [.int .i64 a0, .int .i64 a1] 0 (memOf [])) (retK Try.prog Try.f128.results.toList (outK 0 (List.range 0) [] (.k) fun v U N => R v U N)) =
  (cnd ((n127 (IntKind.i64.wrap (0 - a0)) a1))
  (R (.int .i64 (IntKind.i64.wrap (0 - (m127 (IntKind.i64.wrap (0 - a0)) a1)))) [] [])
  False) := by kernel_rfl
noncomputable def m128 (a0 : Int) (a1 : Int) : Int :=
  (IntKind.i64.wrap (0 - (m127 (IntKind.i64.wrap (0 - a0)) a1)))
noncomputable def n128 (a0 : Int) (a1 : Int) : Bool :=
  (((n127 (IntKind.i64.wrap (0 - a0)) a1)) && true)
noncomputable def q128 (r : Int) : SV × List Blk × List Blk := (.int .i64 r, [], [])
noncomputable def g128 : List SV → List Blk → Option OpRes := fun vs bs => match vs, bs with
  | [.int .i64 a0, .int .i64 a1], [] => some (resOf 0 (q128 (m128 a0 a1)) [n128 a0 a1])
  | _, _ => none
noncomputable def c128 : Ctr := genC [.k, .k] g128
theorem p128 (a0 : Int) (a1 : Int) (hn : n128 a0 a1 = true) : exec Try.prog [(127, c127)] (fun _ => none) 8 (Try.f128.body.getD .skip) (initS Try.f128.ntmps [.int .i64 a0, .int .i64 a1] 0 (memOf [])) (retK Try.prog Try.f128.results.toList (outK 0 (List.range 0) [] (.k) fun v U N => (v, U, N) = (q128 (m128 a0 a1)))) :=
  propOf (x128 a0 a1 _) (cnd_need (and_l hn) (leaf_of (l := (IntKind.i64.wrap (0 - (m127 (IntKind.i64.wrap (0 - a0)) a1)))) rfl rfl))
theorem k128 : CtrOk Try.prog c128 128 := ctr_of (tabOk_cons k127 tabOk_nil) mix_ok 8 (fn := Try.f128) (c := (Try.f128.body.getD .skip)) (grs := []) (rh := .k) (Λ := (fun _ => none)) Try.func128 rfl (by kernel_rfl) noLam fun vs bs q h hn => by
  unfold g128 at h
  split at h <;> cases h
  exact ⟨_, rfl, p128 _ _ (hn _ (List.mem_singleton.2 rfl))⟩
/-! ### shotline/site.rootUp -/
theorem x132 (a0 : Int) (R : SV → List Blk → List Blk → Prop) : exec Try.prog [(131, c131)] (fun _ => none) 8 (Try.f132.body.getD .skip) (initS Try.f132.ntmps [.int .i64 a0] 0 (memOf [])) (retK Try.prog Try.f132.results.toList (outK 0 (List.range 0) [] (.k) fun v U N => R v U N)) =
  (cnd ((n131 a0))
  (cnd ((decide ((IntKind.i64.wrap ((m131 a0) * (m131 a0))) < a0)))
   (R (.int .i64 (IntKind.i64.wrap ((m131 a0) + 1))) [] [])
   (R (.int .i64 (m131 a0)) [] []))
  False) := by kernel_rfl
noncomputable def m132 (a0 : Int) : Int :=
  (cond ((decide ((IntKind.i64.wrap ((m131 a0) * (m131 a0))) < a0))) (IntKind.i64.wrap ((m131 a0) + 1)) (m131 a0))
noncomputable def n132 (a0 : Int) : Bool :=
  (((n131 a0)) && true)
noncomputable def q132 (r : Int) : SV × List Blk × List Blk := (.int .i64 r, [], [])
noncomputable def g132 : List SV → List Blk → Option OpRes := fun vs bs => match vs, bs with
  | [.int .i64 a0], [] => some (resOf 0 (q132 (m132 a0)) [n132 a0])
  | _, _ => none
noncomputable def c132 : Ctr := genC [.k] g132
theorem p132 (a0 : Int) (hn : n132 a0 = true) : exec Try.prog [(131, c131)] (fun _ => none) 8 (Try.f132.body.getD .skip) (initS Try.f132.ntmps [.int .i64 a0] 0 (memOf [])) (retK Try.prog Try.f132.results.toList (outK 0 (List.range 0) [] (.k) fun v U N => (v, U, N) = (q132 (m132 a0)))) :=
  propOf (x132 a0 _) (cnd_need (and_l hn) (cnd_of (fun h0 => leaf_of (l := (IntKind.i64.wrap ((m131 a0) + 1))) (condT h0 rfl) rfl) (fun h0 => leaf_of (l := (m131 a0)) (condF h0 rfl) rfl)))
theorem k132 : CtrOk Try.prog c132 132 := ctr_of (tabOk_cons k131 tabOk_nil) mix_ok 8 (fn := Try.f132) (c := (Try.f132.body.getD .skip)) (grs := []) (rh := .k) (Λ := (fun _ => none)) Try.func132 rfl (by kernel_rfl) noLam fun vs bs q h hn => by
  unfold g132 at h
  split at h <;> cases h
  exact ⟨_, rfl, p132 _ (hn _ (List.mem_singleton.2 rfl))⟩
/-! ### shotline/shotlineref08.CheckWave -/
theorem x38 (a0_0 : Int) (a0_1 : Int) (a0_2 : Int) (R : SV → List Blk → List Blk → Prop) : exec Try.prog [(29, c29)] (fun _ => none) 8 (Try.f38.body.getD .skip) (initS Try.f38.ntmps [.agg [.int .i64 a0_0, .int .i64 a0_1, .int .i64 a0_2]] 0 (memOf [])) (retK Try.prog Try.f38.results.toList (outK 0 (List.range 0) [] (.k) fun v U N => R v U N)) =
  (cnd ((bif (bif (bif (m29 a0_0 0 100000) then false else true) then true else (bif (m29 a0_1 1 100000) then false else true)) then true else (bif (m29 a0_2 0 4095) then false else true)))
  (R (.int .i64 2) [] [])
  (R (.int .i64 0) [] [])) := by kernel_rfl
noncomputable def m38 (a0_0 : Int) (a0_1 : Int) (a0_2 : Int) : Int :=
  (cond ((bif (bif (bif (m29 a0_0 0 100000) then false else true) then true else (bif (m29 a0_1 1 100000) then false else true)) then true else (bif (m29 a0_2 0 4095) then false else true))) 2 0)
noncomputable def q38 (r : Int) : SV × List Blk × List Blk := (.int .i64 r, [], [])
noncomputable def g38 : List SV → List Blk → Option OpRes := fun vs bs => match vs, bs with
  | [.agg [.int .i64 a0_0, .int .i64 a0_1, .int .i64 a0_2]], [] => some (resOf 0 (q38 (m38 a0_0 a0_1 a0_2)) [])
  | _, _ => none
noncomputable def c38 : Ctr := genC [.k] g38
theorem p38 (a0_0 : Int) (a0_1 : Int) (a0_2 : Int) : exec Try.prog [(29, c29)] (fun _ => none) 8 (Try.f38.body.getD .skip) (initS Try.f38.ntmps [.agg [.int .i64 a0_0, .int .i64 a0_1, .int .i64 a0_2]] 0 (memOf [])) (retK Try.prog Try.f38.results.toList (outK 0 (List.range 0) [] (.k) fun v U N => (v, U, N) = (q38 (m38 a0_0 a0_1 a0_2)))) :=
  propOf (x38 a0_0 a0_1 a0_2 _) (cnd_of (fun h0 => leaf_of (l := 2) (condT h0 rfl) rfl) (fun h0 => leaf_of (l := 0) (condF h0 rfl) rfl))
theorem k38 : CtrOk Try.prog c38 38 := ctr_of (tabOk_cons k29 tabOk_nil) mix_ok 8 (fn := Try.f38) (c := (Try.f38.body.getD .skip)) (grs := []) (rh := .k) (Λ := (fun _ => none)) Try.func38 rfl (by kernel_rfl) noLam fun vs bs q h _ => by
  unfold g38 at h
  split at h <;> cases h
  exact ⟨_, rfl, p38 _ _ _⟩
/-! ### shotline/shotlinebase.Root -/
/-! #### loop 0 -/
noncomputable def l145_0 (t0 : Int) : Nat → Int → Int → Option (Int)
  | 0, _, _ => none
  | f + 1, t3, t4 => (cond ((decide ((0 : Int) < t4))) (cond ((decide ((IntKind.i64.wrap ((IntKind.i64.wrap (t3 + t4)) * (IntKind.i64.wrap (t3 + t4)))) ≤ t0))) (l145_0 t0 f (IntKind.i64.wrap (t3 + t4)) (IntKind.i64.wrap (t4.tdiv 2))) (l145_0 t0 f t3 (IntKind.i64.wrap (t4.tdiv 2)))) (some t3))
noncomputable abbrev o145_0 (t0 : Int) (t3 : Int) (t4 : Int) : Option (Int) := l145_0 t0 (40 + t0.toNat) t3 t4
noncomputable def e145_0 (t0 : Int) (r : Int) (K : XR) : Prop := K (XE.exit 0) [.int .i64 r] []
noncomputable def g145_0 : LSum := fun s k => match czv 0 22 [0, 3, 4] 0 [] s with
  | some ([.int .i64 t0, .int .i64 t3, .int .i64 t4], []) => needs [(o145_0 t0 t3 t4).isSome] (e145_0 t0 ((o145_0 t0 t3 t4).getD default) fun e vs bs => inBlk 0 k e (mkSt 0 22 [3] vs 0 bs))
  | _ => False
theorem y145_0 (t0 : Int) (t3 : Int) (t4 : Int) (R : XR) : exec Try.prog [] (fun _ => none) 8 (unloop (bodyAt (Try.f145.body.getD .skip) 0)) (mkSt 0 22 [0, 3, 4] [.int .i64 t0, .int .i64 t3, .int .i64 t4] 0 []) (canonK 0 22 [0, 3, 4] [3] 0 [] R) =
  (cnd ((decide ((0 : Int) < t4)))
  (cnd ((decide ((IntKind.i64.wrap ((IntKind.i64.wrap (t3 + t4)) * (IntKind.i64.wrap (t3 + t4)))) ≤ t0)))
   (R (XE.normal) [.int .i64 t0, .int .i64 (IntKind.i64.wrap (t3 + t4)), .int .i64 (IntKind.i64.wrap (t4.tdiv 2))] [])
   (R (XE.normal) [.int .i64 t0, .int .i64 t3, .int .i64 (IntKind.i64.wrap (t4.tdiv 2))] []))
  (R (XE.exit 0) [.int .i64 t3] [])) := by kernel_rfl
theorem z145_0 : LOk Try.prog g145_0 (.block 0 (bodyAt (Try.f145.body.getD .skip) 0)) := by
  refine loop_blk (ι := Int × Int × Int) (L := []) (Λ := (fun _ => none)) (fuel := 8) (na := 0) (nt := 22) (nx := 0) (Lh := [0, 3, 4]) (Le := [3]) (gl := []) tabOk_nil mix_ok noLam rfl (fun f x K => GG default (e145_0 x.1) K (l145_0 x.1 f x.2.1 x.2.2)) (fun x => [.int .i64 x.1, .int .i64 x.2.1, .int .i64 x.2.2]) (fun x => []) (fun x K => gg_none) ?_ ?_
  · rintro f ⟨t0, t3, t4⟩ K hG
    have hG : GG default (e145_0 t0) K (cond ((decide ((0 : Int) < t4))) (cond ((decide ((IntKind.i64.wrap ((IntKind.i64.wrap (t3 + t4)) * (IntKind.i64.wrap (t3 + t4)))) ≤ t0))) (l145_0 t0 f (IntKind.i64.wrap (t3 + t4)) (IntKind.i64.wrap (t4.tdiv 2))) (l145_0 t0 f t3 (IntKind.i64.wrap (t4.tdiv 2)))) (some t3)) := hG
    refine propOf (y145_0 t0 t3 t4 _) ?_
    exact cnd_gg2 hG (fun h0 => cnd_gg2 h0 (fun h1 => ⟨(t0, (IntKind.i64.wrap (t3 + t4)), (IntKind.i64.wrap (t4.tdiv 2))), rfl, rfl, h1⟩) (fun h1 => ⟨(t0, t3, (IntKind.i64.wrap (t4.tdiv 2))), rfl, rfl, h1⟩)) (fun h0 => h0.2)
  · intro s k h
    unfold g145_0 at h
    split at h <;> try exact h.elim
    rename_i e1
    rw [needs_iff] at h
    exact ⟨_, e1, _, (_, _, _), rfl, rfl, h.1 _ (List.mem_singleton.2 rfl), h.2⟩
theorem x145 (a0 : Int) (R : SV → List Blk → List Blk → Prop) : exec Try.prog [] (lamOf [(0, g145_0)]) 8 (Try.f145.body.getD .skip) (initS Try.f145.ntmps [.int .i64 a0] 0 (memOf [])) (retK Try.prog Try.f145.results.toList (outK 0 (List.range 0) [] (.k) fun v U N => R v U N)) =
  (cnd (((o145_0 a0 0 1073741824).isSome))
  (R (.int .i64 ((o145_0 a0 0 1073741824).getD default)) [] [])
  False) := by kernel_rfl
noncomputable def m145 (a0 : Int) : Int :=
  ((o145_0 a0 0 1073741824).getD default)
noncomputable def n145 (a0 : Int) : Bool :=
  ((((o145_0 a0 0 1073741824).isSome)) && true)
noncomputable def q145 (r : Int) : SV × List Blk × List Blk := (.int .i64 r, [], [])
noncomputable def g145 : List SV → List Blk → Option OpRes := fun vs bs => match vs, bs with
  | [.int .i64 a0], [] => some (resOf 0 (q145 (m145 a0)) [n145 a0])
  | _, _ => none
noncomputable def c145 : Ctr := genC [.k] g145
theorem p145 (a0 : Int) (hn : n145 a0 = true) : exec Try.prog [] (lamOf [(0, g145_0)]) 8 (Try.f145.body.getD .skip) (initS Try.f145.ntmps [.int .i64 a0] 0 (memOf [])) (retK Try.prog Try.f145.results.toList (outK 0 (List.range 0) [] (.k) fun v U N => (v, U, N) = (q145 (m145 a0)))) :=
  propOf (x145 a0 _) (cnd_need (and_l hn) (leaf_of (l := ((o145_0 a0 0 1073741824).getD default)) rfl rfl))
theorem k145 : CtrOk Try.prog c145 145 := ctr_of tabOk_nil mix_ok 8 (fn := Try.f145) (c := (Try.f145.body.getD .skip)) (grs := []) (rh := .k) (Λ := (lamOf [(0, g145_0)])) Try.func145 rfl (by kernel_rfl) (lam_of rfl (lams_cons z145_0 lams_nil)) fun vs bs q h hn => by
  unfold g145 at h
  split at h <;> cases h
  exact ⟨_, rfl, p145 _ (hn _ (List.mem_singleton.2 rfl))⟩
/-! ### shotline/site.angle -/
theorem x103 (a0_0 : Int) (a0_1 : Int) (a0_2 : Int) (a1 : Int) (R : SV → List Blk → List Blk → Prop) : exec Try.prog [(127, c127), (128, c128)] (fun _ => none) 8 (Try.f103.body.getD .skip) (initS Try.f103.ntmps [.agg [.int .i64 a0_0, .int .i64 a0_1, .int .i64 a0_2], .int .i64 a1] 0 (memOf [])) (retK Try.prog Try.f103.results.toList (outK 0 (List.range 0) [] (.k) fun v U N => R v U N)) =
  (cnd ((bif (decide ((IntKind.i64.wrap (4096 * a0_1)) = 0)) then false else true))
  (cnd ((n127 ((IntKind.i64.wrap ((IntKind.i64.wrap (a0_2 * a0_1)) + (IntKind.i64.wrap (4096 * a1)))).tmod (IntKind.i64.wrap (4096 * a0_1))) a0_1))
   (cnd ((n128 ((IntKind.i64.wrap ((IntKind.i64.wrap (a0_2 * a0_1)) + (IntKind.i64.wrap (4096 * a1)))).tmod (IntKind.i64.wrap (4096 * a0_1))) a0_1))
    (R (.agg [.int .i64 (m127 ((IntKind.i64.wrap ((IntKind.i64.wrap (a0_2 * a0_1)) + (IntKind.i64.wrap (4096 * a1)))).tmod (IntKind.i64.wrap (4096 * a0_1))) a0_1), .int .i64 (m128 ((IntKind.i64.wrap ((IntKind.i64.wrap (a0_2 * a0_1)) + (IntKind.i64.wrap (4096 * a1)))).tmod (IntKind.i64.wrap (4096 * a0_1))) a0_1)]) [] [])
    False)
   False)
  False) := by kernel_rfl
noncomputable def m103 (a0_0 : Int) (a0_1 : Int) (a0_2 : Int) (a1 : Int) : Int × Int :=
  ((m127 ((IntKind.i64.wrap ((IntKind.i64.wrap (a0_2 * a0_1)) + (IntKind.i64.wrap (4096 * a1)))).tmod (IntKind.i64.wrap (4096 * a0_1))) a0_1), (m128 ((IntKind.i64.wrap ((IntKind.i64.wrap (a0_2 * a0_1)) + (IntKind.i64.wrap (4096 * a1)))).tmod (IntKind.i64.wrap (4096 * a0_1))) a0_1))
noncomputable def n103 (a0_0 : Int) (a0_1 : Int) (a0_2 : Int) (a1 : Int) : Bool :=
  (((bif (decide ((IntKind.i64.wrap (4096 * a0_1)) = 0)) then false else true)) && (((n127 ((IntKind.i64.wrap ((IntKind.i64.wrap (a0_2 * a0_1)) + (IntKind.i64.wrap (4096 * a1)))).tmod (IntKind.i64.wrap (4096 * a0_1))) a0_1)) && (((n128 ((IntKind.i64.wrap ((IntKind.i64.wrap (a0_2 * a0_1)) + (IntKind.i64.wrap (4096 * a1)))).tmod (IntKind.i64.wrap (4096 * a0_1))) a0_1)) && true)))
noncomputable def q103 (r : Int × Int) : SV × List Blk × List Blk := (.agg [.int .i64 r.1, .int .i64 r.2], [], [])
noncomputable def g103 : List SV → List Blk → Option OpRes := fun vs bs => match vs, bs with
  | [.agg [.int .i64 a0_0, .int .i64 a0_1, .int .i64 a0_2], .int .i64 a1], [] => some (resOf 0 (q103 (m103 a0_0 a0_1 a0_2 a1)) [n103 a0_0 a0_1 a0_2 a1])
  | _, _ => none
noncomputable def c103 : Ctr := genC [.k, .k] g103
theorem p103 (a0_0 : Int) (a0_1 : Int) (a0_2 : Int) (a1 : Int) (hn : n103 a0_0 a0_1 a0_2 a1 = true) : exec Try.prog [(127, c127), (128, c128)] (fun _ => none) 8 (Try.f103.body.getD .skip) (initS Try.f103.ntmps [.agg [.int .i64 a0_0, .int .i64 a0_1, .int .i64 a0_2], .int .i64 a1] 0 (memOf [])) (retK Try.prog Try.f103.results.toList (outK 0 (List.range 0) [] (.k) fun v U N => (v, U, N) = (q103 (m103 a0_0 a0_1 a0_2 a1)))) :=
  propOf (x103 a0_0 a0_1 a0_2 a1 _) (cnd_need (and_l hn) (cnd_need (and_l (and_r hn)) (cnd_need (and_l (and_r (and_r hn))) (leaf_of (l := ((m127 ((IntKind.i64.wrap ((IntKind.i64.wrap (a0_2 * a0_1)) + (IntKind.i64.wrap (4096 * a1)))).tmod (IntKind.i64.wrap (4096 * a0_1))) a0_1), (m128 ((IntKind.i64.wrap ((IntKind.i64.wrap (a0_2 * a0_1)) + (IntKind.i64.wrap (4096 * a1)))).tmod (IntKind.i64.wrap (4096 * a0_1))) a0_1))) rfl rfl))))
theorem k103 : CtrOk Try.prog c103 103 := ctr_of (tabOk_cons k127 (tabOk_cons k128 tabOk_nil)) mix_ok 8 (fn := Try.f103) (c := (Try.f103.body.getD .skip)) (grs := []) (rh := .k) (Λ := (fun _ => none)) Try.func103 rfl (by kernel_rfl) noLam fun vs bs q h hn => by
  unfold g103 at h
  split at h <;> cases h
  exact ⟨_, rfl, p103 _ _ _ _ (hn _ (List.mem_singleton.2 rfl))⟩
/-! ### shotline/shotlineref08.AngleAt -/
theorem x39 (a0_0 : Int) (a0_1 : Int) (a0_2 : Int) (a1 : Int) (R : SV → List Blk → List Blk → Prop) : exec Try.prog [(83, c83), (84, c84)] (fun _ => none) 8 (Try.f39.body.getD .skip) (initS Try.f39.ntmps [.agg [.int .i64 a0_0, .int .i64 a0_1, .int .i64 a0_2], .int .i64 a1] 0 (memOf [])) (retK Try.prog Try.f39.results.toList (outK 0 (List.range 0) [] (.k) fun v U N => R v U N)) =
  (cnd ((n83 (IntKind.i64.wrap (4096 * a1)) a0_1))
  (cnd ((n84 (IntKind.i64.wrap (4096 * a1)) a0_1))
   (cnd ((n83 (IntKind.i64.wrap (a0_2 + (m83 (IntKind.i64.wrap (4096 * a1)) a0_1))) 4096))
    (R (.agg [.int .i64 (IntKind.i64.wrap ((IntKind.i64.wrap (a0_2 + (m83 (IntKind.i64.wrap (4096 * a1)) a0_1))) - (IntKind.i64.wrap ((m83 (IntKind.i64.wrap (a0_2 + (m83 (IntKind.i64.wrap (4096 * a1)) a0_1))) 4096) * 4096)))), .int .i64 (IntKind.i64.wrap ((IntKind.i64.wrap (a0_2 + (m84 (IntKind.i64.wrap (4096 * a1)) a0_1))) - (IntKind.i64.wrap ((m83 (IntKind.i64.wrap (a0_2 + (m83 (IntKind.i64.wrap (4096 * a1)) a0_1))) 4096) * 4096))))]) [] [])
    False)
   False)
  False) := by kernel_rfl
noncomputable def m39 (a0_0 : Int) (a0_1 : Int) (a0_2 : Int) (a1 : Int) : Int × Int :=
  ((IntKind.i64.wrap ((IntKind.i64.wrap (a0_2 + (m83 (IntKind.i64.wrap (4096 * a1)) a0_1))) - (IntKind.i64.wrap ((m83 (IntKind.i64.wrap (a0_2 + (m83 (IntKind.i64.wrap (4096 * a1)) a0_1))) 4096) * 4096)))), (IntKind.i64.wrap ((IntKind.i64.wrap (a0_2 + (m84 (IntKind.i64.wrap (4096 * a1)) a0_1))) - (IntKind.i64.wrap ((m83 (IntKind.i64.wrap (a0_2 + (m83 (IntKind.i64.wrap (4096 * a1)) a0_1))) 4096) * 4096)))))
noncomputable def n39 (a0_0 : Int) (a0_1 : Int) (a0_2 : Int) (a1 : Int) : Bool :=
  (((n83 (IntKind.i64.wrap (4096 * a1)) a0_1)) && (((n84 (IntKind.i64.wrap (4096 * a1)) a0_1)) && (((n83 (IntKind.i64.wrap (a0_2 + (m83 (IntKind.i64.wrap (4096 * a1)) a0_1))) 4096)) && true)))
noncomputable def q39 (r : Int × Int) : SV × List Blk × List Blk := (.agg [.int .i64 r.1, .int .i64 r.2], [], [])
noncomputable def g39 : List SV → List Blk → Option OpRes := fun vs bs => match vs, bs with
  | [.agg [.int .i64 a0_0, .int .i64 a0_1, .int .i64 a0_2], .int .i64 a1], [] => some (resOf 0 (q39 (m39 a0_0 a0_1 a0_2 a1)) [n39 a0_0 a0_1 a0_2 a1])
  | _, _ => none
noncomputable def c39 : Ctr := genC [.k, .k] g39
theorem p39 (a0_0 : Int) (a0_1 : Int) (a0_2 : Int) (a1 : Int) (hn : n39 a0_0 a0_1 a0_2 a1 = true) : exec Try.prog [(83, c83), (84, c84)] (fun _ => none) 8 (Try.f39.body.getD .skip) (initS Try.f39.ntmps [.agg [.int .i64 a0_0, .int .i64 a0_1, .int .i64 a0_2], .int .i64 a1] 0 (memOf [])) (retK Try.prog Try.f39.results.toList (outK 0 (List.range 0) [] (.k) fun v U N => (v, U, N) = (q39 (m39 a0_0 a0_1 a0_2 a1)))) :=
  propOf (x39 a0_0 a0_1 a0_2 a1 _) (cnd_need (and_l hn) (cnd_need (and_l (and_r hn)) (cnd_need (and_l (and_r (and_r hn))) (leaf_of (l := ((IntKind.i64.wrap ((IntKind.i64.wrap (a0_2 + (m83 (IntKind.i64.wrap (4096 * a1)) a0_1))) - (IntKind.i64.wrap ((m83 (IntKind.i64.wrap (a0_2 + (m83 (IntKind.i64.wrap (4096 * a1)) a0_1))) 4096) * 4096)))), (IntKind.i64.wrap ((IntKind.i64.wrap (a0_2 + (m84 (IntKind.i64.wrap (4096 * a1)) a0_1))) - (IntKind.i64.wrap ((m83 (IntKind.i64.wrap (a0_2 + (m83 (IntKind.i64.wrap (4096 * a1)) a0_1))) 4096) * 4096)))))) rfl rfl))))
theorem k39 : CtrOk Try.prog c39 39 := ctr_of (tabOk_cons k83 (tabOk_cons k84 tabOk_nil)) mix_ok 8 (fn := Try.f39) (c := (Try.f39.body.getD .skip)) (grs := []) (rh := .k) (Λ := (fun _ => none)) Try.func39 rfl (by kernel_rfl) noLam fun vs bs q h hn => by
  unfold g39 at h
  split at h <;> cases h
  exact ⟨_, rfl, p39 _ _ _ _ (hn _ (List.mem_singleton.2 rfl))⟩
/-! ### shotline/shotlinelaw08.few -/
theorem x18 (a0_0 : Int) (na0_1 : Nat) (da0_1 : Dat) (R : SV → List Blk → List Blk → Prop) : exec Try.prog [] (fun _ => none) 8 (Try.f18.body.getD .skip) (initS Try.f18.ntmps [.agg [.int .i64 a0_0, .ro [.int .i64, .int .i64, .int .i64] na0_1 da0_1]] 0 (memOf [])) (retK Try.prog Try.f18.results.toList (outK 0 (List.range 0) [] (.k) fun v U N => R v U N)) =
  (R (.bool (bif (decide (((↑na0_1 : Int)) ≤ 4)) then true else (bif (decide ((10 : Int) < ((↑na0_1 : Int)))) then (decide (((↑na0_1 : Int)) ≤ 12)) else false))) [] []) := by kernel_rfl
noncomputable def m18 (a0_0 : Int) (na0_1 : Nat) (da0_1 : Dat) : Bool :=
  (bif (decide (((↑na0_1 : Int)) ≤ 4)) then true else (bif (decide ((10 : Int) < ((↑na0_1 : Int)))) then (decide (((↑na0_1 : Int)) ≤ 12)) else false))
noncomputable def q18 (r : Bool) : SV × List Blk × List Blk := (.bool r, [], [])
noncomputable def g18 : List SV → List Blk → Option OpRes := fun vs bs => match vs, bs with
  | [.agg [.int .i64 a0_0, .ro [.int .i64, .int .i64, .int .i64] na0_1 da0_1]], [] => some (resOf 0 (q18 (m18 a0_0 na0_1 da0_1)) [])
  | _, _ => none
noncomputable def c18 : Ctr := genC [.a [.k, .ro [.int .i64, .int .i64, .int .i64]]] g18
theorem p18 (a0_0 : Int) (na0_1 : Nat) (da0_1 : Dat) : exec Try.prog [] (fun _ => none) 8 (Try.f18.body.getD .skip) (initS Try.f18.ntmps [.agg [.int .i64 a0_0, .ro [.int .i64, .int .i64, .int .i64] na0_1 da0_1]] 0 (memOf [])) (retK Try.prog Try.f18.results.toList (outK 0 (List.range 0) [] (.k) fun v U N => (v, U, N) = (q18 (m18 a0_0 na0_1 da0_1)))) :=
  propOf (x18 a0_0 na0_1 da0_1 _) (leaf_of (l := (bif (decide (((↑na0_1 : Int)) ≤ 4)) then true else (bif (decide ((10 : Int) < ((↑na0_1 : Int)))) then (decide (((↑na0_1 : Int)) ≤ 12)) else false))) rfl rfl)
theorem k18 : CtrOk Try.prog c18 18 := ctr_of tabOk_nil mix_ok 8 (fn := Try.f18) (c := (Try.f18.body.getD .skip)) (grs := []) (rh := .k) (Λ := (fun _ => none)) Try.func18 rfl (by kernel_rfl) noLam fun vs bs q h _ => by
  unfold g18 at h
  split at h <;> cases h
  exact ⟨_, rfl, p18 _ _ _⟩
/-! ### shotline/shotlineref08.CheckTide -/
/-! #### loop 0 -/
noncomputable def l21_0 (b0_0 : Int) (b0_1 : Nat) (b0_2 : Dat) : Nat → Int → Option (Bool × (Int) × (Unit))
  | 0, _ => none
  | f + 1, t3 => (cond ((decide (t3 < ((↑b0_1 : Int))))) (cond ((decide (0 ≤ t3 ∧ t3 < (↑b0_1 : Int)))) (cond ((bif (decide ((m38 (b0_2.ii t3.toNat 0) (b0_2.ii t3.toNat (0 + 1)) (b0_2.ii t3.toNat ((0 + 1) + 1))) = 0)) then false else true)) (some (true, (m38 (b0_2.ii t3.toNat 0) (b0_2.ii t3.toNat (0 + 1)) (b0_2.ii t3.toNat ((0 + 1) + 1))), default)) (l21_0 b0_0 b0_1 b0_2 f (IntKind.i64.wrap (t3 + 1)))) none) (some (false, default, ())))
noncomputable abbrev o21_0 (b0_0 : Int) (b0_1 : Nat) (b0_2 : Dat) (t3 : Int) : Option (Bool × (Int) × (Unit)) := l21_0 b0_0 b0_1 b0_2 (t3.toNat + b0_0.toNat + b0_1 + 8) t3
noncomputable def e21_0 (b0_0 : Int) (b0_1 : Nat) (b0_2 : Dat) (r : Bool × (Int) × (Unit)) (K : XR) : Prop := cnd r.1 (K (XE.ret) [.int .i64 r.2.1] [.cells 24 [.int .i64 b0_0, .ro [.int .i64, .int .i64, .int .i64] b0_1 b0_2]]) (K (XE.exit 0) [.any] [.cells 24 [.int .i64 b0_0, .ro [.int .i64, .int .i64, .int .i64] b0_1 b0_2]])
noncomputable def g21_0 : LSum := fun s k => match czv 0 29 [1, 3] 1 [] s with
  | some ([.ptr 0 0, .int .i64 t3], [.cells 24 [.int .i64 b0_0, .ro [.int .i64, .int .i64, .int .i64] b0_1 b0_2]]) => needs [(o21_0 b0_0 b0_1 b0_2 t3).isSome] (e21_0 b0_0 b0_1 b0_2 ((o21_0 b0_0 b0_1 b0_2 t3).getD default) fun e vs bs => inBlk 0 k e (mkSt 0 29 [2] vs 1 bs))
  | _ => False
theorem y21_0 (t3 : Int) (b0_0 : Int) (b0_1 : Nat) (b0_2 : Dat) (R : XR) : exec Try.prog [(29, c29), (38, c38)] (fun _ => none) 8 (unloop (bodyAt (Try.f21.body.getD .skip) 0)) (mkSt 0 29 [1, 3] [.ptr 0 0, .int .i64 t3] 1 [.cells 24 [.int .i64 b0_0, .ro [.int .i64, .int .i64, .int .i64] b0_1 b0_2]]) (canonK 0 29 [1, 3] [2] 1 [] R) =
  (cnd ((decide (t3 < ((↑b0_1 : Int)))))
  (cnd ((decide (0 ≤ t3 ∧ t3 < (↑b0_1 : Int))))
   (cnd ((bif (decide ((m38 (b0_2.ii t3.toNat 0) (b0_2.ii t3.toNat (0 + 1)) (b0_2.ii t3.toNat ((0 + 1) + 1))) = 0)) then false else true))
    (R (XE.ret) [.int .i64 (m38 (b0_2.ii t3.toNat 0) (b0_2.ii t3.toNat (0 + 1)) (b0_2.ii t3.toNat ((0 + 1) + 1)))] [.cells 24 [.int .i64 b0_0, .ro [.int .i64, .int .i64, .int .i64] b0_1 b0_2]])
    (R (XE.normal) [.ptr 0 0, .int .i64 (IntKind.i64.wrap (t3 + 1))] [.cells 24 [.int .i64 b0_0, .ro [.int .i64, .int .i64, .int .i64] b0_1 b0_2]]))
   False)
  (R (XE.exit 0) [.any] [.cells 24 [.int .i64 b0_0, .ro [.int .i64, .int .i64, .int .i64] b0_1 b0_2]])) := by kernel_rfl
theorem z21_0 : LOk Try.prog g21_0 (.block 0 (bodyAt (Try.f21.body.getD .skip) 0)) := by
  refine loop_blk (ι := Int × Int × Nat × Dat) (L := [(29, c29), (38, c38)]) (Λ := (fun _ => none)) (fuel := 8) (na := 0) (nt := 29) (nx := 1) (Lh := [1, 3]) (Le := [2]) (gl := []) (tabOk_cons k29 (tabOk_cons k38 tabOk_nil)) mix_ok noLam rfl (fun f x K => GG default (e21_0 x.2.1 x.2.2.1 x.2.2.2) K (l21_0 x.2.1 x.2.2.1 x.2.2.2 f x.1)) (fun x => [.ptr 0 0, .int .i64 x.1]) (fun x => [.cells 24 [.int .i64 x.2.1, .ro [.int .i64, .int .i64, .int .i64] x.2.2.1 x.2.2.2]]) (fun x K => gg_none) ?_ ?_
  · rintro f ⟨t3, b0_0, b0_1, b0_2⟩ K hG
    have hG : GG default (e21_0 b0_0 b0_1 b0_2) K (cond ((decide (t3 < ((↑b0_1 : Int))))) (cond ((decide (0 ≤ t3 ∧ t3 < (↑b0_1 : Int)))) (cond ((bif (decide ((m38 (b0_2.ii t3.toNat 0) (b0_2.ii t3.toNat (0 + 1)) (b0_2.ii t3.toNat ((0 + 1) + 1))) = 0)) then false else true)) (some (true, (m38 (b0_2.ii t3.toNat 0) (b0_2.ii t3.toNat (0 + 1)) (b0_2.ii t3.toNat ((0 + 1) + 1))), default)) (l21_0 b0_0 b0_1 b0_2 f (IntKind.i64.wrap (t3 + 1)))) none) (some (false, default, ()))) := hG
    refine propOf (y21_0 t3 b0_0 b0_1 b0_2 _) ?_
    exact cnd_gg2 hG (fun h0 => cnd_gg h0 fun h1 => cnd_gg2 h1 (fun h2 => h2.2) (fun h2 => ⟨((IntKind.i64.wrap (t3 + 1)), b0_0, b0_1, b0_2), rfl, rfl, h2⟩)) (fun h0 => h0.2)
  · intro s k h
    unfold g21_0 at h
    split at h <;> try exact h.elim
    rename_i e1
    rw [needs_iff] at h
    exact ⟨_, e1, _, (_, _, _, _), rfl, rfl, h.1 _ (List.mem_singleton.2 rfl), h.2⟩
theorem x21 (a0_0 : Int) (na0_1 : Nat) (da0_1 : Dat) (R : SV → List Blk → List Blk → Prop) : exec Try.prog [(29, c29), (38, c38)] (lamOf [(0, g21_0)]) 8 (Try.f21.body.getD .skip) (initS Try.f21.ntmps [.agg [.int .i64 a0_0, .ro [.int .i64, .int .i64, .int .i64] na0_1 da0_1]] 0 (memOf [])) (retK Try.prog Try.f21.results.toList (outK 0 (List.range 0) [] (.k) fun v U N => R v U N)) =
  (cnd ((bif (m29 a0_0 (-100000) 100000) then false else true))
  (R (.int .i64 2) [] [])
  (cnd ((decide ((10 : Int) < ((↑na0_1 : Int)))))
   (R (.int .i64 8) [] [])
   (cnd (((o21_0 a0_0 na0_1 da0_1 0).isSome))
    (cnd ((((o21_0 a0_0 na0_1 da0_1 0).getD default).fst))
     (R (.int .i64 (((o21_0 a0_0 na0_1 da0_1 0).getD default).snd.fst)) [] [])
     (R (.int .i64 0) [] []))
    False))) := by kernel_rfl
noncomputable def m21 (a0_0 : Int) (na0_1 : Nat) (da0_1 : Dat) : Int :=
  (cond ((bif (m29 a0_0 (-100000) 100000) then false else true)) 2 (cond ((decide ((10 : Int) < ((↑na0_1 : Int))))) 8 (cond ((((o21_0 a0_0 na0_1 da0_1 0).getD default).fst)) (((o21_0 a0_0 na0_1 da0_1 0).getD default).snd.fst) 0)))
noncomputable def n21 (a0_0 : Int) (na0_1 : Nat) (da0_1 : Dat) : Bool :=
  (cond ((bif (m29 a0_0 (-100000) 100000) then false else true)) true (cond ((decide ((10 : Int) < ((↑na0_1 : Int))))) true ((((o21_0 a0_0 na0_1 da0_1 0).isSome)) && true)))
noncomputable def q21 (r : Int) : SV × List Blk × List Blk := (.int .i64 r, [], [])
noncomputable def g21 : List SV → List Blk → Option OpRes := fun vs bs => match vs, bs with
  | [.agg [.int .i64 a0_0, .ro [.int .i64, .int .i64, .int .i64] na0_1 da0_1]], [] => some (resOf 0 (q21 (m21 a0_0 na0_1 da0_1)) [n21 a0_0 na0_1 da0_1])
  | _, _ => none
noncomputable def c21 : Ctr := genC [.a [.k, .ro [.int .i64, .int .i64, .int .i64]]] g21
theorem p21 (a0_0 : Int) (na0_1 : Nat) (da0_1 : Dat) (hn : n21 a0_0 na0_1 da0_1 = true) : exec Try.prog [(29, c29), (38, c38)] (lamOf [(0, g21_0)]) 8 (Try.f21.body.getD .skip) (initS Try.f21.ntmps [.agg [.int .i64 a0_0, .ro [.int .i64, .int .i64, .int .i64] na0_1 da0_1]] 0 (memOf [])) (retK Try.prog Try.f21.results.toList (outK 0 (List.range 0) [] (.k) fun v U N => (v, U, N) = (q21 (m21 a0_0 na0_1 da0_1)))) :=
  propOf (x21 a0_0 na0_1 da0_1 _) (cnd_of (fun h0 => leaf_of (l := 2) (condT h0 rfl) rfl) (fun h0 => cnd_of (fun h1 => leaf_of (l := 8) (condF h0 (condT h1 rfl)) rfl) (fun h1 => cnd_need (and_l (cond_f h1 (cond_f h0 hn))) (cnd_of (fun h2 => leaf_of (l := (((o21_0 a0_0 na0_1 da0_1 0).getD default).snd.fst)) (condF h0 (condF h1 (condT h2 rfl))) rfl) (fun h2 => leaf_of (l := 0) (condF h0 (condF h1 (condF h2 rfl))) rfl)))))
theorem k21 : CtrOk Try.prog c21 21 := ctr_of (tabOk_cons k29 (tabOk_cons k38 tabOk_nil)) mix_ok 8 (fn := Try.f21) (c := (Try.f21.body.getD .skip)) (grs := []) (rh := .k) (Λ := (lamOf [(0, g21_0)])) Try.func21 rfl (by kernel_rfl) (lam_of rfl (lams_cons z21_0 lams_nil)) fun vs bs q h hn => by
  unfold g21 at h
  split at h <;> cases h
  exact ⟨_, rfl, p21 _ _ _ (hn _ (List.mem_singleton.2 rfl))⟩
/-! ### (shotline/site.ray).turned -/
theorem x144 (a0_0 : Int) (a0_1 : Int) (a0_2 : Int) (a0_3 : Int) (a1_0 : Int) (a1_1 : Int) (a1_2 : Int) (a1_3 : Int) (R : SV → List Blk → List Blk → Prop) : exec Try.prog [(127, c127), (128, c128)] (fun _ => none) 8 (Try.f144.body.getD .skip) (initS Try.f144.ntmps [.agg [.int .i64 a0_0, .int .i64 a0_1, .int .i64 a0_2, .int .i64 a0_3], .agg [.int .i64 a1_0, .int .i64 a1_1, .int .i64 a1_2, .int .i64 a1_3]] 0 (memOf [])) (retK Try.prog Try.f144.results.toList (outK 0 (List.range 0) [] (.k) fun v U N => R v U N)) =
  (cnd ((n127 (IntKind.i64.wrap ((IntKind.i64.wrap (a0_0 * a1_0)) - (IntKind.i64.wrap (a0_3 * a1_3)))) 100000000))
  (cnd ((n128 (IntKind.i64.wrap ((IntKind.i64.wrap (a0_1 * a1_1)) - (IntKind.i64.wrap (a0_2 * a1_2)))) 100000000))
   (cnd ((n127 (IntKind.i64.wrap ((IntKind.i64.wrap (a0_2 * a1_0)) + (IntKind.i64.wrap (a0_0 * a1_2)))) 100000000))
    (cnd ((n128 (IntKind.i64.wrap ((IntKind.i64.wrap (a0_3 * a1_1)) + (IntKind.i64.wrap (a0_1 * a1_3)))) 100000000))
     (R (.agg [.int .i64 (imax 0 (m127 (IntKind.i64.wrap ((IntKind.i64.wrap (a0_0 * a1_0)) - (IntKind.i64.wrap (a0_3 * a1_3)))) 100000000)), .int .i64 (m128 (IntKind.i64.wrap ((IntKind.i64.wrap (a0_1 * a1_1)) - (IntKind.i64.wrap (a0_2 * a1_2)))) 100000000), .int .i64 (m127 (IntKind.i64.wrap ((IntKind.i64.wrap (a0_2 * a1_0)) + (IntKind.i64.wrap (a0_0 * a1_2)))) 100000000), .int .i64 (imin 100000000 (m128 (IntKind.i64.wrap ((IntKind.i64.wrap (a0_3 * a1_1)) + (IntKind.i64.wrap (a0_1 * a1_3)))) 100000000))]) [] [])
     False)
    False)
   False)
  False) := by kernel_rfl
noncomputable def m144 (a0_0 : Int) (a0_1 : Int) (a0_2 : Int) (a0_3 : Int) (a1_0 : Int) (a1_1 : Int) (a1_2 : Int) (a1_3 : Int) : Int × Int × Int × Int :=
  ((imax 0 (m127 (IntKind.i64.wrap ((IntKind.i64.wrap (a0_0 * a1_0)) - (IntKind.i64.wrap (a0_3 * a1_3)))) 100000000)), (m128 (IntKind.i64.wrap ((IntKind.i64.wrap (a0_1 * a1_1)) - (IntKind.i64.wrap (a0_2 * a1_2)))) 100000000), (m127 (IntKind.i64.wrap ((IntKind.i64.wrap (a0_2 * a1_0)) + (IntKind.i64.wrap (a0_0 * a1_2)))) 100000000), (imin 100000000 (m128 (IntKind.i64.wrap ((IntKind.i64.wrap (a0_3 * a1_1)) + (IntKind.i64.wrap (a0_1 * a1_3)))) 100000000)))
noncomputable def n144 (a0_0 : Int) (a0_1 : Int) (a0_2 : Int) (a0_3 : Int) (a1_0 : Int) (a1_1 : Int) (a1_2 : Int) (a1_3 : Int) : Bool :=
  (((n127 (IntKind.i64.wrap ((IntKind.i64.wrap (a0_0 * a1_0)) - (IntKind.i64.wrap (a0_3 * a1_3)))) 100000000)) && (((n128 (IntKind.i64.wrap ((IntKind.i64.wrap (a0_1 * a1_1)) - (IntKind.i64.wrap (a0_2 * a1_2)))) 100000000)) && (((n127 (IntKind.i64.wrap ((IntKind.i64.wrap (a0_2 * a1_0)) + (IntKind.i64.wrap (a0_0 * a1_2)))) 100000000)) && (((n128 (IntKind.i64.wrap ((IntKind.i64.wrap (a0_3 * a1_1)) + (IntKind.i64.wrap (a0_1 * a1_3)))) 100000000)) && true))))
noncomputable def q144 (r : Int × Int × Int × Int) : SV × List Blk × List Blk := (.agg [.int .i64 r.1, .int .i64 r.2.1, .int .i64 r.2.2.1, .int .i64 r.2.2.2], [], [])
noncomputable def g144 : List SV → List Blk → Option OpRes := fun vs bs => match vs, bs with
  | [.agg [.int .i64 a0_0, .int .i64 a0_1, .int .i64 a0_2, .int .i64 a0_3], .agg [.int .i64 a1_0, .int .i64 a1_1, .int .i64 a1_2, .int .i64 a1_3]], [] => some (resOf 0 (q144 (m144 a0_0 a0_1 a0_2 a0_3 a1_0 a1_1 a1_2 a1_3)) [n144 a0_0 a0_1 a0_2 a0_3 a1_0 a1_1 a1_2 a1_3])
  | _, _ => none
noncomputable def c144 : Ctr := genC [.k, .k] g144
theorem p144 (a0_0 : Int) (a0_1 : Int) (a0_2 : Int) (a0_3 : Int) (a1_0 : Int) (a1_1 : Int) (a1_2 : Int) (a1_3 : Int) (hn : n144 a0_0 a0_1 a0_2 a0_3 a1_0 a1_1 a1_2 a1_3 = true) : exec Try.prog [(127, c127), (128, c128)] (fun _ => none) 8 (Try.f144.body.getD .skip) (initS Try.f144.ntmps [.agg [.int .i64 a0_0, .int .i64 a0_1, .int .i64 a0_2, .int .i64 a0_3], .agg [.int .i64 a1_0, .int .i64 a1_1, .int .i64 a1_2, .int .i64 a1_3]] 0 (memOf [])) (retK Try.prog Try.f144.results.toList (outK 0 (List.range 0) [] (.k) fun v U N => (v, U, N) = (q144 (m144 a0_0 a0_1 a0_2 a0_3 a1_0 a1_1 a1_2 a1_3)))) :=
  propOf (x144 a0_0 a0_1 a0_2 a0_3 a1_0 a1_1 a1_2 a1_3 _) (cnd_need (and_l hn) (cnd_need (and_l (and_r hn)) (cnd_need (and_l (and_r (and_r hn))) (cnd_need (and_l (and_r (and_r (and_r hn)))) (leaf_of (l := ((imax 0 (m127 (IntKind.i64.wrap ((IntKind.i64.wrap (a0_0 * a1_0)) - (IntKind.i64.wrap (a0_3 * a1_3)))) 100000000)), (m128 (IntKind.i64.wrap ((IntKind.i64.wrap (a0_1 * a1_1)) - (IntKind.i64.wrap (a0_2 * a1_2)))) 100000000), (m127 (IntKind.i64.wrap ((IntKind.i64.wrap (a0_2 * a1_0)) + (IntKind.i64.wrap (a0_0 * a1_2)))) 100000000), (imin 100000000 (m128 (IntKind.i64.wrap ((IntKind.i64.wrap (a0_3 * a1_1)) + (IntKind.i64.wrap (a0_1 * a1_3)))) 100000000)))) rfl rfl)))))
theorem k144 : CtrOk Try.prog c144 144 := ctr_of (tabOk_cons k127 (tabOk_cons k128 tabOk_nil)) mix_ok 8 (fn := Try.f144) (c := (Try.f144.body.getD .skip)) (grs := []) (rh := .k) (Λ := (fun _ => none)) Try.func144 rfl (by kernel_rfl) noLam fun vs bs q h hn => by
  unfold g144 at h
  split at h <;> cases h
  exact ⟨_, rfl, p144 _ _ _ _ _ _ _ _ (hn _ (List.mem_singleton.2 rfl))⟩
/-! ### shotline/site.CheckTide$1 -/
theorem x143 (a0_0 : Int) (a0_1 : Int) (a0_2 : Int) (R : SV → List Blk → List Blk → Prop) : exec Try.prog [(102, c102)] (fun _ => none) 8 (Try.f143.body.getD .skip) (initS Try.f143.ntmps [.agg [.int .i64 a0_0, .int .i64 a0_1, .int .i64 a0_2]] 0 (memOf [])) (retK Try.prog Try.f143.results.toList (outK 0 (List.range 0) [] (.k) fun v U N => R v U N)) =
  (R (.bool (bif (m102 a0_0 a0_1 a0_2) then false else true)) [] []) := by kernel_rfl
noncomputable def m143 (a0_0 : Int) (a0_1 : Int) (a0_2 : Int) : Bool :=
  (bif (m102 a0_0 a0_1 a0_2) then false else true)
noncomputable def q143 (r : Bool) : SV × List Blk × List Blk := (.bool r, [], [])
noncomputable def g143 : List SV → List Blk → Option OpRes := fun vs bs => match vs, bs with
  | [.agg [.int .i64 a0_0, .int .i64 a0_1, .int .i64 a0_2]], [] => some (resOf 0 (q143 (m143 a0_0 a0_1 a0_2)) [])
  | _, _ => none
noncomputable def c143 : Ctr := genC [.k] g143
theorem p143 (a0_0 : Int) (a0_1 : Int) (a0_2 : Int) : exec Try.prog [(102, c102)] (fun _ => none) 8 (Try.f143.body.getD .skip) (initS Try.f143.ntmps [.agg [.int .i64 a0_0, .int .i64 a0_1, .int .i64 a0_2]] 0 (memOf [])) (retK Try.prog Try.f143.results.toList (outK 0 (List.range 0) [] (.k) fun v U N => (v, U, N) = (q143 (m143 a0_0 a0_1 a0_2)))) :=
  propOf (x143 a0_0 a0_1 a0_2 _) (leaf_of (l := (bif (m102 a0_0 a0_1 a0_2) then false else true)) rfl rfl)
theorem k143 : CtrOk Try.prog c143 143 := ctr_of (tabOk_cons k102 tabOk_nil) mix_ok 8 (fn := Try.f143) (c := (Try.f143.body.getD .skip)) (grs := []) (rh := .k) (Λ := (fun _ => none)) Try.func143 rfl (by kernel_rfl) noLam fun vs bs q h _ => by
  unfold g143 at h
  split at h <;> cases h
  exact ⟨_, rfl, p143 _ _ _⟩
/-! ### shotline/site.Join$1 -/
theorem x109 (a0_0 : Int) (a0_1 : Int) (a1_0 : Int) (a1_1 : Int) (R : SV → List Blk → List Blk → Prop) : exec Try.prog [] (fun _ => none) 8 (Try.f109.body.getD .skip) (initS Try.f109.ntmps [.agg [.int .i64 a0_0, .int .i64 a0_1], .agg [.int .i64 a1_0, .int .i64 a1_1]] 0 (memOf [])) (retK Try.prog Try.f109.results.toList (outK 0 (List.range 0) [] (.k) fun v U N => R v U N)) =
  (R (.int .i64 (IntKind.i64.wrap (a0_0 - a1_0))) [] []) := by kernel_rfl
noncomputable def m109 (a0_0 : Int) (a0_1 : Int) (a1_0 : Int) (a1_1 : Int) : Int :=
  (IntKind.i64.wrap (a0_0 - a1_0))
noncomputable def q109 (r : Int) : SV × List Blk × List Blk := (.int .i64 r, [], [])
noncomputable def g109 : List SV → List Blk → Option OpRes := fun vs bs => match vs, bs with
  | [.agg [.int .i64 a0_0, .int .i64 a0_1], .agg [.int .i64 a1_0, .int .i64 a1_1]], [] => some (resOf 0 (q109 (m109 a0_0 a0_1 a1_0 a1_1)) [])
  | _, _ => none
noncomputable def c109 : Ctr := genC [.k, .k] g109
theorem p109 (a0_0 : Int) (a0_1 : Int) (a1_0 : Int) (a1_1 : Int) : exec Try.prog [] (fun _ => none) 8 (Try.f109.body.getD .skip) (initS Try.f109.ntmps [.agg [.int .i64 a0_0, .int .i64 a0_1], .agg [.int .i64 a1_0, .int .i64 a1_1]] 0 (memOf [])) (retK Try.prog Try.f109.results.toList (outK 0 (List.range 0) [] (.k) fun v U N => (v, U, N) = (q109 (m109 a0_0 a0_1 a1_0 a1_1)))) :=
  propOf (x109 a0_0 a0_1 a1_0 a1_1 _) (leaf_of (l := (IntKind.i64.wrap (a0_0 - a1_0))) rfl rfl)
theorem k109 : CtrOk Try.prog c109 109 := ctr_of tabOk_nil mix_ok 8 (fn := Try.f109) (c := (Try.f109.body.getD .skip)) (grs := []) (rh := .k) (Λ := (fun _ => none)) Try.func109 rfl (by kernel_rfl) noLam fun vs bs q h _ => by
  unfold g109 at h
  split at h <;> cases h
  exact ⟨_, rfl, p109 _ _ _ _⟩
/-! ### shotline/shotlineref08.up -/
theorem x146 (a0 : Int) (R : SV → List Blk → List Blk → Prop) : exec Try.prog [(145, c145)] (fun _ => none) 8 (Try.f146.body.getD .skip) (initS Try.f146.ntmps [.int .i64 a0] 0 (memOf [])) (retK Try.prog Try.f146.results.toList (outK 0 (List.range 0) [] (.k) fun v U N => R v U N)) =
  (cnd ((n145 a0))
  (cnd ((decide ((IntKind.i64.wrap ((m145 a0) * (m145 a0))) < a0)))
   (R (.int .i64 (IntKind.i64.wrap ((m145 a0) + 1))) [] [])
   (R (.int .i64 (m145 a0)) [] []))
  False) := by kernel_rfl
noncomputable def m146 (a0 : Int) : Int :=
  (cond ((decide ((IntKind.i64.wrap ((m145 a0) * (m145 a0))) < a0))) (IntKind.i64.wrap ((m145 a0) + 1)) (m145 a0))
noncomputable def n146 (a0 : Int) : Bool :=
  (((n145 a0)) && true)
noncomputable def q146 (r : Int) : SV × List Blk × List Blk := (.int .i64 r, [], [])
noncomputable def g146 : List SV → List Blk → Option OpRes := fun vs bs => match vs, bs with
  | [.int .i64 a0], [] => some (resOf 0 (q146 (m146 a0)) [n146 a0])
  | _, _ => none
noncomputable def c146 : Ctr := genC [.k] g146
theorem p146 (a0 : Int) (hn : n146 a0 = true) : exec Try.prog [(145, c145)] (fun _ => none) 8 (Try.f146.body.getD .skip) (initS Try.f146.ntmps [.int .i64 a0] 0 (memOf [])) (retK Try.prog Try.f146.results.toList (outK 0 (List.range 0) [] (.k) fun v U N => (v, U, N) = (q146 (m146 a0)))) :=
  propOf (x146 a0 _) (cnd_need (and_l hn) (cnd_of (fun h0 => leaf_of (l := (IntKind.i64.wrap ((m145 a0) + 1))) (condT h0 rfl) rfl) (fun h0 => leaf_of (l := (m145 a0)) (condF h0 rfl) rfl)))
theorem k146 : CtrOk Try.prog c146 146 := ctr_of (tabOk_cons k145 tabOk_nil) mix_ok 8 (fn := Try.f146) (c := (Try.f146.body.getD .skip)) (grs := []) (rh := .k) (Λ := (fun _ => none)) Try.func146 rfl (by kernel_rfl) noLam fun vs bs q h hn => by
  unfold g146 at h
  split at h <;> cases h
  exact ⟨_, rfl, p146 _ (hn _ (List.mem_singleton.2 rfl))⟩
/-! ### slices.IndexFunc[[]shotline/api.TideWave,shotline/api.TideWave] -/
/-! #### loop 0 -/
noncomputable def l158c143_0 (t0_0 : Nat) (t0_1 : Dat) (t7 : Int) : Nat → Int → Option (Bool × (Int) × (Unit))
  | 0, _ => none
  | f + 1, t8 => (cond ((decide (t8 < t7))) (cond ((decide (0 ≤ t8 ∧ t8 < (↑t0_0 : Int)))) (cond ((m143 (t0_1.ii t8.toNat 0) (t0_1.ii t8.toNat (0 + 1)) (t0_1.ii t8.toNat ((0 + 1) + 1)))) (some (true, t8, default)) (l158c143_0 t0_0 t0_1 t7 f (IntKind.i64.wrap (t8 + 1)))) none) (some (false, default, ())))
noncomputable abbrev o158c143_0 (t0_0 : Nat) (t0_1 : Dat) (t7 : Int) (t8 : Int) : Option (Bool × (Int) × (Unit)) := l158c143_0 t0_0 t0_1 t7 (t0_0 + t7.toNat + t8.toNat + 8) t8
noncomputable def e158c143_0 (t0_0 : Nat) (t0_1 : Dat) (t7 : Int) (r : Bool × (Int) × (Unit)) (K : XR) : Prop := cnd r.1 (K (XE.ret) [.int .i64 r.2.1] []) (K (XE.exit 0) [.any] [])
noncomputable def g158c143_0 : LSum := fun s k => match czv 0 19 [0, 1, 7, 8] 0 [] s with
  | some ([.ro [.int .i64, .int .i64, .int .i64] t0_0 t0_1, .fn 143 [], .int .i64 t7, .int .i64 t8], []) => needs [(o158c143_0 t0_0 t0_1 t7 t8).isSome] (e158c143_0 t0_0 t0_1 t7 ((o158c143_0 t0_0 t0_1 t7 t8).getD default) fun e vs bs => inBlk 0 k e (mkSt 0 19 [4] vs 0 bs))
  | _ => False
theorem y158c143_0 (t0_0 : Nat) (t0_1 : Dat) (t7 : Int) (t8 : Int) (R : XR) : exec Try.prog [(143, c143)] (fun _ => none) 8 (unloop (bodyAt (Try.f158.body.getD .skip) 0)) (mkSt 0 19 [0, 1, 7, 8] [.ro [.int .i64, .int .i64, .int .i64] t0_0 t0_1, .fn 143 [], .int .i64 t7, .int .i64 t8] 0 []) (canonK 0 19 [0, 1, 7, 8] [4] 0 [] R) =
  (cnd ((decide (t8 < t7)))
  (cnd ((decide (0 ≤ t8 ∧ t8 < (↑t0_0 : Int))))
   (cnd ((m143 (t0_1.ii t8.toNat 0) (t0_1.ii t8.toNat (0 + 1)) (t0_1.ii t8.toNat ((0 + 1) + 1))))
    (R (XE.ret) [.int .i64 t8] [])
    (R (XE.normal) [.ro [.int .i64, .int .i64, .int .i64] t0_0 t0_1, .fn 143 [], .int .i64 t7, .int .i64 (IntKind.i64.wrap (t8 + 1))] []))
   False)
  (R (XE.exit 0) [.any] [])) := by kernel_rfl
theorem z158c143_0 : LOk Try.prog g158c143_0 (.block 0 (bodyAt (Try.f158.body.getD .skip) 0)) := by
  refine loop_blk (ι := Nat × Dat × Int × Int) (L := [(143, c143)]) (Λ := (fun _ => none)) (fuel := 8) (na := 0) (nt := 19) (nx := 0) (Lh := [0, 1, 7, 8]) (Le := [4]) (gl := []) (tabOk_cons k143 tabOk_nil) mix_ok noLam rfl (fun f x K => GG default (e158c143_0 x.1 x.2.1 x.2.2.1) K (l158c143_0 x.1 x.2.1 x.2.2.1 f x.2.2.2)) (fun x => [.ro [.int .i64, .int .i64, .int .i64] x.1 x.2.1, .fn 143 [], .int .i64 x.2.2.1, .int .i64 x.2.2.2]) (fun x => []) (fun x K => gg_none) ?_ ?_
  · rintro f ⟨t0_0, t0_1, t7, t8⟩ K hG
    have hG : GG default (e158c143_0 t0_0 t0_1 t7) K (cond ((decide (t8 < t7))) (cond ((decide (0 ≤ t8 ∧ t8 < (↑t0_0 : Int)))) (cond ((m143 (t0_1.ii t8.toNat 0) (t0_1.ii t8.toNat (0 + 1)) (t0_1.ii t8.toNat ((0 + 1) + 1)))) (some (true, t8, default)) (l158c143_0 t0_0 t0_1 t7 f (IntKind.i64.wrap (t8 + 1)))) none) (some (false, default, ()))) := hG
    refine propOf (y158c143_0 t0_0 t0_1 t7 t8 _) ?_
    exact cnd_gg2 hG (fun h0 => cnd_gg h0 fun h1 => cnd_gg2 h1 (fun h2 => h2.2) (fun h2 => ⟨(t0_0, t0_1, t7, (IntKind.i64.wrap (t8 + 1))), rfl, rfl, h2⟩)) (fun h0 => h0.2)
  · intro s k h
    unfold g158c143_0 at h
    split at h <;> try exact h.elim
    rename_i e1
    rw [needs_iff] at h
    exact ⟨_, e1, _, (_, _, _, _), rfl, rfl, h.1 _ (List.mem_singleton.2 rfl), h.2⟩
theorem x158c143 (na0 : Nat) (da0 : Dat) (R : SV → List Blk → List Blk → Prop) : exec Try.prog [(143, c143)] (lamOf [(0, g158c143_0)]) 8 (Try.f158.body.getD .skip) (initS Try.f158.ntmps [.ro [.int .i64, .int .i64, .int .i64] na0 da0, .fn 143 []] 0 (memOf [])) (retK Try.prog Try.f158.results.toList (outK 0 (List.range 0) [] (.k) fun v U N => R v U N)) =
  (cnd (((o158c143_0 na0 da0 ((↑na0 : Int)) 0).isSome))
  (cnd ((((o158c143_0 na0 da0 ((↑na0 : Int)) 0).getD default).fst))
   (R (.int .i64 (((o158c143_0 na0 da0 ((↑na0 : Int)) 0).getD default).snd.fst)) [] [])
   (R (.int .i64 (-1)) [] []))
  False) := by kernel_rfl
noncomputable def m158c143 (na0 : Nat) (da0 : Dat) : Int :=
  (cond ((((o158c143_0 na0 da0 ((↑na0 : Int)) 0).getD default).fst)) (((o158c143_0 na0 da0 ((↑na0 : Int)) 0).getD default).snd.fst) (-1))
noncomputable def n158c143 (na0 : Nat) (da0 : Dat) : Bool :=
  ((((o158c143_0 na0 da0 ((↑na0 : Int)) 0).isSome)) && true)
noncomputable def q158c143 (r : Int) : SV × List Blk × List Blk := (.int .i64 r, [], [])
noncomputable def g158c143 : List SV → List Blk → Option OpRes := fun vs bs => match vs, bs with
  | [.ro [.int .i64, .int .i64, .int .i64] na0 da0, .fn 143 []], [] => some (resOf 0 (q158c143 (m158c143 na0 da0)) [n158c143 na0 da0])
  | _, _ => none
noncomputable def c158c143 : Ctr := genC [.ro [.int .i64, .int .i64, .int .i64], .f []] g158c143
theorem p158c143 (na0 : Nat) (da0 : Dat) (hn : n158c143 na0 da0 = true) : exec Try.prog [(143, c143)] (lamOf [(0, g158c143_0)]) 8 (Try.f158.body.getD .skip) (initS Try.f158.ntmps [.ro [.int .i64, .int .i64, .int .i64] na0 da0, .fn 143 []] 0 (memOf [])) (retK Try.prog Try.f158.results.toList (outK 0 (List.range 0) [] (.k) fun v U N => (v, U, N) = (q158c143 (m158c143 na0 da0)))) :=
  propOf (x158c143 na0 da0 _) (cnd_need (and_l hn) (cnd_of (fun h0 => leaf_of (l := (((o158c143_0 na0 da0 ((↑na0 : Int)) 0).getD default).snd.fst)) (condT h0 rfl) rfl) (fun h0 => leaf_of (l := (-1)) (condF h0 rfl) rfl)))
theorem k158c143 : CtrOk Try.prog c158c143 158 := ctr_of (tabOk_cons k143 tabOk_nil) mix_ok 8 (fn := Try.f158) (c := (Try.f158.body.getD .skip)) (grs := []) (rh := .k) (Λ := (lamOf [(0, g158c143_0)])) Try.func158 rfl (by kernel_rfl) (lam_of rfl (lams_cons z158c143_0 lams_nil)) fun vs bs q h hn => by
  unfold g158c143 at h
  split at h <;> cases h
  exact ⟨_, rfl, p158c143 _ _ (hn _ (List.mem_singleton.2 rfl))⟩
/-! ### (*shotline/site.circle).ray -/
/-! #### loop 0 -/
noncomputable def l133_0 (t0 : Dat) (t1 : Int) (b0_0 : Int) (b0_1 : Int) (b0_2 : Int) (b0_3 : Int) : Nat → Int → Int → Int → Int → Int → Option (Int × Int × Int × Int)
  | 0, _, _, _, _, _ => none
  | f + 1, t6, b1_0, b1_1, b1_2, b1_3 => (cond ((decide (t6 ≤ 10))) (cond ((decide (0 ≤ t6))) (cond ((bif (decide ((IntKind.i64.wrap ((↑((BitVec.ofInt IntKind.i64.bits t1 &&& BitVec.ofInt IntKind.i64.bits (Int.fdiv 1024 (2 ^ (min t6.toNat IntKind.i64.bits)))).toNat) : Int))) = 0)) then false else true)) (cond ((decide (0 ≤ t6 ∧ t6 < (↑11 : Int)))) (cond ((decide (t6 < ((↑11 : Int))))) (cond ((n144 b1_0 b1_1 b1_2 b1_3 (t0.ii t6.toNat 0) (t0.ii t6.toNat (0 + 1)) (t0.ii t6.toNat ((0 + 1) + 1)) (t0.ii t6.toNat (((0 + 1) + 1) + 1)))) (l133_0 t0 t1 b0_0 b0_1 b0_2 b0_3 f (IntKind.i64.wrap (t6 + 1)) ((m144 b1_0 b1_1 b1_2 b1_3 (t0.ii t6.toNat 0) (t0.ii t6.toNat (0 + 1)) (t0.ii t6.toNat ((0 + 1) + 1)) (t0.ii t6.toNat (((0 + 1) + 1) + 1))).fst) ((m144 b1_0 b1_1 b1_2 b1_3 (t0.ii t6.toNat 0) (t0.ii t6.toNat (0 + 1)) (t0.ii t6.toNat ((0 + 1) + 1)) (t0.ii t6.toNat (((0 + 1) + 1) + 1))).snd.fst) ((m144 b1_0 b1_1 b1_2 b1_3 (t0.ii t6.toNat 0) (t0.ii t6.toNat (0 + 1)) (t0.ii t6.toNat ((0 + 1) + 1)) (t0.ii t6.toNat (((0 + 1) + 1) + 1))).snd.snd.fst) ((m144 b1_0 b1_1 b1_2 b1_3 (t0.ii t6.toNat 0) (t0.ii t6.toNat (0 + 1)) (t0.ii t6.toNat ((0 + 1) + 1)) (t0.ii t6.toNat (((0 + 1) + 1) + 1))).snd.snd.snd)) none) none) none) (l133_0 t0 t1 b0_0 b0_1 b0_2 b0_3 f (IntKind.i64.wrap (t6 + 1)) b1_0 b1_1 b1_2 b1_3)) none) (some (b1_0, b1_1, b1_2, b1_3)))
noncomputable abbrev o133_0 (t0 : Dat) (t1 : Int) (b0_0 : Int) (b0_1 : Int) (b0_2 : Int) (b0_3 : Int) (t6 : Int) (b1_0 : Int) (b1_1 : Int) (b1_2 : Int) (b1_3 : Int) : Option (Int × Int × Int × Int) := l133_0 t0 t1 b0_0 b0_1 b0_2 b0_3 (30 + t1.toNat) t6 b1_0 b1_1 b1_2 b1_3
noncomputable def e133_0 (t0 : Dat) (t1 : Int) (b0_0 : Int) (b0_1 : Int) (b0_2 : Int) (b0_3 : Int) (r : Int × Int × Int × Int) (K : XR) : Prop := K (XE.exit 0) [.ptr 0 0, .ptr 1 0] [.cells 171 [.int .i64 b0_0, .int .i64 b0_1, .int .i64 b0_2, .int .i64 b0_3], .cells 171 [.int .i64 r.1, .int .i64 r.2.1, .int .i64 r.2.2.1, .int .i64 r.2.2.2]]
noncomputable def g133_0 : LSum := fun s k => match czv 0 26 [0, 1, 4, 5, 6] 2 [] s with
  | some ([.ra [.int .i64, .int .i64, .int .i64, .int .i64] 11 t0, .int .i64 t1, .ptr 0 0, .ptr 1 0, .int .i64 t6], [.cells 171 [.int .i64 b0_0, .int .i64 b0_1, .int .i64 b0_2, .int .i64 b0_3], .cells 171 [.int .i64 b1_0, .int .i64 b1_1, .int .i64 b1_2, .int .i64 b1_3]]) => needs [(o133_0 t0 t1 b0_0 b0_1 b0_2 b0_3 t6 b1_0 b1_1 b1_2 b1_3).isSome] (e133_0 t0 t1 b0_0 b0_1 b0_2 b0_3 ((o133_0 t0 t1 b0_0 b0_1 b0_2 b0_3 t6 b1_0 b1_1 b1_2 b1_3).getD default) fun e vs bs => inBlk 0 k e (mkSt 0 26 [4, 5] vs 2 bs))
  | _ => False
theorem y133_0 (t0 : Dat) (t1 : Int) (t6 : Int) (b0_0 : Int) (b0_1 : Int) (b0_2 : Int) (b0_3 : Int) (b1_0 : Int) (b1_1 : Int) (b1_2 : Int) (b1_3 : Int) (R : XR) : exec Try.prog [(144, c144)] (fun _ => none) 8 (unloop (bodyAt (Try.f133.body.getD .skip) 0)) (mkSt 0 26 [0, 1, 4, 5, 6] [.ra [.int .i64, .int .i64, .int .i64, .int .i64] 11 t0, .int .i64 t1, .ptr 0 0, .ptr 1 0, .int .i64 t6] 2 [.cells 171 [.int .i64 b0_0, .int .i64 b0_1, .int .i64 b0_2, .int .i64 b0_3], .cells 171 [.int .i64 b1_0, .int .i64 b1_1, .int .i64 b1_2, .int .i64 b1_3]]) (canonK 0 26 [0, 1, 4, 5, 6] [4, 5] 2 [] R) =
  (cnd ((decide (t6 ≤ 10)))
  (cnd ((decide (0 ≤ t6)))
   (cnd ((bif (decide ((IntKind.i64.wrap ((↑((BitVec.ofInt IntKind.i64.bits t1 &&& BitVec.ofInt IntKind.i64.bits (Int.fdiv 1024 (2 ^ (min t6.toNat IntKind.i64.bits)))).toNat) : Int))) = 0)) then false else true))
    (cnd ((decide (0 ≤ t6 ∧ t6 < (↑11 : Int))))
     (cnd ((decide (t6 < ((↑11 : Int)))))
      (cnd ((n144 b1_0 b1_1 b1_2 b1_3 (t0.ii t6.toNat 0) (t0.ii t6.toNat (0 + 1)) (t0.ii t6.toNat ((0 + 1) + 1)) (t0.ii t6.toNat (((0 + 1) + 1) + 1))))
       (R (XE.normal) [.ra [.int .i64, .int .i64, .int .i64, .int .i64] 11 t0, .int .i64 t1, .ptr 0 0, .ptr 1 0, .int .i64 (IntKind.i64.wrap (t6 + 1))] [.cells 171 [.int .i64 b0_0, .int .i64 b0_1, .int .i64 b0_2, .int .i64 b0_3], .cells 171 [.int .i64 ((m144 b1_0 b1_1 b1_2 b1_3 (t0.ii t6.toNat 0) (t0.ii t6.toNat (0 + 1)) (t0.ii t6.toNat ((0 + 1) + 1)) (t0.ii t6.toNat (((0 + 1) + 1) + 1))).fst), .int .i64 ((m144 b1_0 b1_1 b1_2 b1_3 (t0.ii t6.toNat 0) (t0.ii t6.toNat (0 + 1)) (t0.ii t6.toNat ((0 + 1) + 1)) (t0.ii t6.toNat (((0 + 1) + 1) + 1))).snd.fst), .int .i64 ((m144 b1_0 b1_1 b1_2 b1_3 (t0.ii t6.toNat 0) (t0.ii t6.toNat (0 + 1)) (t0.ii t6.toNat ((0 + 1) + 1)) (t0.ii t6.toNat (((0 + 1) + 1) + 1))).snd.snd.fst), .int .i64 ((m144 b1_0 b1_1 b1_2 b1_3 (t0.ii t6.toNat 0) (t0.ii t6.toNat (0 + 1)) (t0.ii t6.toNat ((0 + 1) + 1)) (t0.ii t6.toNat (((0 + 1) + 1) + 1))).snd.snd.snd)]])
       False)
      False)
     False)
    (R (XE.normal) [.ra [.int .i64, .int .i64, .int .i64, .int .i64] 11 t0, .int .i64 t1, .ptr 0 0, .ptr 1 0, .int .i64 (IntKind.i64.wrap (t6 + 1))] [.cells 171 [.int .i64 b0_0, .int .i64 b0_1, .int .i64 b0_2, .int .i64 b0_3], .cells 171 [.int .i64 b1_0, .int .i64 b1_1, .int .i64 b1_2, .int .i64 b1_3]]))
   False)
  (R (XE.exit 0) [.ptr 0 0, .ptr 1 0] [.cells 171 [.int .i64 b0_0, .int .i64 b0_1, .int .i64 b0_2, .int .i64 b0_3], .cells 171 [.int .i64 b1_0, .int .i64 b1_1, .int .i64 b1_2, .int .i64 b1_3]])) := by kernel_rfl
theorem z133_0 : LOk Try.prog g133_0 (.block 0 (bodyAt (Try.f133.body.getD .skip) 0)) := by
  refine loop_blk (ι := Dat × Int × Int × Int × Int × Int × Int × Int × Int × Int × Int) (L := [(144, c144)]) (Λ := (fun _ => none)) (fuel := 8) (na := 0) (nt := 26) (nx := 2) (Lh := [0, 1, 4, 5, 6]) (Le := [4, 5]) (gl := []) (tabOk_cons k144 tabOk_nil) mix_ok noLam rfl (fun f x K => GG default (e133_0 x.1 x.2.1 x.2.2.2.1 x.2.2.2.2.1 x.2.2.2.2.2.1 x.2.2.2.2.2.2.1) K (l133_0 x.1 x.2.1 x.2.2.2.1 x.2.2.2.2.1 x.2.2.2.2.2.1 x.2.2.2.2.2.2.1 f x.2.2.1 x.2.2.2.2.2.2.2.1 x.2.2.2.2.2.2.2.2.1 x.2.2.2.2.2.2.2.2.2.1 x.2.2.2.2.2.2.2.2.2.2)) (fun x => [.ra [.int .i64, .int .i64, .int .i64, .int .i64] 11 x.1, .int .i64 x.2.1, .ptr 0 0, .ptr 1 0, .int .i64 x.2.2.1]) (fun x => [.cells 171 [.int .i64 x.2.2.2.1, .int .i64 x.2.2.2.2.1, .int .i64 x.2.2.2.2.2.1, .int .i64 x.2.2.2.2.2.2.1], .cells 171 [.int .i64 x.2.2.2.2.2.2.2.1, .int .i64 x.2.2.2.2.2.2.2.2.1, .int .i64 x.2.2.2.2.2.2.2.2.2.1, .int .i64 x.2.2.2.2.2.2.2.2.2.2]]) (fun x K => gg_none) ?_ ?_
  · rintro f ⟨t0, t1, t6, b0_0, b0_1, b0_2, b0_3, b1_0, b1_1, b1_2, b1_3⟩ K hG
    have hG : GG default (e133_0 t0 t1 b0_0 b0_1 b0_2 b0_3) K (cond ((decide (t6 ≤ 10))) (cond ((decide (0 ≤ t6))) (cond ((bif (decide ((IntKind.i64.wrap ((↑((BitVec.ofInt IntKind.i64.bits t1 &&& BitVec.ofInt IntKind.i64.bits (Int.fdiv 1024 (2 ^ (min t6.toNat IntKind.i64.bits)))).toNat) : Int))) = 0)) then false else true)) (cond ((decide (0 ≤ t6 ∧ t6 < (↑11 : Int)))) (cond ((decide (t6 < ((↑11 : Int))))) (cond ((n144 b1_0 b1_1 b1_2 b1_3 (t0.ii t6.toNat 0) (t0.ii t6.toNat (0 + 1)) (t0.ii t6.toNat ((0 + 1) + 1)) (t0.ii t6.toNat (((0 + 1) + 1) + 1)))) (l133_0 t0 t1 b0_0 b0_1 b0_2 b0_3 f (IntKind.i64.wrap (t6 + 1)) ((m144 b1_0 b1_1 b1_2 b1_3 (t0.ii t6.toNat 0) (t0.ii t6.toNat (0 + 1)) (t0.ii t6.toNat ((0 + 1) + 1)) (t0.ii t6.toNat (((0 + 1) + 1) + 1))).fst) ((m144 b1_0 b1_1 b1_2 b1_3 (t0.ii t6.toNat 0) (t0.ii t6.toNat (0 + 1)) (t0.ii t6.toNat ((0 + 1) + 1)) (t0.ii t6.toNat (((0 + 1) + 1) + 1))).snd.fst) ((m144 b1_0 b1_1 b1_2 b1_3 (t0.ii t6.toNat 0) (t0.ii t6.toNat (0 + 1)) (t0.ii t6.toNat ((0 + 1) + 1)) (t0.ii t6.toNat (((0 + 1) + 1) + 1))).snd.snd.fst) ((m144 b1_0 b1_1 b1_2 b1_3 (t0.ii t6.toNat 0) (t0.ii t6.toNat (0 + 1)) (t0.ii t6.toNat ((0 + 1) + 1)) (t0.ii t6.toNat (((0 + 1) + 1) + 1))).snd.snd.snd)) none) none) none) (l133_0 t0 t1 b0_0 b0_1 b0_2 b0_3 f (IntKind.i64.wrap (t6 + 1)) b1_0 b1_1 b1_2 b1_3)) none) (some (b1_0, b1_1, b1_2, b1_3))) := hG
    refine propOf (y133_0 t0 t1 t6 b0_0 b0_1 b0_2 b0_3 b1_0 b1_1 b1_2 b1_3 _) ?_
    exact cnd_gg2 hG (fun h0 => cnd_gg h0 fun h1 => cnd_gg2 h1 (fun h2 => cnd_gg h2 fun h3 => cnd_gg h3 fun h4 => cnd_gg h4 fun h5 => ⟨(t0, t1, (IntKind.i64.wrap (t6 + 1)), b0_0, b0_1, b0_2, b0_3, ((m144 b1_0 b1_1 b1_2 b1_3 (t0.ii t6.toNat 0) (t0.ii t6.toNat (0 + 1)) (t0.ii t6.toNat ((0 + 1) + 1)) (t0.ii t6.toNat (((0 + 1) + 1) + 1))).fst), ((m144 b1_0 b1_1 b1_2 b1_3 (t0.ii t6.toNat 0) (t0.ii t6.toNat (0 + 1)) (t0.ii t6.toNat ((0 + 1) + 1)) (t0.ii t6.toNat (((0 + 1) + 1) + 1))).snd.fst), ((m144 b1_0 b1_1 b1_2 b1_3 (t0.ii t6.toNat 0) (t0.ii t6.toNat (0 + 1)) (t0.ii t6.toNat ((0 + 1) + 1)) (t0.ii t6.toNat (((0 + 1) + 1) + 1))).snd.snd.fst), ((m144 b1_0 b1_1 b1_2 b1_3 (t0.ii t6.toNat 0) (t0.ii t6.toNat (0 + 1)) (t0.ii t6.toNat ((0 + 1) + 1)) (t0.ii t6.toNat (((0 + 1) + 1) + 1))).snd.snd.snd)), rfl, rfl, h5⟩) (fun h2 => ⟨(t0, t1, (IntKind.i64.wrap (t6 + 1)), b0_0, b0_1, b0_2, b0_3, b1_0, b1_1, b1_2, b1_3), rfl, rfl, h2⟩)) (fun h0 => h0.2)
  · intro s k h
    unfold g133_0 at h
    split at h <;> try exact h.elim
    rename_i e1
    rw [needs_iff] at h
    exact ⟨_, e1, _, (_, _, _, _, _, _, _, _, _, _, _), rfl, rfl, h.1 _ (List.mem_singleton.2 rfl), h.2⟩
theorem x133 (da0 : Dat) (a1 : Int) (R : SV → List Blk → List Blk → Prop) : exec Try.prog [(144, c144)] (lamOf [(0, g133_0)]) 8 (Try.f133.body.getD .skip) (initS Try.f133.ntmps [.ra [.int .i64, .int .i64, .int .i64, .int .i64] 11 da0, .int .i64 a1] 0 (memOf [])) (retK Try.prog Try.f133.results.toList (outK 0 (List.range 0) [] (.k) fun v U N => R v U N)) =
  (cnd (((o133_0 da0 a1 0 0 0 0 1 100000000 100000000 0 0).isSome))
  (R (.agg [.int .i64 (((o133_0 da0 a1 0 0 0 0 1 100000000 100000000 0 0).getD default).fst), .int .i64 (((o133_0 da0 a1 0 0 0 0 1 100000000 100000000 0 0).getD default).snd.fst), .int .i64 (((o133_0 da0 a1 0 0 0 0 1 100000000 100000000 0 0).getD default).snd.snd.fst), .int .i64 (((o133_0 da0 a1 0 0 0 0 1 100000000 100000000 0 0).getD default).snd.snd.snd)]) [] [])
  False) := by kernel_rfl
noncomputable def m133 (da0 : Dat) (a1 : Int) : Int × Int × Int × Int :=
  ((((o133_0 da0 a1 0 0 0 0 1 100000000 100000000 0 0).getD default).fst), (((o133_0 da0 a1 0 0 0 0 1 100000000 100000000 0 0).getD default).snd.fst), (((o133_0 da0 a1 0 0 0 0 1 100000000 100000000 0 0).getD default).snd.snd.fst), (((o133_0 da0 a1 0 0 0 0 1 100000000 100000000 0 0).getD default).snd.snd.snd))
noncomputable def n133 (da0 : Dat) (a1 : Int) : Bool :=
  ((((o133_0 da0 a1 0 0 0 0 1 100000000 100000000 0 0).isSome)) && true)
noncomputable def q133 (r : Int × Int × Int × Int) : SV × List Blk × List Blk := (.agg [.int .i64 r.1, .int .i64 r.2.1, .int .i64 r.2.2.1, .int .i64 r.2.2.2], [], [])
noncomputable def g133 : List SV → List Blk → Option OpRes := fun vs bs => match vs, bs with
  | [.ra [.int .i64, .int .i64, .int .i64, .int .i64] 11 da0, .int .i64 a1], [] => some (resOf 0 (q133 (m133 da0 a1)) [n133 da0 a1])
  | _, _ => none
noncomputable def c133 : Ctr := genC [.ra [.int .i64, .int .i64, .int .i64, .int .i64] 11, .k] g133
theorem p133 (da0 : Dat) (a1 : Int) (hn : n133 da0 a1 = true) : exec Try.prog [(144, c144)] (lamOf [(0, g133_0)]) 8 (Try.f133.body.getD .skip) (initS Try.f133.ntmps [.ra [.int .i64, .int .i64, .int .i64, .int .i64] 11 da0, .int .i64 a1] 0 (memOf [])) (retK Try.prog Try.f133.results.toList (outK 0 (List.range 0) [] (.k) fun v U N => (v, U, N) = (q133 (m133 da0 a1)))) :=
  propOf (x133 da0 a1 _) (cnd_need (and_l hn) (leaf_of (l := ((((o133_0 da0 a1 0 0 0 0 1 100000000 100000000 0 0).getD default).fst), (((o133_0 da0 a1 0 0 0 0 1 100000000 100000000 0 0).getD default).snd.fst), (((o133_0 da0 a1 0 0 0 0 1 100000000 100000000 0 0).getD default).snd.snd.fst), (((o133_0 da0 a1 0 0 0 0 1 100000000 100000000 0 0).getD default).snd.snd.snd))) rfl rfl))
theorem k133 : CtrOk Try.prog c133 133 := ctr_of (tabOk_cons k144 tabOk_nil) mix_ok 8 (fn := Try.f133) (c := (Try.f133.body.getD .skip)) (grs := []) (rh := .k) (Λ := (lamOf [(0, g133_0)])) Try.func133 rfl (by kernel_rfl) (lam_of rfl (lams_cons z133_0 lams_nil)) fun vs bs q h hn => by
  unfold g133 at h
  split at h <;> cases h
  exact ⟨_, rfl, p133 _ _ (hn _ (List.mem_singleton.2 rfl))⟩
/-! ### slices.ContainsFunc[[]shotline/api.TideWave,shotline/api.TideWave] -/
theorem x142c143 (na0 : Nat) (da0 : Dat) (R : SV → List Blk → List Blk → Prop) : exec Try.prog [(143, c143), (158, c158c143)] (fun _ => none) 8 (Try.f142.body.getD .skip) (initS Try.f142.ntmps [.ro [.int .i64, .int .i64, .int .i64] na0 da0, .fn 143 []] 0 (memOf [])) (retK Try.prog Try.f142.results.toList (outK 0 (List.range 0) [] (.k) fun v U N => R v U N)) =
  (cnd ((n158c143 na0 da0))
  (R (.bool (decide (0 ≤ (m158c143 na0 da0)))) [] [])
  False) := by kernel_rfl
noncomputable def m142c143 (na0 : Nat) (da0 : Dat) : Bool :=
  (decide (0 ≤ (m158c143 na0 da0)))
noncomputable def n142c143 (na0 : Nat) (da0 : Dat) : Bool :=
  (((n158c143 na0 da0)) && true)
noncomputable def q142c143 (r : Bool) : SV × List Blk × List Blk := (.bool r, [], [])
noncomputable def g142c143 : List SV → List Blk → Option OpRes := fun vs bs => match vs, bs with
  | [.ro [.int .i64, .int .i64, .int .i64] na0 da0, .fn 143 []], [] => some (resOf 0 (q142c143 (m142c143 na0 da0)) [n142c143 na0 da0])
  | _, _ => none
noncomputable def c142c143 : Ctr := genC [.ro [.int .i64, .int .i64, .int .i64], .f []] g142c143
theorem p142c143 (na0 : Nat) (da0 : Dat) (hn : n142c143 na0 da0 = true) : exec Try.prog [(143, c143), (158, c158c143)] (fun _ => none) 8 (Try.f142.body.getD .skip) (initS Try.f142.ntmps [.ro [.int .i64, .int .i64, .int .i64] na0 da0, .fn 143 []] 0 (memOf [])) (retK Try.prog Try.f142.results.toList (outK 0 (List.range 0) [] (.k) fun v U N => (v, U, N) = (q142c143 (m142c143 na0 da0)))) :=
  propOf (x142c143 na0 da0 _) (cnd_need (and_l hn) (leaf_of (l := (decide (0 ≤ (m158c143 na0 da0)))) rfl rfl))
theorem k142c143 : CtrOk Try.prog c142c143 142 := ctr_of (tabOk_cons k143 (tabOk_cons k158c143 tabOk_nil)) mix_ok 8 (fn := Try.f142) (c := (Try.f142.body.getD .skip)) (grs := []) (rh := .k) (Λ := (fun _ => none)) Try.func142 rfl (by kernel_rfl) noLam fun vs bs q h hn => by
  unfold g142c143 at h
  split at h <;> cases h
  exact ⟨_, rfl, p142c143 _ _ (hn _ (List.mem_singleton.2 rfl))⟩
/-! ### shotline/site.CheckTide -/
theorem x126 (a0_0 : Int) (na0_1 : Nat) (da0_1 : Dat) (R : SV → List Blk → List Blk → Prop) : exec Try.prog [(96, c96), (142, c142c143), (143, c143)] (fun _ => none) 8 (Try.f126.body.getD .skip) (initS Try.f126.ntmps [.agg [.int .i64 a0_0, .ro [.int .i64, .int .i64, .int .i64] na0_1 da0_1]] 0 (memOf [])) (retK Try.prog Try.f126.results.toList (outK 0 (List.range 0) [] (.k) fun v U N => R v U N)) =
  (cnd ((bif (m96 a0_0 (-100000) 100000) then false else true))
  (R (.int .i64 2) [] [])
  (cnd ((decide ((10 : Int) < ((↑na0_1 : Int)))))
   (R (.int .i64 8) [] [])
   (cnd ((n142c143 na0_1 da0_1))
    (cnd ((m142c143 na0_1 da0_1))
     (R (.int .i64 2) [] [])
     (R (.int .i64 0) [] []))
    False))) := by kernel_rfl
noncomputable def m126 (a0_0 : Int) (na0_1 : Nat) (da0_1 : Dat) : Int :=
  (cond ((bif (m96 a0_0 (-100000) 100000) then false else true)) 2 (cond ((decide ((10 : Int) < ((↑na0_1 : Int))))) 8 (cond ((m142c143 na0_1 da0_1)) 2 0)))
noncomputable def n126 (a0_0 : Int) (na0_1 : Nat) (da0_1 : Dat) : Bool :=
  (cond ((bif (m96 a0_0 (-100000) 100000) then false else true)) true (cond ((decide ((10 : Int) < ((↑na0_1 : Int))))) true (((n142c143 na0_1 da0_1)) && true)))
noncomputable def q126 (r : Int) : SV × List Blk × List Blk := (.int .i64 r, [], [])
noncomputable def g126 : List SV → List Blk → Option OpRes := fun vs bs => match vs, bs with
  | [.agg [.int .i64 a0_0, .ro [.int .i64, .int .i64, .int .i64] na0_1 da0_1]], [] => some (resOf 0 (q126 (m126 a0_0 na0_1 da0_1)) [n126 a0_0 na0_1 da0_1])
  | _, _ => none
noncomputable def c126 : Ctr := genC [.a [.k, .ro [.int .i64, .int .i64, .int .i64]]] g126
theorem p126 (a0_0 : Int) (na0_1 : Nat) (da0_1 : Dat) (hn : n126 a0_0 na0_1 da0_1 = true) : exec Try.prog [(96, c96), (142, c142c143), (143, c143)] (fun _ => none) 8 (Try.f126.body.getD .skip) (initS Try.f126.ntmps [.agg [.int .i64 a0_0, .ro [.int .i64, .int .i64, .int .i64] na0_1 da0_1]] 0 (memOf [])) (retK Try.prog Try.f126.results.toList (outK 0 (List.range 0) [] (.k) fun v U N => (v, U, N) = (q126 (m126 a0_0 na0_1 da0_1)))) :=
  propOf (x126 a0_0 na0_1 da0_1 _) (cnd_of (fun h0 => leaf_of (l := 2) (condT h0 rfl) rfl) (fun h0 => cnd_of (fun h1 => leaf_of (l := 8) (condF h0 (condT h1 rfl)) rfl) (fun h1 => cnd_need (and_l (cond_f h1 (cond_f h0 hn))) (cnd_of (fun h2 => leaf_of (l := 2) (condF h0 (condF h1 (condT h2 rfl))) rfl) (fun h2 => leaf_of (l := 0) (condF h0 (condF h1 (condF h2 rfl))) rfl)))))
theorem k126 : CtrOk Try.prog c126 126 := ctr_of (tabOk_cons k96 (tabOk_cons k142c143 (tabOk_cons k143 tabOk_nil))) mix_ok 8 (fn := Try.f126) (c := (Try.f126.body.getD .skip)) (grs := []) (rh := .k) (Λ := (fun _ => none)) Try.func126 rfl (by kernel_rfl) noLam fun vs bs q h hn => by
  unfold g126 at h
  split at h <;> cases h
  exact ⟨_, rfl, p126 _ _ _ (hn _ (List.mem_singleton.2 rfl))⟩
/-! ### (*shotline/site.circle).cos -/
theorem x99 (da0 : Dat) (a1 : Int) (R : SV → List Blk → List Blk → Prop) : exec Try.prog [(133, c133), (134, c134)] (fun _ => none) 8 (Try.f99.body.getD .skip) (initS Try.f99.ntmps [.ra [.int .i64, .int .i64, .int .i64, .int .i64] 11 da0, .int .i64 a1] 0 (memOf [])) (retK Try.prog Try.f99.results.toList (outK 0 (List.range 0) [] (.k) fun v U N => R v U N)) =
  (cnd ((n133 da0 (a1.tmod 1024)))
  (cnd ((decide (((IntKind.i64.wrap (a1.tdiv 1024)).tmod 4) = 0)))
   (R (.agg [.int .i64 ((m133 da0 (a1.tmod 1024)).fst), .int .i64 ((m133 da0 (a1.tmod 1024)).snd.fst)]) [] [])
   (cnd ((decide (((IntKind.i64.wrap (a1.tdiv 1024)).tmod 4) = 1)))
    (R (.agg [.int .i64 ((m134 ((m133 da0 (a1.tmod 1024)).snd.snd.fst) ((m133 da0 (a1.tmod 1024)).snd.snd.snd)).fst), .int .i64 ((m134 ((m133 da0 (a1.tmod 1024)).snd.snd.fst) ((m133 da0 (a1.tmod 1024)).snd.snd.snd)).snd)]) [] [])
    (cnd ((decide (((IntKind.i64.wrap (a1.tdiv 1024)).tmod 4) = 2)))
     (R (.agg [.int .i64 ((m134 ((m133 da0 (a1.tmod 1024)).fst) ((m133 da0 (a1.tmod 1024)).snd.fst)).fst), .int .i64 ((m134 ((m133 da0 (a1.tmod 1024)).fst) ((m133 da0 (a1.tmod 1024)).snd.fst)).snd)]) [] [])
     (R (.agg [.int .i64 ((m133 da0 (a1.tmod 1024)).snd.snd.fst), .int .i64 ((m133 da0 (a1.tmod 1024)).snd.snd.snd)]) [] []))))
  False) := by kernel_rfl
noncomputable def m99 (da0 : Dat) (a1 : Int) : Int × Int :=
  (cond ((decide (((IntKind.i64.wrap (a1.tdiv 1024)).tmod 4) = 0))) (((m133 da0 (a1.tmod 1024)).fst), ((m133 da0 (a1.tmod 1024)).snd.fst)) (cond ((decide (((IntKind.i64.wrap (a1.tdiv 1024)).tmod 4) = 1))) (((m134 ((m133 da0 (a1.tmod 1024)).snd.snd.fst) ((m133 da0 (a1.tmod 1024)).snd.snd.snd)).fst), ((m134 ((m133 da0 (a1.tmod 1024)).snd.snd.fst) ((m133 da0 (a1.tmod 1024)).snd.snd.snd)).snd)) (cond ((decide (((IntKind.i64.wrap (a1.tdiv 1024)).tmod 4) = 2))) (((m134 ((m133 da0 (a1.tmod 1024)).fst) ((m133 da0 (a1.tmod 1024)).snd.fst)).fst), ((m134 ((m133 da0 (a1.tmod 1024)).fst) ((m133 da0 (a1.tmod 1024)).snd.fst)).snd)) (((m133 da0 (a1.tmod 1024)).snd.snd.fst), ((m133 da0 (a1.tmod 1024)).snd.snd.snd)))))
noncomputable def n99 (da0 : Dat) (a1 : Int) : Bool :=
  (((n133 da0 (a1.tmod 1024))) && true)
noncomputable def q99 (r : Int × Int) : SV × List Blk × List Blk := (.agg [.int .i64 r.1, .int .i64 r.2], [], [])
noncomputable def g99 : List SV → List Blk → Option OpRes := fun vs bs => match vs, bs with
  | [.ra [.int .i64, .int .i64, .int .i64, .int .i64] 11 da0, .int .i64 a1], [] => some (resOf 0 (q99 (m99 da0 a1)) [n99 da0 a1])
  | _, _ => none
noncomputable def c99 : Ctr := genC [.ra [.int .i64, .int .i64, .int .i64, .int .i64] 11, .k] g99
theorem p99 (da0 : Dat) (a1 : Int) (hn : n99 da0 a1 = true) : exec Try.prog [(133, c133), (134, c134)] (fun _ => none) 8 (Try.f99.body.getD .skip) (initS Try.f99.ntmps [.ra [.int .i64, .int .i64, .int .i64, .int .i64] 11 da0, .int .i64 a1] 0 (memOf [])) (retK Try.prog Try.f99.results.toList (outK 0 (List.range 0) [] (.k) fun v U N => (v, U, N) = (q99 (m99 da0 a1)))) :=
  propOf (x99 da0 a1 _) (cnd_need (and_l hn) (cnd_of (fun h0 => leaf_of (l := (((m133 da0 (a1.tmod 1024)).fst), ((m133 da0 (a1.tmod 1024)).snd.fst))) (condT h0 rfl) rfl) (fun h0 => cnd_of (fun h1 => leaf_of (l := (((m134 ((m133 da0 (a1.tmod 1024)).snd.snd.fst) ((m133 da0 (a1.tmod 1024)).snd.snd.snd)).fst), ((m134 ((m133 da0 (a1.tmod 1024)).snd.snd.fst) ((m133 da0 (a1.tmod 1024)).snd.snd.snd)).snd))) (condF h0 (condT h1 rfl)) rfl) (fun h1 => cnd_of (fun h2 => leaf_of (l := (((m134 ((m133 da0 (a1.tmod 1024)).fst) ((m133 da0 (a1.tmod 1024)).snd.fst)).fst), ((m134 ((m133 da0 (a1.tmod 1024)).fst) ((m133 da0 (a1.tmod 1024)).snd.fst)).snd))) (condF h0 (condF h1 (condT h2 rfl))) rfl) (fun h2 => leaf_of (l := (((m133 da0 (a1.tmod 1024)).snd.snd.fst), ((m133 da0 (a1.tmod 1024)).snd.snd.snd))) (condF h0 (condF h1 (condF h2 rfl))) rfl)))))
theorem k99 : CtrOk Try.prog c99 99 := ctr_of (tabOk_cons k133 (tabOk_cons k134 tabOk_nil)) mix_ok 8 (fn := Try.f99) (c := (Try.f99.body.getD .skip)) (grs := []) (rh := .k) (Λ := (fun _ => none)) Try.func99 rfl (by kernel_rfl) noLam fun vs bs q h hn => by
  unfold g99 at h
  split at h <;> cases h
  exact ⟨_, rfl, p99 _ _ (hn _ (List.mem_singleton.2 rfl))⟩
/-! ### shotline/shotlinelaw08.own -/
theorem x20 (a0_0 : Int) (na0_1 : Nat) (da0_1 : Dat) (R : SV → List Blk → List Blk → Prop) : exec Try.prog [] (fun _ => none) 8 (Try.f20.body.getD .skip) (initS Try.f20.ntmps [.agg [.int .i64 a0_0, .ro [.int .i64, .int .i64, .int .i64] na0_1 da0_1]] 0 (memOf [])) (retK Try.prog Try.f20.results.toList (outK 0 (List.range 0) [] (.t [.k, .ro [.int .i64, .int .i64, .int .i64]]) fun v U N => R v U N)) =
  (cnd ((decide ((0 + na0_1) ≤ 1073741824)))
  (cnd ((decide ((0 + (0 + na0_1)) ≤ (0 + na0_1))))
   (R (.agg [.int .i64 a0_0, .ro [.int .i64, .int .i64, .int .i64] (0 + na0_1) ((datS [] 3).app 0 da0_1)]) [] [])
   False)
  False) := by kernel_rfl
noncomputable def m20 (a0_0 : Int) (na0_1 : Nat) (da0_1 : Dat) : Int × Nat × Dat :=
  (a0_0, (0 + na0_1), ((datS [] 3).app 0 da0_1))
noncomputable def n20 (a0_0 : Int) (na0_1 : Nat) (da0_1 : Dat) : Bool :=
  (((decide ((0 + na0_1) ≤ 1073741824))) && (((decide ((0 + (0 + na0_1)) ≤ (0 + na0_1)))) && true))
noncomputable def q20 (r : Int × Nat × Dat) : SV × List Blk × List Blk := (.agg [.int .i64 r.1, .ro [.int .i64, .int .i64, .int .i64] r.2.1 r.2.2], [], [])
noncomputable def g20 : List SV → List Blk → Option OpRes := fun vs bs => match vs, bs with
  | [.agg [.int .i64 a0_0, .ro [.int .i64, .int .i64, .int .i64] na0_1 da0_1]], [] => some (resOf 0 (q20 (m20 a0_0 na0_1 da0_1)) [n20 a0_0 na0_1 da0_1])
  | _, _ => none
noncomputable def c20 : Ctr := genC [.a [.k, .ro [.int .i64, .int .i64, .int .i64]]] g20
theorem p20 (a0_0 : Int) (na0_1 : Nat) (da0_1 : Dat) (hn : n20 a0_0 na0_1 da0_1 = true) : exec Try.prog [] (fun _ => none) 8 (Try.f20.body.getD .skip) (initS Try.f20.ntmps [.agg [.int .i64 a0_0, .ro [.int .i64, .int .i64, .int .i64] na0_1 da0_1]] 0 (memOf [])) (retK Try.prog Try.f20.results.toList (outK 0 (List.range 0) [] (.t [.k, .ro [.int .i64, .int .i64, .int .i64]]) fun v U N => (v, U, N) = (q20 (m20 a0_0 na0_1 da0_1)))) :=
  propOf (x20 a0_0 na0_1 da0_1 _) (cnd_need (and_l hn) (cnd_need (and_l (and_r hn)) (leaf_of (l := (a0_0, (0 + na0_1), ((datS [] 3).app 0 da0_1))) rfl rfl)))
theorem k20 : CtrOk Try.prog c20 20 := ctr_of tabOk_nil mix_ok 8 (fn := Try.f20) (c := (Try.f20.body.getD .skip)) (grs := []) (rh := .t [.k, .ro [.int .i64, .int .i64, .int .i64]]) (Λ := (fun _ => none)) Try.func20 rfl (by kernel_rfl) noLam fun vs bs q h hn => by
  unfold g20 at h
  split at h <;> cases h
  exact ⟨_, rfl, p20 _ _ _ (hn _ (List.mem_singleton.2 rfl))⟩
/-! ### shotline/shotlineref08.halves -/
noncomputable def gg145 (M : Int → Int) (N : Int → Bool) : List SV → List Blk → Option OpRes := fun vs bs => match vs, bs with
  | [.int .i64 a0], [] => some (resOf 0 (q145 (M a0)) [N a0])
  | _, _ => none
noncomputable def gg146 (M : Int → Int) (N : Int → Bool) : List SV → List Blk → Option OpRes := fun vs bs => match vs, bs with
  | [.int .i64 a0], [] => some (resOf 0 (q146 (M a0)) [N a0])
  | _, _ => none
noncomputable def t135_0 (M145 : Int → Int) (M146 : Int → Int) : Int := IntKind.i64.wrap ((IntKind.i64.wrap (100000000 + (M145 5000000000000000))) * 50000000)
noncomputable def t135_1 (M145 : Int → Int) (M146 : Int → Int) : Int := IntKind.i64.wrap ((IntKind.i64.wrap (100000000 + (M146 5000000000000000))) * 50000000)
noncomputable def t135_2 (M145 : Int → Int) (M146 : Int → Int) : Int := IntKind.i64.wrap ((IntKind.i64.wrap (100000000 - (M146 5000000000000000))) * 50000000)
noncomputable def t135_3 (M145 : Int → Int) (M146 : Int → Int) : Int := IntKind.i64.wrap ((IntKind.i64.wrap (100000000 - (M145 5000000000000000))) * 50000000)
noncomputable def t135_4 (M145 : Int → Int) (M146 : Int → Int) : Int := IntKind.i64.wrap ((IntKind.i64.wrap (100000000 + (M145 (t135_0 M145 M146)))) * 50000000)
noncomputable def t135_5 (M145 : Int → Int) (M146 : Int → Int) : Int := IntKind.i64.wrap ((IntKind.i64.wrap (100000000 + (M146 (t135_1 M145 M146)))) * 50000000)
noncomputable def t135_6 (M145 : Int → Int) (M146 : Int → Int) : Int := IntKind.i64.wrap ((IntKind.i64.wrap (100000000 - (M146 (t135_1 M145 M146)))) * 50000000)
noncomputable def t135_7 (M145 : Int → Int) (M146 : Int → Int) : Int := IntKind.i64.wrap ((IntKind.i64.wrap (100000000 - (M145 (t135_0 M145 M146)))) * 50000000)
noncomputable def t135_8 (M145 : Int → Int) (M146 : Int → Int) : Int := IntKind.i64.wrap ((IntKind.i64.wrap (100000000 + (M145 (t135_4 M145 M146)))) * 50000000)
noncomputable def t135_9 (M145 : Int → Int) (M146 : Int → Int) : Int := IntKind.i64.wrap ((IntKind.i64.wrap (100000000 + (M146 (t135_5 M145 M146)))) * 50000000)
noncomputable def t135_10 (M145 : Int → Int) (M146 : Int → Int) : Int := IntKind.i64.wrap ((IntKind.i64.wrap (100000000 - (M146 (t135_5 M145 M146)))) * 50000000)
noncomputable def t135_11 (M145 : Int → Int) (M146 : Int → Int) : Int := IntKind.i64.wrap ((IntKind.i64.wrap (100000000 - (M145 (t135_4 M145 M146)))) * 50000000)
noncomputable def t135_12 (M145 : Int → Int) (M146 : Int → Int) : Int := IntKind.i64.wrap ((IntKind.i64.wrap (100000000 + (M145 (t135_8 M145 M146)))) * 50000000)
noncomputable def t135_13 (M145 : Int → Int) (M146 : Int → Int) : Int := IntKind.i64.wrap ((IntKind.i64.wrap (100000000 + (M146 (t135_9 M145 M146)))) * 50000000)
noncomputable def t135_14 (M145 : Int → Int) (M146 : Int → Int) : Int := IntKind.i64.wrap ((IntKind.i64.wrap (100000000 - (M146 (t135_9 M145 M146)))) * 50000000)
noncomputable def t135_15 (M145 : Int → Int) (M146 : Int → Int) : Int := IntKind.i64.wrap ((IntKind.i64.wrap (100000000 - (M145 (t135_8 M145 M146)))) * 50000000)
noncomputable def t135_16 (M145 : Int → Int) (M146 : Int → Int) : Int := IntKind.i64.wrap ((IntKind.i64.wrap (100000000 + (M145 (t135_12 M145 M146)))) * 50000000)
noncomputable def t135_17 (M145 : Int → Int) (M146 : Int → Int) : Int := IntKind.i64.wrap ((IntKind.i64.wrap (100000000 + (M146 (t135_13 M145 M146)))) * 50000000)
noncomputable def t135_18 (M145 : Int → Int) (M146 : Int → Int) : Int := IntKind.i64.wrap ((IntKind.i64.wrap (100000000 - (M146 (t135_13 M145 M146)))) * 50000000)
noncomputable def t135_19 (M145 : Int → Int) (M146 : Int → Int) : Int := IntKind.i64.wrap ((IntKind.i64.wrap (100000000 - (M145 (t135_12 M145 M146)))) * 50000000)
noncomputable def t135_20 (M145 : Int → Int) (M146 : Int → Int) : Int := IntKind.i64.wrap ((IntKind.i64.wrap (100000000 + (M145 (t135_16 M145 M146)))) * 50000000)
noncomputable def t135_21 (M145 : Int → Int) (M146 : Int → Int) : Int := IntKind.i64.wrap ((IntKind.i64.wrap (100000000 + (M146 (t135_17 M145 M146)))) * 50000000)
noncomputable def t135_22 (M145 : Int → Int) (M146 : Int → Int) : Int := IntKind.i64.wrap ((IntKind.i64.wrap (100000000 - (M146 (t135_17 M145 M146)))) * 50000000)
noncomputable def t135_23 (M145 : Int → Int) (M146 : Int → Int) : Int := IntKind.i64.wrap ((IntKind.i64.wrap (100000000 - (M145 (t135_16 M145 M146)))) * 50000000)
noncomputable def t135_24 (M145 : Int → Int) (M146 : Int → Int) : Int := IntKind.i64.wrap ((IntKind.i64.wrap (100000000 + (M145 (t135_20 M145 M146)))) * 50000000)
noncomputable def t135_25 (M145 : Int → Int) (M146 : Int → Int) : Int := IntKind.i64.wrap ((IntKind.i64.wrap (100000000 + (M146 (t135_21 M145 M146)))) * 50000000)
noncomputable def t135_26 (M145 : Int → Int) (M146 : Int → Int) : Int := IntKind.i64.wrap ((IntKind.i64.wrap (100000000 - (M146 (t135_21 M145 M146)))) * 50000000)
noncomputable def t135_27 (M145 : Int → Int) (M146 : Int → Int) : Int := IntKind.i64.wrap ((IntKind.i64.wrap (100000000 - (M145 (t135_20 M145 M146)))) * 50000000)
noncomputable def t135_28 (M145 : Int → Int) (M146 : Int → Int) : Int := IntKind.i64.wrap ((IntKind.i64.wrap (100000000 + (M145 (t135_24 M145 M146)))) * 50000000)
noncomputable def t135_29 (M145 : Int → Int) (M146 : Int → Int) : Int := IntKind.i64.wrap ((IntKind.i64.wrap (100000000 + (M146 (t135_25 M145 M146)))) * 50000000)
noncomputable def t135_30 (M145 : Int → Int) (M146 : Int → Int) : Int := IntKind.i64.wrap ((IntKind.i64.wrap (100000000 - (M146 (t135_25 M145 M146)))) * 50000000)
noncomputable def t135_31 (M145 : Int → Int) (M146 : Int → Int) : Int := IntKind.i64.wrap ((IntKind.i64.wrap (100000000 - (M145 (t135_24 M145 M146)))) * 50000000)
noncomputable def t135_32 (M145 : Int → Int) (M146 : Int → Int) : Int := IntKind.i64.wrap ((IntKind.i64.wrap (100000000 + (M145 (t135_28 M145 M146)))) * 50000000)
noncomputable def t135_33 (M145 : Int → Int) (M146 : Int → Int) : Int := IntKind.i64.wrap ((IntKind.i64.wrap (100000000 + (M146 (t135_29 M145 M146)))) * 50000000)
noncomputable def t135_34 (M145 : Int → Int) (M146 : Int → Int) : Int := IntKind.i64.wrap ((IntKind.i64.wrap (100000000 - (M146 (t135_29 M145 M146)))) * 50000000)
noncomputable def t135_35 (M145 : Int → Int) (M146 : Int → Int) : Int := IntKind.i64.wrap ((IntKind.i64.wrap (100000000 - (M145 (t135_28 M145 M146)))) * 50000000)
noncomputable def U135 (M145 : Int → Int) (M146 : Int → Int) (N145 : Int → Bool) (N146 : Int → Bool) (z0 : Int) (z1 : Int) (z2 : Int) (z3 : Int) (z4 : Int) (z5 : Int) (z6 : Int) (z7 : Int) (z8 : Int) (z9 : Int) (z10 : Int) (z11 : Int) (z12 : Int) (z13 : Int) (z14 : Int) (z15 : Int) (z16 : Int) (z17 : Int) (z18 : Int) (z19 : Int) (z20 : Int) (z21 : Int) (z22 : Int) (z23 : Int) (z24 : Int) (z25 : Int) (z26 : Int) (z27 : Int) (z28 : Int) (z29 : Int) (z30 : Int) (z31 : Int) (z32 : Int) (z33 : Int) (z34 : Int) (z35 : Int) (R : SV → List Blk → List Blk → Prop) : Prop :=
  (cnd ((N145 5000000000000000))
  (cnd ((N146 5000000000000000))
   (cnd ((N145 5000000000000000))
    (cnd ((N146 5000000000000000))
     (cnd ((N145 z0))
      (cnd ((N146 z1))
       (cnd ((N145 z2))
        (cnd ((N146 z3))
         (cnd ((N145 z4))
          (cnd ((N146 z5))
           (cnd ((N145 z6))
            (cnd ((N146 z7))
             (cnd ((N145 z8))
              (cnd ((N146 z9))
               (cnd ((N145 z10))
                (cnd ((N146 z11))
                 (cnd ((N145 z12))
                  (cnd ((N146 z13))
                   (cnd ((N145 z14))
                    (cnd ((N146 z15))
                     (cnd ((N145 z16))
                      (cnd ((N146 z17))
                       (cnd ((N145 z18))
                        (cnd ((N146 z19))
                         (cnd ((N145 z20))
                          (cnd ((N146 z21))
                           (cnd ((N145 z22))
                            (cnd ((N146 z23))
                             (cnd ((N145 z24))
                              (cnd ((N146 z25))
                               (cnd ((N145 z26))
                                (cnd ((N146 z27))
                                 (cnd ((N145 z28))
                                  (cnd ((N146 z29))
                                   (cnd ((N145 z30))
                                    (cnd ((N146 z31))
                                     (cnd ((N145 z32))
                                      (cnd ((N146 z33))
                                       (cnd ((N145 z34))
                                        (cnd ((N146 z35))
                                         (R (.tup [.agg [.int .i64 0, .int .i64 0, .int .i64 (M145 5000000000000000), .int .i64 (M146 5000000000000000), .int .i64 (M145 z0), .int .i64 (M146 z1), .int .i64 (M145 z4), .int .i64 (M146 z5), .int .i64 (M145 z8), .int .i64 (M146 z9), .int .i64 (M145 z12), .int .i64 (M146 z13), .int .i64 (M145 z16), .int .i64 (M146 z17), .int .i64 (M145 z20), .int .i64 (M146 z21), .int .i64 (M145 z24), .int .i64 (M146 z25), .int .i64 (M145 z28), .int .i64 (M146 z29), .int .i64 (M145 z32), .int .i64 (M146 z33)], .agg [.int .i64 100000000, .int .i64 100000000, .int .i64 (M145 5000000000000000), .int .i64 (M146 5000000000000000), .int .i64 (M145 z2), .int .i64 (M146 z3), .int .i64 (M145 z6), .int .i64 (M146 z7), .int .i64 (M145 z10), .int .i64 (M146 z11), .int .i64 (M145 z14), .int .i64 (M146 z15), .int .i64 (M145 z18), .int .i64 (M146 z19), .int .i64 (M145 z22), .int .i64 (M146 z23), .int .i64 (M145 z26), .int .i64 (M146 z27), .int .i64 (M145 z30), .int .i64 (M146 z31), .int .i64 (M145 z34), .int .i64 (M146 z35)]]) [] [])
                                         False)
                                        False)
                                       False)
                                      False)
                                     False)
                                    False)
                                   False)
                                  False)
                                 False)
                                False)
                               False)
                              False)
                             False)
                            False)
                           False)
                          False)
                         False)
                        False)
                       False)
                      False)
                     False)
                    False)
                   False)
                  False)
                 False)
                False)
               False)
              False)
             False)
            False)
           False)
          False)
         False)
        False)
       False)
      False)
     False)
    False)
   False)
  False)
theorem x135 (M145 : Int → Int) (M146 : Int → Int) (N145 : Int → Bool) (N146 : Int → Bool) (R : SV → List Blk → List Blk → Prop) : exec Try.prog [(145, genC [.k] (gg145 M145 N145)), (146, genC [.k] (gg146 M146 N146))] (fun _ => none) 24 (Try.f135.body.getD .skip) (initS Try.f135.ntmps [] 0 (memOf [])) (retK Try.prog Try.f135.results.toList (outK 0 (List.range 0) [] (.k) fun v U N => R v U N)) =
  U135 M145 M146 N145 N146 (t135_0 M145 M146) (t135_1 M145 M146) (t135_2 M145 M146) (t135_3 M145 M146) (t135_4 M145 M146) (t135_5 M145 M146) (t135_6 M145 M146) (t135_7 M145 M146) (t135_8 M145 M146) (t135_9 M145 M146) (t135_10 M145 M146) (t135_11 M145 M146) (t135_12 M145 M146) (t135_13 M145 M146) (t135_14 M145 M146) (t135_15 M145 M146) (t135_16 M145 M146) (t135_17 M145 M146) (t135_18 M145 M146) (t135_19 M145 M146) (t135_20 M145 M146) (t135_21 M145 M146) (t135_22 M145 M146) (t135_23 M145 M146) (t135_24 M145 M146) (t135_25 M145 M146) (t135_26 M145 M146) (t135_27 M145 M146) (t135_28 M145 M146) (t135_29 M145 M146) (t135_30 M145 M146) (t135_31 M145 M146) (t135_32 M145 M146) (t135_33 M145 M146) (t135_34 M145 M146) (t135_35 M145 M146) R := by kernel_rfl
noncomputable def w135  (z0 : Int) (z1 : Int) (z2 : Int) (z3 : Int) (z4 : Int) (z5 : Int) (z6 : Int) (z7 : Int) (z8 : Int) (z9 : Int) (z10 : Int) (z11 : Int) (z12 : Int) (z13 : Int) (z14 : Int) (z15 : Int) (z16 : Int) (z17 : Int) (z18 : Int) (z19 : Int) (z20 : Int) (z21 : Int) (z22 : Int) (z23 : Int) (z24 : Int) (z25 : Int) (z26 : Int) (z27 : Int) (z28 : Int) (z29 : Int) (z30 : Int) (z31 : Int) (z32 : Int) (z33 : Int) (z34 : Int) (z35 : Int) : Int × Int × Int × Int × Int × Int × Int × Int × Int × Int × Int × Int × Int × Int × Int × Int × Int × Int × Int × Int × Int × Int × Int × Int × Int × Int × Int × Int × Int × Int × Int × Int × Int × Int × Int × Int × Int × Int × Int × Int × Int × Int × Int × Int :=
  (0, 0, (m145 5000000000000000), (m146 5000000000000000), (m145 z0), (m146 z1), (m145 z4), (m146 z5), (m145 z8), (m146 z9), (m145 z12), (m146 z13), (m145 z16), (m146 z17), (m145 z20), (m146 z21), (m145 z24), (m146 z25), (m145 z28), (m146 z29), (m145 z32), (m146 z33), 100000000, 100000000, (m145 5000000000000000), (m146 5000000000000000), (m145 z2), (m146 z3), (m145 z6), (m146 z7), (m145 z10), (m146 z11), (m145 z14), (m146 z15), (m145 z18), (m146 z19), (m145 z22), (m146 z23), (m145 z26), (m146 z27), (m145 z30), (m146 z31), (m145 z34), (m146 z35))
noncomputable def v135  (z0 : Int) (z1 : Int) (z2 : Int) (z3 : Int) (z4 : Int) (z5 : Int) (z6 : Int) (z7 : Int) (z8 : Int) (z9 : Int) (z10 : Int) (z11 : Int) (z12 : Int) (z13 : Int) (z14 : Int) (z15 : Int) (z16 : Int) (z17 : Int) (z18 : Int) (z19 : Int) (z20 : Int) (z21 : Int) (z22 : Int) (z23 : Int) (z24 : Int) (z25 : Int) (z26 : Int) (z27 : Int) (z28 : Int) (z29 : Int) (z30 : Int) (z31 : Int) (z32 : Int) (z33 : Int) (z34 : Int) (z35 : Int) : Bool :=
  (((n145 5000000000000000)) && (((n146 5000000000000000)) && (((n145 5000000000000000)) && (((n146 5000000000000000)) && (((n145 z0)) && (((n146 z1)) && (((n145 z2)) && (((n146 z3)) && (((n145 z4)) && (((n146 z5)) && (((n145 z6)) && (((n146 z7)) && (((n145 z8)) && (((n146 z9)) && (((n145 z10)) && (((n146 z11)) && (((n145 z12)) && (((n146 z13)) && (((n145 z14)) && (((n146 z15)) && (((n145 z16)) && (((n146 z17)) && (((n145 z18)) && (((n146 z19)) && (((n145 z20)) && (((n146 z21)) && (((n145 z22)) && (((n146 z23)) && (((n145 z24)) && (((n146 z25)) && (((n145 z26)) && (((n146 z27)) && (((n145 z28)) && (((n146 z29)) && (((n145 z30)) && (((n146 z31)) && (((n145 z32)) && (((n146 z33)) && (((n145 z34)) && (((n146 z35)) && true))))))))))))))))))))))))))))))))))))))))
noncomputable def m135  : Int × Int × Int × Int × Int × Int × Int × Int × Int × Int × Int × Int × Int × Int × Int × Int × Int × Int × Int × Int × Int × Int × Int × Int × Int × Int × Int × Int × Int × Int × Int × Int × Int × Int × Int × Int × Int × Int × Int × Int × Int × Int × Int × Int := w135 (t135_0 m145 m146) (t135_1 m145 m146) (t135_2 m145 m146) (t135_3 m145 m146) (t135_4 m145 m146) (t135_5 m145 m146) (t135_6 m145 m146) (t135_7 m145 m146) (t135_8 m145 m146) (t135_9 m145 m146) (t135_10 m145 m146) (t135_11 m145 m146) (t135_12 m145 m146) (t135_13 m145 m146) (t135_14 m145 m146) (t135_15 m145 m146) (t135_16 m145 m146) (t135_17 m145 m146) (t135_18 m145 m146) (t135_19 m145 m146) (t135_20 m145 m146) (t135_21 m145 m146) (t135_22 m145 m146) (t135_23 m145 m146) (t135_24 m145 m146) (t135_25 m145 m146) (t135_26 m145 m146) (t135_27 m145 m146) (t135_28 m145 m146) (t135_29 m145 m146) (t135_30 m145 m146) (t135_31 m145 m146) (t135_32 m145 m146) (t135_33 m145 m146) (t135_34 m145 m146) (t135_35 m145 m146)
noncomputable def n135  : Bool := v135 (t135_0 m145 m146) (t135_1 m145 m146) (t135_2 m145 m146) (t135_3 m145 m146) (t135_4 m145 m146) (t135_5 m145 m146) (t135_6 m145 m146) (t135_7 m145 m146) (t135_8 m145 m146) (t135_9 m145 m146) (t135_10 m145 m146) (t135_11 m145 m146) (t135_12 m145 m146) (t135_13 m145 m146) (t135_14 m145 m146) (t135_15 m145 m146) (t135_16 m145 m146) (t135_17 m145 m146) (t135_18 m145 m146) (t135_19 m145 m146) (t135_20 m145 m146) (t135_21 m145 m146) (t135_22 m145 m146) (t135_23 m145 m146) (t135_24 m145 m146) (t135_25 m145 m146) (t135_26 m145 m146) (t135_27 m145 m146) (t135_28 m145 m146) (t135_29 m145 m146) (t135_30 m145 m146) (t135_31 m145 m146) (t135_32 m145 m146) (t135_33 m145 m146) (t135_34 m145 m146) (t135_35 m145 m146)
noncomputable def q135 (r : Int × Int × Int × Int × Int × Int × Int × Int × Int × Int × Int × Int × Int × Int × Int × Int × Int × Int × Int × Int × Int × Int × Int × Int × Int × Int × Int × Int × Int × Int × Int × Int × Int × Int × Int × Int × Int × Int × Int × Int × Int × Int × Int × Int) : SV × List Blk × List Blk := (.tup [.agg [.int .i64 r.1, .int .i64 r.2.1, .int .i64 r.2.2.1, .int .i64 r.2.2.2.1, .int .i64 r.2.2.2.2.1, .int .i64 r.2.2.2.2.2.1, .int .i64 r.2.2.2.2.2.2.1, .int .i64 r.2.2.2.2.2.2.2.1, .int .i64 r.2.2.2.2.2.2.2.2.1, .int .i64 r.2.2.2.2.2.2.2.2.2.1, .int .i64 r.2.2.2.2.2.2.2.2.2.2.1, .int .i64 r.2.2.2.2.2.2.2.2.2.2.2.1, .int .i64 r.2.2.2.2.2.2.2.2.2.2.2.2.1, .int .i64 r.2.2.2.2.2.2.2.2.2.2.2.2.2.1, .int .i64 r.2.2.2.2.2.2.2.2.2.2.2.2.2.2.1, .int .i64 r.2.2.2.2.2.2.2.2.2.2.2.2.2.2.2.1, .int .i64 r.2.2.2.2.2.2.2.2.2.2.2.2.2.2.2.2.1, .int .i64 r.2.2.2.2.2.2.2.2.2.2.2.2.2.2.2.2.2.1, .int .i64 r.2.2.2.2.2.2.2.2.2.2.2.2.2.2.2.2.2.2.1, .int .i64 r.2.2.2.2.2.2.2.2.2.2.2.2.2.2.2.2.2.2.2.1, .int .i64 r.2.2.2.2.2.2.2.2.2.2.2.2.2.2.2.2.2.2.2.2.1, .int .i64 r.2.2.2.2.2.2.2.2.2.2.2.2.2.2.2.2.2.2.2.2.2.1], .agg [.int .i64 r.2.2.2.2.2.2.2.2.2.2.2.2.2.2.2.2.2.2.2.2.2.2.1, .int .i64 r.2.2.2.2.2.2.2.2.2.2.2.2.2.2.2.2.2.2.2.2.2.2.2.1, .int .i64 r.2.2.2.2.2.2.2.2.2.2.2.2.2.2.2.2.2.2.2.2.2.2.2.2.1, .int .i64 r.2.2.2.2.2.2.2.2.2.2.2.2.2.2.2.2.2.2.2.2.2.2.2.2.2.1, .int .i64 r.2.2.2.2.2.2.2.2.2.2.2.2.2.2.2.2.2.2.2.2.2.2.2.2.2.2.1, .int .i64 r.2.2.2.2.2.2.2.2.2.2.2.2.2.2.2.2.2.2.2.2.2.2.2.2.2.2.2.1, .int .i64 r.2.2.2.2.2.2.2.2.2.2.2.2.2.2.2.2.2.2.2.2.2.2.2.2.2.2.2.2.1, .int .i64 r.2.2.2.2.2.2.2.2.2.2.2.2.2.2.2.2.2.2.2.2.2.2.2.2.2.2.2.2.2.1, .int .i64 r.2.2.2.2.2.2.2.2.2.2.2.2.2.2.2.2.2.2.2.2.2.2.2.2.2.2.2.2.2.2.1, .int .i64 r.2.2.2.2.2.2.2.2.2.2.2.2.2.2.2.2.2.2.2.2.2.2.2.2.2.2.2.2.2.2.2.1, .int .i64 r.2.2.2.2.2.2.2.2.2.2.2.2.2.2.2.2.2.2.2.2.2.2.2.2.2.2.2.2.2.2.2.2.1, .int .i64 r.2.2.2.2.2.2.2.2.2.2.2.2.2.2.2.2.2.2.2.2.2.2.2.2.2.2.2.2.2.2.2.2.2.1, .int .i64 r.2.2.2.2.2.2.2.2.2.2.2.2.2.2.2.2.2.2.2.2.2.2.2.2.2.2.2.2.2.2.2.2.2.2.1, .int .i64 r.2.2.2.2.2.2.2.2.2.2.2.2.2.2.2.2.2.2.2.2.2.2.2.2.2.2.2.2.2.2.2.2.2.2.2.1, .int .i64 r.2.2.2.2.2.2.2.2.2.2.2.2.2.2.2.2.2.2.2.2.2.2.2.2.2.2.2.2.2.2.2.2.2.2.2.2.1, .int .i64 r.2.2.2.2.2.2.2.2.2.2.2.2.2.2.2.2.2.2.2.2.2.2.2.2.2.2.2.2.2.2.2.2.2.2.2.2.2.1, .int .i64 r.2.2.2.2.2.2.2.2.2.2.2.2.2.2.2.2.2.2.2.2.2.2.2.2.2.2.2.2.2.2.2.2.2.2.2.2.2.2.1, .int .i64 r.2.2.2.2.2.2.2.2.2.2.2.2.2.2.2.2.2.2.2.2.2.2.2.2.2.2.2.2.2.2.2.2.2.2.2.2.2.2.2.1, .int .i64 r.2.2.2.2.2.2.2.2.2.2.2.2.2.2.2.2.2.2.2.2.2.2.2.2.2.2.2.2.2.2.2.2.2.2.2.2.2.2.2.2.1, .int .i64 r.2.2.2.2.2.2.2.2.2.2.2.2.2.2.2.2.2.2.2.2.2.2.2.2.2.2.2.2.2.2.2.2.2.2.2.2.2.2.2.2.2.1, .int .i64 r.2.2.2.2.2.2.2.2.2.2.2.2.2.2.2.2.2.2.2.2.2.2.2.2.2.2.2.2.2.2.2.2.2.2.2.2.2.2.2.2.2.2.1, .int .i64 r.2.2.2.2.2.2.2.2.2.2.2.2.2.2.2.2.2.2.2.2.2.2.2.2.2.2.2.2.2.2.2.2.2.2.2.2.2.2.2.2.2.2.2]], [], [])
noncomputable def g135 : List SV → List Blk → Option OpRes := fun vs bs => match vs, bs with
  | [], [] => some (resOf 0 (q135 (m135)) [n135 ])
  | _, _ => none
noncomputable def c135 : Ctr := genC [] g135
theorem u135  (z0 : Int) (z1 : Int) (z2 : Int) (z3 : Int) (z4 : Int) (z5 : Int) (z6 : Int) (z7 : Int) (z8 : Int) (z9 : Int) (z10 : Int) (z11 : Int) (z12 : Int) (z13 : Int) (z14 : Int) (z15 : Int) (z16 : Int) (z17 : Int) (z18 : Int) (z19 : Int) (z20 : Int) (z21 : Int) (z22 : Int) (z23 : Int) (z24 : Int) (z25 : Int) (z26 : Int) (z27 : Int) (z28 : Int) (z29 : Int) (z30 : Int) (z31 : Int) (z32 : Int) (z33 : Int) (z34 : Int) (z35 : Int) (hn : v135 z0 z1 z2 z3 z4 z5 z6 z7 z8 z9 z10 z11 z12 z13 z14 z15 z16 z17 z18 z19 z20 z21 z22 z23 z24 z25 z26 z27 z28 z29 z30 z31 z32 z33 z34 z35 = true) : U135 m145 m146 n145 n146 z0 z1 z2 z3 z4 z5 z6 z7 z8 z9 z10 z11 z12 z13 z14 z15 z16 z17 z18 z19 z20 z21 z22 z23 z24 z25 z26 z27 z28 z29 z30 z31 z32 z33 z34 z35 (fun v U N => (v, U, N) = q135 (w135 z0 z1 z2 z3 z4 z5 z6 z7 z8 z9 z10 z11 z12 z13 z14 z15 z16 z17 z18 z19 z20 z21 z22 z23 z24 z25 z26 z27 z28 z29 z30 z31 z32 z33 z34 z35)) :=
  cnd_need (and_l hn) (cnd_need (and_l (and_r hn)) (cnd_need (and_l (and_r (and_r hn))) (cnd_need (and_l (and_r (and_r (and_r hn)))) (cnd_need (and_l (and_r (and_r (and_r (and_r hn))))) (cnd_need (and_l (and_r (and_r (and_r (and_r (and_r hn)))))) (cnd_need (and_l (and_r (and_r (and_r (and_r (and_r (and_r hn))))))) (cnd_need (and_l (and_r (and_r (and_r (and_r (and_r (and_r (and_r hn)))))))) (cnd_need (and_l (and_r (and_r (and_r (and_r (and_r (and_r (and_r (and_r hn))))))))) (cnd_need (and_l (and_r (and_r (and_r (and_r (and_r (and_r (and_r (and_r (and_r hn)))))))))) (cnd_need (and_l (and_r (and_r (and_r (and_r (and_r (and_r (and_r (and_r (and_r (and_r hn))))))))))) (cnd_need (and_l (and_r (and_r (and_r (and_r (and_r (and_r (and_r (and_r (and_r (and_r (and_r hn)))))))))))) (cnd_need (and_l (and_r (and_r (and_r (and_r (and_r (and_r (and_r (and_r (and_r (and_r (and_r (and_r hn))))))))))))) (cnd_need (and_l (and_r (and_r (and_r (and_r (and_r (and_r (and_r (and_r (and_r (and_r (and_r (and_r (and_r hn)))))))))))))) (cnd_need (and_l (and_r (and_r (and_r (and_r (and_r (and_r (and_r (and_r (and_r (and_r (and_r (and_r (and_r (and_r hn))))))))))))))) (cnd_need (and_l (and_r (and_r (and_r (and_r (and_r (and_r (and_r (and_r (and_r (and_r (and_r (and_r (and_r (and_r (and_r hn)))))))))))))))) (cnd_need (and_l (and_r (and_r (and_r (and_r (and_r (and_r (and_r (and_r (and_r (and_r (and_r (and_r (and_r (and_r (and_r (and_r hn))))))))))))))))) (cnd_need (and_l (and_r (and_r (and_r (and_r (and_r (and_r (and_r (and_r (and_r (and_r (and_r (and_r (and_r (and_r (and_r (and_r (and_r hn)))))))))))))))))) (cnd_need (and_l (and_r (and_r (and_r (and_r (and_r (and_r (and_r (and_r (and_r (and_r (and_r (and_r (and_r (and_r (and_r (and_r (and_r (and_r hn))))))))))))))))))) (cnd_need (and_l (and_r (and_r (and_r (and_r (and_r (and_r (and_r (and_r (and_r (and_r (and_r (and_r (and_r (and_r (and_r (and_r (and_r (and_r (and_r hn)))))))))))))))))))) (cnd_need (and_l (and_r (and_r (and_r (and_r (and_r (and_r (and_r (and_r (and_r (and_r (and_r (and_r (and_r (and_r (and_r (and_r (and_r (and_r (and_r (and_r hn))))))))))))))))))))) (cnd_need (and_l (and_r (and_r (and_r (and_r (and_r (and_r (and_r (and_r (and_r (and_r (and_r (and_r (and_r (and_r (and_r (and_r (and_r (and_r (and_r (and_r (and_r hn)))))))))))))))))))))) (cnd_need (and_l (and_r (and_r (and_r (and_r (and_r (and_r (and_r (and_r (and_r (and_r (and_r (and_r (and_r (and_r (and_r (and_r (and_r (and_r (and_r (and_r (and_r (and_r hn))))))))))))))))))))))) (cnd_need (and_l (and_r (and_r (and_r (and_r (and_r (and_r (and_r (and_r (and_r (and_r (and_r (and_r (and_r (and_r (and_r (and_r (and_r (and_r (and_r (and_r (and_r (and_r (and_r hn)))))))))))))))))))))))) (cnd_need (and_l (and_r (and_r (and_r (and_r (and_r (and_r (and_r (and_r (and_r (and_r (and_r (and_r (and_r (and_r (and_r (and_r (and_r (and_r (and_r (and_r (and_r (and_r (and_r (and_r hn))))))))))))))))))))))))) (cnd_need (and_l (and_r (and_r (and_r (and_r (and_r (and_r (and_r (and_r (and_r (and_r (and_r (and_r (and_r (and_r (and_r (and_r (and_r (and_r (and_r (and_r (and_r (and_r (and_r (and_r (and_r hn)))))))))))))))))))))))))) (cnd_need (and_l (and_r (and_r (and_r (and_r (and_r (and_r (and_r (and_r (and_r (and_r (and_r (and_r (and_r (and_r (and_r (and_r (and_r (and_r (and_r (and_r (and_r (and_r (and_r (and_r (and_r (and_r hn))))))))))))))))))))))))))) (cnd_need (and_l (and_r (and_r (and_r (and_r (and_r (and_r (and_r (and_r (and_r (and_r (and_r (and_r (and_r (and_r (and_r (and_r (and_r (and_r (and_r (and_r (and_r (and_r (and_r (and_r (and_r (and_r (and_r hn)))))))))))))))))))))))))))) (cnd_need (and_l (and_r (and_r (and_r (and_r (and_r (and_r (and_r (and_r (and_r (and_r (and_r (and_r (and_r (and_r (and_r (and_r (and_r (and_r (and_r (and_r (and_r (and_r (and_r (and_r (and_r (and_r (and_r (and_r hn))))))))))))))))))))))))))))) (cnd_need (and_l (and_r (and_r (and_r (and_r (and_r (and_r (and_r (and_r (and_r (and_r (and_r (and_r (and_r (and_r (and_r (and_r (and_r (and_r (and_r (and_r (and_r (and_r (and_r (and_r (and_r (and_r (and_r (and_r (and_r hn)))))))))))))))))))))))))))))) (cnd_need (and_l (and_r (and_r (and_r (and_r (and_r (and_r (and_r (and_r (and_r (and_r (and_r (and_r (and_r (and_r (and_r (and_r (and_r (and_r (and_r (and_r (and_r (and_r (and_r (and_r (and_r (and_r (and_r (and_r (and_r (and_r hn))))))))))))))))))))))))))))))) (cnd_need (and_l (and_r (and_r (and_r (and_r (and_r (and_r (and_r (and_r (and_r (and_r (and_r (and_r (and_r (and_r (and_r (and_r (and_r (and_r (and_r (and_r (and_r (and_r (and_r (and_r (and_r (and_r (and_r (and_r (and_r (and_r (and_r hn)))))))))))))))))))))))))))))))) (cnd_need (and_l (and_r (and_r (and_r (and_r (and_r (and_r (and_r (and_r (and_r (and_r (and_r (and_r (and_r (and_r (and_r (and_r (and_r (and_r (and_r (and_r (and_r (and_r (and_r (and_r (and_r (and_r (and_r (and_r (and_r (and_r (and_r (and_r hn))))))))))))))))))))))))))))))))) (cnd_need (and_l (and_r (and_r (and_r (and_r (and_r (and_r (and_r (and_r (and_r (and_r (and_r (and_r (and_r (and_r (and_r (and_r (and_r (and_r (and_r (and_r (and_r (and_r (and_r (and_r (and_r (and_r (and_r (and_r (and_r (and_r (and_r (and_r (and_r hn)))))))))))))))))))))))))))))))))) (cnd_need (and_l (and_r (and_r (and_r (and_r (and_r (and_r (and_r (and_r (and_r (and_r (and_r (and_r (and_r (and_r (and_r (and_r (and_r (and_r (and_r (and_r (and_r (and_r (and_r (and_r (and_r (and_r (and_r (and_r (and_r (and_r (and_r (and_r (and_r (and_r hn))))))))))))))))))))))))))))))))))) (cnd_need (and_l (and_r (and_r (and_r (and_r (and_r (and_r (and_r (and_r (and_r (and_r (and_r (and_r (and_r (and_r (and_r (and_r (and_r (and_r (and_r (and_r (and_r (and_r (and_r (and_r (and_r (and_r (and_r (and_r (and_r (and_r (and_r (and_r (and_r (and_r (and_r hn)))))))))))))))))))))))))))))))))))) (cnd_need (and_l (and_r (and_r (and_r (and_r (and_r (and_r (and_r (and_r (and_r (and_r (and_r (and_r (and_r (and_r (and_r (and_r (and_r (and_r (and_r (and_r (and_r (and_r (and_r (and_r (and_r (and_r (and_r (and_r (and_r (and_r (and_r (and_r (and_r (and_r (and_r (and_r hn))))))))))))))))))))))))))))))))))))) (cnd_need (and_l (and_r (and_r (and_r (and_r (and_r (and_r (and_r (and_r (and_r (and_r (and_r (and_r (and_r (and_r (and_r (and_r (and_r (and_r (and_r (and_r (and_r (and_r (and_r (and_r (and_r (and_r (and_r (and_r (and_r (and_r (and_r (and_r (and_r (and_r (and_r (and_r (and_r hn)))))))))))))))))))))))))))))))))))))) (cnd_need (and_l (and_r (and_r (and_r (and_r (and_r (and_r (and_r (and_r (and_r (and_r (and_r (and_r (and_r (and_r (and_r (and_r (and_r (and_r (and_r (and_r (and_r (and_r (and_r (and_r (and_r (and_r (and_r (and_r (and_r (and_r (and_r (and_r (and_r (and_r (and_r (and_r (and_r (and_r hn))))))))))))))))))))))))))))))))))))))) (cnd_need (and_l (and_r (and_r (and_r (and_r (and_r (and_r (and_r (and_r (and_r (and_r (and_r (and_r (and_r (and_r (and_r (and_r (and_r (and_r (and_r (and_r (and_r (and_r (and_r (and_r (and_r (and_r (and_r (and_r (and_r (and_r (and_r (and_r (and_r (and_r (and_r (and_r (and_r (and_r (and_r hn)))))))))))))))))))))))))))))))))))))))) (leaf_of (l := (0, 0, (m145 5000000000000000), (m146 5000000000000000), (m145 z0), (m146 z1), (m145 z4), (m146 z5), (m145 z8), (m146 z9), (m145 z12), (m146 z13), (m145 z16), (m146 z17), (m145 z20), (m146 z21), (m145 z24), (m146 z25), (m145 z28), (m146 z29), (m145 z32), (m146 z33), 100000000, 100000000, (m145 5000000000000000), (m146 5000000000000000), (m145 z2), (m146 z3), (m145 z6), (m146 z7), (m145 z10), (m146 z11), (m145 z14), (m146 z15), (m145 z18), (m146 z19), (m145 z22), (m146 z23), (m145 z26), (m146 z27), (m145 z30), (m146 z31), (m145 z34), (m146 z35))) rfl rfl))))))))))))))))))))))))))))))))))))))))
theorem p135  (hn : n135  = true) : exec Try.prog [(145, c145), (146, c146)] (fun _ => none) 24 (Try.f135.body.getD .skip) (initS Try.f135.ntmps [] 0 (memOf [])) (retK Try.prog Try.f135.results.toList (outK 0 (List.range 0) [] (.k) fun v U N => (v, U, N) = (q135 (m135)))) :=
  propOf (x135 m145 m146 n145 n146 _) (u135 (t135_0 m145 m146) (t135_1 m145 m146) (t135_2 m145 m146) (t135_3 m145 m146) (t135_4 m145 m146) (t135_5 m145 m146) (t135_6 m145 m146) (t135_7 m145 m146) (t135_8 m145 m146) (t135_9 m145 m146) (t135_10 m145 m146) (t135_11 m145 m146) (t135_12 m145 m146) (t135_13 m145 m146) (t135_14 m145 m146) (t135_15 m145 m146) (t135_16 m145 m146) (t135_17 m145 m146) (t135_18 m145 m146) (t135_19 m145 m146) (t135_20 m145 m146) (t135_21 m145 m146) (t135_22 m145 m146) (t135_23 m145 m146) (t135_24 m145 m146) (t135_25 m145 m146) (t135_26 m145 m146) (t135_27 m145 m146) (t135_28 m145 m146) (t135_29 m145 m146) (t135_30 m145 m146) (t135_31 m145 m146) (t135_32 m145 m146) (t135_33 m145 m146) (t135_34 m145 m146) (t135_35 m145 m146) hn)
theorem k135 : CtrOk Try.prog c135 135 := ctr_of (tabOk_cons k145 (tabOk_cons k146 tabOk_nil)) mix_ok 24 (fn := Try.f135) (c := (Try.f135.body.getD .skip)) (grs := []) (rh := .k) (Λ := (fun _ => none)) Try.func135 rfl (by kernel_rfl) noLam fun vs bs q h hn => by
  unfold g135 at h
  split at h <;> cases h
  exact ⟨_, rfl, p135  (hn _ (List.mem_singleton.2 rfl))⟩
end Go.Proofs.Ytlaogoojkfjgoaa
