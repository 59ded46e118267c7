/-
  Contracts of functions: models, equations by the kernel, contracts. Conditions: none.
-/
import Derived.Test.YtchhhoamnagbfaaDoorC6
import Derived.KernelRfl
namespace Go.Proofs.YtchhhoamnagbfaaDoor
open Go Go.Sy
set_option linter.unusedVariables false
set_option linter.unusedSimpArgs false
set_option maxRecDepth 100000
set_option maxHeartbeats 2000000
attribute [local irreducible] Go.IntKind.wrap Int.tdiv Int.tmod Int.fdiv
open Go.Sy renaming tabOk_cons → tc, tabOk_nil → tn, cnd_need → cn, leaf_of → lf, cnd_gg → cg, cnd_gg2 → ch, cond_f → cf, cond_t → ct, cnd_of → co, callOf → ca, roundOf → ro, cnd_not → nn, lams_cons → lc, lams_nil → ln, condT → cT, condF → cF, need1 → n1, resOf → rs, and_l → al, and_r → ar, or_gg → og, ctr_of → cx, loop_blk → lb
open Go.IntKind renaming i64 → Z
open Go.Sy.SV renaming int → V
open Go.Sy.Kd renaming int → W
/-! ### (*strings.Builder).WriteString -/
noncomputable def m86u (a ma0_1 : Nat) (b : Dat) (d : ByteArray) : Int × Nat × Nat × Dat :=
  ((↑d.size : Int), (a + d.size), (a + d.size), (b.app a ({ ii := fun q x => (↑(d.data.toList.getD q 0).toNat : Int), ss := noDat.ss, bb := noDat.bb, sn := noDat.sn, sd := noDat.sd })))
noncomputable def n86u (a ma0_1 : Nat) (b : Dat) (d : ByteArray) : Bool :=
  ((decide ((0 : Nat) < d.size)) && ((decide (a ≤ ma0_1)) && ((decide ((a + d.size) ≤ 1073741824)) && true)))
noncomputable def q86u (r : Int × Nat × Nat × Dat) : SV × List Blk × List Blk := (.tup [V Z r.1, .val Value.nilIface], [.cells 125 [.ptr 0 0, .gr 2 1 r.2.1], .unk], [.row 5 [.int .u8] r.2.2.1 r.2.2.2])
noncomputable def g86u : GF := fun vs bs => match vs, bs with
  | [.ptr 0 0, .str d], [.cells 125 [.ptr 0 0, .gr 1 1 a], .row 5 [.int .u8] ma0_1 b] => some (rs 2 (q86u (m86u a ma0_1 b d)) [n86u a ma0_1 b d])
  | _, _ => none
noncomputable def c86u : Ctr := genC [.s [.gr 5 [.int .u8]], .k] g86u
theorem k86u : CtrOk Tryd.prog c86u 86 := cx (tc k107u tn) mix_ok 8 (fn := Tryd.f86) (c := (Tryd.f86.body.getD .skip)) (grs := [1]) (rh := .k) Tryd.func86 rfl (by kernel_rfl) noLam fun vs bs q h hn => by
  unfold g86u at h
  split at h <;> cases h
  rename_i d a ma0_1 b
  have hn := n1 hn
  exact ⟨_, rfl, ca (fun R => (cnd (decide ((0 : Nat) < d.size))
 (cnd (decide (a ≤ ma0_1))
 (cnd (decide ((a + d.size) ≤ 1073741824))
 (R (.tup [V Z (↑d.size : Int), .val (Value.nilIface)]) [.cells 125 [.ptr 0 0, .gr 2 1 (a + d.size)], .unk] [.row 5 [.int .u8] (a + d.size) (b.app a ({ ii := fun q x => (↑(d.data.toList.getD q 0).toNat : Int), ss := noDat.ss, bb := noDat.bb, sn := noDat.sn, sd := noDat.sd }))])
    False)
   False)
  False)) (fun R => by kernel_rfl) (cn (al hn) (cn (al (ar hn)) (cn (al (ar (ar hn))) (lf rfl rfl))))⟩
/-! ### (*strings.Builder).WriteString -/
noncomputable def m86f (a ma0_1 : Nat) (b : Dat) (d : ByteArray) : Int × Nat × Nat × Dat :=
  ((↑d.size : Int), (a + d.size), (a + d.size), (b.app a ({ ii := fun q x => (↑(d.data.toList.getD q 0).toNat : Int), ss := noDat.ss, bb := noDat.bb, sn := noDat.sn, sd := noDat.sd })))
noncomputable def n86f (a ma0_1 : Nat) (b : Dat) (d : ByteArray) : Bool :=
  ((decide ((0 : Nat) < d.size)) && ((decide (a ≤ ma0_1)) && ((decide ((a + d.size) ≤ 1073741824)) && true)))
noncomputable def q86f (r : Int × Nat × Nat × Dat) : SV × List Blk × List Blk := (.tup [V Z r.1, .val Value.nilIface], [.cells 125 [.ptr 0 0, .gr 2 1 r.2.1], .unk], [.row 5 [.int .u8] r.2.2.1 r.2.2.2])
noncomputable def g86f : GF := fun vs bs => match vs, bs with
  | [.ptr 0 0, .str d], [.cells 125 [.val (.pointer none), .gr 1 1 a], .row 5 [.int .u8] ma0_1 b] => some (rs 2 (q86f (m86f a ma0_1 b d)) [n86f a ma0_1 b d])
  | _, _ => none
noncomputable def c86f : Ctr := genC [.c [.k, .gr 5 [.int .u8]], .k] g86f
theorem k86f : CtrOk Tryd.prog c86f 86 := cx (tc k107f tn) mix_ok 8 (fn := Tryd.f86) (c := (Tryd.f86.body.getD .skip)) (grs := [1]) (rh := .k) Tryd.func86 rfl (by kernel_rfl) noLam fun vs bs q h hn => by
  unfold g86f at h
  split at h <;> cases h
  rename_i d a ma0_1 b
  have hn := n1 hn
  exact ⟨_, rfl, ca (fun R => (cnd (decide ((0 : Nat) < d.size))
 (cnd (decide (a ≤ ma0_1))
 (cnd (decide ((a + d.size) ≤ 1073741824))
 (R (.tup [V Z (↑d.size : Int), .val (Value.nilIface)]) [.cells 125 [.ptr 0 0, .gr 2 1 (a + d.size)], .unk] [.row 5 [.int .u8] (a + d.size) (b.app a ({ ii := fun q x => (↑(d.data.toList.getD q 0).toNat : Int), ss := noDat.ss, bb := noDat.bb, sn := noDat.sn, sd := noDat.sd }))])
    False)
   False)
  False)) (fun R => by kernel_rfl) (cn (al hn) (cn (al (ar hn)) (cn (al (ar (ar hn))) (lf rfl rfl))))⟩
end Go.Proofs.YtchhhoamnagbfaaDoor
