/-
  Contracts of functions: models, equations by the kernel, contracts. Conditions: none.
-/
import Derived.Test.YtchhhoamnagbfaaDoorC8
import Derived.KernelRfl
namespace Go.Proofs.YtchhhoamnagbfaaDoor
open Go Go.Sy
set_option linter.unusedVariables false
set_option linter.unusedSimpArgs false
set_option maxRecDepth 100000
set_option maxHeartbeats 2000000
attribute [local irreducible] Go.IntKind.wrap Int.tdiv Int.tmod Int.fdiv
open Go.Sy renaming tabOk_cons → tc, tabOk_nil → tn, cnd_need → cn, leaf_of → lf, cnd_gg → cg, cnd_gg2 → ch, cond_f → cf, cond_t → ct, cnd_of → co, callOf → ca, roundOf → ro, cnd_not → nn, lams_cons → lc, lams_nil → ln, condT → cT, condF → cF, need1 → n1, resOf → rs, and_l → al, and_r → ar, or_gg → og, ctr_of → cx, loop_blk → lb
open Go.IntKind renaming i64 → Z
open Go.Sy.SV renaming int → V
open Go.Sy.Kd renaming int → W
/-! ### shotline/profile.Print$1 -/
noncomputable def m85u (d : Nat) (e : Dat) (a ma1_1 : Nat) (b : Dat) : Nat × Nat × Dat :=
  ((m86u a ma1_1 b ((m87 d e ({ data := #[OfNat.ofNat 32] } : ByteArray)) ++ ({ data := #[OfNat.ofNat 10] } : ByteArray))).2.1, (m86u a ma1_1 b ((m87 d e ({ data := #[OfNat.ofNat 32] } : ByteArray)) ++ ({ data := #[OfNat.ofNat 10] } : ByteArray))).2.2.1, (m86u a ma1_1 b ((m87 d e ({ data := #[OfNat.ofNat 32] } : ByteArray)) ++ ({ data := #[OfNat.ofNat 10] } : ByteArray))).2.2.2)
noncomputable def n85u (d : Nat) (e : Dat) (a ma1_1 : Nat) (b : Dat) : Bool :=
  ((n87 d e ({ data := #[OfNat.ofNat 32] } : ByteArray)) && ((decide ((((m87 d e ({ data := #[OfNat.ofNat 32] } : ByteArray)).size) + 1) ≤ 9223372036854775807)) && ((n86u a ma1_1 b ((m87 d e ({ data := #[OfNat.ofNat 32] } : ByteArray)) ++ ({ data := #[OfNat.ofNat 10] } : ByteArray))) && true)))
noncomputable def q85u (r : Nat × Nat × Dat) : SV × List Blk × List Blk := (.tup [], [.cells 125 [.ptr 0 0, .gr 2 1 r.1], .unk], [.row 5 [.int .u8] r.2.1 r.2.2])
noncomputable def g85u : GF := fun vs bs => match vs, bs with
  | [.ro [.str] d e, .ptr 0 0], [.cells 125 [.ptr 0 0, .gr 1 1 a], .row 5 [.int .u8] ma1_1 b] => some (rs 2 (q85u (m85u d e a ma1_1 b)) [n85u d e a ma1_1 b])
  | _, _ => none
noncomputable def c85u : Ctr := genC [.ro [.str], .s [.gr 5 [.int .u8]]] g85u
theorem k85u : CtrOk Tryd.prog c85u 85 := cx (tc k86u (tc k87 tn)) mix_ok 8 (fn := Tryd.f85) (c := (Tryd.f85.body.getD .skip)) (grs := [1]) (rh := .k) Tryd.func85 rfl (by kernel_rfl) noLam fun vs bs q h hn => by
  unfold g85u at h
  split at h <;> cases h
  rename_i d e a ma1_1 b
  have hn := n1 hn
  exact ⟨_, rfl, ca (fun R => (cnd (n87 d e ({ data := #[OfNat.ofNat 32] } : ByteArray))
 (cnd (decide ((((m87 d e ({ data := #[OfNat.ofNat 32] } : ByteArray)).size) + 1) ≤ 9223372036854775807))
 (cnd (n86u a ma1_1 b ((m87 d e ({ data := #[OfNat.ofNat 32] } : ByteArray)) ++ ({ data := #[OfNat.ofNat 10] } : ByteArray)))
 (R (.tup []) [.cells 125 [.ptr 0 0, .gr 2 1 (m86u a ma1_1 b ((m87 d e ({ data := #[OfNat.ofNat 32] } : ByteArray)) ++ ({ data := #[OfNat.ofNat 10] } : ByteArray))).2.1], .unk] [.row 5 [.int .u8] (m86u a ma1_1 b ((m87 d e ({ data := #[OfNat.ofNat 32] } : ByteArray)) ++ ({ data := #[OfNat.ofNat 10] } : ByteArray))).2.2.1 (m86u a ma1_1 b ((m87 d e ({ data := #[OfNat.ofNat 32] } : ByteArray)) ++ ({ data := #[OfNat.ofNat 10] } : ByteArray))).2.2.2])
    False)
   False)
  False)) (fun R => by kernel_rfl) (cn (al hn) (cn (al (ar hn)) (cn (al (ar (ar hn))) (lf rfl rfl))))⟩
/-! ### shotline/profile.Print$1 -/
noncomputable def m85f (d : Nat) (e : Dat) (a ma1_1 : Nat) (b : Dat) : Nat × Nat × Dat :=
  ((m86f a ma1_1 b ((m87 d e ({ data := #[OfNat.ofNat 32] } : ByteArray)) ++ ({ data := #[OfNat.ofNat 10] } : ByteArray))).2.1, (m86f a ma1_1 b ((m87 d e ({ data := #[OfNat.ofNat 32] } : ByteArray)) ++ ({ data := #[OfNat.ofNat 10] } : ByteArray))).2.2.1, (m86f a ma1_1 b ((m87 d e ({ data := #[OfNat.ofNat 32] } : ByteArray)) ++ ({ data := #[OfNat.ofNat 10] } : ByteArray))).2.2.2)
noncomputable def n85f (d : Nat) (e : Dat) (a ma1_1 : Nat) (b : Dat) : Bool :=
  ((n87 d e ({ data := #[OfNat.ofNat 32] } : ByteArray)) && ((decide ((((m87 d e ({ data := #[OfNat.ofNat 32] } : ByteArray)).size) + 1) ≤ 9223372036854775807)) && ((n86f a ma1_1 b ((m87 d e ({ data := #[OfNat.ofNat 32] } : ByteArray)) ++ ({ data := #[OfNat.ofNat 10] } : ByteArray))) && true)))
noncomputable def q85f (r : Nat × Nat × Dat) : SV × List Blk × List Blk := (.tup [], [.cells 125 [.ptr 0 0, .gr 2 1 r.1], .unk], [.row 5 [.int .u8] r.2.1 r.2.2])
noncomputable def g85f : GF := fun vs bs => match vs, bs with
  | [.ro [.str] d e, .ptr 0 0], [.cells 125 [.val (.pointer none), .gr 1 1 a], .row 5 [.int .u8] ma1_1 b] => some (rs 2 (q85f (m85f d e a ma1_1 b)) [n85f d e a ma1_1 b])
  | _, _ => none
noncomputable def c85f : Ctr := genC [.ro [.str], .c [.k, .gr 5 [.int .u8]]] g85f
theorem k85f : CtrOk Tryd.prog c85f 85 := cx (tc k86f (tc k87 tn)) mix_ok 8 (fn := Tryd.f85) (c := (Tryd.f85.body.getD .skip)) (grs := [1]) (rh := .k) Tryd.func85 rfl (by kernel_rfl) noLam fun vs bs q h hn => by
  unfold g85f at h
  split at h <;> cases h
  rename_i d e a ma1_1 b
  have hn := n1 hn
  exact ⟨_, rfl, ca (fun R => (cnd (n87 d e ({ data := #[OfNat.ofNat 32] } : ByteArray))
 (cnd (decide ((((m87 d e ({ data := #[OfNat.ofNat 32] } : ByteArray)).size) + 1) ≤ 9223372036854775807))
 (cnd (n86f a ma1_1 b ((m87 d e ({ data := #[OfNat.ofNat 32] } : ByteArray)) ++ ({ data := #[OfNat.ofNat 10] } : ByteArray)))
 (R (.tup []) [.cells 125 [.ptr 0 0, .gr 2 1 (m86f a ma1_1 b ((m87 d e ({ data := #[OfNat.ofNat 32] } : ByteArray)) ++ ({ data := #[OfNat.ofNat 10] } : ByteArray))).2.1], .unk] [.row 5 [.int .u8] (m86f a ma1_1 b ((m87 d e ({ data := #[OfNat.ofNat 32] } : ByteArray)) ++ ({ data := #[OfNat.ofNat 10] } : ByteArray))).2.2.1 (m86f a ma1_1 b ((m87 d e ({ data := #[OfNat.ofNat 32] } : ByteArray)) ++ ({ data := #[OfNat.ofNat 10] } : ByteArray))).2.2.2])
    False)
   False)
  False)) (fun R => by kernel_rfl) (cn (al hn) (cn (al (ar hn)) (cn (al (ar (ar hn))) (lf rfl rfl))))⟩
end Go.Proofs.YtchhhoamnagbfaaDoor
