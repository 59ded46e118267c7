/-
 Contracts of functions: models, equations by the kernel, contracts. Conditions: none.
-/
import Derived.Test.YtmndejpcpfkajaaB6
import Derived.KernelRfl
namespace Go.Proofs.Ytmndejpcpfkajaa
open Go Go.Sy
noncomputable section
set_option linter.unusedVariables false
set_option linter.unusedSimpArgs false
set_option maxRecDepth 100000
set_option maxHeartbeats 2000000
attribute [local irreducible] Go.IntKind.wrap Int.tdiv Int.tmod Int.fdiv
open Go.Sy renaming tabOk_cons → tc, tabOk_nil → tn, cnd_need → cn, leaf_of → lf, cnd_gg → cg, cnd_gg2 → ch, cond_f → cf, cond_t → ct, cnd_of → co, callOf → ca, roundOf → ro, cnd_not → nn, lams_cons → lc, lams_nil → ln, condT → cT, condF → cF, need1 → n1, resOf → rs, and_l → al, and_r → ar, or_gg → og, ctr_of → cx, loop_blk → lb
open Go.IntKind renaming i64 → Z
open Go.Sy.SV renaming int → V
open Go.Sy.Kd renaming int → W
/-! ### shotline/gas.parts -/
def m141 (a b : Int) : Int × Int × Int :=
 (a, b, (Z.wrap ((Z.wrap (1000 - a)) - b)))
def q141 (r : Int × Int × Int) : SV × List Blk × List Blk := (.agg [V Z r.1, V Z r.2.1, V Z r.2.2], [], [])
def g141 : GF := fun vs bs => match vs, bs with
 | [.agg [V Z a, V Z b]], [] => some (rs 0 (q141 (m141 a b)) [])
 | _, _ => none
def c141 : Ctr := genC [.k] g141
theorem k141 : CtrOk Try.prog c141 141 := cx tn mix_ok 8 (fn := Try.f141) (c := (Try.f141.body.getD .skip)) (grs := []) (rh := .k) Try.func141 rfl (by kernel_rfl) noLam fun vs bs q h hn => by
 unfold g141 at h
 split at h <;> cases h
 rename_i a b
 exact ⟨_, rfl, ca (fun R => (R (.agg [V Z a, V Z b, V Z (Z.wrap ((Z.wrap (1000 - a)) - b))]) [] [])) (fun R => by kernel_rfl) (lf rfl rfl)⟩
end
end Go.Proofs.Ytmndejpcpfkajaa
