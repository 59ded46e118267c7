/-
 Contracts of functions: models, equations by the kernel, contracts. Conditions: none.
-/
import Derived.Test.YtmndejpcpfkajaaBSyY
import Derived.Test.YtmndejpcpfkajaaBSyKo
import Derived.Test.YtmndejpcpfkajaaBSyS
import Derived.Test.YtmndejpcpfkajaaBBase
import Derived.Test.YtmndejpcpfkajaaBPLoop
import Derived.KernelRfl
namespace Go.Proofs.Ytmndejpcpfkajaa
open Go Go.Sy
noncomputable section
set_option linter.unusedVariables false
set_option linter.unusedSimpArgs false
set_option maxRecDepth 100000
set_option maxHeartbeats 2000000
attribute [local irreducible] Go.IntKind.wrap Int.tdiv Int.tmod Int.fdiv
open Go.Sy renaming tabOk_cons → tc, tabOk_nil → tn, cnd_need → cn, leaf_of → lf, cnd_gg → cg, cnd_gg2 → ch, cond_f → cf, cond_t → ct, cnd_of → co, callOf → ca, roundOf → ro, cnd_not → nn, lams_cons → lc, lams_nil → ln, condT → cT, condF → cF, need1 → n1, resOf → rs, and_l → al, and_r → ar, or_gg → og, ctr_of → cx, loop_blk → lb
open Go.IntKind renaming i64 → Z
open Go.Sy.SV renaming int → V
open Go.Sy.Kd renaming int → W
/-! ### shotline/shotlinebase.Within -/
def m32 (a b d : Int) : Bool :=
 (bif (decide (b ≤ a)) then (decide (a ≤ d)) else false)
def q32 (r : Bool) : SV × List Blk × List Blk := (.bool r, [], [])
def g32 : GF := fun vs bs => match vs, bs with
 | [V Z a, V Z b, V Z d], [] => some (rs 0 (q32 (m32 a b d)) [])
 | _, _ => none
def c32 : Ctr := genC [.k, .k, .k] g32
theorem k32 : CtrOk Try.prog c32 32 := cx tn mix_ok 8 (fn := Try.f32) (c := (Try.f32.body.getD .skip)) (grs := []) (rh := .k) Try.func32 rfl (by kernel_rfl) noLam fun vs bs q h hn => by
 unfold g32 at h
 split at h <;> cases h
 rename_i a b d
 exact ⟨_, rfl, ca (fun R => (R (.bool (bif (decide (b ≤ a)) then (decide (a ≤ d)) else false)) [] [])) (fun R => by kernel_rfl) (lf rfl rfl)⟩
/-! ### shotline/shotlineref06.Sum -/
def m29 (a b d : Int) : Int :=
 (Z.wrap (Z.wrap (a + b) + d))
def q29 (r : Int) : SV × List Blk × List Blk := (V Z r, [], [])
def g29 : GF := fun vs bs => match vs, bs with
 | [.agg [V Z a, V Z b, V Z d]], [] => some (rs 0 (q29 (m29 a b d)) [])
 | _, _ => none
def c29 : Ctr := genC [.k] g29
theorem k29 : CtrOk Try.prog c29 29 := cx tn mix_ok 8 (fn := Try.f29) (c := (Try.f29.body.getD .skip)) (grs := []) (rh := .k) Try.func29 rfl (by kernel_rfl) noLam fun vs bs q h hn => by
 unfold g29 at h
 split at h <;> cases h
 rename_i a b d
 exact ⟨_, rfl, ca (fun R => (R (V Z (Z.wrap (Z.wrap (a + b) + d))) [] [])) (fun R => by kernel_rfl) (lf rfl rfl)⟩
/-! ### shotline/mix.gasesOf -/
def m82 (a b d : Int) : Int × Int × Int :=
 (a, b, d)
def q82 (r : Int × Int × Int) : SV × List Blk × List Blk := (.agg [V Z r.1, V Z r.2.1, V Z r.2.2], [], [])
def g82 : GF := fun vs bs => match vs, bs with
 | [.agg [V Z a, V Z b, V Z d]], [] => some (rs 0 (q82 (m82 a b d)) [])
 | _, _ => none
def c82 : Ctr := genC [.k] g82
theorem k82 : CtrOk Try.prog c82 82 := cx tn mix_ok 8 (fn := Try.f82) (c := (Try.f82.body.getD .skip)) (grs := []) (rh := .k) Try.func82 rfl (by kernel_rfl) noLam fun vs bs q h hn => by
 unfold g82 at h
 split at h <;> cases h
 rename_i a b d
 exact ⟨_, rfl, ca (fun R => (R (.agg [V Z a, V Z b, V Z d]) [] [])) (fun R => by kernel_rfl) (lf rfl rfl)⟩
/-! ### shotline/mix.within -/
def m83 (a b d : Int) : Bool :=
 (bif (decide (b ≤ a)) then (decide (a ≤ d)) else false)
def q83 (r : Bool) : SV × List Blk × List Blk := (.bool r, [], [])
def g83 : GF := fun vs bs => match vs, bs with
 | [V Z a, V Z b, V Z d], [] => some (rs 0 (q83 (m83 a b d)) [])
 | _, _ => none
def c83 : Ctr := genC [.k, .k, .k] g83
theorem k83 : CtrOk Try.prog c83 83 := cx tn mix_ok 8 (fn := Try.f83) (c := (Try.f83.body.getD .skip)) (grs := []) (rh := .k) Try.func83 rfl (by kernel_rfl) noLam fun vs bs q h hn => by
 unfold g83 at h
 split at h <;> cases h
 rename_i a b d
 exact ⟨_, rfl, ca (fun R => (R (.bool (bif (decide (b ≤ a)) then (decide (a ≤ d)) else false)) [] [])) (fun R => by kernel_rfl) (lf rfl rfl)⟩
/-! ### (shotline/mix.gases).sum -/
def m84 (a b d : Int) : Int :=
 (Z.wrap (Z.wrap (a + b) + d))
def q84 (r : Int) : SV × List Blk × List Blk := (V Z r, [], [])
def g84 : GF := fun vs bs => match vs, bs with
 | [.agg [V Z a, V Z b, V Z d]], [] => some (rs 0 (q84 (m84 a b d)) [])
 | _, _ => none
def c84 : Ctr := genC [.k] g84
theorem k84 : CtrOk Try.prog c84 84 := cx tn mix_ok 8 (fn := Try.f84) (c := (Try.f84.body.getD .skip)) (grs := []) (rh := .k) Try.func84 rfl (by kernel_rfl) noLam fun vs bs q h hn => by
 unfold g84 at h
 split at h <;> cases h
 rename_i a b d
 exact ⟨_, rfl, ca (fun R => (R (V Z (Z.wrap (Z.wrap (a + b) + d))) [] [])) (fun R => by kernel_rfl) (lf rfl rfl)⟩
/-! ### (shotline/mix.gases).content -/
def m80 (a b d : Int) : Int × Int × Int :=
 (a, b, d)
def q80 (r : Int × Int × Int) : SV × List Blk × List Blk := (.agg [V Z r.1, V Z r.2.1, V Z r.2.2], [], [])
def g80 : GF := fun vs bs => match vs, bs with
 | [.agg [V Z a, V Z b, V Z d]], [] => some (rs 0 (q80 (m80 a b d)) [])
 | _, _ => none
def c80 : Ctr := genC [.k] g80
theorem k80 : CtrOk Try.prog c80 80 := cx tn mix_ok 8 (fn := Try.f80) (c := (Try.f80.body.getD .skip)) (grs := []) (rh := .k) Try.func80 rfl (by kernel_rfl) noLam fun vs bs q h hn => by
 unfold g80 at h
 split at h <;> cases h
 rename_i a b d
 exact ⟨_, rfl, ca (fun R => (R (.agg [V Z a, V Z b, V Z d]) [] [])) (fun R => by kernel_rfl) (lf rfl rfl)⟩
/-! ### shotline/mix.rounded -/
def m89 (b a : Int) : Int × Int :=
 ((Z.wrap (b.tdiv a)), (Z.wrap ((Z.wrap (Z.wrap (b + a) - 1)).tdiv a)))
def n89 (b a : Int) : Bool :=
 ((bif (decide (a = 0)) then false else true) && ((bif (decide (a = 0)) then false else true) && true))
def q89 (r : Int × Int) : SV × List Blk × List Blk := (.agg [V Z r.1, V Z r.2], [], [])
def g89 : GF := fun vs bs => match vs, bs with
 | [V Z b, V Z a], [] => some (rs 0 (q89 (m89 b a)) [n89 b a])
 | _, _ => none
def c89 : Ctr := genC [.k, .k] g89
theorem k89 : CtrOk Try.prog c89 89 := cx tn mix_ok 8 (fn := Try.f89) (c := (Try.f89.body.getD .skip)) (grs := []) (rh := .k) Try.func89 rfl (by kernel_rfl) noLam fun vs bs q h hn => by
 unfold g89 at h
 split at h <;> cases h
 rename_i b a
 have hn := n1 hn
 exact ⟨_, rfl, ca (fun R => (cnd (bif (decide (a = 0)) then false else true)
 (cnd (bif (decide (a = 0)) then false else true)
 (R (.agg [V Z (Z.wrap (b.tdiv a)), V Z (Z.wrap ((Z.wrap (Z.wrap (b + a) - 1)).tdiv a))]) [] [])
  False)
 False)) (fun R => by kernel_rfl) (cn (al hn) (cn (al (ar hn)) (lf rfl rfl)))⟩
/-! ### shotline/shotlinebase.Floor -/
def m100 (b a : Int) : Int :=
 (cond (decide (b.tmod a < 0)) (Z.wrap (Z.wrap (b.tdiv a) - 1)) (Z.wrap (b.tdiv a)))
def n100 (b a : Int) : Bool :=
 ((bif (decide (a = 0)) then false else true) && ((bif (decide (a = 0)) then false else true) && true))
def q100 (r : Int) : SV × List Blk × List Blk := (V Z r, [], [])
def g100 : GF := fun vs bs => match vs, bs with
 | [V Z b, V Z a], [] => some (rs 0 (q100 (m100 b a)) [n100 b a])
 | _, _ => none
def c100 : Ctr := genC [.k, .k] g100
theorem k100 : CtrOk Try.prog c100 100 := cx tn mix_ok 8 (fn := Try.f100) (c := (Try.f100.body.getD .skip)) (grs := []) (rh := .k) Try.func100 rfl (by kernel_rfl) noLam fun vs bs q h hn => by
 unfold g100 at h
 split at h <;> cases h
 rename_i b a
 have hn := n1 hn
 exact ⟨_, rfl, ca (fun R => (cnd (bif (decide (a = 0)) then false else true)
 (cnd (bif (decide (a = 0)) then false else true)
 (cnd (decide (b.tmod a < 0))
 (R (V Z (Z.wrap (Z.wrap (b.tdiv a) - 1))) [] [])
 (R (V Z (Z.wrap (b.tdiv a))) [] []))
  False)
 False)) (fun R => by kernel_rfl) (cn (al hn) (cn (al (ar hn)) (co (fun h0 => lf (cT h0 rfl) rfl) (fun h0 => lf (cF h0 rfl) rfl))))⟩
/-! ### shotline/mix.takes -/
def m126 (a : Int) : Bool :=
 (bif (decide (a = 0)) then false else true)
def q126 (r : Bool) : SV × List Blk × List Blk := (.bool r, [], [])
def g126 : GF := fun vs bs => match vs, bs with
 | [V Z a], [] => some (rs 0 (q126 (m126 a)) [])
 | _, _ => none
def c126 : Ctr := genC [.k] g126
theorem k126 : CtrOk Try.prog c126 126 := cx tn mix_ok 8 (fn := Try.f126) (c := (Try.f126.body.getD .skip)) (grs := []) (rh := .k) Try.func126 rfl (by kernel_rfl) noLam fun vs bs q h hn => by
 unfold g126 at h
 split at h <;> cases h
 rename_i a
 exact ⟨_, rfl, ca (fun R => (R (.bool (bif (decide (a = 0)) then false else true)) [] [])) (fun R => by kernel_rfl) (lf rfl rfl)⟩
/-! ### shotline/mix.puts -/
def m127 (a : Int) : Bool :=
 (bif (decide (a = 2)) then false else true)
def q127 (r : Bool) : SV × List Blk × List Blk := (.bool r, [], [])
def g127 : GF := fun vs bs => match vs, bs with
 | [V Z a], [] => some (rs 0 (q127 (m127 a)) [])
 | _, _ => none
def c127 : Ctr := genC [.k] g127
theorem k127 : CtrOk Try.prog c127 127 := cx tn mix_ok 8 (fn := Try.f127) (c := (Try.f127.body.getD .skip)) (grs := []) (rh := .k) Try.func127 rfl (by kernel_rfl) noLam fun vs bs q h hn => by
 unfold g127 at h
 split at h <;> cases h
 rename_i a
 exact ⟨_, rfl, ca (fun R => (R (.bool (bif (decide (a = 2)) then false else true)) [] [])) (fun R => by kernel_rfl) (lf rfl rfl)⟩
/-! ### shotline/mix.fresh -/
def m129 (a b d : Int) : Int × Int × Int :=
 ((Z.wrap ((Z.wrap (d * a)).tdiv 1000)), (Z.wrap ((Z.wrap (d * b)).tdiv 1000)), (Z.wrap (Z.wrap (d - Z.wrap ((Z.wrap (d * a)).tdiv 1000)) - Z.wrap ((Z.wrap (d * b)).tdiv 1000))))
def q129 (r : Int × Int × Int) : SV × List Blk × List Blk := (.agg [V Z r.1, V Z r.2.1, V Z r.2.2], [], [])
def g129 : GF := fun vs bs => match vs, bs with
 | [.agg [V Z a, V Z b], V Z d], [] => some (rs 0 (q129 (m129 a b d)) [])
 | _, _ => none
def c129 : Ctr := genC [.k, .k] g129
theorem k129 : CtrOk Try.prog c129 129 := cx tn mix_ok 8 (fn := Try.f129) (c := (Try.f129.body.getD .skip)) (grs := []) (rh := .k) Try.func129 rfl (by kernel_rfl) noLam fun vs bs q h hn => by
 unfold g129 at h
 split at h <;> cases h
 rename_i a b d
 exact ⟨_, rfl, ca (fun R => (R (.agg [V Z (Z.wrap ((Z.wrap (d * a)).tdiv 1000)), V Z (Z.wrap ((Z.wrap (d * b)).tdiv 1000)), V Z (Z.wrap (Z.wrap (d - Z.wrap ((Z.wrap (d * a)).tdiv 1000)) - Z.wrap ((Z.wrap (d * b)).tdiv 1000)))]) [] [])) (fun R => by kernel_rfl) (lf rfl rfl)⟩
/-! ### (shotline/mix.gases).less -/
def m130 (a b d e g i : Int) : Int × Int × Int :=
 ((Z.wrap (a - e)), (Z.wrap (b - g)), (Z.wrap (d - i)))
def q130 (r : Int × Int × Int) : SV × List Blk × List Blk := (.agg [V Z r.1, V Z r.2.1, V Z r.2.2], [], [])
def g130 : GF := fun vs bs => match vs, bs with
 | [.agg [V Z a, V Z b, V Z d], .agg [V Z e, V Z g, V Z i]], [] => some (rs 0 (q130 (m130 a b d e g i)) [])
 | _, _ => none
def c130 : Ctr := genC [.k, .k] g130
theorem k130 : CtrOk Try.prog c130 130 := cx tn mix_ok 8 (fn := Try.f130) (c := (Try.f130.body.getD .skip)) (grs := []) (rh := .k) Try.func130 rfl (by kernel_rfl) noLam fun vs bs q h hn => by
 unfold g130 at h
 split at h <;> cases h
 rename_i a b d e g i
 exact ⟨_, rfl, ca (fun R => (R (.agg [V Z (Z.wrap (a - e)), V Z (Z.wrap (b - g)), V Z (Z.wrap (d - i))]) [] [])) (fun R => by kernel_rfl) (lf rfl rfl)⟩
/-! ### (shotline/mix.gases).plus -/
def m131 (a b d e g i : Int) : Int × Int × Int :=
 ((Z.wrap (a + e)), (Z.wrap (b + g)), (Z.wrap (d + i)))
def q131 (r : Int × Int × Int) : SV × List Blk × List Blk := (.agg [V Z r.1, V Z r.2.1, V Z r.2.2], [], [])
def g131 : GF := fun vs bs => match vs, bs with
 | [.agg [V Z a, V Z b, V Z d], .agg [V Z e, V Z g, V Z i]], [] => some (rs 0 (q131 (m131 a b d e g i)) [])
 | _, _ => none
def c131 : Ctr := genC [.k, .k] g131
theorem k131 : CtrOk Try.prog c131 131 := cx tn mix_ok 8 (fn := Try.f131) (c := (Try.f131.body.getD .skip)) (grs := []) (rh := .k) Try.func131 rfl (by kernel_rfl) noLam fun vs bs q h hn => by
 unfold g131 at h
 split at h <;> cases h
 rename_i a b d e g i
 exact ⟨_, rfl, ca (fun R => (R (.agg [V Z (Z.wrap (a + e)), V Z (Z.wrap (b + g)), V Z (Z.wrap (d + i))]) [] [])) (fun R => by kernel_rfl) (lf rfl rfl)⟩
/-! ### math/bits.Mul64 -/
def m147 (a b : Int) : Int × Int :=
 ((IntKind.u64.wrap (IntKind.u64.wrap (IntKind.u64.wrap (a.fdiv (2 ^ min (Int.toNat 32) IntKind.u64.bits) * b.fdiv (2 ^ min (Int.toNat 32) IntKind.u64.bits)) + (IntKind.u64.wrap (IntKind.u64.wrap (a.fdiv (2 ^ min (Int.toNat 32) IntKind.u64.bits) * IntKind.u64.wrap (↑(BitVec.ofInt IntKind.u64.bits b &&& BitVec.ofInt IntKind.u64.bits 4294967295).toNat : Int)) + (IntKind.u64.wrap (IntKind.u64.wrap (↑(BitVec.ofInt IntKind.u64.bits a &&& BitVec.ofInt IntKind.u64.bits 4294967295).toNat : Int) * IntKind.u64.wrap (↑(BitVec.ofInt IntKind.u64.bits b &&& BitVec.ofInt IntKind.u64.bits 4294967295).toNat : Int))).fdiv (2 ^ min (Int.toNat 32) IntKind.u64.bits))).fdiv (2 ^ min (Int.toNat 32) IntKind.u64.bits)) + (IntKind.u64.wrap (IntKind.u64.wrap (↑(BitVec.ofInt IntKind.u64.bits (IntKind.u64.wrap (IntKind.u64.wrap (a.fdiv (2 ^ min (Int.toNat 32) IntKind.u64.bits) * IntKind.u64.wrap (↑(BitVec.ofInt IntKind.u64.bits b &&& BitVec.ofInt IntKind.u64.bits 4294967295).toNat : Int)) + (IntKind.u64.wrap (IntKind.u64.wrap (↑(BitVec.ofInt IntKind.u64.bits a &&& BitVec.ofInt IntKind.u64.bits 4294967295).toNat : Int) * IntKind.u64.wrap (↑(BitVec.ofInt IntKind.u64.bits b &&& BitVec.ofInt IntKind.u64.bits 4294967295).toNat : Int))).fdiv (2 ^ min (Int.toNat 32) IntKind.u64.bits))) &&& BitVec.ofInt IntKind.u64.bits 4294967295).toNat : Int) + IntKind.u64.wrap (IntKind.u64.wrap (↑(BitVec.ofInt IntKind.u64.bits a &&& BitVec.ofInt IntKind.u64.bits 4294967295).toNat : Int) * b.fdiv (2 ^ min (Int.toNat 32) IntKind.u64.bits)))).fdiv (2 ^ min (Int.toNat 32) IntKind.u64.bits))), (IntKind.u64.wrap (a * b)))
def q147 (r : Int × Int) : SV × List Blk × List Blk := (.tup [.int .u64 r.1, .int .u64 r.2], [], [])
def g147 : GF := fun vs bs => match vs, bs with
 | [.int .u64 a, .int .u64 b], [] => some (rs 0 (q147 (m147 a b)) [])
 | _, _ => none
def c147 : Ctr := genC [.k, .k] g147
theorem k147 : CtrOk Try.prog c147 147 := cx tn mix_ok 8 (fn := Try.f147) (c := (Try.f147.body.getD .skip)) (grs := []) (rh := .k) Try.func147 rfl (by kernel_rfl) noLam fun vs bs q h hn => by
 unfold g147 at h
 split at h <;> cases h
 rename_i a b
 exact ⟨_, rfl, ca (fun R => 
 let b0 := (2 ^ min (Int.toNat 32) IntKind.u64.bits)
 let a0 := (IntKind.u64.wrap (IntKind.u64.wrap (a.fdiv b0 * IntKind.u64.wrap (↑(BitVec.ofInt IntKind.u64.bits b &&& BitVec.ofInt IntKind.u64.bits 4294967295).toNat : Int)) + (IntKind.u64.wrap (IntKind.u64.wrap (↑(BitVec.ofInt IntKind.u64.bits a &&& BitVec.ofInt IntKind.u64.bits 4294967295).toNat : Int) * IntKind.u64.wrap (↑(BitVec.ofInt IntKind.u64.bits b &&& BitVec.ofInt IntKind.u64.bits 4294967295).toNat : Int))).fdiv b0))
 (R (.tup [.int .u64 (IntKind.u64.wrap (IntKind.u64.wrap (IntKind.u64.wrap (a.fdiv b0 * b.fdiv b0) + a0.fdiv b0) + (IntKind.u64.wrap (IntKind.u64.wrap (↑(BitVec.ofInt IntKind.u64.bits a0 &&& BitVec.ofInt IntKind.u64.bits 4294967295).toNat : Int) + IntKind.u64.wrap (IntKind.u64.wrap (↑(BitVec.ofInt IntKind.u64.bits a &&& BitVec.ofInt IntKind.u64.bits 4294967295).toNat : Int) * b.fdiv b0))).fdiv b0)), .int .u64 (IntKind.u64.wrap (a * b))]) [] [])) (fun R => by kernel_rfl) (lf rfl rfl)⟩
/-! ### (shotline/mix.vector).cross -/
def m138 (a b d e g i : Int) : Int × Int × Int :=
 ((Z.wrap (Z.wrap (b * i) - Z.wrap (d * g))), (Z.wrap (Z.wrap (d * e) - Z.wrap (a * i))), (Z.wrap (Z.wrap (a * g) - Z.wrap (b * e))))
def q138 (r : Int × Int × Int) : SV × List Blk × List Blk := (.agg [V Z r.1, V Z r.2.1, V Z r.2.2], [], [])
def g138 : GF := fun vs bs => match vs, bs with
 | [.agg [V Z a, V Z b, V Z d], .agg [V Z e, V Z g, V Z i]], [] => some (rs 0 (q138 (m138 a b d e g i)) [])
 | _, _ => none
def c138 : Ctr := genC [.k, .k] g138
theorem k138 : CtrOk Try.prog c138 138 := cx tn mix_ok 8 (fn := Try.f138) (c := (Try.f138.body.getD .skip)) (grs := []) (rh := .k) Try.func138 rfl (by kernel_rfl) noLam fun vs bs q h hn => by
 unfold g138 at h
 split at h <;> cases h
 rename_i a b d e g i
 exact ⟨_, rfl, ca (fun R => (R (.agg [V Z (Z.wrap (Z.wrap (b * i) - Z.wrap (d * g))), V Z (Z.wrap (Z.wrap (d * e) - Z.wrap (a * i))), V Z (Z.wrap (Z.wrap (a * g) - Z.wrap (b * e)))]) [] [])) (fun R => by kernel_rfl) (lf rfl rfl)⟩
/-! ### shotline/mix.proofOf -/
def m139 (d a b e : Int) : Int × Int × Int × Int × Int × Int :=
 (d, (imax 0 a), (imax 0 (Z.wrap (0 - a))), (imax 0 b), (imax 0 (Z.wrap (0 - b))), e)
def q139 (r : Int × Int × Int × Int × Int × Int) : SV × List Blk × List Blk := (.agg [V Z r.1, V Z r.2.1, V Z r.2.2.1, V Z r.2.2.2.1, V Z r.2.2.2.2.1, V Z r.2.2.2.2.2], [], [])
def g139 : GF := fun vs bs => match vs, bs with
 | [.agg [V Z d, V Z a, V Z b], V Z e], [] => some (rs 0 (q139 (m139 d a b e)) [])
 | _, _ => none
def c139 : Ctr := genC [.k, .k] g139
theorem k139 : CtrOk Try.prog c139 139 := cx tn mix_ok 8 (fn := Try.f139) (c := (Try.f139.body.getD .skip)) (grs := []) (rh := .k) Try.func139 rfl (by kernel_rfl) noLam fun vs bs q h hn => by
 unfold g139 at h
 split at h <;> cases h
 rename_i d a b e
 exact ⟨_, rfl, ca (fun R => (R (.agg [V Z d, V Z (imax 0 a), V Z (imax 0 (Z.wrap (0 - a))), V Z (imax 0 b), V Z (imax 0 (Z.wrap (0 - b))), V Z e]) [] [])) (fun R => by kernel_rfl) (lf rfl rfl)⟩
/-! ### cmp.isNaN[int] -/
def m153 (a : Int) : Bool :=
 (bif (decide (a = a)) then false else true)
def q153 (r : Bool) : SV × List Blk × List Blk := (.bool r, [], [])
def g153 : GF := fun vs bs => match vs, bs with
 | [V Z a], [] => some (rs 0 (q153 (m153 a)) [])
 | _, _ => none
def c153 : Ctr := genC [.k] g153
theorem k153 : CtrOk Try.prog c153 153 := cx tn mix_ok 8 (fn := Try.f153) (c := (Try.f153.body.getD .skip)) (grs := []) (rh := .k) Try.func153 rfl (by kernel_rfl) noLam fun vs bs q h hn => by
 unfold g153 at h
 split at h <;> cases h
 rename_i a
 exact ⟨_, rfl, ca (fun R => (R (.bool (bif (decide (a = a)) then false else true)) [] [])) (fun R => by kernel_rfl) (lf rfl rfl)⟩
/-! ### shotline/gas.within -/
def m154 (a b d : Int) : Bool :=
 (bif (decide (b ≤ a)) then (decide (a ≤ d)) else false)
def q154 (r : Bool) : SV × List Blk × List Blk := (.bool r, [], [])
def g154 : GF := fun vs bs => match vs, bs with
 | [V Z a, V Z b, V Z d], [] => some (rs 0 (q154 (m154 a b d)) [])
 | _, _ => none
def c154 : Ctr := genC [.k, .k, .k] g154
theorem k154 : CtrOk Try.prog c154 154 := cx tn mix_ok 8 (fn := Try.f154) (c := (Try.f154.body.getD .skip)) (grs := []) (rh := .k) Try.func154 rfl (by kernel_rfl) noLam fun vs bs q h hn => by
 unfold g154 at h
 split at h <;> cases h
 rename_i a b d
 exact ⟨_, rfl, ca (fun R => (R (.bool (bif (decide (b ≤ a)) then (decide (a ≤ d)) else false)) [] [])) (fun R => by kernel_rfl) (lf rfl rfl)⟩
/-! ### cmp.isNaN[uint64] -/
def m160 (a : Int) : Bool :=
 (bif (decide (a = a)) then false else true)
def q160 (r : Bool) : SV × List Blk × List Blk := (.bool r, [], [])
def g160 : GF := fun vs bs => match vs, bs with
 | [.int .u64 a], [] => some (rs 0 (q160 (m160 a)) [])
 | _, _ => none
def c160 : Ctr := genC [.k] g160
theorem k160 : CtrOk Try.prog c160 160 := cx tn mix_ok 8 (fn := Try.f160) (c := (Try.f160.body.getD .skip)) (grs := []) (rh := .k) Try.func160 rfl (by kernel_rfl) noLam fun vs bs q h hn => by
 unfold g160 at h
 split at h <;> cases h
 rename_i a
 exact ⟨_, rfl, ca (fun R => (R (.bool (bif (decide (a = a)) then false else true)) [] [])) (fun R => by kernel_rfl) (lf rfl rfl)⟩
/-! ### (shotline/mix.vector).dot -/
def m156 (a b d e g i : Int) : Int :=
 (Z.wrap (Z.wrap (Z.wrap (a * e) + Z.wrap (b * g)) + Z.wrap (d * i)))
def q156 (r : Int) : SV × List Blk × List Blk := (V Z r, [], [])
def g156 : GF := fun vs bs => match vs, bs with
 | [.agg [V Z a, V Z b, V Z d], .agg [V Z e, V Z g, V Z i]], [] => some (rs 0 (q156 (m156 a b d e g i)) [])
 | _, _ => none
def c156 : Ctr := genC [.k, .k] g156
theorem k156 : CtrOk Try.prog c156 156 := cx tn mix_ok 8 (fn := Try.f156) (c := (Try.f156.body.getD .skip)) (grs := []) (rh := .k) Try.func156 rfl (by kernel_rfl) noLam fun vs bs q h hn => by
 unfold g156 at h
 split at h <;> cases h
 rename_i a b d e g i
 exact ⟨_, rfl, ca (fun R => (R (V Z (Z.wrap (Z.wrap (Z.wrap (a * e) + Z.wrap (b * g)) + Z.wrap (d * i)))) [] [])) (fun R => by kernel_rfl) (lf rfl rfl)⟩
/-! ### shotline/mix.vessel$1 -/
def m143 (a : ByteArray) (d e : Int) (b : Dat) : Bool :=
 (decide (a = b.ss 0 0))
def q143 (r : Bool) : SV × List Blk × List Blk := (.bool r, [], [])
def g143 : GF := fun vs bs => match vs, bs with
 | [.agg [.str a, V Z d, V Z e], .rp [.str] b 0 0], [] => some (rs 0 (q143 (m143 a d e b)) [])
 | _, _ => none
def c143 : Ctr := genC [.k, .rp [.str]] g143
theorem k143 : CtrOk Try.prog c143 143 := cx tn mix_ok 8 (fn := Try.f143) (c := (Try.f143.body.getD .skip)) (grs := []) (rh := .k) Try.func143 rfl (by kernel_rfl) noLam fun vs bs q h hn => by
 unfold g143 at h
 split at h <;> cases h
 rename_i a d e b
 exact ⟨_, rfl, ca (fun R => (R (.bool (decide (a = b.ss 0 0))) [] [])) (fun R => by kernel_rfl) (lf rfl rfl)⟩
/-! ### shotline/mix.CheckTask$1 -/
def m118 (a : ByteArray) (d e g i : Int) (b : Dat) : Bool :=
 (decide (a = b.ss 0 0))
def q118 (r : Bool) : SV × List Blk × List Blk := (.bool r, [], [])
def g118 : GF := fun vs bs => match vs, bs with
 | [.agg [.str a, V Z d, V Z e, V Z g, V Z i], .rp [.str, W Z, W Z, W Z, W Z] b 0 0], [] => some (rs 0 (q118 (m118 a d e g i b)) [])
 | _, _ => none
def c118 : Ctr := genC [.k, .rp [.str, W Z, W Z, W Z, W Z]] g118
theorem k118 : CtrOk Try.prog c118 118 := cx tn mix_ok 8 (fn := Try.f118) (c := (Try.f118.body.getD .skip)) (grs := []) (rh := .k) Try.func118 rfl (by kernel_rfl) noLam fun vs bs q h hn => by
 unfold g118 at h
 split at h <;> cases h
 rename_i a d e g i b
 exact ⟨_, rfl, ca (fun R => (R (.bool (decide (a = b.ss 0 0))) [] [])) (fun R => by kernel_rfl) (lf rfl rfl)⟩
/-! ### shotline/shotlineref06.CheckContent -/
def m26 (a b d : Int) : Int :=
 (cond (bif (bif (bif (bif (m32 a 0 1000000000) then false else true) then true else (bif (m32 b 0 1000000000) then false else true)) then true else (bif (m32 d 0 1000000000) then false else true)) then true else (decide (1000000000 < m29 a b d))) 2 0)
def q26 (r : Int) : SV × List Blk × List Blk := (V Z r, [], [])
def g26 : GF := fun vs bs => match vs, bs with
 | [.agg [V Z a, V Z b, V Z d]], [] => some (rs 0 (q26 (m26 a b d)) [])
 | _, _ => none
def c26 : Ctr := genC [.k] g26
theorem k26 : CtrOk Try.prog c26 26 := cx (tc k32 (tc k29 tn)) mix_ok 8 (fn := Try.f26) (c := (Try.f26.body.getD .skip)) (grs := []) (rh := .k) Try.func26 rfl (by kernel_rfl) noLam fun vs bs q h hn => by
 unfold g26 at h
 split at h <;> cases h
 rename_i a b d
 exact ⟨_, rfl, ca (fun R => (cnd (bif (bif (bif (bif (m32 a 0 1000000000) then false else true) then true else (bif (m32 b 0 1000000000) then false else true)) then true else (bif (m32 d 0 1000000000) then false else true)) then true else (decide (1000000000 < m29 a b d)))
 (R (V Z 2) [] [])
 (R (V Z 0) [] []))) (fun R => by kernel_rfl) (co (fun h0 => lf (cT h0 rfl) rfl) (fun h0 => lf (cF h0 rfl) rfl))⟩
/-! ### shotline/shotlineref01.CheckGas -/
def m91 (a b : Int) : Int :=
 (cond (bif (bif (m32 a 0 1000) then false else true) then true else (bif (m32 b 0 1000) then false else true)) 2 (cond (decide (1000 < Z.wrap (a + b))) 23 0))
def q91 (r : Int) : SV × List Blk × List Blk := (V Z r, [], [])
def g91 : GF := fun vs bs => match vs, bs with
 | [.agg [V Z a, V Z b]], [] => some (rs 0 (q91 (m91 a b)) [])
 | _, _ => none
def c91 : Ctr := genC [.k] g91
theorem k91 : CtrOk Try.prog c91 91 := cx (tc k32 tn) mix_ok 8 (fn := Try.f91) (c := (Try.f91.body.getD .skip)) (grs := []) (rh := .k) Try.func91 rfl (by kernel_rfl) noLam fun vs bs q h hn => by
 unfold g91 at h
 split at h <;> cases h
 rename_i a b
 exact ⟨_, rfl, ca (fun R => (cnd (bif (bif (m32 a 0 1000) then false else true) then true else (bif (m32 b 0 1000) then false else true))
 (R (V Z 2) [] [])
 (cnd (decide (1000 < Z.wrap (a + b)))
 (R (V Z 23) [] [])
 (R (V Z 0) [] [])))) (fun R => by kernel_rfl) (co (fun h0 => lf (cT h0 rfl) rfl) (fun h0 => co (fun h1 => lf (cF h0 (cT h1 rfl)) rfl) (fun h1 => lf (cF h0 (cF h1 rfl)) rfl)))⟩
/-! ### shotline/shotlineref06.checkShare -/
def m92 (a b : Int) : Int :=
 (cond (bif (bif (m32 a 0 1000) then false else true) then true else (bif (m32 b 0 1000) then false else true)) 2 (cond (decide (b < a)) 9 0))
def q92 (r : Int) : SV × List Blk × List Blk := (V Z r, [], [])
def g92 : GF := fun vs bs => match vs, bs with
 | [.agg [V Z a, V Z b]], [] => some (rs 0 (q92 (m92 a b)) [])
 | _, _ => none
def c92 : Ctr := genC [.k] g92
theorem k92 : CtrOk Try.prog c92 92 := cx (tc k32 tn) mix_ok 8 (fn := Try.f92) (c := (Try.f92.body.getD .skip)) (grs := []) (rh := .k) Try.func92 rfl (by kernel_rfl) noLam fun vs bs q h hn => by
 unfold g92 at h
 split at h <;> cases h
 rename_i a b
 exact ⟨_, rfl, ca (fun R => (cnd (bif (bif (m32 a 0 1000) then false else true) then true else (bif (m32 b 0 1000) then false else true))
 (R (V Z 2) [] [])
 (cnd (decide (b < a))
 (R (V Z 9) [] [])
 (R (V Z 0) [] [])))) (fun R => by kernel_rfl) (co (fun h0 => lf (cT h0 rfl) rfl) (fun h0 => co (fun h1 => lf (cF h0 (cT h1 rfl)) rfl) (fun h1 => lf (cF h0 (cF h1 rfl)) rfl)))⟩
/-! ### shotline/mix.checkContent$1 -/
def m121 (a : Int) : Bool :=
 (bif (m83 a 0 1000000000) then false else true)
def q121 (r : Bool) : SV × List Blk × List Blk := (.bool r, [], [])
def g121 : GF := fun vs bs => match vs, bs with
 | [V Z a], [] => some (rs 0 (q121 (m121 a)) [])
 | _, _ => none
def c121 : Ctr := genC [.k] g121
theorem k121 : CtrOk Try.prog c121 121 := cx (tc k83 tn) mix_ok 8 (fn := Try.f121) (c := (Try.f121.body.getD .skip)) (grs := []) (rh := .k) Try.func121 rfl (by kernel_rfl) noLam fun vs bs q h hn => by
 unfold g121 at h
 split at h <;> cases h
 rename_i a
 exact ⟨_, rfl, ca (fun R => (R (.bool (bif (m83 a 0 1000000000) then false else true)) [] [])) (fun R => by kernel_rfl) (lf rfl rfl)⟩
/-! ### shotline/mix.isProof$1 -/
def m140 (a : Int) : Bool :=
 (bif (m83 a 0 10000000) then false else true)
def q140 (r : Bool) : SV × List Blk × List Blk := (.bool r, [], [])
def g140 : GF := fun vs bs => match vs, bs with
 | [V Z a], [] => some (rs 0 (q140 (m140 a)) [])
 | _, _ => none
def c140 : Ctr := genC [.k] g140
theorem k140 : CtrOk Try.prog c140 140 := cx (tc k83 tn) mix_ok 8 (fn := Try.f140) (c := (Try.f140.body.getD .skip)) (grs := []) (rh := .k) Try.func140 rfl (by kernel_rfl) noLam fun vs bs q h hn => by
 unfold g140 at h
 split at h <;> cases h
 rename_i a
 exact ⟨_, rfl, ca (fun R => (R (.bool (bif (m83 a 0 10000000) then false else true)) [] [])) (fun R => by kernel_rfl) (lf rfl rfl)⟩
/-! ### cmp.Compare[int] -/
def m124 (b a : Int) : Int :=
 (cond (m153 b) (cond (m153 a) 0 (-1)) (cond (m153 a) 1 (cond (decide (b < a)) (-1) (cond (decide (a < b)) 1 0))))
def q124 (r : Int) : SV × List Blk × List Blk := (V Z r, [], [])
def g124 : GF := fun vs bs => match vs, bs with
 | [V Z b, V Z a], [] => some (rs 0 (q124 (m124 b a)) [])
 | _, _ => none
def c124 : Ctr := genC [.k, .k] g124
theorem k124 : CtrOk Try.prog c124 124 := cx (tc k153 tn) mix_ok 8 (fn := Try.f124) (c := (Try.f124.body.getD .skip)) (grs := []) (rh := .k) Try.func124 rfl (by kernel_rfl) noLam fun vs bs q h hn => by
 unfold g124 at h
 split at h <;> cases h
 rename_i b a
 exact ⟨_, rfl, ca (fun R => (cnd (m153 b)
 (cnd (m153 a)
 (R (V Z 0) [] [])
 (R (V Z (-1)) [] []))
 (cnd (m153 a)
 (R (V Z 1) [] [])
 (cnd (decide (b < a))
 (R (V Z (-1)) [] [])
 (cnd (decide (a < b))
 (R (V Z 1) [] [])
 (R (V Z 0) [] [])))))) (fun R => by kernel_rfl) (co (fun h0 => co (fun h1 => lf (cT h0 (cT h1 rfl)) rfl) (fun h1 => lf (cT h0 (cF h1 rfl)) rfl)) (fun h0 => co (fun h1 => lf (cF h0 (cT h1 rfl)) rfl) (fun h1 => co (fun h2 => lf (cF h0 (cF h1 (cT h2 rfl))) rfl) (fun h2 => co (fun h3 => lf (cF h0 (cF h1 (cF h2 (cT h3 rfl)))) rfl) (fun h3 => lf (cF h0 (cF h1 (cF h2 (cF h3 rfl)))) rfl)))))⟩
/-! ### shotline/gas.bound -/
def m133 (a b d : Int) : Int :=
 (cond (bif (m154 a b d) then false else true) 2 0)
def q133 (r : Int) : SV × List Blk × List Blk := (V Z r, [], [])
def g133 : GF := fun vs bs => match vs, bs with
 | [V Z a, V Z b, V Z d], [] => some (rs 0 (q133 (m133 a b d)) [])
 | _, _ => none
def c133 : Ctr := genC [.k, .k, .k] g133
theorem k133 : CtrOk Try.prog c133 133 := cx (tc k154 tn) mix_ok 8 (fn := Try.f133) (c := (Try.f133.body.getD .skip)) (grs := []) (rh := .k) Try.func133 rfl (by kernel_rfl) noLam fun vs bs q h hn => by
 unfold g133 at h
 split at h <;> cases h
 rename_i a b d
 exact ⟨_, rfl, ca (fun R => (cnd (bif (m154 a b d) then false else true)
 (R (V Z 2) [] [])
 (R (V Z 0) [] []))) (fun R => by kernel_rfl) (co (fun h0 => lf (cT h0 rfl) rfl) (fun h0 => lf (cF h0 rfl) rfl))⟩
/-! ### cmp.Compare[uint64] -/
def m149 (b a : Int) : Int :=
 (cond (m160 b) (cond (m160 a) 0 (-1)) (cond (m160 a) 1 (cond (decide (b < a)) (-1) (cond (decide (a < b)) 1 0))))
def q149 (r : Int) : SV × List Blk × List Blk := (V Z r, [], [])
def g149 : GF := fun vs bs => match vs, bs with
 | [.int .u64 b, .int .u64 a], [] => some (rs 0 (q149 (m149 b a)) [])
 | _, _ => none
def c149 : Ctr := genC [.k, .k] g149
theorem k149 : CtrOk Try.prog c149 149 := cx (tc k160 tn) mix_ok 8 (fn := Try.f149) (c := (Try.f149.body.getD .skip)) (grs := []) (rh := .k) Try.func149 rfl (by kernel_rfl) noLam fun vs bs q h hn => by
 unfold g149 at h
 split at h <;> cases h
 rename_i b a
 exact ⟨_, rfl, ca (fun R => (cnd (m160 b)
 (cnd (m160 a)
 (R (V Z 0) [] [])
 (R (V Z (-1)) [] []))
 (cnd (m160 a)
 (R (V Z 1) [] [])
 (cnd (decide (b < a))
 (R (V Z (-1)) [] [])
 (cnd (decide (a < b))
 (R (V Z 1) [] [])
 (R (V Z 0) [] [])))))) (fun R => by kernel_rfl) (co (fun h0 => co (fun h1 => lf (cT h0 (cT h1 rfl)) rfl) (fun h1 => lf (cT h0 (cF h1 rfl)) rfl)) (fun h0 => co (fun h1 => lf (cF h0 (cT h1 rfl)) rfl) (fun h1 => co (fun h2 => lf (cF h0 (cF h1 (cT h2 rfl))) rfl) (fun h2 => co (fun h3 => lf (cF h0 (cF h1 (cF h2 (cT h3 rfl)))) rfl) (fun h3 => lf (cF h0 (cF h1 (cF h2 (cF h3 rfl)))) rfl)))))⟩
/-! ### shotline/mix.shares -/
def m119 (a b : Int) : Int :=
 (cond (bif (bif (m83 a 0 1000) then false else true) then true else (bif (m83 b 0 1000) then false else true)) 2 (cond (decide (b < a)) 9 0))
def q119 (r : Int) : SV × List Blk × List Blk := (V Z r, [], [])
def g119 : GF := fun vs bs => match vs, bs with
 | [.agg [V Z a, V Z b]], [] => some (rs 0 (q119 (m119 a b)) [])
 | _, _ => none
def c119 : Ctr := genC [.k] g119
theorem k119 : CtrOk Try.prog c119 119 := cx (tc k83 tn) mix_ok 8 (fn := Try.f119) (c := (Try.f119.body.getD .skip)) (grs := []) (rh := .k) Try.func119 rfl (by kernel_rfl) noLam fun vs bs q h hn => by
 unfold g119 at h
 split at h <;> cases h
 rename_i a b
 exact ⟨_, rfl, ca (fun R => (cnd (bif (bif (m83 a 0 1000) then false else true) then true else (bif (m83 b 0 1000) then false else true))
 (R (V Z 2) [] [])
 (cnd (decide (b < a))
 (R (V Z 9) [] [])
 (R (V Z 0) [] [])))) (fun R => by kernel_rfl) (co (fun h0 => lf (cT h0 rfl) rfl) (fun h0 => co (fun h1 => lf (cF h0 (cT h1 rfl)) rfl) (fun h1 => lf (cF h0 (cF h1 rfl)) rfl)))⟩
/-! ### shotline/gas.first -/
def l132_0 (t5_0 : Nat) (t5_1 : Dat) (d : Int) : Nat → Int → Option (Bool × (Int) × (Unit))
 | 0, _ => none
 | f + 1, b => (cond (decide (b < d)) (cond (decide (0 ≤ b ∧ b < ↑t5_0)) (cond (bif (decide (t5_1.ii b.toNat 0 = 0)) then false else true) (some (true, (t5_1.ii b.toNat 0), default)) (l132_0 t5_0 t5_1 d f (Z.wrap (b + 1)))) none) (some (false, default, ())))
abbrev o132_0 (t5_0 : Nat) (t5_1 : Dat) (d b : Int) : Option (Bool × (Int) × (Unit)) := l132_0 t5_0 t5_1 d (t5_0 + d.toNat + b.toNat + 8) b
def e132_0 (t5_0 : Nat) (t5_1 : Dat) (d : Int) (r : Bool × (Int) × (Unit)) (K : XR) : Prop := cnd r.1 (K (XE.ret) [V Z r.2.1] []) (K (XE.exit 0) [.any] [])
def g132_0 : LSum := fun s k => match czv 0 15 [5, 6, 7] 0 [] s with
 | some ([.ro [W Z] t5_0 t5_1, V Z d, V Z b], []) => needs [(o132_0 t5_0 t5_1 d b).isSome] (e132_0 t5_0 t5_1 d ((o132_0 t5_0 t5_1 d b).getD default) fun e vs bs => inBlk 0 k e (mkSt 0 15 [2] vs 0 bs))
 | _ => False
theorem z132_0 : LOk Try.prog g132_0 (.block 0 (bodyAt (Try.f132.body.getD .skip) 0)) := by
 refine lb (ι := Nat × Dat × Int × Int) (fuel := 8) (na := 0) (nt := 15) (nx := 0) (Lh := [5, 6, 7]) (Le := [2]) (gl := []) tn mix_ok noLam rfl (fun f (t5_0, t5_1, d, b) K => GG default (e132_0 t5_0 t5_1 d) K (l132_0 t5_0 t5_1 d f b)) (fun (t5_0, t5_1, d, b) => [.ro [W Z] t5_0 t5_1, V Z d, V Z b]) (fun (t5_0, t5_1, d, b) => []) (fun (_, _, _, _) K => gg_none) ?_ ?_
 ·rintro f ⟨t5_0, t5_1, d, b⟩ K hG
  refine ro (fun R => (cnd (decide (b < d))
 (cnd (decide (0 ≤ b ∧ b < ↑t5_0))
 (cnd (bif (decide (t5_1.ii b.toNat 0 = 0)) then false else true)
 (R (XE.ret) [V Z (t5_1.ii b.toNat 0)] [])
 (R (XE.normal) [.ro [W Z] t5_0 t5_1, V Z d, V Z (Z.wrap (b + 1))] []))
  False)
 (R (XE.exit 0) [.any] []))) (fun R => by kernel_rfl) ?_
  exact ch hG (fun h0 => cg h0 fun h1 => ch h1 (fun h2 => h2.2) (fun h2 => ⟨(_, _, _, _), rfl, rfl, h2⟩)) (fun h0 => h0.2)
 ·intro s k h
  unfold g132_0 at h
  split at h <;> try exact h.elim
  rename_i e1
  rw [needs_iff] at h
  exact ⟨_, e1, _, (_, _, _, _), rfl, rfl, h.1 _ (List.mem_singleton.2 rfl), h.2⟩
def m132 (a : Nat) (g : Dat) : Int :=
 (cond ((o132_0 a g (↑a : Int) 0).getD default).1 ((o132_0 a g (↑a : Int) 0).getD default).2.1 0)
def n132 (a : Nat) (g : Dat) : Bool :=
 (((o132_0 a g (↑a : Int) 0).isSome) && true)
def q132 (r : Int) : SV × List Blk × List Blk := (V Z r, [], [])
def g132 : GF := fun vs bs => match vs, bs with
 | [.ro [W Z] a g], [] => some (rs 0 (q132 (m132 a g)) [n132 a g])
 | _, _ => none
def c132 : Ctr := genC [.ro [W Z]] g132
theorem k132 : CtrOk Try.prog c132 132 := cx tn mix_ok 8 (fn := Try.f132) (c := (Try.f132.body.getD .skip)) (grs := []) (rh := .k) Try.func132 rfl (by kernel_rfl) (lam_of rfl (lc z132_0 ln)) fun vs bs q h hn => by
 unfold g132 at h
 split at h <;> cases h
 rename_i a g
 have hn := n1 hn
 exact ⟨_, rfl, ca (fun R => (cnd ((o132_0 a g (↑a : Int) 0).isSome)
 (cnd ((o132_0 a g (↑a : Int) 0).getD default).1
 (R (V Z ((o132_0 a g (↑a : Int) 0).getD default).2.1) [] [])
 (R (V Z 0) [] []))
 False)) (fun R => by kernel_rfl) (cn (al hn) (co (fun h0 => lf (cT h0 rfl) rfl) (fun h0 => lf (cF h0 rfl) rfl)))⟩
/-! ### shotline/shotlinebase.Compare -/
def l42_0  : Nat → Int → Int → Int → Int → Option (Int)
 | 0, _, _, _, _ => none
 | f + 1, d, a, g, b => (cond (n100 d a) (cond (n100 g b) (cond (decide (m100 d a < m100 g b)) (some (-1)) (cond (decide (m100 g b < m100 d a)) (some 1) (cond (bif (decide (Z.wrap (d - Z.wrap (m100 d a * a)) = 0)) then (decide (Z.wrap (g - Z.wrap (m100 g b * b)) = 0)) else false) (some 0) (cond (decide (Z.wrap (d - Z.wrap (m100 d a * a)) = 0)) (some (-1)) (cond (decide (Z.wrap (g - Z.wrap (m100 g b * b)) = 0)) (some 1) (l42_0  f b (Z.wrap (g - Z.wrap (m100 g b * b))) a (Z.wrap (d - Z.wrap (m100 d a * a))))))))) none) none)
abbrev o42_0 (d a g b : Int) : Option (Int) := l42_0  (d.toNat + a.toNat + g.toNat + b.toNat + 8) d a g b
def e42_0  (r : Int) (K : XR) : Prop := K (XE.ret) [V Z r] []
def g42_0 : LSum := fun s k => match czv 0 47 [0, 1, 2, 3] 0 [] s with
 | some ([V Z d, V Z a, V Z g, V Z b], []) => needs [(o42_0  d a g b).isSome] (e42_0  ((o42_0  d a g b).getD default) fun e vs bs => inBlk 0 k e (mkSt 0 47 [8] vs 0 bs))
 | _ => False
theorem z42_0 : LOk Try.prog g42_0 (.block 0 (bodyAt (Try.f42.body.getD .skip) 0)) := by
 refine lb (ι := Int × Int × Int × Int) (fuel := 8) (na := 0) (nt := 47) (nx := 0) (Lh := [0, 1, 2, 3]) (Le := [8]) (gl := []) (tc k100 tn) mix_ok noLam rfl (fun f (d, a, g, b) K => GG default (e42_0 ) K (l42_0  f d a g b)) (fun (d, a, g, b) => [V Z d, V Z a, V Z g, V Z b]) (fun (d, a, g, b) => []) (fun (_, _, _, _) K => gg_none) ?_ ?_
 ·rintro f ⟨d, a, g, b⟩ K hG
  refine ro (fun R => 
 let a0 := (d - Z.wrap (m100 d a * a))
 let b0 := (g - Z.wrap (m100 g b * b))
 (cnd (n100 d a)
 (cnd (n100 g b)
 (cnd (decide (m100 d a < m100 g b))
 (R (XE.ret) [V Z (-1)] [])
 (cnd (decide (m100 g b < m100 d a))
 (R (XE.ret) [V Z 1] [])
 (cnd (bif (decide (Z.wrap a0 = 0)) then (decide (Z.wrap b0 = 0)) else false)
 (R (XE.ret) [V Z 0] [])
 (cnd (decide (Z.wrap a0 = 0))
 (R (XE.ret) [V Z (-1)] [])
 (cnd (decide (Z.wrap b0 = 0))
 (R (XE.ret) [V Z 1] [])
 (R (XE.normal) [V Z b, V Z (Z.wrap b0), V Z a, V Z (Z.wrap a0)] []))))))
  False)
 False)) (fun R => by kernel_rfl) ?_
  exact cg hG fun h0 => cg h0 fun h1 => ch h1 (fun h2 => h2.2) (fun h2 => ch h2 (fun h3 => h3.2) (fun h3 => ch h3 (fun h4 => h4.2) (fun h4 => ch h4 (fun h5 => h5.2) (fun h5 => ch h5 (fun h6 => h6.2) (fun h6 => ⟨(_, _, _, _), rfl, rfl, h6⟩)))))
 ·intro s k h
  unfold g42_0 at h
  split at h <;> try exact h.elim
  rename_i e1
  rw [needs_iff] at h
  exact ⟨_, e1, _, (_, _, _, _), rfl, rfl, h.1 _ (List.mem_singleton.2 rfl), h.2⟩
def m42 (i j l m : Int) : Int :=
 ((o42_0 i j l m).getD default)
def n42 (i j l m : Int) : Bool :=
 (((o42_0 i j l m).isSome) && true)
def q42 (r : Int) : SV × List Blk × List Blk := (V Z r, [], [])
def g42 : GF := fun vs bs => match vs, bs with
 | [V Z i, V Z j, V Z l, V Z m], [] => some (rs 0 (q42 (m42 i j l m)) [n42 i j l m])
 | _, _ => none
def c42 : Ctr := genC [.k, .k, .k, .k] g42
theorem k42 : CtrOk Try.prog c42 42 := cx (tc k100 tn) mix_ok 8 (fn := Try.f42) (c := (Try.f42.body.getD .skip)) (grs := []) (rh := .k) Try.func42 rfl (by kernel_rfl) (lam_of rfl (lc z42_0 ln)) fun vs bs q h hn => by
 unfold g42 at h
 split at h <;> cases h
 rename_i i j l m
 have hn := n1 hn
 exact ⟨_, rfl, ca (fun R => (cnd ((o42_0 i j l m).isSome)
 (R (V Z ((o42_0 i j l m).getD default)) [] [])
 False)) (fun R => by kernel_rfl) (cn (al hn) (lf rfl rfl))⟩
/-! ### shotline/shotlinelaw06.Light -/
def l37_0 (b : Nat) (d : Dat) (g i j l m n o p : Int) : Nat → Int → Option (Bool × (Bool) × (Unit))
 | 0, _ => none
 | f + 1, E => (cond (decide (E < (↑b : Int))) (cond (decide (0 ≤ E ∧ E < ↑b)) (cond (decide (20 < (↑(d.ss E.toNat 0).size : Int))) (some (true, false, default)) (l37_0 b d g i j l m n o p f (Z.wrap (E + 1)))) none) (some (false, default, ())))
abbrev o37_0 (b : Nat) (d : Dat) (g i j l m n o p E : Int) : Option (Bool × (Bool) × (Unit)) := l37_0 b d g i j l m n o p (E.toNat + b + g.toNat + i.toNat + j.toNat + l.toNat + m.toNat + n.toNat + o.toNat + p.toNat + 8) E
def e37_0 (b : Nat) (d : Dat) (g i j l m n o p : Int) (r : Bool × (Bool) × (Unit)) (K : XR) : Prop := cnd r.1 (K (XE.ret) [.ptr 0 0, .bool r.2.1] [.cells 65 [.ro [.str, W Z, W Z, W Z, W Z] b d, V Z g, V Z i, V Z j, V Z l, V Z m, V Z n, V Z o, V Z p]]) (K (XE.exit 0) [.ptr 0 0, .any] [.cells 65 [.ro [.str, W Z, W Z, W Z, W Z] b d, V Z g, V Z i, V Z j, V Z l, V Z m, V Z n, V Z o, V Z p]])
def g37_0 : LSum := fun s k => match czv 0 23 [1, 3] 1 [] s with
 | some ([.ptr 0 0, V Z E], [.cells 65 [.ro [.str, W Z, W Z, W Z, W Z] b d, V Z g, V Z i, V Z j, V Z l, V Z m, V Z n, V Z o, V Z p]]) => needs [(o37_0 b d g i j l m n o p E).isSome] (e37_0 b d g i j l m n o p ((o37_0 b d g i j l m n o p E).getD default) fun e vs bs => inBlk 0 k e (mkSt 0 23 [1, 2] vs 1 bs))
 | _ => False
theorem z37_0 : LOk Try.prog g37_0 (.block 0 (bodyAt (Try.f37.body.getD .skip) 0)) := by
 refine lb (ι := Int × Nat × Dat × Int × Int × Int × Int × Int × Int × Int × Int) (fuel := 8) (na := 0) (nt := 23) (nx := 1) (Lh := [1, 3]) (Le := [1, 2]) (gl := []) tn mix_ok noLam rfl (fun f (E, b, d, g, i, j, l, m, n, o, p) K => GG default (e37_0 b d g i j l m n o p) K (l37_0 b d g i j l m n o p f E)) (fun (E, b, d, g, i, j, l, m, n, o, p) => [.ptr 0 0, V Z E]) (fun (E, b, d, g, i, j, l, m, n, o, p) => [.cells 65 [.ro [.str, W Z, W Z, W Z, W Z] b d, V Z g, V Z i, V Z j, V Z l, V Z m, V Z n, V Z o, V Z p]]) (fun (_, _, _, _, _, _, _, _, _, _, _) K => gg_none) ?_ ?_
 ·rintro f ⟨E, b, d, g, i, j, l, m, n, o, p⟩ K hG
  refine ro (fun R => (cnd (decide (E < (↑b : Int)))
 (cnd (decide (0 ≤ E ∧ E < ↑b))
 (cnd (decide (20 < (↑(d.ss E.toNat 0).size : Int)))
 (R (XE.ret) [.ptr 0 0, .bool false] [.cells 65 [.ro [.str, W Z, W Z, W Z, W Z] b d, V Z g, V Z i, V Z j, V Z l, V Z m, V Z n, V Z o, V Z p]])
 (R (XE.normal) [.ptr 0 0, V Z (Z.wrap (E + 1))] [.cells 65 [.ro [.str, W Z, W Z, W Z, W Z] b d, V Z g, V Z i, V Z j, V Z l, V Z m, V Z n, V Z o, V Z p]]))
  False)
 (R (XE.exit 0) [.ptr 0 0, .any] [.cells 65 [.ro [.str, W Z, W Z, W Z, W Z] b d, V Z g, V Z i, V Z j, V Z l, V Z m, V Z n, V Z o, V Z p]]))) (fun R => by kernel_rfl) ?_
  exact ch hG (fun h0 => cg h0 fun h1 => ch h1 (fun h2 => h2.2) (fun h2 => ⟨(_, _, _, _, _, _, _, _, _, _, _), rfl, rfl, h2⟩)) (fun h0 => h0.2)
 ·intro s k h
  unfold g37_0 at h
  split at h <;> try exact h.elim
  rename_i e1
  rw [needs_iff] at h
  exact ⟨_, e1, _, (_, _, _, _, _, _, _, _, _, _, _), rfl, rfl, h.1 _ (List.mem_singleton.2 rfl), h.2⟩
def m37 (t : Nat) (u : Dat) (v w x y z A C D : Int) : Bool :=
 (cond ((o37_0 t u v w x y z A C D 0).getD default).1 ((o37_0 t u v w x y z A C D 0).getD default).2.1 (decide ((↑t : Int) ≤ 7)))
def n37 (t : Nat) (u : Dat) (v w x y z A C D : Int) : Bool :=
 (((o37_0 t u v w x y z A C D 0).isSome) && true)
def q37 (r : Bool) : SV × List Blk × List Blk := (.bool r, [], [])
def g37 : GF := fun vs bs => match vs, bs with
 | [.agg [.ro [.str, W Z, W Z, W Z, W Z] t u, V Z v, V Z w, V Z x, V Z y, V Z z, V Z A, V Z C, V Z D]], [] => some (rs 0 (q37 (m37 t u v w x y z A C D)) [n37 t u v w x y z A C D])
 | _, _ => none
def c37 : Ctr := genC [.a [.ro [.str, W Z, W Z, W Z, W Z], .k, .k, .k, .k, .k, .k, .k, .k]] g37
theorem k37 : CtrOk Try.prog c37 37 := cx tn mix_ok 8 (fn := Try.f37) (c := (Try.f37.body.getD .skip)) (grs := []) (rh := .k) Try.func37 rfl (by kernel_rfl) (lam_of rfl (lc z37_0 ln)) fun vs bs q h hn => by
 unfold g37 at h
 split at h <;> cases h
 rename_i t u v w x y z A C D
 have hn := n1 hn
 exact ⟨_, rfl, ca (fun R => (cnd ((o37_0 t u v w x y z A C D 0).isSome)
 (cnd ((o37_0 t u v w x y z A C D 0).getD default).1
 (R (.bool ((o37_0 t u v w x y z A C D 0).getD default).2.1) [] [])
 (R (.bool (decide ((↑t : Int) ≤ 7))) [] []))
 False)) (fun R => by kernel_rfl) (cn (al hn) (co (fun h0 => lf (cT h0 rfl) rfl) (fun h0 => lf (cF h0 rfl) rfl)))⟩
/-! ### cmp.Or[int] -/
def l148_0 (i : Int) (b : Nat) (a : Dat) (j : Int) : Nat → Int → Option (Bool × (Int) × (Unit))
 | 0, _ => none
 | f + 1, g => (cond (decide (g < j)) (cond (decide (0 ≤ g ∧ g < ↑b)) (cond (bif (decide (a.ii g.toNat 0 = i)) then false else true) (some (true, (a.ii g.toNat 0), default)) (l148_0 i b a j f (Z.wrap (g + 1)))) none) (some (false, default, ())))
abbrev o148_0 (i : Int) (b : Nat) (a : Dat) (j g : Int) : Option (Bool × (Int) × (Unit)) := l148_0 i b a j (i.toNat + b + j.toNat + g.toNat + 8) g
def e148_0 (i : Int) (b : Nat) (a : Dat) (j : Int) (r : Bool × (Int) × (Unit)) (K : XR) : Prop := cnd r.1 (K (XE.ret) [V Z r.2.1, V Z i] []) (K (XE.exit 0) [.any, V Z i] [])
def g148_0 : LSum := fun s k => match czv 0 18 [3, 6, 7, 8] 0 [] s with
 | some ([V Z i, .ro [W Z] b a, V Z j, V Z g], []) => needs [(o148_0 i b a j g).isSome] (e148_0 i b a j ((o148_0 i b a j g).getD default) fun e vs bs => inBlk 0 k e (mkSt 0 18 [2, 3] vs 0 bs))
 | _ => False
theorem z148_0 : LOk Try.prog g148_0 (.block 0 (bodyAt (Try.f148.body.getD .skip) 0)) := by
 refine lb (ι := Int × Nat × Dat × Int × Int) (fuel := 8) (na := 0) (nt := 18) (nx := 0) (Lh := [3, 6, 7, 8]) (Le := [2, 3]) (gl := []) tn mix_ok noLam rfl (fun f (i, b, a, j, g) K => GG default (e148_0 i b a j) K (l148_0 i b a j f g)) (fun (i, b, a, j, g) => [V Z i, .ro [W Z] b a, V Z j, V Z g]) (fun (i, b, a, j, g) => []) (fun (_, _, _, _, _) K => gg_none) ?_ ?_
 ·rintro f ⟨i, b, a, j, g⟩ K hG
  refine ro (fun R => (cnd (decide (g < j))
 (cnd (decide (0 ≤ g ∧ g < ↑b))
 (cnd (bif (decide (a.ii g.toNat 0 = i)) then false else true)
 (R (XE.ret) [V Z (a.ii g.toNat 0), V Z i] [])
 (R (XE.normal) [V Z i, .ro [W Z] b a, V Z j, V Z (Z.wrap (g + 1))] []))
  False)
 (R (XE.exit 0) [.any, V Z i] []))) (fun R => by kernel_rfl) ?_
  exact ch hG (fun h0 => cg h0 fun h1 => ch h1 (fun h2 => h2.2) (fun h2 => ⟨(_, _, _, _, _), rfl, rfl, h2⟩)) (fun h0 => h0.2)
 ·intro s k h
  unfold g148_0 at h
  split at h <;> try exact h.elim
  rename_i e1
  rw [needs_iff] at h
  exact ⟨_, e1, _, (_, _, _, _, _), rfl, rfl, h.1 _ (List.mem_singleton.2 rfl), h.2⟩
def m148 (d : Nat) (l : Dat) : Int :=
 (cond ((o148_0 0 d l (↑d : Int) 0).getD default).1 ((o148_0 0 d l (↑d : Int) 0).getD default).2.1 0)
def n148 (d : Nat) (l : Dat) : Bool :=
 (((o148_0 0 d l (↑d : Int) 0).isSome) && true)
def q148 (r : Int) : SV × List Blk × List Blk := (V Z r, [], [])
def g148 : GF := fun vs bs => match vs, bs with
 | [.ro [W Z] d l], [] => some (rs 0 (q148 (m148 d l)) [n148 d l])
 | _, _ => none
def c148 : Ctr := genC [.ro [W Z]] g148
theorem k148 : CtrOk Try.prog c148 148 := cx tn mix_ok 8 (fn := Try.f148) (c := (Try.f148.body.getD .skip)) (grs := []) (rh := .k) Try.func148 rfl (by kernel_rfl) (lam_of rfl (lc z148_0 ln)) fun vs bs q h hn => by
 unfold g148 at h
 split at h <;> cases h
 rename_i d l
 have hn := n1 hn
 exact ⟨_, rfl, ca (fun R => (cnd ((o148_0 0 d l (↑d : Int) 0).isSome)
 (cnd ((o148_0 0 d l (↑d : Int) 0).getD default).1
 (R (V Z ((o148_0 0 d l (↑d : Int) 0).getD default).2.1) [] [])
 (R (V Z 0) [] []))
 False)) (fun R => by kernel_rfl) (cn (al hn) (co (fun h0 => lf (cT h0 rfl) rfl) (fun h0 => lf (cF h0 rfl) rfl)))⟩
/-! ### shotline/mix.isName -/
def l104_0 (b : ByteArray) (g : Int) : Nat → Int → Option (Bool × (Bool) × (Unit))
 | 0, _ => none
 | f + 1, a => (cond (decide (a < g)) (cond (decide (0 ≤ a ∧ a < (↑b.size : Int))) (cond (bif (bif (decide (97 ≤ byteAt b a.toNat)) then false else true) then true else (decide (0 ≤ a ∧ a < (↑b.size : Int)))) (cond (bif (bif (bif (bif (decide (97 ≤ byteAt b a.toNat)) then (decide (byteAt b a.toNat ≤ 122)) else false) then false else true) then false else true) then true else (decide (0 ≤ a ∧ a < (↑b.size : Int)))) (cond (bif (bif (bif (bif (bif (decide (97 ≤ byteAt b a.toNat)) then (decide (byteAt b a.toNat ≤ 122)) else false) then false else true) then (decide (65 ≤ byteAt b a.toNat)) else false) then false else true) then true else (decide (0 ≤ a ∧ a < (↑b.size : Int)))) (cond (bif (bif (bif (bif (bif (bif (decide (97 ≤ byteAt b a.toNat)) then (decide (byteAt b a.toNat ≤ 122)) else false) then true else (bif (decide (65 ≤ byteAt b a.toNat)) then (decide (byteAt b a.toNat ≤ 90)) else false)) then false else true) then (bif (decide (a = 0)) then false else true) else false) then false else true) then true else (decide (0 ≤ a ∧ a < (↑b.size : Int)))) (cond (bif (bif (bif (bif (bif (bif (bif (decide (97 ≤ byteAt b a.toNat)) then (decide (byteAt b a.toNat ≤ 122)) else false) then true else (bif (decide (65 ≤ byteAt b a.toNat)) then (decide (byteAt b a.toNat ≤ 90)) else false)) then false else true) then (bif (decide (a = 0)) then false else true) else false) then (bif (decide (byteAt b a.toNat = 45)) then false else true) else false) then false else true) then true else (decide (0 ≤ a ∧ a < (↑b.size : Int)))) (cond (bif (bif (bif (bif (bif (bif (bif (bif (decide (97 ≤ byteAt b a.toNat)) then (decide (byteAt b a.toNat ≤ 122)) else false) then true else (bif (decide (65 ≤ byteAt b a.toNat)) then (decide (byteAt b a.toNat ≤ 90)) else false)) then false else true) then (bif (decide (a = 0)) then false else true) else false) then (bif (decide (byteAt b a.toNat = 45)) then false else true) else false) then (bif (decide (byteAt b a.toNat < 48)) then false else true) else false) then false else true) then true else (decide (0 ≤ a ∧ a < (↑b.size : Int)))) (cond (bif (bif (bif (bif (decide (97 ≤ byteAt b a.toNat)) then (decide (byteAt b a.toNat ≤ 122)) else false) then true else (bif (decide (65 ≤ byteAt b a.toNat)) then (decide (byteAt b a.toNat ≤ 90)) else false)) then false else true) then (bif (decide (a = 0)) then true else (bif (bif (decide (byteAt b a.toNat = 45)) then false else true) then (bif (decide (byteAt b a.toNat < 48)) then true else (decide (57 < byteAt b a.toNat))) else false)) else false) (some (true, false, default)) (l104_0 b g f (Z.wrap (a + 1)))) none) none) none) none) none) none) none) (some (false, default, ())))
abbrev o104_0 (b : ByteArray) (g a : Int) : Option (Bool × (Bool) × (Unit)) := l104_0 b g (b.size + g.toNat + a.toNat + 8) a
def e104_0 (b : ByteArray) (g : Int) (r : Bool × (Bool) × (Unit)) (K : XR) : Prop := cnd r.1 (K (XE.ret) [.str b, .bool r.2.1] []) (K (XE.exit 0) [.str b, .any] [])
def g104_0 : LSum := fun s k => match czv 0 64 [0, 6, 7] 0 [] s with
 | some ([.str b, V Z g, V Z a], []) => needs [(o104_0 b g a).isSome] (e104_0 b g ((o104_0 b g a).getD default) fun e vs bs => inBlk 0 k e (mkSt 0 64 [0, 2] vs 0 bs))
 | _ => False
theorem z104_0 : LOk Try.prog g104_0 (.block 0 (bodyAt (Try.f104.body.getD .skip) 0)) := by
 refine lb (ι := ByteArray × Int × Int) (fuel := 8) (na := 0) (nt := 64) (nx := 0) (Lh := [0, 6, 7]) (Le := [0, 2]) (gl := []) tn mix_ok noLam rfl (fun f (b, g, a) K => GG default (e104_0 b g) K (l104_0 b g f a)) (fun (b, g, a) => [.str b, V Z g, V Z a]) (fun (b, g, a) => []) (fun (_, _, _) K => gg_none) ?_ ?_
 ·rintro f ⟨b, g, a⟩ K hG
  refine ro (fun R => 
 let a0 := (bif (bif (bif (decide (97 ≤ byteAt b a.toNat)) then (decide (byteAt b a.toNat ≤ 122)) else false) then true else (bif (decide (65 ≤ byteAt b a.toNat)) then (decide (byteAt b a.toNat ≤ 90)) else false)) then false else true)
 let b0 := (decide (0 ≤ a ∧ a < (↑b.size : Int)))
 let c0 := (bif (bif a0 then (bif (decide (a = 0)) then false else true) else false) then (bif (decide (byteAt b a.toNat = 45)) then false else true) else false)
 let d0 := (bif (bif (decide (97 ≤ byteAt b a.toNat)) then (decide (byteAt b a.toNat ≤ 122)) else false) then false else true)
 (cnd (decide (a < g))
 (cnd b0
 (cnd (bif (bif (decide (97 ≤ byteAt b a.toNat)) then false else true) then true else b0)
 (cnd (bif (bif d0 then false else true) then true else b0)
 (cnd (bif (bif (bif d0 then (decide (65 ≤ byteAt b a.toNat)) else false) then false else true) then true else b0)
 (cnd (bif (bif (bif a0 then (bif (decide (a = 0)) then false else true) else false) then false else true) then true else b0)
 (cnd (bif (bif c0 then false else true) then true else b0)
 (cnd (bif (bif (bif c0 then (bif (decide (byteAt b a.toNat < 48)) then false else true) else false) then false else true) then true else b0)
 (cnd (bif a0 then (bif (decide (a = 0)) then true else (bif (bif (decide (byteAt b a.toNat = 45)) then false else true) then (bif (decide (byteAt b a.toNat < 48)) then true else (decide (57 < byteAt b a.toNat))) else false)) else false)
 (R (XE.ret) [.str b, .bool false] [])
 (R (XE.normal) [.str b, V Z g, V Z (Z.wrap (a + 1))] []))
     False)
    False)
    False)
   False)
   False)
  False)
  False)
 (R (XE.exit 0) [.str b, .any] []))) (fun R => by kernel_rfl) ?_
  exact ch hG (fun h0 => cg h0 fun h1 => cg h1 fun h2 => cg h2 fun h3 => cg h3 fun h4 => cg h4 fun h5 => cg h5 fun h6 => cg h6 fun h7 => ch h7 (fun h8 => h8.2) (fun h8 => ⟨(_, _, _), rfl, rfl, h8⟩)) (fun h0 => h0.2)
 ·intro s k h
  unfold g104_0 at h
  split at h <;> try exact h.elim
  rename_i e1
  rw [needs_iff] at h
  exact ⟨_, e1, _, (_, _, _), rfl, rfl, h.1 _ (List.mem_singleton.2 rfl), h.2⟩
def m104 (d : ByteArray) : Bool :=
 (cond ((o104_0 d (↑d.size : Int) 0).getD default).1 ((o104_0 d (↑d.size : Int) 0).getD default).2.1 (bif (bif (decide (d = { data := #[] })) then false else true) then (decide ((↑d.size : Int) ≤ 12)) else false))
def n104 (d : ByteArray) : Bool :=
 (((o104_0 d (↑d.size : Int) 0).isSome) && true)
def q104 (r : Bool) : SV × List Blk × List Blk := (.bool r, [], [])
def g104 : GF := fun vs bs => match vs, bs with
 | [.str d], [] => some (rs 0 (q104 (m104 d)) [n104 d])
 | _, _ => none
def c104 : Ctr := genC [.k] g104
theorem k104 : CtrOk Try.prog c104 104 := cx tn mix_ok 8 (fn := Try.f104) (c := (Try.f104.body.getD .skip)) (grs := []) (rh := .k) Try.func104 rfl (by kernel_rfl) (lam_of rfl (lc z104_0 ln)) fun vs bs q h hn => by
 unfold g104 at h
 split at h <;> cases h
 rename_i d
 have hn := n1 hn
 exact ⟨_, rfl, ca (fun R => (cnd ((o104_0 d (↑d.size : Int) 0).isSome)
 (cnd ((o104_0 d (↑d.size : Int) 0).getD default).1
 (R (.bool ((o104_0 d (↑d.size : Int) 0).getD default).2.1) [] [])
 (R (.bool (bif (bif (decide (d = { data := #[] })) then false else true) then (decide ((↑d.size : Int) ≤ 12)) else false)) [] []))
 False)) (fun R => by kernel_rfl) (cn (al hn) (co (fun h0 => lf (cT h0 rfl) rfl) (fun h0 => lf (cF h0 rfl) rfl)))⟩
/-! ### shotline/shotlinebase.IsName -/
def l90_0 (b : ByteArray) : Nat → Int → Option (Bool × (Bool) × (Unit))
 | 0, _ => none
 | f + 1, a => (cond (decide (a < (↑b.size : Int))) (cond (decide (0 ≤ a ∧ a < (↑b.size : Int))) (cond (bif (bif (bif (bif (decide (97 ≤ byteAt b a.toNat)) then (decide (byteAt b a.toNat ≤ 122)) else false) then true else (bif (decide (65 ≤ byteAt b a.toNat)) then (decide (byteAt b a.toNat ≤ 90)) else false)) then false else true) then (bif (decide (a = 0)) then true else (bif (bif (decide (byteAt b a.toNat = 45)) then false else true) then (bif (decide (byteAt b a.toNat < 48)) then true else (decide (57 < byteAt b a.toNat))) else false)) else false) (some (true, false, default)) (l90_0 b f (Z.wrap (a + 1)))) none) (some (false, default, ())))
abbrev o90_0 (b : ByteArray) (a : Int) : Option (Bool × (Bool) × (Unit)) := l90_0 b (b.size + a.toNat + 8) a
def e90_0 (b : ByteArray) (r : Bool × (Bool) × (Unit)) (K : XR) : Prop := cnd r.1 (K (XE.ret) [.bool r.2.1] []) (K (XE.exit 0) [.any] [])
def g90_0 : LSum := fun s k => match czv 0 55 [0, 3] 0 [] s with
 | some ([.str b, V Z a], []) => needs [(o90_0 b a).isSome] (e90_0 b ((o90_0 b a).getD default) fun e vs bs => inBlk 0 k e (mkSt 0 55 [2] vs 0 bs))
 | _ => False
theorem z90_0 : LOk Try.prog g90_0 (.block 0 (bodyAt (Try.f90.body.getD .skip) 0)) := by
 refine lb (ι := ByteArray × Int) (fuel := 8) (na := 0) (nt := 55) (nx := 0) (Lh := [0, 3]) (Le := [2]) (gl := []) tn mix_ok noLam rfl (fun f (b, a) K => GG default (e90_0 b) K (l90_0 b f a)) (fun (b, a) => [.str b, V Z a]) (fun (b, a) => []) (fun (_, _) K => gg_none) ?_ ?_
 ·rintro f ⟨b, a⟩ K hG
  refine ro (fun R => (cnd (decide (a < (↑b.size : Int)))
 (cnd (decide (0 ≤ a ∧ a < (↑b.size : Int)))
 (cnd (bif (bif (bif (bif (decide (97 ≤ byteAt b a.toNat)) then (decide (byteAt b a.toNat ≤ 122)) else false) then true else (bif (decide (65 ≤ byteAt b a.toNat)) then (decide (byteAt b a.toNat ≤ 90)) else false)) then false else true) then (bif (decide (a = 0)) then true else (bif (bif (decide (byteAt b a.toNat = 45)) then false else true) then (bif (decide (byteAt b a.toNat < 48)) then true else (decide (57 < byteAt b a.toNat))) else false)) else false)
 (R (XE.ret) [.bool false] [])
 (R (XE.normal) [.str b, V Z (Z.wrap (a + 1))] []))
  False)
 (R (XE.exit 0) [.any] []))) (fun R => by kernel_rfl) ?_
  exact ch hG (fun h0 => cg h0 fun h1 => ch h1 (fun h2 => h2.2) (fun h2 => ⟨(_, _), rfl, rfl, h2⟩)) (fun h0 => h0.2)
 ·intro s k h
  unfold g90_0 at h
  split at h <;> try exact h.elim
  rename_i e1
  rw [needs_iff] at h
  exact ⟨_, e1, _, (_, _), rfl, rfl, h.1 _ (List.mem_singleton.2 rfl), h.2⟩
def m90 (d : ByteArray) : Bool :=
 (cond (bif (decide ((↑d.size : Int) < 1)) then true else (decide (12 < (↑d.size : Int)))) false (cond ((o90_0 d 0).getD default).1 ((o90_0 d 0).getD default).2.1 true))
def n90 (d : ByteArray) : Bool :=
 (cond (bif (decide ((↑d.size : Int) < 1)) then true else (decide (12 < (↑d.size : Int)))) true (((o90_0 d 0).isSome) && true))
def q90 (r : Bool) : SV × List Blk × List Blk := (.bool r, [], [])
def g90 : GF := fun vs bs => match vs, bs with
 | [.str d], [] => some (rs 0 (q90 (m90 d)) [n90 d])
 | _, _ => none
def c90 : Ctr := genC [.k] g90
theorem k90 : CtrOk Try.prog c90 90 := cx tn mix_ok 8 (fn := Try.f90) (c := (Try.f90.body.getD .skip)) (grs := []) (rh := .k) Try.func90 rfl (by kernel_rfl) (lam_of rfl (lc z90_0 ln)) fun vs bs q h hn => by
 unfold g90 at h
 split at h <;> cases h
 rename_i d
 have hn := n1 hn
 exact ⟨_, rfl, ca (fun R => (cnd (bif (decide ((↑d.size : Int) < 1)) then true else (decide (12 < (↑d.size : Int))))
 (R (.bool false) [] [])
 (cnd ((o90_0 d 0).isSome)
 (cnd ((o90_0 d 0).getD default).1
 (R (.bool ((o90_0 d 0).getD default).2.1) [] [])
 (R (.bool true) [] []))
  False))) (fun R => by kernel_rfl) (co (fun h0 => lf (cT h0 rfl) rfl) (fun h0 => cn (al (cf h0 hn)) (co (fun h1 => lf (cF h0 (cT h1 rfl)) rfl) (fun h1 => lf (cF h0 (cF h1 rfl)) rfl))))⟩
/-! ### slices.IndexFunc[[]shotline/api.MixSource,shotline/api.MixSource] -/
def l150c118_0 (b : Nat) (a j : Dat) (i : Int) : Nat → Int → Option (Bool × (Int) × (Unit))
 | 0, _ => none
 | f + 1, d => (cond (decide (d < i)) (cond (decide (0 ≤ d ∧ d < ↑b)) (cond (m118 (a.ss d.toNat 0) (a.ii d.toNat (0 + 1)) (a.ii d.toNat (0 + 1 + 1)) (a.ii d.toNat (0 + 1 + 1 + 1)) (a.ii d.toNat (0 + 1 + 1 + 1 + 1)) j) (some (true, d, default)) (l150c118_0 b a j i f (Z.wrap (d + 1)))) none) (some (false, default, ())))
abbrev o150c118_0 (b : Nat) (a j : Dat) (i d : Int) : Option (Bool × (Int) × (Unit)) := l150c118_0 b a j i (b + i.toNat + d.toNat + 8) d
def e150c118_0 (b : Nat) (a j : Dat) (i : Int) (r : Bool × (Int) × (Unit)) (K : XR) : Prop := cnd r.1 (K (XE.ret) [V Z r.2.1] []) (K (XE.exit 0) [.any] [])
def g150c118_0 : LSum := fun s k => match czv 0 19 [0, 1, 7, 8] 0 [] s with
 | some ([.ro [.str, W Z, W Z, W Z, W Z] b a, .fn 118 [.rp [.str, W Z, W Z, W Z, W Z] j 0 0], V Z i, V Z d], []) => needs [(o150c118_0 b a j i d).isSome] (e150c118_0 b a j i ((o150c118_0 b a j i d).getD default) fun e vs bs => inBlk 0 k e (mkSt 0 19 [4] vs 0 bs))
 | _ => False
theorem z150c118_0 : LOk Try.prog g150c118_0 (.block 0 (bodyAt (Try.f150.body.getD .skip) 0)) := by
 refine lb (ι := Nat × Dat × Dat × Int × Int) (fuel := 8) (na := 0) (nt := 19) (nx := 0) (Lh := [0, 1, 7, 8]) (Le := [4]) (gl := []) (tc k118 tn) mix_ok noLam rfl (fun f (b, a, j, i, d) K => GG default (e150c118_0 b a j i) K (l150c118_0 b a j i f d)) (fun (b, a, j, i, d) => [.ro [.str, W Z, W Z, W Z, W Z] b a, .fn 118 [.rp [.str, W Z, W Z, W Z, W Z] j 0 0], V Z i, V Z d]) (fun (b, a, j, i, d) => []) (fun (_, _, _, _, _) K => gg_none) ?_ ?_
 ·rintro f ⟨b, a, j, i, d⟩ K hG
  refine ro (fun R => (cnd (decide (d < i))
 (cnd (decide (0 ≤ d ∧ d < ↑b))
 (cnd (m118 (a.ss d.toNat 0) (a.ii d.toNat (0 + 1)) (a.ii d.toNat (0 + 1 + 1)) (a.ii d.toNat (0 + 1 + 1 + 1)) (a.ii d.toNat (0 + 1 + 1 + 1 + 1)) j)
 (R (XE.ret) [V Z d] [])
 (R (XE.normal) [.ro [.str, W Z, W Z, W Z, W Z] b a, .fn 118 [.rp [.str, W Z, W Z, W Z, W Z] j 0 0], V Z i, V Z (Z.wrap (d + 1))] []))
  False)
 (R (XE.exit 0) [.any] []))) (fun R => by kernel_rfl) ?_
  exact ch hG (fun h0 => cg h0 fun h1 => ch h1 (fun h2 => h2.2) (fun h2 => ⟨(_, _, _, _, _), rfl, rfl, h2⟩)) (fun h0 => h0.2)
 ·intro s k h
  unfold g150c118_0 at h
  split at h <;> try exact h.elim
  rename_i e1
  rw [needs_iff] at h
  exact ⟨_, e1, _, (_, _, _, _, _), rfl, rfl, h.1 _ (List.mem_singleton.2 rfl), h.2⟩
def m150c118 (g : Nat) (l da1c0 : Dat) : Int :=
 (cond ((o150c118_0 g l da1c0 (↑g : Int) 0).getD default).1 ((o150c118_0 g l da1c0 (↑g : Int) 0).getD default).2.1 (-1))
def n150c118 (g : Nat) (l da1c0 : Dat) : Bool :=
 (((o150c118_0 g l da1c0 (↑g : Int) 0).isSome) && true)
def q150c118 (r : Int) : SV × List Blk × List Blk := (V Z r, [], [])
def g150c118 : GF := fun vs bs => match vs, bs with
 | [.ro [.str, W Z, W Z, W Z, W Z] g l, .fn 118 [.rp [.str, W Z, W Z, W Z, W Z] da1c0 0 0]], [] => some (rs 0 (q150c118 (m150c118 g l da1c0)) [n150c118 g l da1c0])
 | _, _ => none
def c150c118 : Ctr := genC [.ro [.str, W Z, W Z, W Z, W Z], .f [.rp [.str, W Z, W Z, W Z, W Z]]] g150c118
theorem k150c118 : CtrOk Try.prog c150c118 150 := cx (tc k118 tn) mix_ok 8 (fn := Try.f150) (c := (Try.f150.body.getD .skip)) (grs := []) (rh := .k) Try.func150 rfl (by kernel_rfl) (lam_of rfl (lc z150c118_0 ln)) fun vs bs q h hn => by
 unfold g150c118 at h
 split at h <;> cases h
 rename_i g l da1c0
 have hn := n1 hn
 exact ⟨_, rfl, ca (fun R => (cnd ((o150c118_0 g l da1c0 (↑g : Int) 0).isSome)
 (cnd ((o150c118_0 g l da1c0 (↑g : Int) 0).getD default).1
 (R (V Z ((o150c118_0 g l da1c0 (↑g : Int) 0).getD default).2.1) [] [])
 (R (V Z (-1)) [] []))
 False)) (fun R => by kernel_rfl) (cn (al hn) (co (fun h0 => lf (cT h0 rfl) rfl) (fun h0 => lf (cF h0 rfl) rfl)))⟩
/-! ### slices.IndexFunc[[]int,int] -/
def l151c121_0 (a : Nat) (b : Dat) (i : Int) : Nat → Int → Option (Bool × (Int) × (Unit))
 | 0, _ => none
 | f + 1, g => (cond (decide (g < i)) (cond (decide (0 ≤ g ∧ g < ↑a)) (cond (m121 (b.ii g.toNat 0)) (some (true, g, default)) (l151c121_0 a b i f (Z.wrap (g + 1)))) none) (some (false, default, ())))
abbrev o151c121_0 (a : Nat) (b : Dat) (i g : Int) : Option (Bool × (Int) × (Unit)) := l151c121_0 a b i (a + i.toNat + g.toNat + 8) g
def e151c121_0 (a : Nat) (b : Dat) (i : Int) (r : Bool × (Int) × (Unit)) (K : XR) : Prop := cnd r.1 (K (XE.ret) [V Z r.2.1] []) (K (XE.exit 0) [.any] [])
def g151c121_0 : LSum := fun s k => match czv 0 19 [0, 1, 7, 8] 0 [] s with
 | some ([.ro [W Z] a b, .fn 121 [], V Z i, V Z g], []) => needs [(o151c121_0 a b i g).isSome] (e151c121_0 a b i ((o151c121_0 a b i g).getD default) fun e vs bs => inBlk 0 k e (mkSt 0 19 [4] vs 0 bs))
 | _ => False
theorem z151c121_0 : LOk Try.prog g151c121_0 (.block 0 (bodyAt (Try.f151.body.getD .skip) 0)) := by
 refine lb (ι := Nat × Dat × Int × Int) (fuel := 8) (na := 0) (nt := 19) (nx := 0) (Lh := [0, 1, 7, 8]) (Le := [4]) (gl := []) (tc k121 tn) mix_ok noLam rfl (fun f (a, b, i, g) K => GG default (e151c121_0 a b i) K (l151c121_0 a b i f g)) (fun (a, b, i, g) => [.ro [W Z] a b, .fn 121 [], V Z i, V Z g]) (fun (a, b, i, g) => []) (fun (_, _, _, _) K => gg_none) ?_ ?_
 ·rintro f ⟨a, b, i, g⟩ K hG
  refine ro (fun R => (cnd (decide (g < i))
 (cnd (decide (0 ≤ g ∧ g < ↑a))
 (cnd (m121 (b.ii g.toNat 0))
 (R (XE.ret) [V Z g] [])
 (R (XE.normal) [.ro [W Z] a b, .fn 121 [], V Z i, V Z (Z.wrap (g + 1))] []))
  False)
 (R (XE.exit 0) [.any] []))) (fun R => by kernel_rfl) ?_
  exact ch hG (fun h0 => cg h0 fun h1 => ch h1 (fun h2 => h2.2) (fun h2 => ⟨(_, _, _, _), rfl, rfl, h2⟩)) (fun h0 => h0.2)
 ·intro s k h
  unfold g151c121_0 at h
  split at h <;> try exact h.elim
  rename_i e1
  rw [needs_iff] at h
  exact ⟨_, e1, _, (_, _, _, _), rfl, rfl, h.1 _ (List.mem_singleton.2 rfl), h.2⟩
def m151c121 (d : Nat) (j : Dat) : Int :=
 (cond ((o151c121_0 d j (↑d : Int) 0).getD default).1 ((o151c121_0 d j (↑d : Int) 0).getD default).2.1 (-1))
def n151c121 (d : Nat) (j : Dat) : Bool :=
 (((o151c121_0 d j (↑d : Int) 0).isSome) && true)
def q151c121 (r : Int) : SV × List Blk × List Blk := (V Z r, [], [])
def g151c121 : GF := fun vs bs => match vs, bs with
 | [.ro [W Z] d j, .fn 121 []], [] => some (rs 0 (q151c121 (m151c121 d j)) [n151c121 d j])
 | _, _ => none
def c151c121 : Ctr := genC [.ro [W Z], .f []] g151c121
theorem k151c121 : CtrOk Try.prog c151c121 151 := cx (tc k121 tn) mix_ok 8 (fn := Try.f151) (c := (Try.f151.body.getD .skip)) (grs := []) (rh := .k) Try.func151 rfl (by kernel_rfl) (lam_of rfl (lc z151c121_0 ln)) fun vs bs q h hn => by
 unfold g151c121 at h
 split at h <;> cases h
 rename_i d j
 have hn := n1 hn
 exact ⟨_, rfl, ca (fun R => (cnd ((o151c121_0 d j (↑d : Int) 0).isSome)
 (cnd ((o151c121_0 d j (↑d : Int) 0).getD default).1
 (R (V Z ((o151c121_0 d j (↑d : Int) 0).getD default).2.1) [] [])
 (R (V Z (-1)) [] []))
 False)) (fun R => by kernel_rfl) (cn (al hn) (co (fun h0 => lf (cT h0 rfl) rfl) (fun h0 => lf (cF h0 rfl) rfl)))⟩
/-! ### slices.IndexFunc[[]int,int] -/
def l151c140_0 (a : Nat) (b : Dat) (i : Int) : Nat → Int → Option (Bool × (Int) × (Unit))
 | 0, _ => none
 | f + 1, g => (cond (decide (g < i)) (cond (decide (0 ≤ g ∧ g < ↑a)) (cond (m140 (b.ii g.toNat 0)) (some (true, g, default)) (l151c140_0 a b i f (Z.wrap (g + 1)))) none) (some (false, default, ())))
abbrev o151c140_0 (a : Nat) (b : Dat) (i g : Int) : Option (Bool × (Int) × (Unit)) := l151c140_0 a b i (a + i.toNat + g.toNat + 8) g
def e151c140_0 (a : Nat) (b : Dat) (i : Int) (r : Bool × (Int) × (Unit)) (K : XR) : Prop := cnd r.1 (K (XE.ret) [V Z r.2.1] []) (K (XE.exit 0) [.any] [])
def g151c140_0 : LSum := fun s k => match czv 0 19 [0, 1, 7, 8] 0 [] s with
 | some ([.ro [W Z] a b, .fn 140 [], V Z i, V Z g], []) => needs [(o151c140_0 a b i g).isSome] (e151c140_0 a b i ((o151c140_0 a b i g).getD default) fun e vs bs => inBlk 0 k e (mkSt 0 19 [4] vs 0 bs))
 | _ => False
theorem z151c140_0 : LOk Try.prog g151c140_0 (.block 0 (bodyAt (Try.f151.body.getD .skip) 0)) := by
 refine lb (ι := Nat × Dat × Int × Int) (fuel := 8) (na := 0) (nt := 19) (nx := 0) (Lh := [0, 1, 7, 8]) (Le := [4]) (gl := []) (tc k140 tn) mix_ok noLam rfl (fun f (a, b, i, g) K => GG default (e151c140_0 a b i) K (l151c140_0 a b i f g)) (fun (a, b, i, g) => [.ro [W Z] a b, .fn 140 [], V Z i, V Z g]) (fun (a, b, i, g) => []) (fun (_, _, _, _) K => gg_none) ?_ ?_
 ·rintro f ⟨a, b, i, g⟩ K hG
  refine ro (fun R => (cnd (decide (g < i))
 (cnd (decide (0 ≤ g ∧ g < ↑a))
 (cnd (m140 (b.ii g.toNat 0))
 (R (XE.ret) [V Z g] [])
 (R (XE.normal) [.ro [W Z] a b, .fn 140 [], V Z i, V Z (Z.wrap (g + 1))] []))
  False)
 (R (XE.exit 0) [.any] []))) (fun R => by kernel_rfl) ?_
  exact ch hG (fun h0 => cg h0 fun h1 => ch h1 (fun h2 => h2.2) (fun h2 => ⟨(_, _, _, _), rfl, rfl, h2⟩)) (fun h0 => h0.2)
 ·intro s k h
  unfold g151c140_0 at h
  split at h <;> try exact h.elim
  rename_i e1
  rw [needs_iff] at h
  exact ⟨_, e1, _, (_, _, _, _), rfl, rfl, h.1 _ (List.mem_singleton.2 rfl), h.2⟩
def m151c140 (d : Nat) (j : Dat) : Int :=
 (cond ((o151c140_0 d j (↑d : Int) 0).getD default).1 ((o151c140_0 d j (↑d : Int) 0).getD default).2.1 (-1))
def n151c140 (d : Nat) (j : Dat) : Bool :=
 (((o151c140_0 d j (↑d : Int) 0).isSome) && true)
def q151c140 (r : Int) : SV × List Blk × List Blk := (V Z r, [], [])
def g151c140 : GF := fun vs bs => match vs, bs with
 | [.ro [W Z] d j, .fn 140 []], [] => some (rs 0 (q151c140 (m151c140 d j)) [n151c140 d j])
 | _, _ => none
def c151c140 : Ctr := genC [.ro [W Z], .f []] g151c140
theorem k151c140 : CtrOk Try.prog c151c140 151 := cx (tc k140 tn) mix_ok 8 (fn := Try.f151) (c := (Try.f151.body.getD .skip)) (grs := []) (rh := .k) Try.func151 rfl (by kernel_rfl) (lam_of rfl (lc z151c140_0 ln)) fun vs bs q h hn => by
 unfold g151c140 at h
 split at h <;> cases h
 rename_i d j
 have hn := n1 hn
 exact ⟨_, rfl, ca (fun R => (cnd ((o151c140_0 d j (↑d : Int) 0).isSome)
 (cnd ((o151c140_0 d j (↑d : Int) 0).getD default).1
 (R (V Z ((o151c140_0 d j (↑d : Int) 0).getD default).2.1) [] [])
 (R (V Z (-1)) [] []))
 False)) (fun R => by kernel_rfl) (cn (al hn) (co (fun h0 => lf (cT h0 rfl) rfl) (fun h0 => lf (cF h0 rfl) rfl)))⟩
/-! ### slices.IndexFunc[[]shotline/api.MixVessel,shotline/api.MixVessel] -/
def l142c143_0 (b : Nat) (a j : Dat) (i : Int) : Nat → Int → Option (Bool × (Int) × (Unit))
 | 0, _ => none
 | f + 1, d => (cond (decide (d < i)) (cond (decide (0 ≤ d ∧ d < ↑b)) (cond (m143 (a.ss d.toNat 0) (a.ii d.toNat (0 + 1)) (a.ii d.toNat (0 + 1 + 1)) j) (some (true, d, default)) (l142c143_0 b a j i f (Z.wrap (d + 1)))) none) (some (false, default, ())))
abbrev o142c143_0 (b : Nat) (a j : Dat) (i d : Int) : Option (Bool × (Int) × (Unit)) := l142c143_0 b a j i (b + i.toNat + d.toNat + 8) d
def e142c143_0 (b : Nat) (a j : Dat) (i : Int) (r : Bool × (Int) × (Unit)) (K : XR) : Prop := cnd r.1 (K (XE.ret) [V Z r.2.1] []) (K (XE.exit 0) [.any] [])
def g142c143_0 : LSum := fun s k => match czv 0 19 [0, 1, 7, 8] 0 [] s with
 | some ([.ro [.str, W Z, W Z] b a, .fn 143 [.rp [.str] j 0 0], V Z i, V Z d], []) => needs [(o142c143_0 b a j i d).isSome] (e142c143_0 b a j i ((o142c143_0 b a j i d).getD default) fun e vs bs => inBlk 0 k e (mkSt 0 19 [4] vs 0 bs))
 | _ => False
theorem z142c143_0 : LOk Try.prog g142c143_0 (.block 0 (bodyAt (Try.f142.body.getD .skip) 0)) := by
 refine lb (ι := Nat × Dat × Dat × Int × Int) (fuel := 8) (na := 0) (nt := 19) (nx := 0) (Lh := [0, 1, 7, 8]) (Le := [4]) (gl := []) (tc k143 tn) mix_ok noLam rfl (fun f (b, a, j, i, d) K => GG default (e142c143_0 b a j i) K (l142c143_0 b a j i f d)) (fun (b, a, j, i, d) => [.ro [.str, W Z, W Z] b a, .fn 143 [.rp [.str] j 0 0], V Z i, V Z d]) (fun (b, a, j, i, d) => []) (fun (_, _, _, _, _) K => gg_none) ?_ ?_
 ·rintro f ⟨b, a, j, i, d⟩ K hG
  refine ro (fun R => (cnd (decide (d < i))
 (cnd (decide (0 ≤ d ∧ d < ↑b))
 (cnd (m143 (a.ss d.toNat 0) (a.ii d.toNat (0 + 1)) (a.ii d.toNat (0 + 1 + 1)) j)
 (R (XE.ret) [V Z d] [])
 (R (XE.normal) [.ro [.str, W Z, W Z] b a, .fn 143 [.rp [.str] j 0 0], V Z i, V Z (Z.wrap (d + 1))] []))
  False)
 (R (XE.exit 0) [.any] []))) (fun R => by kernel_rfl) ?_
  exact ch hG (fun h0 => cg h0 fun h1 => ch h1 (fun h2 => h2.2) (fun h2 => ⟨(_, _, _, _, _), rfl, rfl, h2⟩)) (fun h0 => h0.2)
 ·intro s k h
  unfold g142c143_0 at h
  split at h <;> try exact h.elim
  rename_i e1
  rw [needs_iff] at h
  exact ⟨_, e1, _, (_, _, _, _, _), rfl, rfl, h.1 _ (List.mem_singleton.2 rfl), h.2⟩
def m142c143 (g : Nat) (l da1c0 : Dat) : Int :=
 (cond ((o142c143_0 g l da1c0 (↑g : Int) 0).getD default).1 ((o142c143_0 g l da1c0 (↑g : Int) 0).getD default).2.1 (-1))
def n142c143 (g : Nat) (l da1c0 : Dat) : Bool :=
 (((o142c143_0 g l da1c0 (↑g : Int) 0).isSome) && true)
def q142c143 (r : Int) : SV × List Blk × List Blk := (V Z r, [], [])
def g142c143 : GF := fun vs bs => match vs, bs with
 | [.ro [.str, W Z, W Z] g l, .fn 143 [.rp [.str] da1c0 0 0]], [] => some (rs 0 (q142c143 (m142c143 g l da1c0)) [n142c143 g l da1c0])
 | _, _ => none
def c142c143 : Ctr := genC [.ro [.str, W Z, W Z], .f [.rp [.str]]] g142c143
theorem k142c143 : CtrOk Try.prog c142c143 142 := cx (tc k143 tn) mix_ok 8 (fn := Try.f142) (c := (Try.f142.body.getD .skip)) (grs := []) (rh := .k) Try.func142 rfl (by kernel_rfl) (lam_of rfl (lc z142c143_0 ln)) fun vs bs q h hn => by
 unfold g142c143 at h
 split at h <;> cases h
 rename_i g l da1c0
 have hn := n1 hn
 exact ⟨_, rfl, ca (fun R => (cnd ((o142c143_0 g l da1c0 (↑g : Int) 0).isSome)
 (cnd ((o142c143_0 g l da1c0 (↑g : Int) 0).getD default).1
 (R (V Z ((o142c143_0 g l da1c0 (↑g : Int) 0).getD default).2.1) [] [])
 (R (V Z (-1)) [] []))
 False)) (fun R => by kernel_rfl) (cn (al hn) (co (fun h0 => lf (cT h0 rfl) rfl) (fun h0 => lf (cF h0 rfl) rfl)))⟩
/-! ### slices.Index[[]int,int] -/
def l163_0 (a : Nat) (b : Dat) (i j : Int) : Nat → Int → Option (Bool × (Int) × (Unit))
 | 0, _ => none
 | f + 1, g => (cond (decide (g < j)) (cond (decide (0 ≤ g ∧ g < ↑a)) (cond (decide (i = b.ii g.toNat 0)) (some (true, g, default)) (l163_0 a b i j f (Z.wrap (g + 1)))) none) (some (false, default, ())))
abbrev o163_0 (a : Nat) (b : Dat) (i j g : Int) : Option (Bool × (Int) × (Unit)) := l163_0 a b i j (a + i.toNat + j.toNat + g.toNat + 8) g
def e163_0 (a : Nat) (b : Dat) (i j : Int) (r : Bool × (Int) × (Unit)) (K : XR) : Prop := cnd r.1 (K (XE.ret) [V Z r.2.1] []) (K (XE.exit 0) [.any] [])
def g163_0 : LSum := fun s k => match czv 0 19 [0, 1, 7, 8] 0 [] s with
 | some ([.ro [W Z] a b, V Z i, V Z j, V Z g], []) => needs [(o163_0 a b i j g).isSome] (e163_0 a b i j ((o163_0 a b i j g).getD default) fun e vs bs => inBlk 0 k e (mkSt 0 19 [4] vs 0 bs))
 | _ => False
theorem z163_0 : LOk Try.prog g163_0 (.block 0 (bodyAt (Try.f163.body.getD .skip) 0)) := by
 refine lb (ι := Nat × Dat × Int × Int × Int) (fuel := 8) (na := 0) (nt := 19) (nx := 0) (Lh := [0, 1, 7, 8]) (Le := [4]) (gl := []) tn mix_ok noLam rfl (fun f (a, b, i, j, g) K => GG default (e163_0 a b i j) K (l163_0 a b i j f g)) (fun (a, b, i, j, g) => [.ro [W Z] a b, V Z i, V Z j, V Z g]) (fun (a, b, i, j, g) => []) (fun (_, _, _, _, _) K => gg_none) ?_ ?_
 ·rintro f ⟨a, b, i, j, g⟩ K hG
  refine ro (fun R => (cnd (decide (g < j))
 (cnd (decide (0 ≤ g ∧ g < ↑a))
 (cnd (decide (i = b.ii g.toNat 0))
 (R (XE.ret) [V Z g] [])
 (R (XE.normal) [.ro [W Z] a b, V Z i, V Z j, V Z (Z.wrap (g + 1))] []))
  False)
 (R (XE.exit 0) [.any] []))) (fun R => by kernel_rfl) ?_
  exact ch hG (fun h0 => cg h0 fun h1 => ch h1 (fun h2 => h2.2) (fun h2 => ⟨(_, _, _, _, _), rfl, rfl, h2⟩)) (fun h0 => h0.2)
 ·intro s k h
  unfold g163_0 at h
  split at h <;> try exact h.elim
  rename_i e1
  rw [needs_iff] at h
  exact ⟨_, e1, _, (_, _, _, _, _), rfl, rfl, h.1 _ (List.mem_singleton.2 rfl), h.2⟩
def m163 (d : Nat) (l : Dat) (m : Int) : Int :=
 (cond ((o163_0 d l m (↑d : Int) 0).getD default).1 ((o163_0 d l m (↑d : Int) 0).getD default).2.1 (-1))
def n163 (d : Nat) (l : Dat) (m : Int) : Bool :=
 (((o163_0 d l m (↑d : Int) 0).isSome) && true)
def q163 (r : Int) : SV × List Blk × List Blk := (V Z r, [], [])
def g163 : GF := fun vs bs => match vs, bs with
 | [.ro [W Z] d l, V Z m], [] => some (rs 0 (q163 (m163 d l m)) [n163 d l m])
 | _, _ => none
def c163 : Ctr := genC [.ro [W Z], .k] g163
theorem k163 : CtrOk Try.prog c163 163 := cx tn mix_ok 8 (fn := Try.f163) (c := (Try.f163.body.getD .skip)) (grs := []) (rh := .k) Try.func163 rfl (by kernel_rfl) (lam_of rfl (lc z163_0 ln)) fun vs bs q h hn => by
 unfold g163 at h
 split at h <;> cases h
 rename_i d l m
 have hn := n1 hn
 exact ⟨_, rfl, ca (fun R => (cnd ((o163_0 d l m (↑d : Int) 0).isSome)
 (cnd ((o163_0 d l m (↑d : Int) 0).getD default).1
 (R (V Z ((o163_0 d l m (↑d : Int) 0).getD default).2.1) [] [])
 (R (V Z (-1)) [] []))
 False)) (fun R => by kernel_rfl) (cn (al hn) (co (fun h0 => lf (cT h0 rfl) rfl) (fun h0 => lf (cF h0 rfl) rfl)))⟩
/-! ### shotline/gas.CheckGas -/
def m88 (a b : Int) : Int :=
 (cond (bif (decide (m132 2 (datS [V Z (m133 a 0 1000), V Z (m133 b 0 1000)] 1) = 0)) then false else true) (m132 2 (datS [V Z (m133 a 0 1000), V Z (m133 b 0 1000)] 1)) (cond (decide (1000 < Z.wrap (a + b))) 23 0))
def n88 (a b : Int) : Bool :=
 ((n132 2 (datS [V Z (m133 a 0 1000), V Z (m133 b 0 1000)] 1)) && true)
def q88 (r : Int) : SV × List Blk × List Blk := (V Z r, [], [])
def g88 : GF := fun vs bs => match vs, bs with
 | [.agg [V Z a, V Z b]], [] => some (rs 0 (q88 (m88 a b)) [n88 a b])
 | _, _ => none
def c88 : Ctr := genC [.k] g88
theorem k88 : CtrOk Try.prog c88 88 := cx (tc k132 (tc k133 tn)) mix_ok 8 (fn := Try.f88) (c := (Try.f88.body.getD .skip)) (grs := []) (rh := .k) Try.func88 rfl (by kernel_rfl) noLam fun vs bs q h hn => by
 unfold g88 at h
 split at h <;> cases h
 rename_i a b
 have hn := n1 hn
 exact ⟨_, rfl, ca (fun R => (cnd (n132 2 (datS [V Z (m133 a 0 1000), V Z (m133 b 0 1000)] 1))
 (cnd (bif (decide (m132 2 (datS [V Z (m133 a 0 1000), V Z (m133 b 0 1000)] 1) = 0)) then false else true)
 (R (V Z (m132 2 (datS [V Z (m133 a 0 1000), V Z (m133 b 0 1000)] 1))) [] [])
 (cnd (decide (1000 < Z.wrap (a + b)))
 (R (V Z 23) [] [])
 (R (V Z 0) [] [])))
 False)) (fun R => by kernel_rfl) (cn (al hn) (co (fun h0 => lf (cT h0 rfl) rfl) (fun h0 => co (fun h1 => lf (cF h0 (cT h1 rfl)) rfl) (fun h1 => lf (cF h0 (cF h1 rfl)) rfl))))⟩
/-! ### shotline/shotlineref06.CheckWeights -/
def l115_0 (b d g i j l : Int) (a : Dat) : Nat → Int → Option (Bool × (Int) × (Unit))
 | 0, _ => none
 | f + 1, v => (cond (decide (v < (↑4 : Int))) (cond (decide (0 ≤ v ∧ v < ↑4)) (cond (decide (v.toNat < 4)) (cond (bif (m32 (a.ii v.toNat 0) 0 10000000) then false else true) (some (true, 2, default)) (l115_0 b d g i j l a f (Z.wrap (v + 1)))) none) none) (some (false, default, ())))
abbrev o115_0 (b d g i j l : Int) (a : Dat) (v : Int) : Option (Bool × (Int) × (Unit)) := l115_0 b d g i j l a (v.toNat + b.toNat + d.toNat + g.toNat + i.toNat + j.toNat + l.toNat + 8) v
def e115_0 (b d g i j l : Int) (a : Dat) (r : Bool × (Int) × (Unit)) (K : XR) : Prop := cnd r.1 (K (XE.ret) [V Z r.2.1] [.cells 73 [V Z b, V Z d, V Z g, V Z i, V Z j, V Z l], .row 3 [W Z] 4 a]) (K (XE.exit 0) [.any] [.cells 73 [V Z b, V Z d, V Z g, V Z i, V Z j, V Z l], .row 3 [W Z] 4 a])
def g115_0 : LSum := fun s k => match czv 0 36 [3, 4] 2 [] s with
 | some ([.own 1 1 4, V Z v], [.cells 73 [V Z b, V Z d, V Z g, V Z i, V Z j, V Z l], .row 3 [W Z] 4 a]) => needs [(o115_0 b d g i j l a v).isSome] (e115_0 b d g i j l a ((o115_0 b d g i j l a v).getD default) fun e vs bs => inBlk 0 k e (mkSt 0 36 [2] vs 2 bs))
 | _ => False
theorem z115_0 : LOk Try.prog g115_0 (.block 0 (bodyAt (Try.f115.body.getD .skip) 0)) := by
 refine lb (ι := Int × Int × Int × Int × Int × Int × Int × Dat) (fuel := 8) (na := 0) (nt := 36) (nx := 2) (Lh := [3, 4]) (Le := [2]) (gl := []) (tc k32 tn) mix_ok noLam rfl (fun f (v, b, d, g, i, j, l, a) K => GG default (e115_0 b d g i j l a) K (l115_0 b d g i j l a f v)) (fun (v, b, d, g, i, j, l, a) => [.own 1 1 4, V Z v]) (fun (v, b, d, g, i, j, l, a) => [.cells 73 [V Z b, V Z d, V Z g, V Z i, V Z j, V Z l], .row 3 [W Z] 4 a]) (fun (_, _, _, _, _, _, _, _) K => gg_none) ?_ ?_
 ·rintro f ⟨v, b, d, g, i, j, l, a⟩ K hG
  refine ro (fun R => (cnd (decide (v < (↑4 : Int)))
 (cnd (decide (0 ≤ v ∧ v < ↑4))
 (cnd (decide (v.toNat < 4))
 (cnd (bif (m32 (a.ii v.toNat 0) 0 10000000) then false else true)
 (R (XE.ret) [V Z 2] [.cells 73 [V Z b, V Z d, V Z g, V Z i, V Z j, V Z l], .row 3 [W Z] 4 a])
 (R (XE.normal) [.own 1 1 4, V Z (Z.wrap (v + 1))] [.cells 73 [V Z b, V Z d, V Z g, V Z i, V Z j, V Z l], .row 3 [W Z] 4 a]))
  False)
  False)
 (R (XE.exit 0) [.any] [.cells 73 [V Z b, V Z d, V Z g, V Z i, V Z j, V Z l], .row 3 [W Z] 4 a]))) (fun R => by kernel_rfl) ?_
  exact ch hG (fun h0 => cg h0 fun h1 => cg h1 fun h2 => ch h2 (fun h3 => h3.2) (fun h3 => ⟨(_, _, _, _, _, _, _, _), rfl, rfl, h3⟩)) (fun h0 => h0.2)
 ·intro s k h
  unfold g115_0 at h
  split at h <;> try exact h.elim
  rename_i e1
  rw [needs_iff] at h
  exact ⟨_, e1, _, (_, _, _, _, _, _, _, _), rfl, rfl, h.1 _ (List.mem_singleton.2 rfl), h.2⟩
def m115 (t m n o p u : Int) : Int :=
 (cond (bif (bif (m32 u 1 1000000) then false else true) then true else (bif (m32 t (-10000000000) 10000000000) then false else true)) 2 (cond ((o115_0 t m n o p u (datS [V Z m, V Z n, V Z o, V Z p] 1) 0).getD default).1 ((o115_0 t m n o p u (datS [V Z m, V Z n, V Z o, V Z p] 1) 0).getD default).2.1 0))
def n115 (t m n o p u : Int) : Bool :=
 (cond (bif (bif (m32 u 1 1000000) then false else true) then true else (bif (m32 t (-10000000000) 10000000000) then false else true)) true (((o115_0 t m n o p u (datS [V Z m, V Z n, V Z o, V Z p] 1) 0).isSome) && true))
def q115 (r : Int) : SV × List Blk × List Blk := (V Z r, [], [])
def g115 : GF := fun vs bs => match vs, bs with
 | [.agg [V Z t, V Z m, V Z n, V Z o, V Z p, V Z u]], [] => some (rs 0 (q115 (m115 t m n o p u)) [n115 t m n o p u])
 | _, _ => none
def c115 : Ctr := genC [.k] g115
theorem k115 : CtrOk Try.prog c115 115 := cx (tc k32 tn) mix_ok 8 (fn := Try.f115) (c := (Try.f115.body.getD .skip)) (grs := []) (rh := .k) Try.func115 rfl (by kernel_rfl) (lam_of rfl (lc z115_0 ln)) fun vs bs q h hn => by
 unfold g115 at h
 split at h <;> cases h
 rename_i t m n o p u
 have hn := n1 hn
 exact ⟨_, rfl, ca (fun R => 
 let a0 := (o115_0 t m n o p u (datS [V Z m, V Z n, V Z o, V Z p] 1) 0)
 (cnd (bif (bif (m32 u 1 1000000) then false else true) then true else (bif (m32 t (-10000000000) 10000000000) then false else true))
 (R (V Z 2) [] [])
 (cnd (a0.isSome)
 (cnd (a0.getD default).1
 (R (V Z (a0.getD default).2.1) [] [])
 (R (V Z 0) [] []))
  False))) (fun R => by kernel_rfl) (co (fun h0 => lf (cT h0 rfl) rfl) (fun h0 => cn (al (cf h0 hn)) (co (fun h1 => lf (cF h0 (cT h1 rfl)) rfl) (fun h1 => lf (cF h0 (cF h1 rfl)) rfl))))⟩
/-! ### (*shotline/mix.store).above -/
def m128 (a : Dat) (b e d g : Int) : Bool :=
 (decide (Z.wrap (g * (a.sub 0 0).ii b.toNat (0 + 1)) < Z.wrap (e * (a.sub 0 0).ii d.toNat (0 + 1))))
def n128 (a : Dat) (b e d g : Int) : Bool :=
 ((decide (0 ≤ d ∧ d < (↑(a.sn 0 0) : Int))) && ((decide (0 ≤ b ∧ b < (↑(a.sn 0 0) : Int))) && true))
def q128 (r : Bool) : SV × List Blk × List Blk := (.bool r, [], [])
def g128 : GF := fun vs bs => match vs, bs with
 | [.rp [.sl [.str, W Z, W Z], .sl [W Z, W Z, W Z], W Z, W Z, W Z, W Z, W Z, W Z, W Z] a 0 0, V Z b, V Z e, V Z d, V Z g], [] => some (rs 0 (q128 (m128 a b e d g)) [n128 a b e d g])
 | _, _ => none
def c128 : Ctr := genC [.rp [.sl [.str, W Z, W Z], .sl [W Z, W Z, W Z], W Z, W Z, W Z, W Z, W Z, W Z, W Z], .k, .k, .k, .k] g128
theorem k128 : CtrOk Try.prog c128 128 := cx tn mix_ok 8 (fn := Try.f128) (c := (Try.f128.body.getD .skip)) (grs := []) (rh := .k) Try.func128 rfl (by kernel_rfl) noLam fun vs bs q h hn => by
 unfold g128 at h
 split at h <;> cases h
 rename_i a b e d g
 have hn := n1 hn
 exact ⟨_, rfl, ca (fun R => (cnd (decide (0 ≤ d ∧ d < (↑(a.sn 0 0) : Int)))
 (cnd (decide (0 ≤ b ∧ b < (↑(a.sn 0 0) : Int)))
 (R (.bool (decide (Z.wrap (g * (a.sub 0 0).ii b.toNat (0 + 1)) < Z.wrap (e * (a.sub 0 0).ii d.toNat (0 + 1))))) [] [])
  False)
 False)) (fun R => by kernel_rfl) (cn (al hn) (cn (al (ar hn)) (lf rfl rfl)))⟩

/-! ### (shotline/mix.gases).share$1 -/
def m123 (b d : Int) (a : Dat) : Int :=
 (m124 (a.ii d.toNat 0) (a.ii b.toNat 0))
def n123 (b d : Int) (a : Dat) : Bool :=
 ((decide (0 ≤ d ∧ d < ↑3)) && ((decide (d < (↑3 : Int))) && ((decide (0 ≤ b ∧ b < ↑3)) && ((decide (b < (↑3 : Int))) && true))))
def q123 (r : Int) : SV × List Blk × List Blk := (V Z r, [], [])
def g123 : GF := fun vs bs => match vs, bs with
 | [V Z b, V Z d, .ra [W Z] 3 a], [] => some (rs 0 (q123 (m123 b d a)) [n123 b d a])
 | _, _ => none
def c123 : Ctr := genC [.k, .k, .ra [W Z] 3] g123
theorem k123 : CtrOk Try.prog c123 123 := cx (tc k124 tn) mix_ok 8 (fn := Try.f123) (c := (Try.f123.body.getD .skip)) (grs := []) (rh := .k) Try.func123 rfl (by kernel_rfl) noLam fun vs bs q h hn => by
 unfold g123 at h
 split at h <;> cases h
 rename_i b d a
 have hn := n1 hn
 exact ⟨_, rfl, ca (fun R => (cnd (decide (0 ≤ d ∧ d < ↑3))
 (cnd (decide (d < (↑3 : Int)))
 (cnd (decide (0 ≤ b ∧ b < ↑3))
 (cnd (decide (b < (↑3 : Int)))
 (R (V Z (m124 (a.ii d.toNat 0) (a.ii b.toNat 0))) [] [])
   False)
  False)
  False)
 False)) (fun R => by kernel_rfl) (cn (al hn) (cn (al (ar hn)) (cn (al (ar (ar hn))) (cn (al (ar (ar (ar hn)))) (lf rfl rfl)))))⟩
/-! ### slices.ContainsFunc[[]shotline/api.MixSource,shotline/api.MixSource] -/
def m117c118 (a : Nat) (b da1c0 : Dat) : Bool :=
 (decide (0 ≤ m150c118 a b da1c0))
def n117c118 (a : Nat) (b da1c0 : Dat) : Bool :=
 ((n150c118 a b da1c0) && true)
def q117c118 (r : Bool) : SV × List Blk × List Blk := (.bool r, [], [])
def g117c118 : GF := fun vs bs => match vs, bs with
 | [.ro [.str, W Z, W Z, W Z, W Z] a b, .fn 118 [.rp [.str, W Z, W Z, W Z, W Z] da1c0 0 0]], [] => some (rs 0 (q117c118 (m117c118 a b da1c0)) [n117c118 a b da1c0])
 | _, _ => none
def c117c118 : Ctr := genC [.ro [.str, W Z, W Z, W Z, W Z], .f [.rp [.str, W Z, W Z, W Z, W Z]]] g117c118
theorem k117c118 : CtrOk Try.prog c117c118 117 := cx (tc k118 (tc k150c118 tn)) mix_ok 8 (fn := Try.f117) (c := (Try.f117.body.getD .skip)) (grs := []) (rh := .k) Try.func117 rfl (by kernel_rfl) noLam fun vs bs q h hn => by
 unfold g117c118 at h
 split at h <;> cases h
 rename_i a b da1c0
 have hn := n1 hn
 exact ⟨_, rfl, ca (fun R => (cnd (n150c118 a b da1c0)
 (R (.bool (decide (0 ≤ m150c118 a b da1c0))) [] [])
 False)) (fun R => by kernel_rfl) (cn (al hn) (lf rfl rfl))⟩
/-! ### slices.ContainsFunc[[]int,int] -/
def m120c121 (a : Nat) (b : Dat) : Bool :=
 (decide (0 ≤ m151c121 a b))
def n120c121 (a : Nat) (b : Dat) : Bool :=
 ((n151c121 a b) && true)
def q120c121 (r : Bool) : SV × List Blk × List Blk := (.bool r, [], [])
def g120c121 : GF := fun vs bs => match vs, bs with
 | [.ro [W Z] a b, .fn 121 []], [] => some (rs 0 (q120c121 (m120c121 a b)) [n120c121 a b])
 | _, _ => none
def c120c121 : Ctr := genC [.ro [W Z], .f []] g120c121
theorem k120c121 : CtrOk Try.prog c120c121 120 := cx (tc k121 (tc k151c121 tn)) mix_ok 8 (fn := Try.f120) (c := (Try.f120.body.getD .skip)) (grs := []) (rh := .k) Try.func120 rfl (by kernel_rfl) noLam fun vs bs q h hn => by
 unfold g120c121 at h
 split at h <;> cases h
 rename_i a b
 have hn := n1 hn
 exact ⟨_, rfl, ca (fun R => (cnd (n151c121 a b)
 (R (.bool (decide (0 ≤ m151c121 a b))) [] [])
 False)) (fun R => by kernel_rfl) (cn (al hn) (lf rfl rfl))⟩
/-! ### slices.ContainsFunc[[]int,int] -/
def m120c140 (a : Nat) (b : Dat) : Bool :=
 (decide (0 ≤ m151c140 a b))
def n120c140 (a : Nat) (b : Dat) : Bool :=
 ((n151c140 a b) && true)
def q120c140 (r : Bool) : SV × List Blk × List Blk := (.bool r, [], [])
def g120c140 : GF := fun vs bs => match vs, bs with
 | [.ro [W Z] a b, .fn 140 []], [] => some (rs 0 (q120c140 (m120c140 a b)) [n120c140 a b])
 | _, _ => none
def c120c140 : Ctr := genC [.ro [W Z], .f []] g120c140
theorem k120c140 : CtrOk Try.prog c120c140 120 := cx (tc k140 (tc k151c140 tn)) mix_ok 8 (fn := Try.f120) (c := (Try.f120.body.getD .skip)) (grs := []) (rh := .k) Try.func120 rfl (by kernel_rfl) noLam fun vs bs q h hn => by
 unfold g120c140 at h
 split at h <;> cases h
 rename_i a b
 have hn := n1 hn
 exact ⟨_, rfl, ca (fun R => (cnd (n151c140 a b)
 (R (.bool (decide (0 ≤ m151c140 a b))) [] [])
 False)) (fun R => by kernel_rfl) (cn (al hn) (lf rfl rfl))⟩
/-! ### shotline/mix.vessel -/
def m105 (a : Nat) (b : Dat) (d : ByteArray) : Int :=
 (m142c143 a b (datC [SV.str d]))
def n105 (a : Nat) (b : Dat) (d : ByteArray) : Bool :=
 ((n142c143 a b (datC [SV.str d])) && true)
def q105 (r : Int) : SV × List Blk × List Blk := (V Z r, [], [])
def g105 : GF := fun vs bs => match vs, bs with
 | [.ro [.str, W Z, W Z] a b, .str d], [] => some (rs 0 (q105 (m105 a b d)) [n105 a b d])
 | _, _ => none
def c105 : Ctr := genC [.ro [.str, W Z, W Z], .k] g105
theorem k105 : CtrOk Try.prog c105 105 := cx (tc k142c143 (tc k143 tn)) mix_ok 8 (fn := Try.f105) (c := (Try.f105.body.getD .skip)) (grs := []) (rh := .k) Try.func105 rfl (by kernel_rfl) noLam fun vs bs q h hn => by
 unfold g105 at h
 split at h <;> cases h
 rename_i a b d
 have hn := n1 hn
 exact ⟨_, rfl, ca (fun R => (cnd (n142c143 a b (datC [SV.str d]))
 (R (V Z (m142c143 a b (datC [SV.str d]))) [] [])
 False)) (fun R => by kernel_rfl) (cn (al hn) (lf rfl rfl))⟩
/-! ### shotline/mix.alone -/
def m125 (a i : Int) (b d : ByteArray) (e g j : Int) (l : Bool) : Int :=
 (cond (bif (m83 a 0 2) then false else true) 15 (cond (decide (a = 0)) (cond (bif (bif (bif (m83 i 0 100000) then false else true) then true else (bif (m83 j 1 1000000000) then false else true)) then true else (bif (decide (m88 e g = 0)) then false else true)) 2 (cond (bif (bif (bif (bif (bif (m126 a) then false else true) then (bif (decide (b = { data := #[] })) then false else true) else false) then true else (bif (bif (m127 a) then false else true) then (bif (decide (d = { data := #[] })) then false else true) else false)) then true else (bif (decide (a = 1)) then (decide (b = d)) else false)) then true else (bif l then (bif (decide (a = 1)) then false else true) else false)) 3 0)) (cond (bif (bif (bif (m83 i 0 100000) then false else true) then true else (bif (m83 j 1 1000000000) then false else true)) then true else (bif (bif (decide (e = 0)) then (bif (decide (g = 0)) then true else false) else false) then false else true)) 2 (cond (bif (bif (bif (bif (bif (m126 a) then false else true) then (bif (decide (b = { data := #[] })) then false else true) else false) then true else (bif (bif (m127 a) then false else true) then (bif (decide (d = { data := #[] })) then false else true) else false)) then true else (bif (decide (a = 1)) then (decide (b = d)) else false)) then true else (bif l then (bif (decide (a = 1)) then false else true) else false)) 3 0))))
def n125 (a i : Int) (b d : ByteArray) (e g j : Int) (l : Bool) : Bool :=
 (cond (bif (m83 a 0 2) then false else true) true (cond (decide (a = 0)) ((n88 e g) && true) true))
def q125 (r : Int) : SV × List Blk × List Blk := (V Z r, [], [])
def g125 : GF := fun vs bs => match vs, bs with
 | [.agg [V Z a, V Z i, .str b, .str d, V Z e, V Z g, V Z j, .bool l]], [] => some (rs 0 (q125 (m125 a i b d e g j l)) [n125 a i b d e g j l])
 | _, _ => none
def c125 : Ctr := genC [.k] g125
theorem k125 : CtrOk Try.prog c125 125 := cx (tc k83 (tc k88 (tc k126 (tc k127 tn)))) mix_ok 8 (fn := Try.f125) (c := (Try.f125.body.getD .skip)) (grs := []) (rh := .k) Try.func125 rfl (by kernel_rfl) noLam fun vs bs q h hn => by
 unfold g125 at h
 split at h <;> cases h
 rename_i a i b d e g j l
 have hn := n1 hn
 exact ⟨_, rfl, ca (fun R => 
 let a0 := (bif (bif (bif (bif (bif (m126 a) then false else true) then (bif (decide (b = { data := #[] })) then false else true) else false) then true else (bif (bif (m127 a) then false else true) then (bif (decide (d = { data := #[] })) then false else true) else false)) then true else (bif (decide (a = 1)) then (decide (b = d)) else false)) then true else (bif l then (bif (decide (a = 1)) then false else true) else false))
 let b0 := (bif (bif (m83 i 0 100000) then false else true) then true else (bif (m83 j 1 1000000000) then false else true))
 (cnd (bif (m83 a 0 2) then false else true)
 (R (V Z 15) [] [])
 (cnd (decide (a = 0))
 (cnd (n88 e g)
 (cnd (bif b0 then true else (bif (decide (m88 e g = 0)) then false else true))
 (R (V Z 2) [] [])
 (cnd a0
 (R (V Z 3) [] [])
 (R (V Z 0) [] [])))
  False)
 (cnd (bif b0 then true else (bif (bif (decide (e = 0)) then (bif (decide (g = 0)) then true else false) else false) then false else true))
 (R (V Z 2) [] [])
 (cnd a0
 (R (V Z 3) [] [])
 (R (V Z 0) [] [])))))) (fun R => by kernel_rfl) (co (fun h0 => lf (cT h0 rfl) rfl) (fun h0 => co (fun h1 => cn (al (ct h1 (cf h0 hn))) (co (fun h2 => lf (cF h0 (cT h1 (cT h2 rfl))) rfl) (fun h2 => co (fun h3 => lf (cF h0 (cT h1 (cF h2 (cT h3 rfl)))) rfl) (fun h3 => lf (cF h0 (cT h1 (cF h2 (cF h3 rfl)))) rfl)))) (fun h1 => co (fun h2 => lf (cF h0 (cF h1 (cT h2 rfl))) rfl) (fun h2 => co (fun h3 => lf (cF h0 (cF h1 (cF h2 (cT h3 rfl)))) rfl) (fun h3 => lf (cF h0 (cF h1 (cF h2 (cF h3 rfl)))) rfl)))))⟩
/-! ### slices.Contains[[]int,int] -/
def m158 (a : Nat) (b : Dat) (d : Int) : Bool :=
 (decide (0 ≤ m163 a b d))
def n158 (a : Nat) (b : Dat) (d : Int) : Bool :=
 ((n163 a b d) && true)
def q158 (r : Bool) : SV × List Blk × List Blk := (.bool r, [], [])
def g158 : GF := fun vs bs => match vs, bs with
 | [.ro [W Z] a b, V Z d], [] => some (rs 0 (q158 (m158 a b d)) [n158 a b d])
 | _, _ => none
def c158 : Ctr := genC [.ro [W Z], .k] g158
theorem k158 : CtrOk Try.prog c158 158 := cx (tc k163 tn) mix_ok 8 (fn := Try.f158) (c := (Try.f158.body.getD .skip)) (grs := []) (rh := .k) Try.func158 rfl (by kernel_rfl) noLam fun vs bs q h hn => by
 unfold g158 at h
 split at h <;> cases h
 rename_i a b d
 have hn := n1 hn
 exact ⟨_, rfl, ca (fun R => (cnd (n163 a b d)
 (R (.bool (decide (0 ≤ m163 a b d))) [] [])
 False)) (fun R => by kernel_rfl) (cn (al hn) (lf rfl rfl))⟩
/-! ### slices.Clone[[]int,int] -/
theorem x159 (R : SV → List Blk → List Blk → Prop) : exec Try.prog [] (fun _ => none) 8 (Try.f159.body.getD .skip) (initS Try.f159.ntmps [.nsl] 0 (memOf [])) (retK Try.prog Try.f159.results.toList (outK 0 (List.range 0) [] .k fun v U N => R v U N)) = R .nsl [] [] := by kernel_rfl
theorem y159 (n : Nat) (d : Dat) (R : SV → List Blk → List Blk → Prop) : exec Try.prog [] (fun _ => none) 8 (Try.f159.body.getD .skip) (initS Try.f159.ntmps [.rn [W Z] n d] 0 (memOf [])) (retK Try.prog Try.f159.results.toList (outK 0 (List.range 0) [] .k fun v U N => R v U N)) = cnd (decide (0 ≤ 0)) (cnd (decide (0 + n ≤ 1073741824)) (R (.own 0 1 (0 + n)) [] [.row 3 [W Z] (0 + n) ((datS [] 1).app 0 d)]) False) False := by kernel_rfl
def c159 : Ctr := genC [.ro [W Z]] (cloneG 3 [W Z])
theorem k159 : CtrOk Try.prog c159 159 := ctr_clone tn mix_ok 8 (fn := Try.f159) (c := (Try.f159.body.getD .skip)) (Λ := fun _ => none) Try.func159 rfl (by kernel_rfl) noLam (propOf (x159 _) rfl) fun n d hn => propOf (y159 n d _) (cn (by simp) (cn (by simpa using hn) ⟨datS [] 1, rfl⟩))
/-! ### shotline/shotlinebase.CopyInts -/
def m39 (a : Nat) (b : Dat) : Nat × Dat :=
 ((0 + a), ((datS [] 1).app 0 b))
def n39 (a : Nat) (b : Dat) : Bool :=
 ((decide (0 + a ≤ 1073741824)) && ((decide (0 + (0 + a) ≤ 0 + a)) && true))
def q39 (r : Nat × Dat) : SV × List Blk × List Blk := (.ro [W Z] r.1 r.2, [], [])
def g39 : GF := fun vs bs => match vs, bs with
 | [.ro [W Z] a b], [] => some (rs 0 (q39 (m39 a b)) [n39 a b])
 | _, _ => none
def c39 : Ctr := genC [.ro [W Z]] g39
theorem k39 : CtrOk Try.prog c39 39 := cx tn mix_ok 8 (fn := Try.f39) (c := (Try.f39.body.getD .skip)) (grs := []) (rh := .ro [W Z]) Try.func39 rfl (by kernel_rfl) noLam fun vs bs q h hn => by
 unfold g39 at h
 split at h <;> cases h
 rename_i a b
 have hn := n1 hn
 exact ⟨_, rfl, ca (fun R => (cnd (decide (0 + a ≤ 1073741824))
 (cnd (decide (0 + (0 + a) ≤ 0 + a))
 (R (.ro [W Z] (0 + a) ((datS [] 1).app 0 b)) [] [])
  False)
 False)) (fun R => by kernel_rfl) (cn (al hn) (cn (al (ar hn)) (lf rfl rfl)))⟩

/-! ### shotline/mix.CheckVessels -/
def l50_0 (b : Nat) (g a : Dat) (l : Int) : Nat → Int → Option (Bool × (Int) × (Unit))
 | 0, _ => none
 | f + 1, d => (cond (decide (d < l)) (cond (decide (0 ≤ d ∧ d < ↑b)) (cond (n104 (a.ss d.toNat 0)) (cond (bif (m104 (a.ss d.toNat 0)) then false else true) (some (true, 4, default)) (cond (n105 b g (a.ss d.toNat 0)) (cond (decide (m105 b g (a.ss d.toNat 0) < d)) (some (true, 5, default)) (cond (bif (bif (m83 (a.ii d.toNat (0 + 1)) 1 1000000) then false else true) then true else (bif (m83 (a.ii d.toNat (0 + 1 + 1)) 1 400000) then false else true)) (some (true, 2, default)) (l50_0 b g a l f (Z.wrap (d + 1))))) none)) none) none) (some (false, default, ())))
abbrev o50_0 (b : Nat) (g a : Dat) (l d : Int) : Option (Bool × (Int) × (Unit)) := l50_0 b g a l (b + l.toNat + d.toNat + 8) d
def e50_0 (b : Nat) (g a : Dat) (l : Int) (r : Bool × (Int) × (Unit)) (K : XR) : Prop := cnd r.1 (K (XE.ret) [V Z r.2.1] []) (K (XE.exit 0) [.any] [])
def g50_0 : LSum := fun s k => match czv 0 39 [0, 8, 9, 10] 0 [] s with
 | some ([.ro [.str, W Z, W Z] b g, .ro [.str, W Z, W Z] t8_0 a, V Z l, V Z d], []) => needs [decide (b = t8_0), (o50_0 b g a l d).isSome] (e50_0 b g a l ((o50_0 b g a l d).getD default) fun e vs bs => inBlk 0 k e (mkSt 0 39 [2] vs 0 bs))
 | _ => False
theorem z50_0 : LOk Try.prog g50_0 (.block 0 (bodyAt (Try.f50.body.getD .skip) 0)) := by
 refine lb (ι := Nat × Dat × Dat × Int × Int) (fuel := 8) (na := 0) (nt := 39) (nx := 0) (Lh := [0, 8, 9, 10]) (Le := [2]) (gl := []) (tc k83 (tc k104 (tc k105 tn))) mix_ok noLam rfl (fun f (b, g, a, l, d) K => GG default (e50_0 b g a l) K (l50_0 b g a l f d)) (fun (b, g, a, l, d) => [.ro [.str, W Z, W Z] b g, .ro [.str, W Z, W Z] b a, V Z l, V Z d]) (fun (b, g, a, l, d) => []) (fun (_, _, _, _, _) K => gg_none) ?_ ?_
 ·rintro f ⟨b, g, a, l, d⟩ K hG
  refine ro (fun R => (cnd (decide (d < l))
 (cnd (decide (0 ≤ d ∧ d < ↑b))
 (cnd (n104 (a.ss d.toNat 0))
 (cnd (bif (m104 (a.ss d.toNat 0)) then false else true)
 (R (XE.ret) [V Z 4] [])
 (cnd (n105 b g (a.ss d.toNat 0))
 (cnd (decide (m105 b g (a.ss d.toNat 0) < d))
 (R (XE.ret) [V Z 5] [])
 (cnd (bif (bif (m83 (a.ii d.toNat (0 + 1)) 1 1000000) then false else true) then true else (bif (m83 (a.ii d.toNat (0 + 1 + 1)) 1 400000) then false else true))
 (R (XE.ret) [V Z 2] [])
 (R (XE.normal) [.ro [.str, W Z, W Z] b g, .ro [.str, W Z, W Z] b a, V Z l, V Z (Z.wrap (d + 1))] [])))
   False))
  False)
  False)
 (R (XE.exit 0) [.any] []))) (fun R => by kernel_rfl) ?_
  exact ch hG (fun h0 => cg h0 fun h1 => cg h1 fun h2 => ch h2 (fun h3 => h3.2) (fun h3 => cg h3 fun h4 => ch h4 (fun h5 => h5.2) (fun h5 => ch h5 (fun h6 => h6.2) (fun h6 => ⟨(_, _, _, _, _), rfl, rfl, h6⟩)))) (fun h0 => h0.2)
 ·intro s k h
  unfold g50_0 at h
  split at h <;> try exact h.elim
  rename_i e1
  rw [needs_iff] at h
  have hq := h.1
  simp only [List.mem_cons, forall_eq_or_imp, decide_eq_true_eq, List.not_mem_nil, false_imp_iff, implies_true, and_true] at hq
  obtain ⟨rfl, hq⟩ := hq
  exact ⟨_, e1, _, (_, _, _, _, _), rfl, rfl, hq, h.2⟩
def m50 (i : Nat) (j : Dat) : Int :=
 (cond (decide ((20 : Int) < (↑i : Int))) 8 (cond ((o50_0 i j j (↑i : Int) 0).getD default).1 ((o50_0 i j j (↑i : Int) 0).getD default).2.1 0))
def n50 (i : Nat) (j : Dat) : Bool :=
 (cond (decide ((20 : Int) < (↑i : Int))) true (((o50_0 i j j (↑i : Int) 0).isSome) && true))
def q50 (r : Int) : SV × List Blk × List Blk := (V Z r, [], [])
def g50 : GF := fun vs bs => match vs, bs with
 | [.ro [.str, W Z, W Z] i j], [] => some (rs 0 (q50 (m50 i j)) [n50 i j])
 | _, _ => none
def c50 : Ctr := genC [.ro [.str, W Z, W Z]] g50
theorem k50 : CtrOk Try.prog c50 50 := cx (tc k83 (tc k104 (tc k105 tn))) mix_ok 8 (fn := Try.f50) (c := (Try.f50.body.getD .skip)) (grs := []) (rh := .k) Try.func50 rfl (by kernel_rfl) (lam_of rfl (lc z50_0 ln)) fun vs bs q h hn => by
 unfold g50 at h
 split at h <;> cases h
 rename_i i j
 have hn := n1 hn
 exact ⟨_, rfl, ca (fun R => (cnd (decide ((20 : Int) < (↑i : Int)))
 (R (V Z 8) [] [])
 (cnd (decide (i = i))
 (cnd ((o50_0 i j j (↑i : Int) 0).isSome)
 (cnd ((o50_0 i j j (↑i : Int) 0).getD default).1
 (R (V Z ((o50_0 i j j (↑i : Int) 0).getD default).2.1) [] [])
 (R (V Z 0) [] []))
  False)
  False))) (fun R => by kernel_rfl) (co (fun h0 => lf (cT h0 rfl) rfl) (fun h0 => cn (decide_eq_true rfl) (cn (al (cf h0 hn)) (co (fun h1 => lf (cF h0 (cT h1 rfl)) rfl) (fun h1 => lf (cF h0 (cF h1 rfl)) rfl)))))⟩
/-! ### shotline/shotlineref06.CheckTask -/
def l34_2 (t : Int) (d : Nat) (b : Dat) (g i j l m n o p : Int) (u : ByteArray) (w x y z : Int) : Nat → Int → Option (Bool × (Int) × (Unit))
 | 0, _ => none
 | f + 1, L => (cond (decide (L < t)) (cond (decide (0 ≤ L ∧ L < ↑d)) (cond (decide (b.ss L.toNat 0 = u)) (some (true, 5, default)) (l34_2 t d b g i j l m n o p u w x y z f (Z.wrap (L + 1)))) none) (some (false, default, ())))
abbrev o34_2 (t : Int) (d : Nat) (b : Dat) (g i j l m n o p : Int) (u : ByteArray) (w x y z L : Int) : Option (Bool × (Int) × (Unit)) := l34_2 t d b g i j l m n o p u w x y z (t.toNat + L.toNat + d + g.toNat + i.toNat + j.toNat + l.toNat + m.toNat + n.toNat + o.toNat + p.toNat + u.size + w.toNat + x.toNat + y.toNat + z.toNat + 8) L
def e34_2 (t : Int) (d : Nat) (b : Dat) (g i j l m n o p : Int) (u : ByteArray) (w x y z : Int) (r : Bool × (Int) × (Unit)) (K : XR) : Prop := cnd r.1 (K (XE.ret) [.ptr 0 0, V Z r.2.1, V Z t, .ptr 1 0] [.cells 65 [.ro [.str, W Z, W Z, W Z, W Z] d b, V Z g, V Z i, V Z j, V Z l, V Z m, V Z n, V Z o, V Z p], .cells 67 [.str u, V Z w, V Z x, V Z y, V Z z]]) (K (XE.exit 2) [.ptr 0 0, .any, V Z t, .ptr 1 0] [.cells 65 [.ro [.str, W Z, W Z, W Z, W Z] d b, V Z g, V Z i, V Z j, V Z l, V Z m, V Z n, V Z o, V Z p], .cells 67 [.str u, V Z w, V Z x, V Z y, V Z z]])
def g34_2 : LSum := fun s k => match czv 0 90 [1, 3, 4, 5] 2 [] s with
 | some ([.ptr 0 0, V Z t, .ptr 1 0, V Z L], [.cells 65 [.ro [.str, W Z, W Z, W Z, W Z] d b, V Z g, V Z i, V Z j, V Z l, V Z m, V Z n, V Z o, V Z p], .cells 67 [.str u, V Z w, V Z x, V Z y, V Z z]]) => needs [(o34_2 t d b g i j l m n o p u w x y z L).isSome] (e34_2 t d b g i j l m n o p u w x y z ((o34_2 t d b g i j l m n o p u w x y z L).getD default) fun e vs bs => inBlk 2 k e (mkSt 0 90 [1, 2, 3, 4] vs 2 bs))
 | _ => False
theorem z34_2 : LOk Try.prog g34_2 (.block 2 (bodyAt (Try.f34.body.getD .skip) 2)) := by
 refine lb (ι := Int × Int × Nat × Dat × Int × Int × Int × Int × Int × Int × Int × Int × ByteArray × Int × Int × Int × Int) (fuel := 8) (na := 0) (nt := 90) (nx := 2) (Lh := [1, 3, 4, 5]) (Le := [1, 2, 3, 4]) (gl := []) (tc k26 (tc k32 (tc k29 (tc k90 (tc k91 (tc k92 tn)))))) mix_ok noLam rfl (fun f (t, L, d, b, g, i, j, l, m, n, o, p, u, w, x, y, z) K => GG default (e34_2 t d b g i j l m n o p u w x y z) K (l34_2 t d b g i j l m n o p u w x y z f L)) (fun (t, L, d, b, g, i, j, l, m, n, o, p, u, w, x, y, z) => [.ptr 0 0, V Z t, .ptr 1 0, V Z L]) (fun (t, L, d, b, g, i, j, l, m, n, o, p, u, w, x, y, z) => [.cells 65 [.ro [.str, W Z, W Z, W Z, W Z] d b, V Z g, V Z i, V Z j, V Z l, V Z m, V Z n, V Z o, V Z p], .cells 67 [.str u, V Z w, V Z x, V Z y, V Z z]]) (fun (_, _, _, _, _, _, _, _, _, _, _, _, _, _, _, _, _) K => gg_none) ?_ ?_
 ·rintro f ⟨t, L, d, b, g, i, j, l, m, n, o, p, u, w, x, y, z⟩ K hG
  refine ro (fun R => (cnd (decide (L < t))
 (cnd (decide (0 ≤ L ∧ L < ↑d))
 (cnd (decide (b.ss L.toNat 0 = u))
 (R (XE.ret) [.ptr 0 0, V Z 5, V Z t, .ptr 1 0] [.cells 65 [.ro [.str, W Z, W Z, W Z, W Z] d b, V Z g, V Z i, V Z j, V Z l, V Z m, V Z n, V Z o, V Z p], .cells 67 [.str u, V Z w, V Z x, V Z y, V Z z]])
 (R (XE.normal) [.ptr 0 0, V Z t, .ptr 1 0, V Z (Z.wrap (L + 1))] [.cells 65 [.ro [.str, W Z, W Z, W Z, W Z] d b, V Z g, V Z i, V Z j, V Z l, V Z m, V Z n, V Z o, V Z p], .cells 67 [.str u, V Z w, V Z x, V Z y, V Z z]]))
  False)
 (R (XE.exit 2) [.ptr 0 0, .any, V Z t, .ptr 1 0] [.cells 65 [.ro [.str, W Z, W Z, W Z, W Z] d b, V Z g, V Z i, V Z j, V Z l, V Z m, V Z n, V Z o, V Z p], .cells 67 [.str u, V Z w, V Z x, V Z y, V Z z]]))) (fun R => by kernel_rfl) ?_
  exact ch hG (fun h0 => cg h0 fun h1 => ch h1 (fun h2 => h2.2) (fun h2 => ⟨(_, _, _, _, _, _, _, _, _, _, _, _, _, _, _, _, _), rfl, rfl, h2⟩)) (fun h0 => h0.2)
 ·intro s k h
  unfold g34_2 at h
  split at h <;> try exact h.elim
  rename_i e1
  rw [needs_iff] at h
  exact ⟨_, e1, _, (_, _, _, _, _, _, _, _, _, _, _, _, _, _, _, _, _), rfl, rfl, h.1 _ (List.mem_singleton.2 rfl), h.2⟩
def l34_0 (d : Nat) (b : Dat) (g i j l m n o p : Int) : Nat → Int → Option (Bool × (Int) × (Unit))
 | 0, _ => none
 | f + 1, t => (cond (decide (t < (↑d : Int))) (cond (decide (0 ≤ t ∧ t < ↑d)) (cond (n90 (b.ss t.toNat 0)) (cond (bif (m90 (b.ss t.toNat 0)) then false else true) (some (true, 4, default)) (cond ((o34_2 t d b g i j l m n o p (b.ss t.toNat 0) (b.ii t.toNat (0 + 1)) (b.ii t.toNat (0 + 1 + 1)) (b.ii t.toNat (0 + 1 + 1 + 1)) (b.ii t.toNat (0 + 1 + 1 + 1 + 1)) 0).isSome) (cond ((o34_2 t d b g i j l m n o p (b.ss t.toNat 0) (b.ii t.toNat (0 + 1)) (b.ii t.toNat (0 + 1 + 1)) (b.ii t.toNat (0 + 1 + 1 + 1)) (b.ii t.toNat (0 + 1 + 1 + 1 + 1)) 0).getD default).1 (some (true, ((o34_2 t d b g i j l m n o p (b.ss t.toNat 0) (b.ii t.toNat (0 + 1)) (b.ii t.toNat (0 + 1 + 1)) (b.ii t.toNat (0 + 1 + 1 + 1)) (b.ii t.toNat (0 + 1 + 1 + 1 + 1)) 0).getD default).2.1, default)) (cond (bif (decide (m91 (b.ii t.toNat (0 + 1)) (b.ii t.toNat (0 + 1 + 1)) = 0)) then false else true) (some (true, (m91 (b.ii t.toNat (0 + 1)) (b.ii t.toNat (0 + 1 + 1))), default)) (cond (bif (bif (m32 (b.ii t.toNat (0 + 1 + 1 + 1)) 0 1000) then false else true) then true else (bif (m32 (b.ii t.toNat (0 + 1 + 1 + 1 + 1)) 0 10000000) then false else true)) (some (true, 2, default)) (l34_0 d b g i j l m n o p f (Z.wrap (t + 1)))))) none)) none) none) (some (false, default, ())))
abbrev o34_0 (d : Nat) (b : Dat) (g i j l m n o p t : Int) : Option (Bool × (Int) × (Unit)) := l34_0 d b g i j l m n o p (t.toNat + d + g.toNat + i.toNat + j.toNat + l.toNat + m.toNat + n.toNat + o.toNat + p.toNat + 8) t
def e34_0 (d : Nat) (b : Dat) (g i j l m n o p : Int) (r : Bool × (Int) × (Unit)) (K : XR) : Prop := cnd r.1 (K (XE.ret) [.ptr 0 0, V Z r.2.1] [.cells 65 [.ro [.str, W Z, W Z, W Z, W Z] d b, V Z g, V Z i, V Z j, V Z l, V Z m, V Z n, V Z o, V Z p]]) (K (XE.exit 0) [.ptr 0 0, .any] [.cells 65 [.ro [.str, W Z, W Z, W Z, W Z] d b, V Z g, V Z i, V Z j, V Z l, V Z m, V Z n, V Z o, V Z p]])
def g34_0 : LSum := fun s k => match czv 0 90 [1, 3] 1 [] s with
 | some ([.ptr 0 0, V Z t], [.cells 65 [.ro [.str, W Z, W Z, W Z, W Z] d b, V Z g, V Z i, V Z j, V Z l, V Z m, V Z n, V Z o, V Z p]]) => needs [(o34_0 d b g i j l m n o p t).isSome] (e34_0 d b g i j l m n o p ((o34_0 d b g i j l m n o p t).getD default) fun e vs bs => inBlk 0 k e (mkSt 0 90 [1, 2] vs 1 bs))
 | _ => False
theorem z34_0 : LOk Try.prog g34_0 (.block 0 (bodyAt (Try.f34.body.getD .skip) 0)) := by
 refine lb (ι := Int × Nat × Dat × Int × Int × Int × Int × Int × Int × Int × Int) (fuel := 8) (na := 0) (nt := 90) (nx := 1) (Lh := [1, 3]) (Le := [1, 2]) (gl := []) (tc k26 (tc k32 (tc k29 (tc k90 (tc k91 (tc k92 tn)))))) mix_ok (lam_of rfl (lc z34_2 ln)) rfl (fun f (t, d, b, g, i, j, l, m, n, o, p) K => GG default (e34_0 d b g i j l m n o p) K (l34_0 d b g i j l m n o p f t)) (fun (t, d, b, g, i, j, l, m, n, o, p) => [.ptr 0 0, V Z t]) (fun (t, d, b, g, i, j, l, m, n, o, p) => [.cells 65 [.ro [.str, W Z, W Z, W Z, W Z] d b, V Z g, V Z i, V Z j, V Z l, V Z m, V Z n, V Z o, V Z p]]) (fun (_, _, _, _, _, _, _, _, _, _, _) K => gg_none) ?_ ?_
 ·rintro f ⟨t, d, b, g, i, j, l, m, n, o, p⟩ K hG
  refine ro (fun R => 
 let a0 := (o34_2 t d b g i j l m n o p (b.ss t.toNat 0) (b.ii t.toNat (0 + 1)) (b.ii t.toNat (0 + 1 + 1)) (b.ii t.toNat (0 + 1 + 1 + 1)) (b.ii t.toNat (0 + 1 + 1 + 1 + 1)) 0)
 (cnd (decide (t < (↑d : Int)))
 (cnd (decide (0 ≤ t ∧ t < ↑d))
 (cnd (n90 (b.ss t.toNat 0))
 (cnd (bif (m90 (b.ss t.toNat 0)) then false else true)
 (R (XE.ret) [.ptr 0 0, V Z 4] [.cells 65 [.ro [.str, W Z, W Z, W Z, W Z] d b, V Z g, V Z i, V Z j, V Z l, V Z m, V Z n, V Z o, V Z p]])
 (cnd (a0.isSome)
 (cnd (a0.getD default).1
 (R (XE.ret) [.ptr 0 0, V Z (a0.getD default).2.1] [.cells 65 [.ro [.str, W Z, W Z, W Z, W Z] d b, V Z g, V Z i, V Z j, V Z l, V Z m, V Z n, V Z o, V Z p]])
 (cnd (bif (decide (m91 (b.ii t.toNat (0 + 1)) (b.ii t.toNat (0 + 1 + 1)) = 0)) then false else true)
 (R (XE.ret) [.ptr 0 0, V Z (m91 (b.ii t.toNat (0 + 1)) (b.ii t.toNat (0 + 1 + 1)))] [.cells 65 [.ro [.str, W Z, W Z, W Z, W Z] d b, V Z g, V Z i, V Z j, V Z l, V Z m, V Z n, V Z o, V Z p]])
 (cnd (bif (bif (m32 (b.ii t.toNat (0 + 1 + 1 + 1)) 0 1000) then false else true) then true else (bif (m32 (b.ii t.toNat (0 + 1 + 1 + 1 + 1)) 0 10000000) then false else true))
 (R (XE.ret) [.ptr 0 0, V Z 2] [.cells 65 [.ro [.str, W Z, W Z, W Z, W Z] d b, V Z g, V Z i, V Z j, V Z l, V Z m, V Z n, V Z o, V Z p]])
 (R (XE.normal) [.ptr 0 0, V Z (Z.wrap (t + 1))] [.cells 65 [.ro [.str, W Z, W Z, W Z, W Z] d b, V Z g, V Z i, V Z j, V Z l, V Z m, V Z n, V Z o, V Z p]]))))
   False))
  False)
  False)
 (R (XE.exit 0) [.ptr 0 0, .any] [.cells 65 [.ro [.str, W Z, W Z, W Z, W Z] d b, V Z g, V Z i, V Z j, V Z l, V Z m, V Z n, V Z o, V Z p]]))) (fun R => by kernel_rfl) ?_
  exact ch hG (fun h0 => cg h0 fun h1 => cg h1 fun h2 => ch h2 (fun h3 => h3.2) (fun h3 => cg h3 fun h4 => ch h4 (fun h5 => h5.2) (fun h5 => ch h5 (fun h6 => h6.2) (fun h6 => ch h6 (fun h7 => h7.2) (fun h7 => ⟨(_, _, _, _, _, _, _, _, _, _, _), rfl, rfl, h7⟩))))) (fun h0 => h0.2)
 ·intro s k h
  unfold g34_0 at h
  split at h <;> try exact h.elim
  rename_i e1
  rw [needs_iff] at h
  exact ⟨_, e1, _, (_, _, _, _, _, _, _, _, _, _, _), rfl, rfl, h.1 _ (List.mem_singleton.2 rfl), h.2⟩
def m34 (v : Nat) (H : Dat) (A C D E F G I J : Int) : Int :=
 (cond (decide ((↑v : Int) = 0)) 10 (cond (decide (5 < (↑v : Int))) 8 (cond ((o34_0 v H A C D E F G I J 0).getD default).1 ((o34_0 v H A C D E F G I J 0).getD default).2.1 (cond (bif (decide (m26 A C D = 0)) then false else true) (m26 A C D) (cond (bif (bif (m32 E 1 10000000) then false else true) then true else (decide (E < m29 A C D))) 2 (cond (bif (decide (m92 F G = 0)) then false else true) (m92 F G) (m92 I J)))))))
def n34 (v : Nat) (H : Dat) (A C D E F G I J : Int) : Bool :=
 (cond (decide ((↑v : Int) = 0)) true (cond (decide (5 < (↑v : Int))) true (((o34_0 v H A C D E F G I J 0).isSome) && true)))
def q34 (r : Int) : SV × List Blk × List Blk := (V Z r, [], [])
def g34 : GF := fun vs bs => match vs, bs with
 | [.agg [.ro [.str, W Z, W Z, W Z, W Z] v H, V Z A, V Z C, V Z D, V Z E, V Z F, V Z G, V Z I, V Z J]], [] => some (rs 0 (q34 (m34 v H A C D E F G I J)) [n34 v H A C D E F G I J])
 | _, _ => none
def c34 : Ctr := genC [.a [.ro [.str, W Z, W Z, W Z, W Z], .k, .k, .k, .k, .k, .k, .k, .k]] g34
theorem k34 : CtrOk Try.prog c34 34 := cx (tc k26 (tc k32 (tc k29 (tc k90 (tc k91 (tc k92 tn)))))) mix_ok 8 (fn := Try.f34) (c := (Try.f34.body.getD .skip)) (grs := []) (rh := .k) Try.func34 rfl (by kernel_rfl) (lam_of rfl (lc z34_2 (lc z34_0 ln))) fun vs bs q h hn => by
 unfold g34 at h
 split at h <;> cases h
 rename_i v H A C D E F G I J
 have hn := n1 hn
 exact ⟨_, rfl, ca (fun R => 
 let a0 := (o34_0 v H A C D E F G I J 0)
 (cnd (decide ((↑v : Int) = 0))
 (R (V Z 10) [] [])
 (cnd (decide (5 < (↑v : Int)))
 (R (V Z 8) [] [])
 (cnd (a0.isSome)
 (cnd (a0.getD default).1
 (R (V Z (a0.getD default).2.1) [] [])
 (cnd (bif (decide (m26 A C D = 0)) then false else true)
 (R (V Z (m26 A C D)) [] [])
 (cnd (bif (bif (m32 E 1 10000000) then false else true) then true else (decide (E < m29 A C D)))
 (R (V Z 2) [] [])
 (cnd (bif (decide (m92 F G = 0)) then false else true)
 (R (V Z (m92 F G)) [] [])
 (R (V Z (m92 I J)) [] [])))))
  False)))) (fun R => by kernel_rfl) (co (fun h0 => lf (cT h0 rfl) rfl) (fun h0 => co (fun h1 => lf (cF h0 (cT h1 rfl)) rfl) (fun h1 => cn (al (cf h1 (cf h0 hn))) (co (fun h2 => lf (cF h0 (cF h1 (cT h2 rfl))) rfl) (fun h2 => co (fun h3 => lf (cF h0 (cF h1 (cF h2 (cT h3 rfl)))) rfl) (fun h3 => co (fun h4 => lf (cF h0 (cF h1 (cF h2 (cF h3 (cT h4 rfl))))) rfl) (fun h4 => co (fun h5 => lf (cF h0 (cF h1 (cF h2 (cF h3 (cF h4 (cT h5 rfl)))))) rfl) (fun h5 => lf (cF h0 (cF h1 (cF h2 (cF h3 (cF h4 (cF h5 rfl)))))) rfl))))))))⟩
/-! ### shotline/shotlinelaw06.Room -/
def m76  : Dat :=
 (datS [SV.str { data := #[98, 97, 110, 107] }, V Z 50000, V Z 300000, SV.str { data := #[115, 49, 50] }, V Z 12000, V Z 232000] 3)
def q76 (r : Dat) : SV × List Blk × List Blk := (.ro [.str, W Z, W Z] 2 r, [], [])
def g76 : GF := fun vs bs => match vs, bs with
 | [], [] => some (rs 0 (q76 (m76)) [])
 | _, _ => none
def c76 : Ctr := genC [] g76
theorem k76 : CtrOk Try.prog c76 76 := cx tn mix_ok 8 (fn := Try.f76) (c := (Try.f76.body.getD .skip)) (grs := []) (rh := .ro [.str, W Z, W Z]) Try.func76 rfl (by kernel_rfl) noLam fun vs bs q h hn => by
 unfold g76 at h
 split at h <;> cases h
 exact ⟨_, rfl, ca (fun R => (R (.ro [.str, W Z, W Z] 2 (datS [SV.str { data := #[98, 97, 110, 107] }, V Z 50000, V Z 300000, SV.str { data := #[115, 49, 50] }, V Z 12000, V Z 232000] 3)) [] [])) (fun R => by kernel_rfl) (lf rfl rfl)⟩
/-! ### shotline/shotlinelaw06.Diary -/
def m77  : Dat :=
 (datS [V Z 0, V Z 1, SV.str { data := #[] }, SV.str { data := #[98, 97, 110, 107] }, V Z 210, V Z 0, V Z 10000000, SV.bool false, V Z 1, V Z 1, SV.str { data := #[98, 97, 110, 107] }, SV.str { data := #[115, 49, 50] }, V Z 0, V Z 0, V Z 1900000, SV.bool false] 8)
def q77 (r : Dat) : SV × List Blk × List Blk := (.ro [W Z, W Z, .str, .str, W Z, W Z, W Z, .bool] 2 r, [], [])
def g77 : GF := fun vs bs => match vs, bs with
 | [], [] => some (rs 0 (q77 (m77)) [])
 | _, _ => none
def c77 : Ctr := genC [] g77
theorem k77 : CtrOk Try.prog c77 77 := cx tn mix_ok 8 (fn := Try.f77) (c := (Try.f77.body.getD .skip)) (grs := []) (rh := .ro [W Z, W Z, .str, .str, W Z, W Z, W Z, .bool]) Try.func77 rfl (by kernel_rfl) noLam fun vs bs q h hn => by
 unfold g77 at h
 split at h <;> cases h
 exact ⟨_, rfl, ca (fun R => (R (.ro [W Z, W Z, .str, .str, W Z, W Z, W Z, .bool] 2 (datS [V Z 0, V Z 1, SV.str { data := #[] }, SV.str { data := #[98, 97, 110, 107] }, V Z 210, V Z 0, V Z 10000000, SV.bool false, V Z 1, V Z 1, SV.str { data := #[98, 97, 110, 107] }, SV.str { data := #[115, 49, 50] }, V Z 0, V Z 0, V Z 1900000, SV.bool false] 8)) [] [])) (fun R => by kernel_rfl) (lf rfl rfl)⟩
/-! ### shotline/shotlinelaw06.Nitrox -/
def m78  : Dat × Int × Int × Int × Int × Int × Int × Int × Int :=
 ((datS [SV.str { data := #[97, 105, 114] }, V Z 210, V Z 0, V Z 2, V Z 10000, SV.str { data := #[111, 50] }, V Z 1000, V Z 0, V Z 50, V Z 5000] 5), 0, 0, 0, 790, 320, 340, 0, 0)
def q78 (r : Dat × Int × Int × Int × Int × Int × Int × Int × Int) : SV × List Blk × List Blk := (.agg [.ro [.str, W Z, W Z, W Z, W Z] 2 r.1, V Z r.2.1, V Z r.2.2.1, V Z r.2.2.2.1, V Z r.2.2.2.2.1, V Z r.2.2.2.2.2.1, V Z r.2.2.2.2.2.2.1, V Z r.2.2.2.2.2.2.2.1, V Z r.2.2.2.2.2.2.2.2], [], [])
def g78 : GF := fun vs bs => match vs, bs with
 | [], [] => some (rs 0 (q78 (m78)) [])
 | _, _ => none
def c78 : Ctr := genC [] g78
theorem k78 : CtrOk Try.prog c78 78 := cx tn mix_ok 8 (fn := Try.f78) (c := (Try.f78.body.getD .skip)) (grs := []) (rh := .t [.ro [.str, W Z, W Z, W Z, W Z], .k, .k, .k, .k, .k, .k, .k, .k]) Try.func78 rfl (by kernel_rfl) noLam fun vs bs q h hn => by
 unfold g78 at h
 split at h <;> cases h
 exact ⟨_, rfl, ca (fun R => (R (.agg [.ro [.str, W Z, W Z, W Z, W Z] 2 (datS [SV.str { data := #[97, 105, 114] }, V Z 210, V Z 0, V Z 2, V Z 10000, SV.str { data := #[111, 50] }, V Z 1000, V Z 0, V Z 50, V Z 5000] 5), V Z 0, V Z 0, V Z 0, V Z 790, V Z 320, V Z 340, V Z 0, V Z 0]) [] [])) (fun R => by kernel_rfl) (lf rfl rfl)⟩
/-! ### shotline/shotlineref06.Value -/
def l116_0 (S : Bool) (i : Nat) (b : Dat) (t u v w x y z A j l m n o p : Int) : Nat → Int → Int → Option (Int)
 | 0, _, _ => none
 | f + 1, U, g => (cond (decide (g < (↑i : Int))) (cond (decide (0 ≤ g ∧ g < ↑i)) (cond (S) (l116_0 S i b t u v w x y z A j l m n o p f (Z.wrap (U - Z.wrap (b.ii g.toNat (0 + 1 + 1 + 1 + 1) * imax 0 (Z.wrap (Z.wrap (Z.wrap (j + Z.wrap (b.ii g.toNat (0 + 1) * Z.wrap (l - m))) + Z.wrap (b.ii g.toNat (0 + 1 + 1) * Z.wrap (n - o))) - 0))))) (Z.wrap (g + 1))) (l116_0 S i b t u v w x y z A j l m n o p f (Z.wrap (U - Z.wrap (b.ii g.toNat (0 + 1 + 1 + 1 + 1) * imax 0 (Z.wrap (Z.wrap (Z.wrap (j + Z.wrap (b.ii g.toNat (0 + 1) * Z.wrap (l - m))) + Z.wrap (b.ii g.toNat (0 + 1 + 1) * Z.wrap (n - o))) - Z.wrap (p * b.ii g.toNat (0 + 1 + 1 + 1))))))) (Z.wrap (g + 1)))) none) (some U))
abbrev o116_0 (S : Bool) (i : Nat) (b : Dat) (t u v w x y z A j l m n o p U g : Int) : Option (Int) := l116_0 S i b t u v w x y z A j l m n o p (U.toNat + g.toNat + i + t.toNat + u.toNat + v.toNat + w.toNat + x.toNat + y.toNat + z.toNat + A.toNat + j.toNat + l.toNat + m.toNat + n.toNat + o.toNat + p.toNat + 8) U g
def e116_0 (S : Bool) (i : Nat) (b : Dat) (t u v w x y z A j l m n o p r : Int) (K : XR) : Prop := K (XE.exit 0) [V Z r] [.cells 65 [.ro [.str, W Z, W Z, W Z, W Z] i b, V Z t, V Z u, V Z v, V Z w, V Z x, V Z y, V Z z, V Z A], .cells 73 [V Z j, V Z l, V Z m, V Z n, V Z o, V Z p]]
def g116_0 : LSum := fun s k => match czv 0 129 [2, 3, 4, 9, 10] 2 [] s with
 | some ([.bool S, .ptr 0 0, .ptr 1 0, V Z U, V Z g], [.cells 65 [.ro [.str, W Z, W Z, W Z, W Z] i b, V Z t, V Z u, V Z v, V Z w, V Z x, V Z y, V Z z, V Z A], .cells 73 [V Z j, V Z l, V Z m, V Z n, V Z o, V Z p]]) => needs [(o116_0 S i b t u v w x y z A j l m n o p U g).isSome] (e116_0 S i b t u v w x y z A j l m n o p ((o116_0 S i b t u v w x y z A j l m n o p U g).getD default) fun e vs bs => inBlk 0 k e (mkSt 0 129 [9] vs 2 bs))
 | _ => False
theorem z116_0 : LOk Try.prog g116_0 (.block 0 (bodyAt (Try.f116.body.getD .skip) 0)) := by
 refine lb (ι := Bool × Int × Int × Nat × Dat × Int × Int × Int × Int × Int × Int × Int × Int × Int × Int × Int × Int × Int × Int) (fuel := 8) (na := 0) (nt := 129) (nx := 2) (Lh := [2, 3, 4, 9, 10]) (Le := [9]) (gl := []) (tc k29 tn) mix_ok noLam rfl (fun f (S, U, g, i, b, t, u, v, w, x, y, z, A, j, l, m, n, o, p) K => GG default (e116_0 S i b t u v w x y z A j l m n o p) K (l116_0 S i b t u v w x y z A j l m n o p f U g)) (fun (S, U, g, i, b, t, u, v, w, x, y, z, A, j, l, m, n, o, p) => [.bool S, .ptr 0 0, .ptr 1 0, V Z U, V Z g]) (fun (S, U, g, i, b, t, u, v, w, x, y, z, A, j, l, m, n, o, p) => [.cells 65 [.ro [.str, W Z, W Z, W Z, W Z] i b, V Z t, V Z u, V Z v, V Z w, V Z x, V Z y, V Z z, V Z A], .cells 73 [V Z j, V Z l, V Z m, V Z n, V Z o, V Z p]]) (fun (_, _, _, _, _, _, _, _, _, _, _, _, _, _, _, _, _, _, _) K => gg_none) ?_ ?_
 ·rintro f ⟨S, U, g, i, b, t, u, v, w, x, y, z, A, j, l, m, n, o, p⟩ K hG
  refine ro (fun R => 
 let a0 := (Z.wrap (j + Z.wrap (b.ii g.toNat (0 + 1) * Z.wrap (l - m))) + Z.wrap (b.ii g.toNat (0 + 1 + 1) * Z.wrap (n - o)))
 (cnd (decide (g < (↑i : Int)))
 (cnd (decide (0 ≤ g ∧ g < ↑i))
 (cnd (S)
 (R (XE.normal) [.bool S, .ptr 0 0, .ptr 1 0, V Z (Z.wrap (U - Z.wrap (b.ii g.toNat (0 + 1 + 1 + 1 + 1) * imax 0 (Z.wrap (Z.wrap a0 - 0))))), V Z (Z.wrap (g + 1))] [.cells 65 [.ro [.str, W Z, W Z, W Z, W Z] i b, V Z t, V Z u, V Z v, V Z w, V Z x, V Z y, V Z z, V Z A], .cells 73 [V Z j, V Z l, V Z m, V Z n, V Z o, V Z p]])
 (R (XE.normal) [.bool S, .ptr 0 0, .ptr 1 0, V Z (Z.wrap (U - Z.wrap (b.ii g.toNat (0 + 1 + 1 + 1 + 1) * imax 0 (Z.wrap (Z.wrap a0 - Z.wrap (p * b.ii g.toNat (0 + 1 + 1 + 1))))))), V Z (Z.wrap (g + 1))] [.cells 65 [.ro [.str, W Z, W Z, W Z, W Z] i b, V Z t, V Z u, V Z v, V Z w, V Z x, V Z y, V Z z, V Z A], .cells 73 [V Z j, V Z l, V Z m, V Z n, V Z o, V Z p]]))
  False)
 (R (XE.exit 0) [V Z U] [.cells 65 [.ro [.str, W Z, W Z, W Z, W Z] i b, V Z t, V Z u, V Z v, V Z w, V Z x, V Z y, V Z z, V Z A], .cells 73 [V Z j, V Z l, V Z m, V Z n, V Z o, V Z p]]))) (fun R => by kernel_rfl) ?_
  exact ch hG (fun h0 => cg h0 fun h1 => ch h1 (fun h2 => ⟨(_, _, _, _, _, _, _, _, _, _, _, _, _, _, _, _, _, _, _), rfl, rfl, h2⟩) (fun h2 => ⟨(_, _, _, _, _, _, _, _, _, _, _, _, _, _, _, _, _, _, _), rfl, rfl, h2⟩)) (fun h0 => h0.2)
 ·intro s k h
  unfold g116_0 at h
  split at h <;> try exact h.elim
  rename_i e1
  rw [needs_iff] at h
  exact ⟨_, e1, _, (_, _, _, _, _, _, _, _, _, _, _, _, _, _, _, _, _, _, _), rfl, rfl, h.1 _ (List.mem_singleton.2 rfl), h.2⟩
def m116 (P : Nat) (Q : Dat) (C D E d F G H I J L M N O T : Int) (X : Bool) : Int :=
 ((o116_0 X P Q C D E d F G H I J L M N O T (Z.wrap (Z.wrap (Z.wrap (Z.wrap (Z.wrap (J * Z.wrap (d - m29 C D E)) + Z.wrap (L * Z.wrap (Z.wrap (F * d) - Z.wrap (1000 * C)))) - Z.wrap (M * Z.wrap (Z.wrap (G * d) - Z.wrap (1000 * C)))) + Z.wrap (N * Z.wrap (Z.wrap (H * d) - Z.wrap (1000 * D)))) - Z.wrap (O * Z.wrap (Z.wrap (I * d) - Z.wrap (1000 * D))))) 0).getD default)
def n116 (P : Nat) (Q : Dat) (C D E d F G H I J L M N O T : Int) (X : Bool) : Bool :=
 (((o116_0 X P Q C D E d F G H I J L M N O T (Z.wrap (Z.wrap (Z.wrap (Z.wrap (Z.wrap (J * Z.wrap (d - m29 C D E)) + Z.wrap (L * Z.wrap (Z.wrap (F * d) - Z.wrap (1000 * C)))) - Z.wrap (M * Z.wrap (Z.wrap (G * d) - Z.wrap (1000 * C)))) + Z.wrap (N * Z.wrap (Z.wrap (H * d) - Z.wrap (1000 * D)))) - Z.wrap (O * Z.wrap (Z.wrap (I * d) - Z.wrap (1000 * D))))) 0).isSome) && true)
def q116 (r : Int) : SV × List Blk × List Blk := (V Z r, [], [])
def g116 : GF := fun vs bs => match vs, bs with
 | [.agg [.ro [.str, W Z, W Z, W Z, W Z] P Q, V Z C, V Z D, V Z E, V Z d, V Z F, V Z G, V Z H, V Z I], .agg [V Z J, V Z L, V Z M, V Z N, V Z O, V Z T], .bool X], [] => some (rs 0 (q116 (m116 P Q C D E d F G H I J L M N O T X)) [n116 P Q C D E d F G H I J L M N O T X])
 | _, _ => none
def c116 : Ctr := genC [.a [.ro [.str, W Z, W Z, W Z, W Z], .k, .k, .k, .k, .k, .k, .k, .k], .k, .k] g116
theorem k116 : CtrOk Try.prog c116 116 := cx (tc k29 tn) mix_ok 8 (fn := Try.f116) (c := (Try.f116.body.getD .skip)) (grs := []) (rh := .k) Try.func116 rfl (by kernel_rfl) (lam_of rfl (lc z116_0 ln)) fun vs bs q h hn => by
 unfold g116 at h
 split at h <;> cases h
 rename_i P Q C D E d F G H I J L M N O T X
 have hn := n1 hn
 exact ⟨_, rfl, ca (fun R => 
 let a0 := (o116_0 X P Q C D E d F G H I J L M N O T (Z.wrap (Z.wrap (Z.wrap (Z.wrap (Z.wrap (J * Z.wrap (d - m29 C D E)) + Z.wrap (L * Z.wrap (Z.wrap (F * d) - Z.wrap (1000 * C)))) - Z.wrap (M * Z.wrap (Z.wrap (G * d) - Z.wrap (1000 * C)))) + Z.wrap (N * Z.wrap (Z.wrap (H * d) - Z.wrap (1000 * D)))) - Z.wrap (O * Z.wrap (Z.wrap (I * d) - Z.wrap (1000 * D))))) 0)
 (cnd (a0.isSome)
 (R (V Z (a0.getD default)) [] [])
 False)) (fun R => by kernel_rfl) (cn (al hn) (lf rfl rfl))⟩

/-! ### shotline/mix.checkContent -/
def m81 (a b d : Int) : Int :=
 (cond (bif (m120c121 ((↑3 : Int) - 0).toNat (datS [V Z (m82 a b d).1, V Z (m82 a b d).2.1, V Z (m82 a b d).2.2] 1)) then true else (decide ((1000000000 : Int) < m84 (m82 a b d).1 (m82 a b d).2.1 (m82 a b d).2.2))) 2 0)
def n81 (a b d : Int) : Bool :=
 ((n120c121 ((↑3 : Int) - 0).toNat (datS [V Z (m82 a b d).1, V Z (m82 a b d).2.1, V Z (m82 a b d).2.2] 1)) && true)
def q81 (r : Int) : SV × List Blk × List Blk := (V Z r, [], [])
def g81 : GF := fun vs bs => match vs, bs with
 | [.agg [V Z a, V Z b, V Z d]], [] => some (rs 0 (q81 (m81 a b d)) [n81 a b d])
 | _, _ => none
def c81 : Ctr := genC [.k] g81
theorem k81 : CtrOk Try.prog c81 81 := cx (tc k82 (tc k84 (tc k120c121 (tc k121 tn)))) mix_ok 8 (fn := Try.f81) (c := (Try.f81.body.getD .skip)) (grs := []) (rh := .k) Try.func81 rfl (by kernel_rfl) noLam fun vs bs q h hn => by
 unfold g81 at h
 split at h <;> cases h
 rename_i a b d
 have hn := n1 hn
 exact ⟨_, rfl, ca (fun R => (cnd (n120c121 ((↑3 : Int) - 0).toNat (datS [V Z (m82 a b d).1, V Z (m82 a b d).2.1, V Z (m82 a b d).2.2] 1))
 (cnd (bif (m120c121 ((↑3 : Int) - 0).toNat (datS [V Z (m82 a b d).1, V Z (m82 a b d).2.1, V Z (m82 a b d).2.2] 1)) then true else (decide ((1000000000 : Int) < m84 (m82 a b d).1 (m82 a b d).2.1 (m82 a b d).2.2)))
 (R (V Z 2) [] [])
 (R (V Z 0) [] []))
 False)) (fun R => by kernel_rfl) (cn (al hn) (co (fun h0 => lf (cT h0 rfl) rfl) (fun h0 => lf (cF h0 rfl) rfl)))⟩
/-! ### shotline/mix.isProof -/
def m98 (a d e g i b : Int) : Bool :=
 (bif (bif (m83 b 1 1000000) then (m83 a (-10000000000) 10000000000) else false) then (bif (m120c140 ((↑4 : Int) - 0).toNat (datS [V Z d, V Z e, V Z g, V Z i] 1)) then false else true) else false)
def n98 (a d e g i b : Int) : Bool :=
 ((bif (bif (bif (m83 b 1 1000000) then (m83 a (-10000000000) 10000000000) else false) then false else true) then true else true) && ((bif (bif (bif (m83 b 1 1000000) then (m83 a (-10000000000) 10000000000) else false) then false else true) then true else (n120c140 ((↑4 : Int) - 0).toNat (datS [V Z d, V Z e, V Z g, V Z i] 1))) && true))
def q98 (r : Bool) : SV × List Blk × List Blk := (.bool r, [], [])
def g98 : GF := fun vs bs => match vs, bs with
 | [.agg [V Z a, V Z d, V Z e, V Z g, V Z i, V Z b]], [] => some (rs 0 (q98 (m98 a d e g i b)) [n98 a d e g i b])
 | _, _ => none
def c98 : Ctr := genC [.k] g98
theorem k98 : CtrOk Try.prog c98 98 := cx (tc k83 (tc k120c140 (tc k140 tn))) mix_ok 8 (fn := Try.f98) (c := (Try.f98.body.getD .skip)) (grs := []) (rh := .k) Try.func98 rfl (by kernel_rfl) noLam fun vs bs q h hn => by
 unfold g98 at h
 split at h <;> cases h
 rename_i a d e g i b
 have hn := n1 hn
 exact ⟨_, rfl, ca (fun R => 
 let a0 := (bif (m83 b 1 1000000) then (m83 a (-10000000000) 10000000000) else false)
 (cnd (bif (bif a0 then false else true) then true else true)
 (cnd (bif (bif a0 then false else true) then true else (n120c140 ((↑4 : Int) - 0).toNat (datS [V Z d, V Z e, V Z g, V Z i] 1)))
 (R (.bool (bif a0 then (bif (m120c140 ((↑4 : Int) - 0).toNat (datS [V Z d, V Z e, V Z g, V Z i] 1)) then false else true) else false)) [] [])
  False)
 False)) (fun R => by kernel_rfl) (cn (al hn) (cn (al (ar hn)) (lf rfl rfl)))⟩
/-! ### shotline/mix.CheckTask -/
def l75_1 (g : Nat) (b : Dat) (D : Int) (j : Dat) (l m n o p t u v : Int) : Nat → Int → Option (Bool × (Int) × (Unit))
 | 0, _ => none
 | f + 1, d => (cond (decide (d < D)) (cond (decide (0 ≤ d ∧ d < ↑g)) (cond (n104 (b.ss d.toNat 0)) (cond (bif (m104 (b.ss d.toNat 0)) then false else true) (some (true, 4, default)) (cond (decide ((0 : Int) ≤ (0 : Int) ∧ (0 : Int) ≤ d ∧ d ≤ (↑g : Int))) (cond (n117c118 (d - 0).toNat j (datC [SV.str (b.ss d.toNat 0), V Z (b.ii d.toNat (0 + 1)), V Z (b.ii d.toNat (0 + 1 + 1)), V Z (b.ii d.toNat (0 + 1 + 1 + 1)), V Z (b.ii d.toNat (0 + 1 + 1 + 1 + 1))])) (cond (m117c118 (d - 0).toNat j (datC [SV.str (b.ss d.toNat 0), V Z (b.ii d.toNat (0 + 1)), V Z (b.ii d.toNat (0 + 1 + 1)), V Z (b.ii d.toNat (0 + 1 + 1 + 1)), V Z (b.ii d.toNat (0 + 1 + 1 + 1 + 1))])) (some (true, 5, default)) (cond (n88 (b.ii d.toNat (0 + 1)) (b.ii d.toNat (0 + 1 + 1))) (cond (bif (decide (m88 (b.ii d.toNat (0 + 1)) (b.ii d.toNat (0 + 1 + 1)) = 0)) then false else true) (some (true, (m88 (b.ii d.toNat (0 + 1)) (b.ii d.toNat (0 + 1 + 1))), default)) (cond (bif (bif (m83 (b.ii d.toNat (0 + 1 + 1 + 1)) 0 1000) then false else true) then true else (bif (m83 (b.ii d.toNat (0 + 1 + 1 + 1 + 1)) 0 10000000) then false else true)) (some (true, 2, default)) (l75_1 g b D j l m n o p t u v f (Z.wrap (d + 1))))) none)) none) none)) none) none) (some (false, default, ())))
abbrev o75_1 (g : Nat) (b : Dat) (D : Int) (j : Dat) (l m n o p t u v d : Int) : Option (Bool × (Int) × (Unit)) := l75_1 g b D j l m n o p t u v (g + D.toNat + d.toNat + l.toNat + m.toNat + n.toNat + o.toNat + p.toNat + t.toNat + u.toNat + v.toNat + 8) d
def e75_1 (g : Nat) (b : Dat) (D : Int) (j : Dat) (l m n o p t u v : Int) (r : Bool × (Int) × (Unit)) (K : XR) : Prop := cnd r.1 (K (XE.ret) [.ptr 0 0, V Z r.2.1] [.cells 65 [.ro [.str, W Z, W Z, W Z, W Z] g j, V Z l, V Z m, V Z n, V Z o, V Z p, V Z t, V Z u, V Z v]]) (K (XE.exit 1) [.ptr 0 0, .any] [.cells 65 [.ro [.str, W Z, W Z, W Z, W Z] g j, V Z l, V Z m, V Z n, V Z o, V Z p, V Z t, V Z u, V Z v]])
def g75_1 : LSum := fun s k => match czv 0 79 [1, 19, 20, 21] 1 [] s with
 | some ([.ptr 0 0, .ro [.str, W Z, W Z, W Z, W Z] g b, V Z D, V Z d], [.cells 65 [.ro [.str, W Z, W Z, W Z, W Z] b0_0 j, V Z l, V Z m, V Z n, V Z o, V Z p, V Z t, V Z u, V Z v]]) => needs [decide (g = b0_0), (o75_1 g b D j l m n o p t u v d).isSome] (e75_1 g b D j l m n o p t u v ((o75_1 g b D j l m n o p t u v d).getD default) fun e vs bs => inBlk 1 k e (mkSt 0 79 [1, 2] vs 1 bs))
 | _ => False
theorem z75_1 : LOk Try.prog g75_1 (.block 1 (bodyAt (Try.f75.body.getD .skip) 1)) := by
 refine lb (ι := Nat × Dat × Int × Int × Dat × Int × Int × Int × Int × Int × Int × Int × Int) (fuel := 8) (na := 0) (nt := 79) (nx := 1) (Lh := [1, 19, 20, 21]) (Le := [1, 2]) (gl := []) (tc k81 (tc k82 (tc k83 (tc k84 (tc k104 (tc k88 (tc k117c118 (tc k118 (tc k119 tn))))))))) mix_ok noLam rfl (fun f (g, b, D, d, j, l, m, n, o, p, t, u, v) K => GG default (e75_1 g b D j l m n o p t u v) K (l75_1 g b D j l m n o p t u v f d)) (fun (g, b, D, d, j, l, m, n, o, p, t, u, v) => [.ptr 0 0, .ro [.str, W Z, W Z, W Z, W Z] g b, V Z D, V Z d]) (fun (g, b, D, d, j, l, m, n, o, p, t, u, v) => [.cells 65 [.ro [.str, W Z, W Z, W Z, W Z] g j, V Z l, V Z m, V Z n, V Z o, V Z p, V Z t, V Z u, V Z v]]) (fun (_, _, _, _, _, _, _, _, _, _, _, _, _) K => gg_none) ?_ ?_
 ·rintro f ⟨g, b, D, d, j, l, m, n, o, p, t, u, v⟩ K hG
  refine ro (fun R => 
 let b0 := (b.ii d.toNat (0 + 1 + 1))
 let a0 := (datC [SV.str (b.ss d.toNat 0), V Z (b.ii d.toNat (0 + 1)), V Z b0, V Z (b.ii d.toNat (0 + 1 + 1 + 1)), V Z (b.ii d.toNat (0 + 1 + 1 + 1 + 1))])
 (cnd (decide (d < D))
 (cnd (decide (0 ≤ d ∧ d < ↑g))
 (cnd (n104 (b.ss d.toNat 0))
 (cnd (bif (m104 (b.ss d.toNat 0)) then false else true)
 (R (XE.ret) [.ptr 0 0, V Z 4] [.cells 65 [.ro [.str, W Z, W Z, W Z, W Z] g j, V Z l, V Z m, V Z n, V Z o, V Z p, V Z t, V Z u, V Z v]])
 (cnd (decide ((0 : Int) ≤ (0 : Int) ∧ (0 : Int) ≤ d ∧ d ≤ (↑g : Int)))
 (cnd (n117c118 (d - 0).toNat j a0)
 (cnd (m117c118 (d - 0).toNat j a0)
 (R (XE.ret) [.ptr 0 0, V Z 5] [.cells 65 [.ro [.str, W Z, W Z, W Z, W Z] g j, V Z l, V Z m, V Z n, V Z o, V Z p, V Z t, V Z u, V Z v]])
 (cnd (n88 (b.ii d.toNat (0 + 1)) b0)
 (cnd (bif (decide (m88 (b.ii d.toNat (0 + 1)) b0 = 0)) then false else true)
 (R (XE.ret) [.ptr 0 0, V Z (m88 (b.ii d.toNat (0 + 1)) b0)] [.cells 65 [.ro [.str, W Z, W Z, W Z, W Z] g j, V Z l, V Z m, V Z n, V Z o, V Z p, V Z t, V Z u, V Z v]])
 (cnd (bif (bif (m83 (b.ii d.toNat (0 + 1 + 1 + 1)) 0 1000) then false else true) then true else (bif (m83 (b.ii d.toNat (0 + 1 + 1 + 1 + 1)) 0 10000000) then false else true))
 (R (XE.ret) [.ptr 0 0, V Z 2] [.cells 65 [.ro [.str, W Z, W Z, W Z, W Z] g j, V Z l, V Z m, V Z n, V Z o, V Z p, V Z t, V Z u, V Z v]])
 (R (XE.normal) [.ptr 0 0, .ro [.str, W Z, W Z, W Z, W Z] g b, V Z D, V Z (Z.wrap (d + 1))] [.cells 65 [.ro [.str, W Z, W Z, W Z, W Z] g j, V Z l, V Z m, V Z n, V Z o, V Z p, V Z t, V Z u, V Z v]])))
     False))
    False)
   False))
  False)
  False)
 (R (XE.exit 1) [.ptr 0 0, .any] [.cells 65 [.ro [.str, W Z, W Z, W Z, W Z] g j, V Z l, V Z m, V Z n, V Z o, V Z p, V Z t, V Z u, V Z v]]))) (fun R => by kernel_rfl) ?_
  exact ch hG (fun h0 => cg h0 fun h1 => cg h1 fun h2 => ch h2 (fun h3 => h3.2) (fun h3 => cg h3 fun h4 => cg h4 fun h5 => ch h5 (fun h6 => h6.2) (fun h6 => cg h6 fun h7 => ch h7 (fun h8 => h8.2) (fun h8 => ch h8 (fun h9 => h9.2) (fun h9 => ⟨(_, _, _, _, _, _, _, _, _, _, _, _, _), rfl, rfl, h9⟩))))) (fun h0 => h0.2)
 ·intro s k h
  unfold g75_1 at h
  split at h <;> try exact h.elim
  rename_i e1
  rw [needs_iff] at h
  have hq := h.1
  simp only [List.mem_cons, forall_eq_or_imp, decide_eq_true_eq, List.not_mem_nil, false_imp_iff, implies_true, and_true] at hq
  obtain ⟨rfl, hq⟩ := hq
  exact ⟨_, e1, _, (_, _, _, _, _, _, _, _, _, _, _, _, _), rfl, rfl, hq, h.2⟩
def m75 (i : Nat) (w : Dat) (x y z E A C F G : Int) : Int :=
 (cond (decide ((↑i : Int) = 0)) 10 (cond (decide (5 < (↑i : Int))) 8 (cond ((o75_1 i w (↑i : Int) w x y z E A C F G 0).getD default).1 ((o75_1 i w (↑i : Int) w x y z E A C F G 0).getD default).2.1 (cond (bif (decide (m81 x y z = 0)) then false else true) (m81 x y z) (cond (bif (m83 E (imax 1 (m84 (m82 x y z).1 (m82 x y z).2.1 (m82 x y z).2.2)) 10000000) then false else true) 2 (cond (bif (decide (m119 A C = 0)) then false else true) (m119 A C) (m119 F G)))))))
def n75 (i : Nat) (w : Dat) (x y z E A C F G : Int) : Bool :=
 (cond (decide ((↑i : Int) = 0)) true (cond (decide (5 < (↑i : Int))) true (((o75_1 i w (↑i : Int) w x y z E A C F G 0).isSome) && (cond ((o75_1 i w (↑i : Int) w x y z E A C F G 0).getD default).1 true ((n81 x y z) && true)))))
def q75 (r : Int) : SV × List Blk × List Blk := (V Z r, [], [])
def g75 : GF := fun vs bs => match vs, bs with
 | [.agg [.ro [.str, W Z, W Z, W Z, W Z] i w, V Z x, V Z y, V Z z, V Z E, V Z A, V Z C, V Z F, V Z G]], [] => some (rs 0 (q75 (m75 i w x y z E A C F G)) [n75 i w x y z E A C F G])
 | _, _ => none
def c75 : Ctr := genC [.a [.ro [.str, W Z, W Z, W Z, W Z], .k, .k, .k, .k, .k, .k, .k, .k]] g75
theorem k75 : CtrOk Try.prog c75 75 := cx (tc k81 (tc k82 (tc k83 (tc k84 (tc k104 (tc k88 (tc k117c118 (tc k118 (tc k119 tn))))))))) mix_ok 8 (fn := Try.f75) (c := (Try.f75.body.getD .skip)) (grs := []) (rh := .k) Try.func75 rfl (by kernel_rfl) (lam_of rfl (lc z75_1 ln)) fun vs bs q h hn => by
 unfold g75 at h
 split at h <;> cases h
 rename_i i w x y z E A C F G
 have hn := n1 hn
 exact ⟨_, rfl, ca (fun R => 
 let a0 := (o75_1 i w (↑i : Int) w x y z E A C F G 0)
 (cnd (decide ((↑i : Int) = 0))
 (R (V Z 10) [] [])
 (cnd (decide (5 < (↑i : Int)))
 (R (V Z 8) [] [])
 (cnd (decide (i = i))
 (cnd (a0.isSome)
 (cnd (a0.getD default).1
 (R (V Z (a0.getD default).2.1) [] [])
 (cnd (n81 x y z)
 (cnd (bif (decide (m81 x y z = 0)) then false else true)
 (R (V Z (m81 x y z)) [] [])
 (cnd (bif (m83 E (imax 1 (m84 (m82 x y z).1 (m82 x y z).2.1 (m82 x y z).2.2)) 10000000) then false else true)
 (R (V Z 2) [] [])
 (cnd (bif (decide (m119 A C = 0)) then false else true)
 (R (V Z (m119 A C)) [] [])
 (R (V Z (m119 F G)) [] []))))
    False))
   False)
  False)))) (fun R => by kernel_rfl) (co (fun h0 => lf (cT h0 rfl) rfl) (fun h0 => co (fun h1 => lf (cF h0 (cT h1 rfl)) rfl) (fun h1 => cn (decide_eq_true rfl) (cn (al (cf h1 (cf h0 hn))) (co (fun h2 => lf (cF h0 (cF h1 (cT h2 rfl))) rfl) (fun h2 => cn (al (cf h2 (ar (cf h1 (cf h0 hn))))) (co (fun h3 => lf (cF h0 (cF h1 (cF h2 (cT h3 rfl)))) rfl) (fun h3 => co (fun h4 => lf (cF h0 (cF h1 (cF h2 (cF h3 (cT h4 rfl))))) rfl) (fun h4 => co (fun h5 => lf (cF h0 (cF h1 (cF h2 (cF h3 (cF h4 (cT h5 rfl)))))) rfl) (fun h5 => lf (cF h0 (cF h1 (cF h2 (cF h3 (cF h4 (cF h5 rfl)))))) rfl))))))))))⟩
/-! ### shotline/shotlineref06.CheckPlan -/
def l40_0 (v : Nat) (p : Dat) (D E F G H I J L : Int) (j : Nat) (o : Dat) (w : Int) : Nat → Int → Int → Int → Int → Int → Option (Bool × (Int × Int × Int × Int × Int × Int) × (Int × Int × Int × Int))
 | 0, _, _, _, _, _ => none
 | f + 1, M, N, O, P, d => (cond (decide (d < (↑j : Int))) (cond (decide (0 ≤ d ∧ d < ↑v)) (cond (decide (0 ≤ d ∧ d < ↑j)) (cond (bif (m32 (o.ii d.toNat 0) 0 (Z.wrap (w * p.ii d.toNat (0 + 1 + 1 + 1 + 1)))) then false else true) (some (true, (0, 20, M, N, O, P), default)) (cond (decide (0 ≤ d ∧ d < ↑j)) (cond (decide (0 ≤ d ∧ d < ↑j)) (cond (decide (0 ≤ d ∧ d < ↑j)) (cond (decide (0 ≤ d ∧ d < ↑j)) (l40_0 v p D E F G H I J L j o w f (Z.wrap (M + o.ii d.toNat 0)) (Z.wrap (N + Z.wrap (o.ii d.toNat 0 * p.ii d.toNat (0 + 1)))) (Z.wrap (O + Z.wrap (o.ii d.toNat 0 * p.ii d.toNat (0 + 1 + 1)))) (Z.wrap (P + Z.wrap (o.ii d.toNat 0 * p.ii d.toNat (0 + 1 + 1 + 1)))) (Z.wrap (d + 1))) none) none) none) none)) none) none) (some (false, default, (M, N, O, P))))
abbrev o40_0 (v : Nat) (p : Dat) (D E F G H I J L : Int) (j : Nat) (o : Dat) (w M N O P d : Int) : Option (Bool × (Int × Int × Int × Int × Int × Int) × (Int × Int × Int × Int)) := l40_0 v p D E F G H I J L j o w (M.toNat + N.toNat + O.toNat + P.toNat + d.toNat + v + D.toNat + E.toNat + F.toNat + G.toNat + H.toNat + I.toNat + J.toNat + L.toNat + j + w.toNat + 8) M N O P d
def e40_0 (v : Nat) (p : Dat) (D E F G H I J L : Int) (j : Nat) (o : Dat) (w : Int) (r : Bool × (Int × Int × Int × Int × Int × Int) × (Int × Int × Int × Int)) (K : XR) : Prop := cnd r.1 (K (XE.ret) [.ptr 0 0, .ptr 1 0, V Z r.2.1.1, V Z r.2.1.2.1, V Z r.2.1.2.2.1, V Z r.2.1.2.2.2.1, V Z r.2.1.2.2.2.2.1, V Z r.2.1.2.2.2.2.2] [.cells 65 [.ro [.str, W Z, W Z, W Z, W Z] v p, V Z D, V Z E, V Z F, V Z G, V Z H, V Z I, V Z J, V Z L], .cells 71 [.ro [W Z] j o, V Z w]]) (K (XE.exit 0) [.ptr 0 0, .ptr 1 0, .any, .any, V Z r.2.2.1, V Z r.2.2.2.1, V Z r.2.2.2.2.1, V Z r.2.2.2.2.2] [.cells 65 [.ro [.str, W Z, W Z, W Z, W Z] v p, V Z D, V Z E, V Z F, V Z G, V Z H, V Z I, V Z J, V Z L], .cells 71 [.ro [W Z] j o, V Z w]])
def g40_0 : LSum := fun s k => match czv 0 146 [2, 3, 6, 7, 8, 9, 10] 2 [] s with
 | some ([.ptr 0 0, .ptr 1 0, V Z M, V Z N, V Z O, V Z P, V Z d], [.cells 65 [.ro [.str, W Z, W Z, W Z, W Z] v p, V Z D, V Z E, V Z F, V Z G, V Z H, V Z I, V Z J, V Z L], .cells 71 [.ro [W Z] j o, V Z w]]) => needs [(o40_0 v p D E F G H I J L j o w M N O P d).isSome] (e40_0 v p D E F G H I J L j o w ((o40_0 v p D E F G H I J L j o w M N O P d).getD default) fun e vs bs => inBlk 0 k e (mkSt 0 146 [2, 3, 4, 5, 6, 7, 8, 9] vs 2 bs))
 | _ => False
theorem z40_0 : LOk Try.prog g40_0 (.block 0 (bodyAt (Try.f40.body.getD .skip) 0)) := by
 refine lb (ι := Int × Int × Int × Int × Int × Nat × Dat × Int × Int × Int × Int × Int × Int × Int × Int × Nat × Dat × Int) (fuel := 8) (na := 0) (nt := 146) (nx := 2) (Lh := [2, 3, 6, 7, 8, 9, 10]) (Le := [2, 3, 4, 5, 6, 7, 8, 9]) (gl := []) (tc k32 (tc k29 tn)) mix_ok noLam rfl (fun f (M, N, O, P, d, v, p, D, E, F, G, H, I, J, L, j, o, w) K => GG default (e40_0 v p D E F G H I J L j o w) K (l40_0 v p D E F G H I J L j o w f M N O P d)) (fun (M, N, O, P, d, v, p, D, E, F, G, H, I, J, L, j, o, w) => [.ptr 0 0, .ptr 1 0, V Z M, V Z N, V Z O, V Z P, V Z d]) (fun (M, N, O, P, d, v, p, D, E, F, G, H, I, J, L, j, o, w) => [.cells 65 [.ro [.str, W Z, W Z, W Z, W Z] v p, V Z D, V Z E, V Z F, V Z G, V Z H, V Z I, V Z J, V Z L], .cells 71 [.ro [W Z] j o, V Z w]]) (fun (_, _, _, _, _, _, _, _, _, _, _, _, _, _, _, _, _, _) K => gg_none) ?_ ?_
 ·rintro f ⟨M, N, O, P, d, v, p, D, E, F, G, H, I, J, L, j, o, w⟩ K hG
  refine ro (fun R => 
 let a0 := (decide (0 ≤ d ∧ d < ↑j))
 (cnd (decide (d < (↑j : Int)))
 (cnd (decide (0 ≤ d ∧ d < ↑v))
 (cnd a0
 (cnd (bif (m32 (o.ii d.toNat 0) 0 (Z.wrap (w * p.ii d.toNat (0 + 1 + 1 + 1 + 1)))) then false else true)
 (R (XE.ret) [.ptr 0 0, .ptr 1 0, V Z 0, V Z 20, V Z M, V Z N, V Z O, V Z P] [.cells 65 [.ro [.str, W Z, W Z, W Z, W Z] v p, V Z D, V Z E, V Z F, V Z G, V Z H, V Z I, V Z J, V Z L], .cells 71 [.ro [W Z] j o, V Z w]])
 (cnd a0
 (cnd a0
 (cnd a0
 (cnd a0
 (R (XE.normal) [.ptr 0 0, .ptr 1 0, V Z (Z.wrap (M + o.ii d.toNat 0)), V Z (Z.wrap (N + Z.wrap (o.ii d.toNat 0 * p.ii d.toNat (0 + 1)))), V Z (Z.wrap (O + Z.wrap (o.ii d.toNat 0 * p.ii d.toNat (0 + 1 + 1)))), V Z (Z.wrap (P + Z.wrap (o.ii d.toNat 0 * p.ii d.toNat (0 + 1 + 1 + 1)))), V Z (Z.wrap (d + 1))] [.cells 65 [.ro [.str, W Z, W Z, W Z, W Z] v p, V Z D, V Z E, V Z F, V Z G, V Z H, V Z I, V Z J, V Z L], .cells 71 [.ro [W Z] j o, V Z w]])
     False)
    False)
    False)
   False))
  False)
  False)
 (R (XE.exit 0) [.ptr 0 0, .ptr 1 0, .any, .any, V Z M, V Z N, V Z O, V Z P] [.cells 65 [.ro [.str, W Z, W Z, W Z, W Z] v p, V Z D, V Z E, V Z F, V Z G, V Z H, V Z I, V Z J, V Z L], .cells 71 [.ro [W Z] j o, V Z w]]))) (fun R => by kernel_rfl) ?_
  exact ch hG (fun h0 => cg h0 fun h1 => cg h1 fun h2 => ch h2 (fun h3 => h3.2) (fun h3 => cg h3 fun h4 => cg h4 fun h5 => cg h5 fun h6 => cg h6 fun h7 => ⟨(_, _, _, _, _, _, _, _, _, _, _, _, _, _, _, _, _, _), rfl, rfl, h7⟩)) (fun h0 => h0.2)
 ·intro s k h
  unfold g40_0 at h
  split at h <;> try exact h.elim
  rename_i e1
  rw [needs_iff] at h
  exact ⟨_, e1, _, (_, _, _, _, _, _, _, _, _, _, _, _, _, _, _, _, _, _), rfl, rfl, h.1 _ (List.mem_singleton.2 rfl), h.2⟩
def m40 (m : Nat) (t : Dat) (g i x l y z A C : Int) (n : Nat) (u : Dat) (b : Int) : Int × Int :=
 (cond (bif (decide ((↑n : Int) = (↑m : Int))) then false else true) (0, 10) (cond (bif (m32 b 1 1000000) then false else true) (0, 2) (cond ((o40_0 m t g i x l y z A C n u b 0 (Z.wrap (Z.wrap (1000 * b) * g)) (Z.wrap (Z.wrap (1000 * b) * i)) 0 0).getD default).1 (((o40_0 m t g i x l y z A C n u b 0 (Z.wrap (Z.wrap (1000 * b) * g)) (Z.wrap (Z.wrap (1000 * b) * i)) 0 0).getD default).2.1.1, ((o40_0 m t g i x l y z A C n u b 0 (Z.wrap (Z.wrap (1000 * b) * g)) (Z.wrap (Z.wrap (1000 * b) * i)) 0 0).getD default).2.1.2.1) (cond (bif (decide (((o40_0 m t g i x l y z A C n u b 0 (Z.wrap (Z.wrap (1000 * b) * g)) (Z.wrap (Z.wrap (1000 * b) * i)) 0 0).getD default).2.2.1 = Z.wrap (b * Z.wrap (l - m29 g i x)))) then false else true) (0, 23) (cond (bif (bif (m32 ((o40_0 m t g i x l y z A C n u b 0 (Z.wrap (Z.wrap (1000 * b) * g)) (Z.wrap (Z.wrap (1000 * b) * i)) 0 0).getD default).2.2.2.1 (Z.wrap (Z.wrap (b * l) * y)) (Z.wrap (Z.wrap (b * l) * z))) then false else true) then true else (bif (m32 ((o40_0 m t g i x l y z A C n u b 0 (Z.wrap (Z.wrap (1000 * b) * g)) (Z.wrap (Z.wrap (1000 * b) * i)) 0 0).getD default).2.2.2.2.1 (Z.wrap (Z.wrap (b * l) * A)) (Z.wrap (Z.wrap (b * l) * C))) then false else true)) (0, 26) (((o40_0 m t g i x l y z A C n u b 0 (Z.wrap (Z.wrap (1000 * b) * g)) (Z.wrap (Z.wrap (1000 * b) * i)) 0 0).getD default).2.2.2.2.2, 0))))))
def n40 (m : Nat) (t : Dat) (g i x l y z A C : Int) (n : Nat) (u : Dat) (b : Int) : Bool :=
 (cond (bif (decide ((↑n : Int) = (↑m : Int))) then false else true) true (cond (bif (m32 b 1 1000000) then false else true) true (((o40_0 m t g i x l y z A C n u b 0 (Z.wrap (Z.wrap (1000 * b) * g)) (Z.wrap (Z.wrap (1000 * b) * i)) 0 0).isSome) && true)))
def q40 (r : Int × Int) : SV × List Blk × List Blk := (.tup [V Z r.1, V Z r.2], [], [])
def g40 : GF := fun vs bs => match vs, bs with
 | [.agg [.ro [.str, W Z, W Z, W Z, W Z] m t, V Z g, V Z i, V Z x, V Z l, V Z y, V Z z, V Z A, V Z C], .agg [.ro [W Z] n u, V Z b]], [] => some (rs 0 (q40 (m40 m t g i x l y z A C n u b)) [n40 m t g i x l y z A C n u b])
 | _, _ => none
def c40 : Ctr := genC [.a [.ro [.str, W Z, W Z, W Z, W Z], .k, .k, .k, .k, .k, .k, .k, .k], .a [.ro [W Z], .k]] g40
theorem k40 : CtrOk Try.prog c40 40 := cx (tc k32 (tc k29 tn)) mix_ok 8 (fn := Try.f40) (c := (Try.f40.body.getD .skip)) (grs := []) (rh := .k) Try.func40 rfl (by kernel_rfl) (lam_of rfl (lc z40_0 ln)) fun vs bs q h hn => by
 unfold g40 at h
 split at h <;> cases h
 rename_i m t g i x l y z A C n u b
 have hn := n1 hn
 exact ⟨_, rfl, ca (fun R => 
 let a0 := (o40_0 m t g i x l y z A C n u b 0 (Z.wrap (Z.wrap (1000 * b) * g)) (Z.wrap (Z.wrap (1000 * b) * i)) 0 0)
 (cnd (bif (decide ((↑n : Int) = (↑m : Int))) then false else true)
 (R (.tup [V Z 0, V Z 10]) [] [])
 (cnd (bif (m32 b 1 1000000) then false else true)
 (R (.tup [V Z 0, V Z 2]) [] [])
 (cnd (a0.isSome)
 (cnd (a0.getD default).1
 (R (.tup [V Z (a0.getD default).2.1.1, V Z (a0.getD default).2.1.2.1]) [] [])
 (cnd (bif (decide ((a0.getD default).2.2.1 = Z.wrap (b * Z.wrap (l - m29 g i x)))) then false else true)
 (R (.tup [V Z 0, V Z 23]) [] [])
 (cnd (bif (bif (m32 (a0.getD default).2.2.2.1 (Z.wrap (Z.wrap (b * l) * y)) (Z.wrap (Z.wrap (b * l) * z))) then false else true) then true else (bif (m32 (a0.getD default).2.2.2.2.1 (Z.wrap (Z.wrap (b * l) * A)) (Z.wrap (Z.wrap (b * l) * C))) then false else true))
 (R (.tup [V Z 0, V Z 26]) [] [])
 (R (.tup [V Z (a0.getD default).2.2.2.2.2, V Z 0]) [] []))))
  False)))) (fun R => by kernel_rfl) (co (fun h0 => lf (cT h0 rfl) rfl) (fun h0 => co (fun h1 => lf (cF h0 (cT h1 rfl)) rfl) (fun h1 => cn (al (cf h1 (cf h0 hn))) (co (fun h2 => lf (cF h0 (cF h1 (cT h2 rfl))) rfl) (fun h2 => co (fun h3 => lf (cF h0 (cF h1 (cF h2 (cT h3 rfl)))) rfl) (fun h3 => co (fun h4 => lf (cF h0 (cF h1 (cF h2 (cF h3 (cT h4 rfl))))) rfl) (fun h4 => lf (cF h0 (cF h1 (cF h2 (cF h3 (cF h4 rfl))))) rfl)))))))⟩
/-! ### shotline/shotlineref06.CheckProof -/
def m72 (l : Nat) (m : Dat) (n o p s t u v w b d e g i j : Int) : Int × Int :=
 (cond (bif (decide (m115 b d e g i j = 0)) then false else true) (0, (m115 b d e g i j)) ((m116 l m n o p s t u v w b d e g i j false), 0))
def n72 (l : Nat) (m : Dat) (n o p s t u v w b d e g i j : Int) : Bool :=
 ((n115 b d e g i j) && (cond (bif (decide (m115 b d e g i j = 0)) then false else true) true ((n116 l m n o p s t u v w b d e g i j false) && true)))
def q72 (r : Int × Int) : SV × List Blk × List Blk := (.tup [V Z r.1, V Z r.2], [], [])
def g72 : GF := fun vs bs => match vs, bs with
 | [.agg [.ro [.str, W Z, W Z, W Z, W Z] l m, V Z n, V Z o, V Z p, V Z s, V Z t, V Z u, V Z v, V Z w], .agg [V Z b, V Z d, V Z e, V Z g, V Z i, V Z j]], [] => some (rs 0 (q72 (m72 l m n o p s t u v w b d e g i j)) [n72 l m n o p s t u v w b d e g i j])
 | _, _ => none
def c72 : Ctr := genC [.a [.ro [.str, W Z, W Z, W Z, W Z], .k, .k, .k, .k, .k, .k, .k, .k], .k] g72
theorem k72 : CtrOk Try.prog c72 72 := cx (tc k115 (tc k116 tn)) mix_ok 8 (fn := Try.f72) (c := (Try.f72.body.getD .skip)) (grs := []) (rh := .k) Try.func72 rfl (by kernel_rfl) noLam fun vs bs q h hn => by
 unfold g72 at h
 split at h <;> cases h
 rename_i l m n o p s t u v w b d e g i j
 have hn := n1 hn
 exact ⟨_, rfl, ca (fun R => (cnd (n115 b d e g i j)
 (cnd (bif (decide (m115 b d e g i j = 0)) then false else true)
 (R (.tup [V Z 0, V Z (m115 b d e g i j)]) [] [])
 (cnd (n116 l m n o p s t u v w b d e g i j false)
 (R (.tup [V Z (m116 l m n o p s t u v w b d e g i j false), V Z 0]) [] [])
  False))
 False)) (fun R => by kernel_rfl) (cn (al hn) (co (fun h0 => lf (cT h0 rfl) rfl) (fun h0 => cn (al (cf h0 (ar hn))) (lf (cF h0 rfl) rfl))))⟩
/-! ### (*shotline/mix.asked).cost -/
def l97_1 (u : Dat) (n : Nat) (i : Dat) (t : Int) (o : Nat) (l : Dat) (p : Int) : Nat → Int → Int → Int → Int → Int → Option (Bool × (Int × Int × Int × Int × Int × Int) × (Int × Int × Int × Int))
 | 0, _, _, _, _, _ => none
 | f + 1, v, w, x, y, g => (cond (decide (g < t)) (cond (decide (0 ≤ g ∧ g < ↑n)) (cond (decide (0 ≤ g ∧ g < ↑o)) (cond (bif (m83 (l.ii g.toNat 0) 0 (Z.wrap (p * i.ii g.toNat (0 + 1 + 1 + 1 + 1)))) then false else true) (some (true, (0, 20, v, w, x, y), default)) (l97_1 u n i t o l p f (Z.wrap (v + Z.wrap (l.ii g.toNat 0 * i.ii g.toNat (0 + 1 + 1 + 1)))) (Z.wrap (w + l.ii g.toNat 0)) (Z.wrap (x + Z.wrap (l.ii g.toNat 0 * i.ii g.toNat (0 + 1)))) (Z.wrap (y + Z.wrap (l.ii g.toNat 0 * i.ii g.toNat (0 + 1 + 1)))) (Z.wrap (g + 1)))) none) none) (some (false, default, (v, w, x, y))))
abbrev o97_1 (u : Dat) (n : Nat) (i : Dat) (t : Int) (o : Nat) (l : Dat) (p v w x y g : Int) : Option (Bool × (Int × Int × Int × Int × Int × Int) × (Int × Int × Int × Int)) := l97_1 u n i t o l p (v.toNat + w.toNat + x.toNat + y.toNat + n + t.toNat + g.toNat + o + p.toNat + 8) v w x y g
def e97_1 (u : Dat) (n : Nat) (i : Dat) (t : Int) (o : Nat) (l : Dat) (p : Int) (r : Bool × (Int × Int × Int × Int × Int × Int) × (Int × Int × Int × Int)) (K : XR) : Prop := cnd r.1 (K (XE.ret) [.rp [.sl [.str, W Z, W Z, W Z, W Z], W Z, W Z, W Z, W Z, W Z, W Z, W Z, W Z, W Z, W Z, W Z, W Z, W Z] u 0 0, .ptr 0 0, V Z r.2.1.1, V Z r.2.1.2.1, V Z r.2.1.2.2.1, V Z r.2.1.2.2.2.1, V Z r.2.1.2.2.2.2.1, V Z r.2.1.2.2.2.2.2] [.cells 71 [.ro [W Z] o l, V Z p]]) (K (XE.exit 1) [.rp [.sl [.str, W Z, W Z, W Z, W Z], W Z, W Z, W Z, W Z, W Z, W Z, W Z, W Z, W Z, W Z, W Z, W Z, W Z] u 0 0, .ptr 0 0, .any, .any, V Z r.2.2.1, V Z r.2.2.2.1, V Z r.2.2.2.2.1, V Z r.2.2.2.2.2] [.cells 71 [.ro [W Z] o l, V Z p]])
def g97_1 : LSum := fun s k => match czv 0 129 [0, 3, 6, 7, 8, 9, 33, 34, 35] 1 [] s with
 | some ([.rp [.sl [.str, W Z, W Z, W Z, W Z], W Z, W Z, W Z, W Z, W Z, W Z, W Z, W Z, W Z, W Z, W Z, W Z, W Z] u 0 0, .ptr 0 0, V Z v, V Z w, V Z x, V Z y, .ro [.str, W Z, W Z, W Z, W Z] n i, V Z t, V Z g], [.cells 71 [.ro [W Z] o l, V Z p]]) => needs [(o97_1 u n i t o l p v w x y g).isSome] (e97_1 u n i t o l p ((o97_1 u n i t o l p v w x y g).getD default) fun e vs bs => inBlk 1 k e (mkSt 0 129 [0, 3, 4, 5, 6, 7, 8, 9] vs 1 bs))
 | _ => False
theorem z97_1 : LOk Try.prog g97_1 (.block 1 (bodyAt (Try.f97.body.getD .skip) 1)) := by
 refine lb (ι := Dat × Int × Int × Int × Int × Nat × Dat × Int × Int × Nat × Dat × Int) (fuel := 8) (na := 0) (nt := 129) (nx := 1) (Lh := [0, 3, 6, 7, 8, 9, 33, 34, 35]) (Le := [0, 3, 4, 5, 6, 7, 8, 9]) (gl := []) (tc k83 tn) mix_ok noLam rfl (fun f (u, v, w, x, y, n, i, t, g, o, l, p) K => GG default (e97_1 u n i t o l p) K (l97_1 u n i t o l p f v w x y g)) (fun (u, v, w, x, y, n, i, t, g, o, l, p) => [.rp [.sl [.str, W Z, W Z, W Z, W Z], W Z, W Z, W Z, W Z, W Z, W Z, W Z, W Z, W Z, W Z, W Z, W Z, W Z] u 0 0, .ptr 0 0, V Z v, V Z w, V Z x, V Z y, .ro [.str, W Z, W Z, W Z, W Z] n i, V Z t, V Z g]) (fun (u, v, w, x, y, n, i, t, g, o, l, p) => [.cells 71 [.ro [W Z] o l, V Z p]]) (fun (_, _, _, _, _, _, _, _, _, _, _, _) K => gg_none) ?_ ?_
 ·rintro f ⟨u, v, w, x, y, n, i, t, g, o, l, p⟩ K hG
  refine ro (fun R => (cnd (decide (g < t))
 (cnd (decide (0 ≤ g ∧ g < ↑n))
 (cnd (decide (0 ≤ g ∧ g < ↑o))
 (cnd (bif (m83 (l.ii g.toNat 0) 0 (Z.wrap (p * i.ii g.toNat (0 + 1 + 1 + 1 + 1)))) then false else true)
 (R (XE.ret) [.rp [.sl [.str, W Z, W Z, W Z, W Z], W Z, W Z, W Z, W Z, W Z, W Z, W Z, W Z, W Z, W Z, W Z, W Z, W Z] u 0 0, .ptr 0 0, V Z 0, V Z 20, V Z v, V Z w, V Z x, V Z y] [.cells 71 [.ro [W Z] o l, V Z p]])
 (R (XE.normal) [.rp [.sl [.str, W Z, W Z, W Z, W Z], W Z, W Z, W Z, W Z, W Z, W Z, W Z, W Z, W Z, W Z, W Z, W Z, W Z] u 0 0, .ptr 0 0, V Z (Z.wrap (v + Z.wrap (l.ii g.toNat 0 * i.ii g.toNat (0 + 1 + 1 + 1)))), V Z (Z.wrap (w + l.ii g.toNat 0)), V Z (Z.wrap (x + Z.wrap (l.ii g.toNat 0 * i.ii g.toNat (0 + 1)))), V Z (Z.wrap (y + Z.wrap (l.ii g.toNat 0 * i.ii g.toNat (0 + 1 + 1)))), .ro [.str, W Z, W Z, W Z, W Z] n i, V Z t, V Z (Z.wrap (g + 1))] [.cells 71 [.ro [W Z] o l, V Z p]]))
  False)
  False)
 (R (XE.exit 1) [.rp [.sl [.str, W Z, W Z, W Z, W Z], W Z, W Z, W Z, W Z, W Z, W Z, W Z, W Z, W Z, W Z, W Z, W Z, W Z] u 0 0, .ptr 0 0, .any, .any, V Z v, V Z w, V Z x, V Z y] [.cells 71 [.ro [W Z] o l, V Z p]]))) (fun R => by kernel_rfl) ?_
  exact ch hG (fun h0 => cg h0 fun h1 => cg h1 fun h2 => ch h2 (fun h3 => h3.2) (fun h3 => ⟨(_, _, _, _, _, _, _, _, _, _, _, _), rfl, rfl, h3⟩)) (fun h0 => h0.2)
 ·intro s k h
  unfold g97_1 at h
  split at h <;> try exact h.elim
  rename_i e1
  rw [needs_iff] at h
  exact ⟨_, e1, _, (_, _, _, _, _, _, _, _, _, _, _, _), rfl, rfl, h.1 _ (List.mem_singleton.2 rfl), h.2⟩
def m97 (b : Dat) (j : Nat) (m : Dat) (d : Int) : Int × Int :=
 (cond (bif (decide ((↑j : Int) = (↑(b.sn 0 0) : Int))) then false else true) (0, 10) (cond (bif (m83 d 1 1000000) then false else true) (0, 2) (cond ((o97_1 b (b.sn 0 0) (b.sub 0 0) (↑(b.sn 0 0) : Int) j m d 0 0 0 0 0).getD default).1 (((o97_1 b (b.sn 0 0) (b.sub 0 0) (↑(b.sn 0 0) : Int) j m d 0 0 0 0 0).getD default).2.1.1, ((o97_1 b (b.sn 0 0) (b.sub 0 0) (↑(b.sn 0 0) : Int) j m d 0 0 0 0 0).getD default).2.1.2.1) (cond (bif (decide (((o97_1 b (b.sn 0 0) (b.sub 0 0) (↑(b.sn 0 0) : Int) j m d 0 0 0 0 0).getD default).2.2.2.1 = Z.wrap (d * b.ii 0 (0 + 1 + 1 + 1 + 1 + 1 + 1 + 1 + 1 + 1)))) then false else true) (0, 23) (cond (bif (bif (m83 ((o97_1 b (b.sn 0 0) (b.sub 0 0) (↑(b.sn 0 0) : Int) j m d 0 0 0 0 0).getD default).2.2.2.2.1 (Z.wrap (d * b.ii 0 (0 + 1 + 1 + 1 + 1 + 1 + 1 + 1 + 1 + 1 + 1))) (Z.wrap (d * b.ii 0 (0 + 1 + 1 + 1 + 1 + 1 + 1 + 1 + 1 + 1 + 1 + 1)))) then false else true) then true else (bif (m83 ((o97_1 b (b.sn 0 0) (b.sub 0 0) (↑(b.sn 0 0) : Int) j m d 0 0 0 0 0).getD default).2.2.2.2.2 (Z.wrap (d * b.ii 0 (0 + 1 + 1 + 1 + 1 + 1 + 1 + 1 + 1 + 1 + 1 + 1 + 1))) (Z.wrap (d * b.ii 0 (0 + 1 + 1 + 1 + 1 + 1 + 1 + 1 + 1 + 1 + 1 + 1 + 1 + 1)))) then false else true)) (0, 26) (((o97_1 b (b.sn 0 0) (b.sub 0 0) (↑(b.sn 0 0) : Int) j m d 0 0 0 0 0).getD default).2.2.1, 0))))))
def n97 (b : Dat) (j : Nat) (m : Dat) (d : Int) : Bool :=
 (cond (bif (decide ((↑j : Int) = (↑(b.sn 0 0) : Int))) then false else true) true (cond (bif (m83 d 1 1000000) then false else true) true (((o97_1 b (b.sn 0 0) (b.sub 0 0) (↑(b.sn 0 0) : Int) j m d 0 0 0 0 0).isSome) && true)))
def q97 (r : Int × Int) : SV × List Blk × List Blk := (.tup [V Z r.1, V Z r.2], [], [])
def g97 : GF := fun vs bs => match vs, bs with
 | [.rp [.sl [.str, W Z, W Z, W Z, W Z], W Z, W Z, W Z, W Z, W Z, W Z, W Z, W Z, W Z, W Z, W Z, W Z, W Z] b 0 0, .agg [.ro [W Z] j m, V Z d]], [] => some (rs 0 (q97 (m97 b j m d)) [n97 b j m d])
 | _, _ => none
def c97 : Ctr := genC [.rp [.sl [.str, W Z, W Z, W Z, W Z], W Z, W Z, W Z, W Z, W Z, W Z, W Z, W Z, W Z, W Z, W Z, W Z, W Z], .a [.ro [W Z], .k]] g97
theorem k97 : CtrOk Try.prog c97 97 := cx (tc k83 tn) mix_ok 8 (fn := Try.f97) (c := (Try.f97.body.getD .skip)) (grs := []) (rh := .k) Try.func97 rfl (by kernel_rfl) (lam_of rfl (lc z97_1 ln)) fun vs bs q h hn => by
 unfold g97 at h
 split at h <;> cases h
 rename_i b j m d
 have hn := n1 hn
 exact ⟨_, rfl, ca (fun R => 
 let a0 := ((o97_1 b (b.sn 0 0) (b.sub 0 0) (↑(b.sn 0 0) : Int) j m d 0 0 0 0 0).getD default)
 (cnd (bif (decide ((↑j : Int) = (↑(b.sn 0 0) : Int))) then false else true)
 (R (.tup [V Z 0, V Z 10]) [] [])
 (cnd (bif (m83 d 1 1000000) then false else true)
 (R (.tup [V Z 0, V Z 2]) [] [])
 (cnd ((o97_1 b (b.sn 0 0) (b.sub 0 0) (↑(b.sn 0 0) : Int) j m d 0 0 0 0 0).isSome)
 (cnd a0.1
 (R (.tup [V Z a0.2.1.1, V Z a0.2.1.2.1]) [] [])
 (cnd (bif (decide (a0.2.2.2.1 = Z.wrap (d * b.ii 0 (0 + 1 + 1 + 1 + 1 + 1 + 1 + 1 + 1 + 1)))) then false else true)
 (R (.tup [V Z 0, V Z 23]) [] [])
 (cnd (bif (bif (m83 a0.2.2.2.2.1 (Z.wrap (d * b.ii 0 (0 + 1 + 1 + 1 + 1 + 1 + 1 + 1 + 1 + 1 + 1))) (Z.wrap (d * b.ii 0 (0 + 1 + 1 + 1 + 1 + 1 + 1 + 1 + 1 + 1 + 1 + 1)))) then false else true) then true else (bif (m83 a0.2.2.2.2.2 (Z.wrap (d * b.ii 0 (0 + 1 + 1 + 1 + 1 + 1 + 1 + 1 + 1 + 1 + 1 + 1 + 1))) (Z.wrap (d * b.ii 0 (0 + 1 + 1 + 1 + 1 + 1 + 1 + 1 + 1 + 1 + 1 + 1 + 1 + 1)))) then false else true))
 (R (.tup [V Z 0, V Z 26]) [] [])
 (R (.tup [V Z a0.2.2.1, V Z 0]) [] []))))
  False)))) (fun R => by kernel_rfl) (co (fun h0 => lf (cT h0 rfl) rfl) (fun h0 => co (fun h1 => lf (cF h0 (cT h1 rfl)) rfl) (fun h1 => cn (al (cf h1 (cf h0 hn))) (co (fun h2 => lf (cF h0 (cF h1 (cT h2 rfl))) rfl) (fun h2 => co (fun h3 => lf (cF h0 (cF h1 (cF h2 (cT h3 rfl)))) rfl) (fun h3 => co (fun h4 => lf (cF h0 (cF h1 (cF h2 (cF h3 (cT h4 rfl))))) rfl) (fun h4 => lf (cF h0 (cF h1 (cF h2 (cF h3 (cF h4 rfl))))) rfl)))))))⟩
/-! ### (*shotline/mix.asked).value -/
def l99_0 (y : Int) (d : Nat) (a : Dat) (p g i j l m n : Int) : Nat → Int → Int → Option (Int)
 | 0, _, _ => none
 | f + 1, A, o => (cond (decide (o < p)) (cond (decide (0 ≤ o ∧ o < ↑d)) (l99_0 y d a p g i j l m n f (Z.wrap (A - Z.wrap (a.ii o.toNat (0 + 1 + 1 + 1 + 1) * imax 0 (Z.wrap (Z.wrap (Z.wrap (g + Z.wrap (a.ii o.toNat (0 + 1) * Z.wrap (i - j))) + Z.wrap (a.ii o.toNat (0 + 1 + 1) * Z.wrap (l - m))) - Z.wrap (Z.wrap (y * n) * a.ii o.toNat (0 + 1 + 1 + 1))))))) (Z.wrap (o + 1))) none) (some A))
abbrev o99_0 (y : Int) (d : Nat) (a : Dat) (p g i j l m n A o : Int) : Option (Int) := l99_0 y d a p g i j l m n (y.toNat + A.toNat + d + p.toNat + o.toNat + g.toNat + i.toNat + j.toNat + l.toNat + m.toNat + n.toNat + 8) A o
def e99_0 (y : Int) (d : Nat) (a : Dat) (p g i j l m n r : Int) (K : XR) : Prop := K (XE.exit 0) [V Z r] [.cells 73 [V Z g, V Z i, V Z j, V Z l, V Z m, V Z n]]
def g99_0 : LSum := fun s k => match czv 0 103 [2, 4, 7, 58, 59, 60] 1 [] s with
 | some ([V Z y, .ptr 0 0, V Z A, .ro [.str, W Z, W Z, W Z, W Z] d a, V Z p, V Z o], [.cells 73 [V Z g, V Z i, V Z j, V Z l, V Z m, V Z n]]) => needs [(o99_0 y d a p g i j l m n A o).isSome] (e99_0 y d a p g i j l m n ((o99_0 y d a p g i j l m n A o).getD default) fun e vs bs => inBlk 0 k e (mkSt 0 103 [7] vs 1 bs))
 | _ => False
theorem z99_0 : LOk Try.prog g99_0 (.block 0 (bodyAt (Try.f99.body.getD .skip) 0)) := by
 refine lb (ι := Int × Int × Nat × Dat × Int × Int × Int × Int × Int × Int × Int × Int) (fuel := 8) (na := 0) (nt := 103) (nx := 1) (Lh := [2, 4, 7, 58, 59, 60]) (Le := [7]) (gl := []) tn mix_ok noLam rfl (fun f (y, A, d, a, p, o, g, i, j, l, m, n) K => GG default (e99_0 y d a p g i j l m n) K (l99_0 y d a p g i j l m n f A o)) (fun (y, A, d, a, p, o, g, i, j, l, m, n) => [V Z y, .ptr 0 0, V Z A, .ro [.str, W Z, W Z, W Z, W Z] d a, V Z p, V Z o]) (fun (y, A, d, a, p, o, g, i, j, l, m, n) => [.cells 73 [V Z g, V Z i, V Z j, V Z l, V Z m, V Z n]]) (fun (_, _, _, _, _, _, _, _, _, _, _, _) K => gg_none) ?_ ?_
 ·rintro f ⟨y, A, d, a, p, o, g, i, j, l, m, n⟩ K hG
  refine ro (fun R => (cnd (decide (o < p))
 (cnd (decide (0 ≤ o ∧ o < ↑d))
 (R (XE.normal) [V Z y, .ptr 0 0, V Z (Z.wrap (A - Z.wrap (a.ii o.toNat (0 + 1 + 1 + 1 + 1) * imax 0 (Z.wrap (Z.wrap (Z.wrap (g + Z.wrap (a.ii o.toNat (0 + 1) * Z.wrap (i - j))) + Z.wrap (a.ii o.toNat (0 + 1 + 1) * Z.wrap (l - m))) - Z.wrap (Z.wrap (y * n) * a.ii o.toNat (0 + 1 + 1 + 1))))))), .ro [.str, W Z, W Z, W Z, W Z] d a, V Z p, V Z (Z.wrap (o + 1))] [.cells 73 [V Z g, V Z i, V Z j, V Z l, V Z m, V Z n]])
  False)
 (R (XE.exit 0) [V Z A] [.cells 73 [V Z g, V Z i, V Z j, V Z l, V Z m, V Z n]]))) (fun R => by kernel_rfl) ?_
  exact ch hG (fun h0 => cg h0 fun h1 => ⟨(_, _, _, _, _, _, _, _, _, _, _, _), rfl, rfl, h1⟩) (fun h0 => h0.2)
 ·intro s k h
  unfold g99_0 at h
  split at h <;> try exact h.elim
  rename_i e1
  rw [needs_iff] at h
  exact ⟨_, e1, _, (_, _, _, _, _, _, _, _, _, _, _, _), rfl, rfl, h.1 _ (List.mem_singleton.2 rfl), h.2⟩
def m99 (b : Dat) (t u v w x z C : Int) : Int :=
 ((o99_0 C (b.sn 0 0) (b.sub 0 0) (↑(b.sn 0 0) : Int) t u v w x z (Z.wrap (Z.wrap (Z.wrap (Z.wrap (Z.wrap (t * b.ii 0 (0 + 1 + 1 + 1 + 1 + 1 + 1 + 1 + 1 + 1)) + Z.wrap (u * b.ii 0 (0 + 1 + 1 + 1 + 1 + 1 + 1 + 1 + 1 + 1 + 1))) - Z.wrap (v * b.ii 0 (0 + 1 + 1 + 1 + 1 + 1 + 1 + 1 + 1 + 1 + 1 + 1))) + Z.wrap (w * b.ii 0 (0 + 1 + 1 + 1 + 1 + 1 + 1 + 1 + 1 + 1 + 1 + 1 + 1))) - Z.wrap (x * b.ii 0 (0 + 1 + 1 + 1 + 1 + 1 + 1 + 1 + 1 + 1 + 1 + 1 + 1 + 1)))) 0).getD default)
def n99 (b : Dat) (t u v w x z C : Int) : Bool :=
 (((o99_0 C (b.sn 0 0) (b.sub 0 0) (↑(b.sn 0 0) : Int) t u v w x z (Z.wrap (Z.wrap (Z.wrap (Z.wrap (Z.wrap (t * b.ii 0 (0 + 1 + 1 + 1 + 1 + 1 + 1 + 1 + 1 + 1)) + Z.wrap (u * b.ii 0 (0 + 1 + 1 + 1 + 1 + 1 + 1 + 1 + 1 + 1 + 1))) - Z.wrap (v * b.ii 0 (0 + 1 + 1 + 1 + 1 + 1 + 1 + 1 + 1 + 1 + 1 + 1))) + Z.wrap (w * b.ii 0 (0 + 1 + 1 + 1 + 1 + 1 + 1 + 1 + 1 + 1 + 1 + 1 + 1))) - Z.wrap (x * b.ii 0 (0 + 1 + 1 + 1 + 1 + 1 + 1 + 1 + 1 + 1 + 1 + 1 + 1 + 1)))) 0).isSome) && true)
def q99 (r : Int) : SV × List Blk × List Blk := (V Z r, [], [])
def g99 : GF := fun vs bs => match vs, bs with
 | [.rp [.sl [.str, W Z, W Z, W Z, W Z], W Z, W Z, W Z, W Z, W Z, W Z, W Z, W Z, W Z, W Z, W Z, W Z, W Z] b 0 0, .agg [V Z t, V Z u, V Z v, V Z w, V Z x, V Z z], V Z C], [] => some (rs 0 (q99 (m99 b t u v w x z C)) [n99 b t u v w x z C])
 | _, _ => none
def c99 : Ctr := genC [.rp [.sl [.str, W Z, W Z, W Z, W Z], W Z, W Z, W Z, W Z, W Z, W Z, W Z, W Z, W Z, W Z, W Z, W Z, W Z], .k, .k] g99
theorem k99 : CtrOk Try.prog c99 99 := cx tn mix_ok 8 (fn := Try.f99) (c := (Try.f99.body.getD .skip)) (grs := []) (rh := .k) Try.func99 rfl (by kernel_rfl) (lam_of rfl (lc z99_0 ln)) fun vs bs q h hn => by
 unfold g99 at h
 split at h <;> cases h
 rename_i b t u v w x z C
 have hn := n1 hn
 exact ⟨_, rfl, ca (fun R => 
 let a0 := (o99_0 C (b.sn 0 0) (b.sub 0 0) (↑(b.sn 0 0) : Int) t u v w x z (Z.wrap (Z.wrap (Z.wrap (Z.wrap (Z.wrap (t * b.ii 0 (0 + 1 + 1 + 1 + 1 + 1 + 1 + 1 + 1 + 1)) + Z.wrap (u * b.ii 0 (0 + 1 + 1 + 1 + 1 + 1 + 1 + 1 + 1 + 1 + 1))) - Z.wrap (v * b.ii 0 (0 + 1 + 1 + 1 + 1 + 1 + 1 + 1 + 1 + 1 + 1 + 1))) + Z.wrap (w * b.ii 0 (0 + 1 + 1 + 1 + 1 + 1 + 1 + 1 + 1 + 1 + 1 + 1 + 1))) - Z.wrap (x * b.ii 0 (0 + 1 + 1 + 1 + 1 + 1 + 1 + 1 + 1 + 1 + 1 + 1 + 1 + 1)))) 0)
 (cnd (a0.isSome)
 (R (V Z (a0.getD default)) [] [])
 False)) (fun R => by kernel_rfl) (cn (al hn) (lf rfl rfl))⟩

/-! ### slices.insertionSortCmpFunc[int] -/
def l161c123_2 (d i : Int) (j : Dat) (g : Int) : Nat → Int → Dat → Option (Dat)
 | 0, _, _ => none
 | f + 1, b, a => (cond (bif (bif (decide (d < b)) then false else true) then true else (decide (0 ≤ b ∧ b < ↑3))) (cond (bif (bif (decide (d < b)) then false else true) then true else (decide (b.toNat < 3))) (cond (bif (bif (decide (d < b)) then false else true) then true else (decide (0 ≤ Z.wrap (b - 1) ∧ Z.wrap (b - 1) < (↑3 : Int)))) (cond (bif (bif (decide (d < b)) then false else true) then true else (decide ((Z.wrap (b - 1)).toNat < 3))) (cond (bif (bif (decide (d < b)) then false else true) then true else (n123 (a.ii b.toNat 0) (a.ii (Z.wrap (b - 1)).toNat 0) j)) (cond (bif (decide (d < b)) then (decide (m123 (a.ii b.toNat 0) (a.ii (Z.wrap (b - 1)).toNat 0) j < 0)) else false) (cond (decide (0 ≤ Z.wrap (b - 1) ∧ Z.wrap (b - 1) < (↑3 : Int))) (cond (decide ((Z.wrap (b - 1)).toNat < 3)) (cond (decide (0 ≤ b ∧ b < ↑3)) (cond (decide (b.toNat < 3)) (cond (decide (0 ≤ b ∧ b < ↑3)) (cond (decide (b.toNat < 3)) (cond (decide (0 ≤ Z.wrap (b - 1) ∧ Z.wrap (b - 1) < (↑3 : Int))) (cond (decide ((Z.wrap (b - 1)).toNat < 3)) (l161c123_2 d i j g f (Z.wrap (b - 1)) ((a.upd b.toNat 0 [V Z (a.ii (Z.wrap (b - 1)).toNat 0)]).upd (Z.wrap (b - 1)).toNat 0 [V Z (a.ii b.toNat 0)])) none) none) none) none) none) none) none) none) (some a)) none) none) none) none) none)
abbrev o161c123_2 (d i : Int) (j : Dat) (g b : Int) (a : Dat) : Option (Dat) := l161c123_2 d i j g (d.toNat + i.toNat + g.toNat + b.toNat + 8) b a
def e161c123_2 (d i : Int) (j : Dat) (g : Int) (r : Dat) (K : XR) : Prop := K (XE.exit 2) [.own 0 1 3, V Z d, V Z i, .fn 123 [.ra [W Z] 3 j], V Z g] [.row 3 [W Z] 3 r]
def g161c123_2 : LSum := fun s k => match czv 1 53 [0, 1, 2, 3, 8, 9] 1 [] s with
 | some ([.own 0 1 3, V Z d, V Z i, .fn 123 [.ra [W Z] 3 j], V Z g, V Z b], [.row 3 [W Z] 3 a]) => needs [(o161c123_2 d i j g b a).isSome] (e161c123_2 d i j g ((o161c123_2 d i j g b a).getD default) fun e vs bs => inBlk 2 k e (mkSt 1 53 [0, 1, 2, 3, 8] vs 1 bs))
 | _ => False
theorem z161c123_2 : LOk Try.prog g161c123_2 (.block 2 (bodyAt (Try.f161.body.getD .skip) 2)) := by
 refine lb (ι := Int × Int × Dat × Int × Int × Dat) (fuel := 8) (na := 1) (nt := 53) (nx := 1) (Lh := [0, 1, 2, 3, 8, 9]) (Le := [0, 1, 2, 3, 8]) (gl := []) (tc k123 tn) mix_ok noLam rfl (fun f (d, i, j, g, b, a) K => GG default (e161c123_2 d i j g) K (l161c123_2 d i j g f b a)) (fun (d, i, j, g, b, a) => [.own 0 1 3, V Z d, V Z i, .fn 123 [.ra [W Z] 3 j], V Z g, V Z b]) (fun (d, i, j, g, b, a) => [.row 3 [W Z] 3 a]) (fun (_, _, _, _, _, _) K => gg_none) ?_ ?_
 ·rintro f ⟨d, i, j, g, b, a⟩ K hG
  refine ro (fun R => 
 let a0 := (bif (decide (d < b)) then false else true)
 let b0 := (decide (0 ≤ Z.wrap (b - 1) ∧ Z.wrap (b - 1) < (↑3 : Int)))
 let c0 := (decide ((Z.wrap (b - 1)).toNat < 3))
 let d0 := (decide (0 ≤ b ∧ b < ↑3))
 let e0 := (a.ii (Z.wrap (b - 1)).toNat 0)
 (cnd (bif a0 then true else d0)
 (cnd (bif a0 then true else (decide (b.toNat < 3)))
 (cnd (bif a0 then true else b0)
 (cnd (bif a0 then true else c0)
 (cnd (bif a0 then true else (n123 (a.ii b.toNat 0) e0 j))
 (cnd (bif (decide (d < b)) then (decide (m123 (a.ii b.toNat 0) e0 j < 0)) else false)
 (cnd b0
 (cnd c0
 (cnd d0
 (cnd (decide (b.toNat < 3))
 (cnd d0
 (cnd (decide (b.toNat < 3))
 (cnd b0
 (cnd c0
 (R (XE.normal) [.own 0 1 3, V Z d, V Z i, .fn 123 [.ra [W Z] 3 j], V Z g, V Z (Z.wrap (b - 1))] [.row 3 [W Z] 3 ((a.upd b.toNat 0 [V Z e0]).upd (Z.wrap (b - 1)).toNat 0 [V Z (a.ii b.toNat 0)])])
        False)
       False)
       False)
      False)
      False)
     False)
     False)
    False)
 (R (XE.exit 2) [.own 0 1 3, V Z d, V Z i, .fn 123 [.ra [W Z] 3 j], V Z g] [.row 3 [W Z] 3 a]))
   False)
   False)
  False)
  False)
 False)) (fun R => by kernel_rfl) ?_
  exact cg hG fun h0 => cg h0 fun h1 => cg h1 fun h2 => cg h2 fun h3 => cg h3 fun h4 => ch h4 (fun h5 => cg h5 fun h6 => cg h6 fun h7 => cg h7 fun h8 => cg h8 fun h9 => cg h9 fun h10 => cg h10 fun h11 => cg h11 fun h12 => cg h12 fun h13 => ⟨(_, _, _, _, _, _), rfl, rfl, h13⟩) (fun h5 => h5.2)
 ·intro s k h
  unfold g161c123_2 at h
  split at h <;> try exact h.elim
  rename_i e1
  rw [needs_iff] at h
  exact ⟨_, e1, _, (_, _, _, _, _, _), rfl, rfl, h.1 _ (List.mem_singleton.2 rfl), h.2⟩
def l161c123_0 (d i : Int) (j : Dat) : Nat → Int → Dat → Option (Dat)
 | 0, _, _ => none
 | f + 1, g, a => (cond (decide (g < i)) (cond ((o161c123_2 d i j g g a).isSome) (l161c123_0 d i j f (Z.wrap (g + 1)) ((o161c123_2 d i j g g a).getD default)) none) (some a))
abbrev o161c123_0 (d i : Int) (j : Dat) (g : Int) (a : Dat) : Option (Dat) := l161c123_0 d i j (d.toNat + i.toNat + g.toNat + 8) g a
def e161c123_0 (d i : Int) (j r : Dat) (K : XR) : Prop := K (XE.exit 0) [] [.row 3 [W Z] 3 r]
def g161c123_0 : LSum := fun s k => match czv 1 53 [0, 1, 2, 3, 8] 1 [] s with
 | some ([.own 0 1 3, V Z d, V Z i, .fn 123 [.ra [W Z] 3 j], V Z g], [.row 3 [W Z] 3 a]) => needs [(o161c123_0 d i j g a).isSome] (e161c123_0 d i j ((o161c123_0 d i j g a).getD default) fun e vs bs => inBlk 0 k e (mkSt 1 53 [] vs 1 bs))
 | _ => False
theorem z161c123_0 : LOk Try.prog g161c123_0 (.block 0 (bodyAt (Try.f161.body.getD .skip) 0)) := by
 refine lb (ι := Int × Int × Dat × Int × Dat) (fuel := 8) (na := 1) (nt := 53) (nx := 1) (Lh := [0, 1, 2, 3, 8]) (Le := []) (gl := []) (tc k123 tn) mix_ok (lam_of rfl (lc z161c123_2 ln)) rfl (fun f (d, i, j, g, a) K => GG default (e161c123_0 d i j) K (l161c123_0 d i j f g a)) (fun (d, i, j, g, a) => [.own 0 1 3, V Z d, V Z i, .fn 123 [.ra [W Z] 3 j], V Z g]) (fun (d, i, j, g, a) => [.row 3 [W Z] 3 a]) (fun (_, _, _, _, _) K => gg_none) ?_ ?_
 ·rintro f ⟨d, i, j, g, a⟩ K hG
  refine ro (fun R => (cnd (decide (g < i))
 (cnd ((o161c123_2 d i j g g a).isSome)
 (R (XE.normal) [.own 0 1 3, V Z d, V Z i, .fn 123 [.ra [W Z] 3 j], V Z (Z.wrap (g + 1))] [.row 3 [W Z] 3 ((o161c123_2 d i j g g a).getD default)])
  False)
 (R (XE.exit 0) [] [.row 3 [W Z] 3 a]))) (fun R => by kernel_rfl) ?_
  exact ch hG (fun h0 => cg h0 fun h1 => ⟨(_, _, _, _, _), rfl, rfl, h1⟩) (fun h0 => h0.2)
 ·intro s k h
  unfold g161c123_0 at h
  split at h <;> try exact h.elim
  rename_i e1
  rw [needs_iff] at h
  exact ⟨_, e1, _, (_, _, _, _, _), rfl, rfl, h.1 _ (List.mem_singleton.2 rfl), h.2⟩
def m161c123 (l da3c0 : Dat) : Dat :=
 ((o161c123_0 0 3 da3c0 (Z.wrap (0 + 1)) l).getD default)
def n161c123 (l da3c0 : Dat) : Bool :=
 (((o161c123_0 0 3 da3c0 (Z.wrap (0 + 1)) l).isSome) && true)
def q161c123 (r : Dat) : SV × List Blk × List Blk := (.tup [], [.row 3 [W Z] 3 r], [])
def g161c123 : GF := fun vs bs => match vs, bs with
 | [.own 0 1 3, V Z 0, V Z 3, .fn 123 [.ra [W Z] 3 da3c0]], [.row 3 [W Z] 3 l] => some (rs 1 (q161c123 (m161c123 l da3c0)) [n161c123 l da3c0])
 | _, _ => none
def c161c123 : Ctr := genC [.k, .k, .k, .f [.ra [W Z] 3]] g161c123
theorem k161c123 : CtrOk Try.prog c161c123 161 := cx (tc k123 tn) mix_ok 8 (fn := Try.f161) (c := (Try.f161.body.getD .skip)) (grs := []) (rh := .k) Try.func161 rfl (by kernel_rfl) (lam_of rfl (lc z161c123_2 (lc z161c123_0 ln))) fun vs bs q h hn => by
 unfold g161c123 at h
 split at h <;> cases h
 rename_i da3c0 l
 have hn := n1 hn
 exact ⟨_, rfl, ca (fun R => (cnd ((o161c123_0 0 3 da3c0 (Z.wrap (0 + 1)) l).isSome)
 (R (.tup []) [.row 3 [W Z] 3 ((o161c123_0 0 3 da3c0 (Z.wrap (0 + 1)) l).getD default)] [])
 False)) (fun R => by kernel_rfl) (cn (al hn) (lf rfl rfl))⟩

/-! ### slices.stableCmpFunc[int] -/
def m152c123 (a da2c0 : Dat) : Dat :=
 (m161c123 a da2c0)
def n152c123 (a da2c0 : Dat) : Bool :=
 ((n161c123 a da2c0) && true)
def q152c123 (r : Dat) : SV × List Blk × List Blk := (.tup [], [.row 3 [W Z] 3 r], [])
def g152c123 : GF := fun vs bs => match vs, bs with
 | [.own 0 1 3, V Z 3, .fn 123 [.ra [W Z] 3 da2c0]], [.row 3 [W Z] 3 a] => some (rs 1 (q152c123 (m152c123 a da2c0)) [n152c123 a da2c0])
 | _, _ => none
def c152c123 : Ctr := genC [.k, .k, .f [.ra [W Z] 3]] g152c123
theorem k152c123 : CtrOk Try.prog c152c123 152 := cx (tc k123 (tc k161c123 tn)) mix_ok 8 (fn := Try.f152) (c := (Try.f152.body.getD .skip)) (grs := []) (rh := .k) Try.func152 rfl (by kernel_rfl) noLam fun vs bs q h hn => by
 unfold g152c123 at h
 split at h <;> cases h
 rename_i da2c0 a
 have hn := n1 hn
 exact ⟨_, rfl, ca (fun R => (cnd (n161c123 a da2c0)
 (R (.tup []) [.row 3 [W Z] 3 (m161c123 a da2c0)] [])
 False)) (fun R => by kernel_rfl) (cn (al hn) (lf rfl rfl))⟩
/-! ### shotline/shotlineref06.Share -/
def l45_2 (i j l m n o p t u : Int) : Nat → Int → Int → Int → Int → Int → Int → Int → Option (Int × Int × Int × Int × Int × Int)
 | 0, _, _, _, _, _, _, _ => none
 | f + 1, C, x, y, z, v, w, A => (cond (decide ((0 : Int) < C)) (cond (decide (v < w)) (cond (decide (w < A)) (l45_2 i j l m n o p t u f (Z.wrap (C - 1)) x y (Z.wrap (z + 1)) v w (-1)) (l45_2 i j l m n o p t u f (Z.wrap (C - 1)) x (Z.wrap (y + 1)) z v (-1) A)) (cond (decide (v < A)) (l45_2 i j l m n o p t u f (Z.wrap (C - 1)) x y (Z.wrap (z + 1)) v w (-1)) (l45_2 i j l m n o p t u f (Z.wrap (C - 1)) (Z.wrap (x + 1)) y z (-1) w A))) (some (x, y, z, v, w, A)))
abbrev o45_2 (i j l m n o p t u C x y z v w A : Int) : Option (Int × Int × Int × Int × Int × Int) := l45_2 i j l m n o p t u (C.toNat + i.toNat + j.toNat + l.toNat + m.toNat + n.toNat + o.toNat + p.toNat + t.toNat + u.toNat + x.toNat + y.toNat + z.toNat + v.toNat + w.toNat + A.toNat + 8) C x y z v w A
def e45_2 (i j l m n o p t u : Int) (r : Int × Int × Int × Int × Int × Int) (K : XR) : Prop := K (XE.exit 2) [.ptr 1 0, .ptr 3 0] [.cells 39 [V Z i, V Z j, V Z l], .cells 39 [V Z m, V Z n, V Z o], .cells 56 [V Z p, V Z t, V Z u], .cells 56 [V Z r.1, V Z r.2.1, V Z r.2.2.1], .cells 56 [V Z r.2.2.2.1, V Z r.2.2.2.2.1, V Z r.2.2.2.2.2]]
def g45_2 : LSum := fun s k => match czv 0 84 [4, 7, 8, 9] 5 [] s with
 | some ([.ptr 1 0, .ptr 3 0, .ptr 4 0, V Z C], [.cells 39 [V Z i, V Z j, V Z l], .cells 39 [V Z m, V Z n, V Z o], .cells 56 [V Z p, V Z t, V Z u], .cells 56 [V Z x, V Z y, V Z z], .cells 56 [V Z v, V Z w, V Z A]]) => needs [(o45_2 i j l m n o p t u C x y z v w A).isSome] (e45_2 i j l m n o p t u ((o45_2 i j l m n o p t u C x y z v w A).getD default) fun e vs bs => inBlk 2 k e (mkSt 0 84 [4, 7] vs 5 bs))
 | _ => False
theorem z45_2 : LOk Try.prog g45_2 (.block 2 (bodyAt (Try.f45.body.getD .skip) 2)) := by
 refine lb (ι := Int × Int × Int × Int × Int × Int × Int × Int × Int × Int × Int × Int × Int × Int × Int × Int) (fuel := 8) (na := 0) (nt := 84) (nx := 5) (Lh := [4, 7, 8, 9]) (Le := [4, 7]) (gl := []) (tc k29 tn) mix_ok noLam rfl (fun f (C, i, j, l, m, n, o, p, t, u, x, y, z, v, w, A) K => GG default (e45_2 i j l m n o p t u) K (l45_2 i j l m n o p t u f C x y z v w A)) (fun (C, i, j, l, m, n, o, p, t, u, x, y, z, v, w, A) => [.ptr 1 0, .ptr 3 0, .ptr 4 0, V Z C]) (fun (C, i, j, l, m, n, o, p, t, u, x, y, z, v, w, A) => [.cells 39 [V Z i, V Z j, V Z l], .cells 39 [V Z m, V Z n, V Z o], .cells 56 [V Z p, V Z t, V Z u], .cells 56 [V Z x, V Z y, V Z z], .cells 56 [V Z v, V Z w, V Z A]]) (fun (_, _, _, _, _, _, _, _, _, _, _, _, _, _, _, _) K => gg_none) ?_ ?_
 ·rintro f ⟨C, i, j, l, m, n, o, p, t, u, x, y, z, v, w, A⟩ K hG
  refine ro (fun R => (cnd (decide ((0 : Int) < C))
 (cnd (decide (v < w))
 (cnd (decide (w < A))
 (R (XE.normal) [.ptr 1 0, .ptr 3 0, .ptr 4 0, V Z (Z.wrap (C - 1))] [.cells 39 [V Z i, V Z j, V Z l], .cells 39 [V Z m, V Z n, V Z o], .cells 56 [V Z p, V Z t, V Z u], .cells 56 [V Z x, V Z y, V Z (Z.wrap (z + 1))], .cells 56 [V Z v, V Z w, V Z (-1)]])
 (R (XE.normal) [.ptr 1 0, .ptr 3 0, .ptr 4 0, V Z (Z.wrap (C - 1))] [.cells 39 [V Z i, V Z j, V Z l], .cells 39 [V Z m, V Z n, V Z o], .cells 56 [V Z p, V Z t, V Z u], .cells 56 [V Z x, V Z (Z.wrap (y + 1)), V Z z], .cells 56 [V Z v, V Z (-1), V Z A]]))
 (cnd (decide (v < A))
 (R (XE.normal) [.ptr 1 0, .ptr 3 0, .ptr 4 0, V Z (Z.wrap (C - 1))] [.cells 39 [V Z i, V Z j, V Z l], .cells 39 [V Z m, V Z n, V Z o], .cells 56 [V Z p, V Z t, V Z u], .cells 56 [V Z x, V Z y, V Z (Z.wrap (z + 1))], .cells 56 [V Z v, V Z w, V Z (-1)]])
 (R (XE.normal) [.ptr 1 0, .ptr 3 0, .ptr 4 0, V Z (Z.wrap (C - 1))] [.cells 39 [V Z i, V Z j, V Z l], .cells 39 [V Z m, V Z n, V Z o], .cells 56 [V Z p, V Z t, V Z u], .cells 56 [V Z (Z.wrap (x + 1)), V Z y, V Z z], .cells 56 [V Z (-1), V Z w, V Z A]])))
 (R (XE.exit 2) [.ptr 1 0, .ptr 3 0] [.cells 39 [V Z i, V Z j, V Z l], .cells 39 [V Z m, V Z n, V Z o], .cells 56 [V Z p, V Z t, V Z u], .cells 56 [V Z x, V Z y, V Z z], .cells 56 [V Z v, V Z w, V Z A]]))) (fun R => by kernel_rfl) ?_
  exact ch hG (fun h0 => ch h0 (fun h1 => ch h1 (fun h2 => ⟨(_, _, _, _, _, _, _, _, _, _, _, _, _, _, _, _), rfl, rfl, h2⟩) (fun h2 => ⟨(_, _, _, _, _, _, _, _, _, _, _, _, _, _, _, _), rfl, rfl, h2⟩)) (fun h1 => ch h1 (fun h2 => ⟨(_, _, _, _, _, _, _, _, _, _, _, _, _, _, _, _), rfl, rfl, h2⟩) (fun h2 => ⟨(_, _, _, _, _, _, _, _, _, _, _, _, _, _, _, _), rfl, rfl, h2⟩))) (fun h0 => h0.2)
 ·intro s k h
  unfold g45_2 at h
  split at h <;> try exact h.elim
  rename_i e1
  rw [needs_iff] at h
  exact ⟨_, e1, _, (_, _, _, _, _, _, _, _, _, _, _, _, _, _, _, _), rfl, rfl, h.1 _ (List.mem_singleton.2 rfl), h.2⟩
def m45 (a b d g : Int) : Int × Int × Int :=
 (cond (decide (m29 a b d = 0)) (0, 0, 0) (((o45_2 a b d 0 0 0 a b d (Z.wrap (Z.wrap (Z.wrap (g - Z.wrap ((Z.wrap (a * g)).tdiv (m29 a b d))) - Z.wrap ((Z.wrap (b * g)).tdiv (m29 a b d))) - Z.wrap ((Z.wrap (d * g)).tdiv (m29 a b d)))) (Z.wrap ((Z.wrap (a * g)).tdiv (m29 a b d))) (Z.wrap ((Z.wrap (b * g)).tdiv (m29 a b d))) (Z.wrap ((Z.wrap (d * g)).tdiv (m29 a b d))) ((Z.wrap (a * g)).tmod (m29 a b d)) ((Z.wrap (b * g)).tmod (m29 a b d)) ((Z.wrap (d * g)).tmod (m29 a b d))).getD default).1, ((o45_2 a b d 0 0 0 a b d (Z.wrap (Z.wrap (Z.wrap (g - Z.wrap ((Z.wrap (a * g)).tdiv (m29 a b d))) - Z.wrap ((Z.wrap (b * g)).tdiv (m29 a b d))) - Z.wrap ((Z.wrap (d * g)).tdiv (m29 a b d)))) (Z.wrap ((Z.wrap (a * g)).tdiv (m29 a b d))) (Z.wrap ((Z.wrap (b * g)).tdiv (m29 a b d))) (Z.wrap ((Z.wrap (d * g)).tdiv (m29 a b d))) ((Z.wrap (a * g)).tmod (m29 a b d)) ((Z.wrap (b * g)).tmod (m29 a b d)) ((Z.wrap (d * g)).tmod (m29 a b d))).getD default).2.1, ((o45_2 a b d 0 0 0 a b d (Z.wrap (Z.wrap (Z.wrap (g - Z.wrap ((Z.wrap (a * g)).tdiv (m29 a b d))) - Z.wrap ((Z.wrap (b * g)).tdiv (m29 a b d))) - Z.wrap ((Z.wrap (d * g)).tdiv (m29 a b d)))) (Z.wrap ((Z.wrap (a * g)).tdiv (m29 a b d))) (Z.wrap ((Z.wrap (b * g)).tdiv (m29 a b d))) (Z.wrap ((Z.wrap (d * g)).tdiv (m29 a b d))) ((Z.wrap (a * g)).tmod (m29 a b d)) ((Z.wrap (b * g)).tmod (m29 a b d)) ((Z.wrap (d * g)).tmod (m29 a b d))).getD default).2.2.1))
def n45 (a b d g : Int) : Bool :=
 (cond (decide (m29 a b d = 0)) true ((bif (decide (m29 a b d = 0)) then false else true) && ((bif (decide (m29 a b d = 0)) then false else true) && ((bif (decide (m29 a b d = 0)) then false else true) && ((bif (decide (m29 a b d = 0)) then false else true) && ((bif (decide (m29 a b d = 0)) then false else true) && ((bif (decide (m29 a b d = 0)) then false else true) && (((o45_2 a b d 0 0 0 a b d (Z.wrap (Z.wrap (Z.wrap (g - Z.wrap ((Z.wrap (a * g)).tdiv (m29 a b d))) - Z.wrap ((Z.wrap (b * g)).tdiv (m29 a b d))) - Z.wrap ((Z.wrap (d * g)).tdiv (m29 a b d)))) (Z.wrap ((Z.wrap (a * g)).tdiv (m29 a b d))) (Z.wrap ((Z.wrap (b * g)).tdiv (m29 a b d))) (Z.wrap ((Z.wrap (d * g)).tdiv (m29 a b d))) ((Z.wrap (a * g)).tmod (m29 a b d)) ((Z.wrap (b * g)).tmod (m29 a b d)) ((Z.wrap (d * g)).tmod (m29 a b d))).isSome) && true))))))))
def q45 (r : Int × Int × Int) : SV × List Blk × List Blk := (.agg [V Z r.1, V Z r.2.1, V Z r.2.2], [], [])
def g45 : GF := fun vs bs => match vs, bs with
 | [.agg [V Z a, V Z b, V Z d], V Z g], [] => some (rs 0 (q45 (m45 a b d g)) [n45 a b d g])
 | _, _ => none
def c45 : Ctr := genC [.k, .k] g45
theorem k45 : CtrOk Try.prog c45 45 := cx (tc k29 tn) mix_ok 8 (fn := Try.f45) (c := (Try.f45.body.getD .skip)) (grs := []) (rh := .k) Try.func45 rfl (by kernel_rfl) (lam_of rfl (lc z45_2 ln)) fun vs bs q h hn => by
 unfold g45 at h
 split at h <;> cases h
 rename_i a b d g
 have hn := n1 hn
 exact ⟨_, rfl, ca (fun R => 
 let a0 := (o45_2 a b d 0 0 0 a b d (Z.wrap (Z.wrap (Z.wrap (g - Z.wrap ((Z.wrap (a * g)).tdiv (m29 a b d))) - Z.wrap ((Z.wrap (b * g)).tdiv (m29 a b d))) - Z.wrap ((Z.wrap (d * g)).tdiv (m29 a b d)))) (Z.wrap ((Z.wrap (a * g)).tdiv (m29 a b d))) (Z.wrap ((Z.wrap (b * g)).tdiv (m29 a b d))) (Z.wrap ((Z.wrap (d * g)).tdiv (m29 a b d))) ((Z.wrap (a * g)).tmod (m29 a b d)) ((Z.wrap (b * g)).tmod (m29 a b d)) ((Z.wrap (d * g)).tmod (m29 a b d)))
 let b0 := (bif (decide (m29 a b d = 0)) then false else true)
 (cnd (decide (m29 a b d = 0))
 (R (.agg [V Z 0, V Z 0, V Z 0]) [] [])
 (cnd b0
 (cnd b0
 (cnd b0
 (cnd b0
 (cnd b0
 (cnd b0
 (cnd (a0.isSome)
 (R (.agg [V Z (a0.getD default).1, V Z (a0.getD default).2.1, V Z (a0.getD default).2.2.1]) [] [])
     False)
    False)
    False)
   False)
   False)
  False)
  False))) (fun R => by kernel_rfl) (co (fun h0 => lf (cT h0 rfl) rfl) (fun h0 => cn (al (cf h0 hn)) (cn (al (ar (cf h0 hn))) (cn (al (ar (ar (cf h0 hn)))) (cn (al (ar (ar (ar (cf h0 hn))))) (cn (al (ar (ar (ar (ar (cf h0 hn)))))) (cn (al (ar (ar (ar (ar (ar (cf h0 hn))))))) (cn (al (ar (ar (ar (ar (ar (ar (cf h0 hn)))))))) (lf (cF h0 rfl) rfl)))))))))⟩
/-! ### shotline/mix.ask$1 -/
def m134 (a b e : Int) (d : Dat) : Int × Int :=
 ((Z.wrap (Z.wrap (a * d.ii 0 (0 + 1 + 1 + 1 + 1)) - Z.wrap (1000 * e))), (Z.wrap (Z.wrap (b * d.ii 0 (0 + 1 + 1 + 1 + 1)) - Z.wrap (1000 * e))))
def q134 (r : Int × Int) : SV × List Blk × List Blk := (.agg [V Z r.1, V Z r.2], [], [])
def g134 : GF := fun vs bs => match vs, bs with
 | [.agg [V Z a, V Z b], V Z e, .rp [.sl [.str, W Z, W Z, W Z, W Z], W Z, W Z, W Z, W Z, W Z, W Z, W Z, W Z] d 0 0], [] => some (rs 0 (q134 (m134 a b e d)) [])
 | _, _ => none
def c134 : Ctr := genC [.k, .k, .rp [.sl [.str, W Z, W Z, W Z, W Z], W Z, W Z, W Z, W Z, W Z, W Z, W Z, W Z]] g134
theorem k134 : CtrOk Try.prog c134 134 := cx tn mix_ok 8 (fn := Try.f134) (c := (Try.f134.body.getD .skip)) (grs := []) (rh := .k) Try.func134 rfl (by kernel_rfl) noLam fun vs bs q h hn => by
 unfold g134 at h
 split at h <;> cases h
 rename_i a b e d
 exact ⟨_, rfl, ca (fun R => (R (.agg [V Z (Z.wrap (Z.wrap (a * d.ii 0 (0 + 1 + 1 + 1 + 1)) - Z.wrap (1000 * e))), V Z (Z.wrap (Z.wrap (b * d.ii 0 (0 + 1 + 1 + 1 + 1)) - Z.wrap (1000 * e)))]) [] [])) (fun R => by kernel_rfl) (lf rfl rfl)⟩

/-! ### slices.SortStableFunc[[]int,int] -/
def m122c123 (a da1c0 : Dat) : Dat :=
 (m152c123 a da1c0)
def n122c123 (a da1c0 : Dat) : Bool :=
 ((n152c123 a da1c0) && true)
def q122c123 (r : Dat) : SV × List Blk × List Blk := (.tup [], [.row 3 [W Z] 3 r], [])
def g122c123 : GF := fun vs bs => match vs, bs with
 | [.own 0 1 3, .fn 123 [.ra [W Z] 3 da1c0]], [.row 3 [W Z] 3 a] => some (rs 1 (q122c123 (m122c123 a da1c0)) [n122c123 a da1c0])
 | _, _ => none
def c122c123 : Ctr := genC [.k, .f [.ra [W Z] 3]] g122c123
theorem k122c123 : CtrOk Try.prog c122c123 122 := cx (tc k123 (tc k152c123 tn)) mix_ok 8 (fn := Try.f122) (c := (Try.f122.body.getD .skip)) (grs := []) (rh := .k) Try.func122 rfl (by kernel_rfl) noLam fun vs bs q h hn => by
 unfold g122c123 at h
 split at h <;> cases h
 rename_i da1c0 a
 have hn := n1 hn
 exact ⟨_, rfl, ca (fun R => (cnd (n152c123 a da1c0)
 (R (.tup []) [.row 3 [W Z] 3 (m152c123 a da1c0)] [])
 False)) (fun R => by kernel_rfl) (cn (al hn) (lf rfl rfl))⟩
end
end Go.Proofs.Ytmndejpcpfkajaa
