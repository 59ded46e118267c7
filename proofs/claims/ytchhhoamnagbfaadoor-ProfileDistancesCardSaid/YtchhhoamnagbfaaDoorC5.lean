/-
  Contracts of functions: models, equations by the kernel, contracts. Conditions: none.
-/
import Derived.Test.YtchhhoamnagbfaaDoorC4
import Derived.KernelRfl
namespace Go.Proofs.YtchhhoamnagbfaaDoor
open Go Go.Sy
set_option linter.unusedVariables false
set_option linter.unusedSimpArgs false
set_option maxRecDepth 100000
set_option maxHeartbeats 2000000
attribute [local irreducible] Go.IntKind.wrap Int.tdiv Int.tmod Int.fdiv
open Go.Sy renaming tabOk_cons → tc, tabOk_nil → tn, cnd_need → cn, leaf_of → lf, cnd_gg → cg, cnd_gg2 → ch, cond_f → cf, cond_t → ct, cnd_of → co, callOf → ca, roundOf → ro, cnd_not → nn, lams_cons → lc, lams_nil → ln, condT → cT, condF → cF, need1 → n1, resOf → rs, and_l → al, and_r → ar, or_gg → og, ctr_of → cx, loop_blk → lb
open Go.IntKind renaming i64 → Z
open Go.Sy.SV renaming int → V
open Go.Sy.Kd renaming int → W
/-! ### shotline/profile.metres -/
noncomputable def m89 (a : Int) : ByteArray :=
  (cond (decide ((0 : Int) < (a.tmod 100))) ((m88 (Z.wrap (a.tdiv 100))) ++ (({ data := #[OfNat.ofNat 46] } : ByteArray) ++ (m110 ((m88 (Z.wrap (100 + (a.tmod 100)))).extract 1 ((↑((m88 (Z.wrap (100 + (a.tmod 100)))).size) : Int).toNat))))) (m88 (Z.wrap (a.tdiv 100))))
noncomputable def n89 (a : Int) : Bool :=
  ((n88 (Z.wrap (a.tdiv 100))) && (cond (decide ((0 : Int) < (a.tmod 100))) ((n88 (Z.wrap (100 + (a.tmod 100)))) && ((decide ((0 : Int) ≤ (1 : Int) ∧ (1 : Int) ≤ (↑(m88 (Z.wrap ((100 : Int) + a.tmod (100 : Int)))).size : Int) ∧ (↑(m88 (Z.wrap ((100 : Int) + a.tmod (100 : Int)))).size : Int) ≤ (↑(m88 (Z.wrap ((100 : Int) + a.tmod (100 : Int)))).size : Int))) && ((n110 ((m88 (Z.wrap (100 + (a.tmod 100)))).extract 1 ((↑((m88 (Z.wrap (100 + (a.tmod 100)))).size) : Int).toNat)) ({ data := #[OfNat.ofNat 48] } : ByteArray)) && ((decide ((1 + ((m110 ((m88 (Z.wrap (100 + (a.tmod 100)))).extract 1 ((↑((m88 (Z.wrap (100 + (a.tmod 100)))).size) : Int).toNat))).size)) ≤ 9223372036854775807)) && ((decide ((((m88 (Z.wrap (a.tdiv 100))).size) + ((({ data := #[OfNat.ofNat 46] } : ByteArray) ++ (m110 ((m88 (Z.wrap (100 + (a.tmod 100)))).extract 1 ((↑((m88 (Z.wrap (100 + (a.tmod 100)))).size) : Int).toNat)))).size)) ≤ 9223372036854775807)) && true))))) true))
noncomputable def q89 (r : ByteArray) : SV × List Blk × List Blk := (.str r, [], [])
noncomputable def g89 : GF := fun vs bs => match vs, bs with
  | [V Z a], [] => some (rs 0 (q89 (m89 a)) [n89 a])
  | _, _ => none
noncomputable def c89 : Ctr := genC [.k] g89
theorem k89 : CtrOk Tryd.prog c89 89 := cx (tc k88 (tc k110 tn)) mix_ok 8 (fn := Tryd.f89) (c := (Tryd.f89.body.getD .skip)) (grs := []) (rh := .k) Tryd.func89 rfl (by kernel_rfl) noLam fun vs bs q h hn => by
  unfold g89 at h
  split at h <;> cases h
  rename_i a
  have hn := n1 hn
  exact ⟨_, rfl, ca (fun R => (cnd (n88 (Z.wrap (a.tdiv 100)))
 (cnd (decide ((0 : Int) < (a.tmod 100)))
 (cnd (n88 (Z.wrap (100 + (a.tmod 100))))
 (cnd (decide ((0 : Int) ≤ (1 : Int) ∧ (1 : Int) ≤ (↑(m88 (Z.wrap ((100 : Int) + a.tmod (100 : Int)))).size : Int) ∧ (↑(m88 (Z.wrap ((100 : Int) + a.tmod (100 : Int)))).size : Int) ≤ (↑(m88 (Z.wrap ((100 : Int) + a.tmod (100 : Int)))).size : Int)))
 (cnd (n110 ((m88 (Z.wrap (100 + (a.tmod 100)))).extract 1 ((↑((m88 (Z.wrap (100 + (a.tmod 100)))).size) : Int).toNat)) ({ data := #[OfNat.ofNat 48] } : ByteArray))
 (cnd (decide ((1 + ((m110 ((m88 (Z.wrap (100 + (a.tmod 100)))).extract 1 ((↑((m88 (Z.wrap (100 + (a.tmod 100)))).size) : Int).toNat))).size)) ≤ 9223372036854775807))
 (cnd (decide ((((m88 (Z.wrap (a.tdiv 100))).size) + ((({ data := #[OfNat.ofNat 46] } : ByteArray) ++ (m110 ((m88 (Z.wrap (100 + (a.tmod 100)))).extract 1 ((↑((m88 (Z.wrap (100 + (a.tmod 100)))).size) : Int).toNat)))).size)) ≤ 9223372036854775807))
 (R (.str ((m88 (Z.wrap (a.tdiv 100))) ++ (({ data := #[OfNat.ofNat 46] } : ByteArray) ++ (m110 ((m88 (Z.wrap (100 + (a.tmod 100)))).extract 1 ((↑((m88 (Z.wrap (100 + (a.tmod 100)))).size) : Int).toNat)))))) [] [])
        False)
       False)
      False)
     False)
    False)
 (R (.str (m88 (Z.wrap (a.tdiv 100)))) [] []))
  False)) (fun R => by kernel_rfl) (cn (al hn) (co (fun h0 => cn (al (ct h0 (ar hn))) (cn (al (ar (ct h0 (ar hn)))) (cn (al (ar (ar (ct h0 (ar hn))))) (cn (al (ar (ar (ar (ct h0 (ar hn)))))) (cn (al (ar (ar (ar (ar (ct h0 (ar hn))))))) (lf (cT h0 rfl) rfl)))))) (fun h0 => lf (cF h0 rfl) rfl)))⟩
/-! ### shotline/shotlinebase.Size -/
noncomputable def m96 (a : Int) : Int :=
  (imax a (Z.wrap (0 - a)))
noncomputable def q96 (r : Int) : SV × List Blk × List Blk := (V Z r, [], [])
noncomputable def g96 : GF := fun vs bs => match vs, bs with
  | [V Z a], [] => some (rs 0 (q96 (m96 a)) [])
  | _, _ => none
noncomputable def c96 : Ctr := genC [.k] g96
theorem k96 : CtrOk Tryd.prog c96 96 := cx tn mix_ok 8 (fn := Tryd.f96) (c := (Tryd.f96.body.getD .skip)) (grs := []) (rh := .k) Tryd.func96 rfl (by kernel_rfl) noLam fun vs bs q h hn => by
  unfold g96 at h
  split at h <;> cases h
  rename_i a
  exact ⟨_, rfl, ca (fun R => (R (V Z (imax a (Z.wrap (0 - a)))) [] [])) (fun R => by kernel_rfl) (lf rfl rfl)⟩
/-! ### shotline/profile.DepthAt -/
noncomputable def m48 (i : ByteArray) (j : Int) (b : Nat) (d : Dat) (e : Nat) (g : Dat) (l : Int) : Int × Int × Int :=
  (cond (bif (decide ((m78 i j b d e g l).2.2 = 0)) then false else true) (0, 0, (m78 i j b d e g l).2.2) ((m54 (m53 (m78 i j b d e g l).1 (m78 i j b d e g l).2.1 l).1 (m53 (m78 i j b d e g l).1 (m78 i j b d e g l).2.1 l).2).1, (m54 (m53 (m78 i j b d e g l).1 (m78 i j b d e g l).2.1 l).1 (m53 (m78 i j b d e g l).1 (m78 i j b d e g l).2.1 l).2).2, 0))
noncomputable def n48 (i : ByteArray) (j : Int) (b : Nat) (d : Dat) (e : Nat) (g : Dat) (l : Int) : Bool :=
  ((n78 i j b d e g l) && (cond (bif (decide ((m78 i j b d e g l).2.2 = 0)) then false else true) true ((n53 (m78 i j b d e g l).1 (m78 i j b d e g l).2.1 l) && ((n54 (m53 (m78 i j b d e g l).1 (m78 i j b d e g l).2.1 l).1 (m53 (m78 i j b d e g l).1 (m78 i j b d e g l).2.1 l).2) && true))))
noncomputable def q48 (r : Int × Int × Int) : SV × List Blk × List Blk := (.tup [.agg [V Z r.1, V Z r.2.1], V Z r.2.2], [], [])
noncomputable def g48 : GF := fun vs bs => match vs, bs with
  | [.agg [.str i, V Z j, .ro [W Z, W Z] b d, .ro [W Z, W Z, W Z] e g], V Z l], [] => some (rs 0 (q48 (m48 i j b d e g l)) [n48 i j b d e g l])
  | _, _ => none
noncomputable def c48 : Ctr := genC [.a [.k, .k, .ro [W Z, W Z], .ro [W Z, W Z, W Z]], .k] g48
theorem k48 : CtrOk Tryd.prog c48 48 := cx (tc k53 (tc k54 (tc k78 tn))) mix_ok 8 (fn := Tryd.f48) (c := (Tryd.f48.body.getD .skip)) (grs := []) (rh := .k) Tryd.func48 rfl (by kernel_rfl) noLam fun vs bs q h hn => by
  unfold g48 at h
  split at h <;> cases h
  rename_i i j b d e g l
  have hn := n1 hn
  exact ⟨_, rfl, ca (fun R => (cnd (n78 i j b d e g l)
 (cnd (bif (decide ((m78 i j b d e g l).2.2 = 0)) then false else true)
 (R (.tup [.agg [V Z 0, V Z 0], V Z (m78 i j b d e g l).2.2]) [] [])
 (cnd (n53 (m78 i j b d e g l).1 (m78 i j b d e g l).2.1 l)
 (cnd (n54 (m53 (m78 i j b d e g l).1 (m78 i j b d e g l).2.1 l).1 (m53 (m78 i j b d e g l).1 (m78 i j b d e g l).2.1 l).2)
 (R (.tup [.agg [V Z (m54 (m53 (m78 i j b d e g l).1 (m78 i j b d e g l).2.1 l).1 (m53 (m78 i j b d e g l).1 (m78 i j b d e g l).2.1 l).2).1, V Z (m54 (m53 (m78 i j b d e g l).1 (m78 i j b d e g l).2.1 l).1 (m53 (m78 i j b d e g l).1 (m78 i j b d e g l).2.1 l).2).2], V Z 0]) [] [])
     False)
    False))
  False)) (fun R => by kernel_rfl) (cn (al hn) (co (fun h0 => lf (cT h0 rfl) rfl) (fun h0 => cn (al (cf h0 (ar hn))) (cn (al (ar (cf h0 (ar hn)))) (lf (cF h0 rfl) rfl)))))⟩
/-! ### shotline/shotlineref02.Apart -/
noncomputable def m70 (b : Nat) (d : Dat) (e : Nat) (g : Dat) (a : Int) : Int × Int :=
  ((m96 (Z.wrap ((Z.wrap ((m55 b d a).1 * (m55 e g a).2)) - (Z.wrap ((m55 e g a).1 * (m55 b d a).2))))), (Z.wrap ((m55 b d a).2 * (m55 e g a).2)))
noncomputable def n70 (b : Nat) (d : Dat) (e : Nat) (g : Dat) (a : Int) : Bool :=
  ((n55 b d a) && ((n55 e g a) && true))
noncomputable def q70 (r : Int × Int) : SV × List Blk × List Blk := (.tup [V Z r.1, V Z r.2], [], [])
noncomputable def g70 : GF := fun vs bs => match vs, bs with
  | [.ro [W Z, W Z] b d, .ro [W Z, W Z] e g, V Z a], [] => some (rs 0 (q70 (m70 b d e g a)) [n70 b d e g a])
  | _, _ => none
noncomputable def c70 : Ctr := genC [.ro [W Z, W Z], .ro [W Z, W Z], .k] g70
theorem k70 : CtrOk Tryd.prog c70 70 := cx (tc k55 (tc k96 tn)) mix_ok 8 (fn := Tryd.f70) (c := (Tryd.f70.body.getD .skip)) (grs := []) (rh := .k) Tryd.func70 rfl (by kernel_rfl) noLam fun vs bs q h hn => by
  unfold g70 at h
  split at h <;> cases h
  rename_i b d e g a
  have hn := n1 hn
  exact ⟨_, rfl, ca (fun R => (cnd (n55 b d a)
 (cnd (n55 e g a)
 (R (.tup [V Z (m96 (Z.wrap ((Z.wrap ((m55 b d a).1 * (m55 e g a).2)) - (Z.wrap ((m55 e g a).1 * (m55 b d a).2))))), V Z (Z.wrap ((m55 b d a).2 * (m55 e g a).2))]) [] [])
   False)
  False)) (fun R => by kernel_rfl) (cn (al hn) (cn (al (ar hn)) (lf rfl rfl)))⟩
end Go.Proofs.YtchhhoamnagbfaaDoor
