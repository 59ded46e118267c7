/-
  Contracts of functions: models, equations by the kernel, contracts. Conditions: none.
-/
import Derived.Test.YtchhhoamnagbfaaDoorB2
import Derived.KernelRfl
namespace Go.Proofs.YtchhhoamnagbfaaDoor
open Go Go.Sy
set_option linter.unusedVariables false
set_option linter.unusedSimpArgs false
set_option maxRecDepth 100000
set_option maxHeartbeats 2000000
attribute [local irreducible] Go.IntKind.wrap Int.tdiv Int.tmod Int.fdiv
open Go.Sy renaming tabOk_cons → tc, tabOk_nil → tn, cnd_need → cn, leaf_of → lf, cnd_gg → cg, cnd_gg2 → ch, cond_f → cf, cond_t → ct, cnd_of → co, callOf → ca, roundOf → ro, cnd_not → nn, lams_cons → lc, lams_nil → ln, condT → cT, condF → cF, need1 → n1, resOf → rs, and_l → al, and_r → ar, or_gg → og, ctr_of → cx, loop_blk → lb
open Go.IntKind renaming i64 → Z
open Go.Sy.SV renaming int → V
open Go.Sy.Kd renaming int → W
/-! ### shotline/shotlinelaw02.Few -/
noncomputable def m18 (e : ByteArray) (j : Int) (d : Nat) (g : Dat) (b : Nat) (i : Dat) : Bool :=
  (bif (bif (decide ((↑e.size : Int) ≤ 20)) then (decide ((↑d : Int) ≤ 10)) else false) then (bif (decide ((↑b : Int) ≤ 10)) then true else (bif (decide ((60 : Int) < (↑b : Int))) then (decide ((↑b : Int) ≤ 62)) else false)) else false)
noncomputable def q18 (r : Bool) : SV × List Blk × List Blk := (.bool r, [], [])
noncomputable def g18 : GF := fun vs bs => match vs, bs with
  | [.agg [.str e, V Z j, .ro [W Z, W Z] d g, .ro [W Z, W Z, W Z] b i]], [] => some (rs 0 (q18 (m18 e j d g b i)) [])
  | _, _ => none
noncomputable def c18 : Ctr := genC [.a [.k, .k, .ro [W Z, W Z], .ro [W Z, W Z, W Z]]] g18
theorem k18 : CtrOk Tryd.prog c18 18 := cx tn mix_ok 8 (fn := Tryd.f18) (c := (Tryd.f18.body.getD .skip)) (grs := []) (rh := .k) Tryd.func18 rfl (by kernel_rfl) noLam fun vs bs q h hn => by
  unfold g18 at h
  split at h <;> cases h
  rename_i e j d g b i
  exact ⟨_, rfl, ca (fun R => (R (.bool (bif (bif (decide ((↑e.size : Int) ≤ 20)) then (decide ((↑d : Int) ≤ 10)) else false) then (bif (decide ((↑b : Int) ≤ 10)) then true else (bif (decide ((60 : Int) < (↑b : Int))) then (decide ((↑b : Int) ≤ 62)) else false)) else false)) [] [])) (fun R => by kernel_rfl) (lf rfl rfl)⟩
/-! ### shotline/shotlinebase.CopyLegs -/
noncomputable def m36 (a : Nat) (b : Dat) : Nat × Dat :=
  ((0 + a), ((datS [] 3).app 0 b))
noncomputable def n36 (a : Nat) (b : Dat) : Bool :=
  ((decide ((0 + a) ≤ 1073741824)) && ((decide ((0 + (0 + a)) ≤ (0 + a))) && true))
noncomputable def q36 (r : Nat × Dat) : SV × List Blk × List Blk := (.ro [W Z, W Z, W Z] r.1 r.2, [], [])
noncomputable def g36 : GF := fun vs bs => match vs, bs with
  | [.ro [W Z, W Z, W Z] a b], [] => some (rs 0 (q36 (m36 a b)) [n36 a b])
  | _, _ => none
noncomputable def c36 : Ctr := genC [.ro [W Z, W Z, W Z]] g36
theorem k36 : CtrOk Tryd.prog c36 36 := cx tn mix_ok 8 (fn := Tryd.f36) (c := (Tryd.f36.body.getD .skip)) (grs := []) (rh := .ro [W Z, W Z, W Z]) Tryd.func36 rfl (by kernel_rfl) noLam fun vs bs q h hn => by
  unfold g36 at h
  split at h <;> cases h
  rename_i a b
  have hn := n1 hn
  exact ⟨_, rfl, ca (fun R => (cnd (decide ((0 + a) ≤ 1073741824))
 (cnd (decide ((0 + (0 + a)) ≤ (0 + a)))
 (R (.ro [W Z, W Z, W Z] (0 + a) ((datS [] 3).app 0 b)) [] [])
   False)
  False)) (fun R => by kernel_rfl) (cn (al hn) (cn (al (ar hn)) (lf rfl rfl)))⟩
/-! ### shotline/shotlinebase.CopyGases -/
noncomputable def m59 (a : Nat) (b : Dat) : Nat × Dat :=
  ((0 + a), ((datS [] 2).app 0 b))
noncomputable def n59 (a : Nat) (b : Dat) : Bool :=
  ((decide ((0 + a) ≤ 1073741824)) && ((decide ((0 + (0 + a)) ≤ (0 + a))) && true))
noncomputable def q59 (r : Nat × Dat) : SV × List Blk × List Blk := (.ro [W Z, W Z] r.1 r.2, [], [])
noncomputable def g59 : GF := fun vs bs => match vs, bs with
  | [.ro [W Z, W Z] a b], [] => some (rs 0 (q59 (m59 a b)) [n59 a b])
  | _, _ => none
noncomputable def c59 : Ctr := genC [.ro [W Z, W Z]] g59
theorem k59 : CtrOk Tryd.prog c59 59 := cx tn mix_ok 8 (fn := Tryd.f59) (c := (Tryd.f59.body.getD .skip)) (grs := []) (rh := .ro [W Z, W Z]) Tryd.func59 rfl (by kernel_rfl) noLam fun vs bs q h hn => by
  unfold g59 at h
  split at h <;> cases h
  rename_i a b
  have hn := n1 hn
  exact ⟨_, rfl, ca (fun R => (cnd (decide ((0 + a) ≤ 1073741824))
 (cnd (decide ((0 + (0 + a)) ≤ (0 + a)))
 (R (.ro [W Z, W Z] (0 + a) ((datS [] 2).app 0 b)) [] [])
   False)
  False)) (fun R => by kernel_rfl) (cn (al hn) (cn (al (ar hn)) (lf rfl rfl)))⟩
/-! ### shotline/shotlinebase.CopyPlan -/
noncomputable def m20 (i : ByteArray) (j : Int) (b : Nat) (d : Dat) (e : Nat) (g : Dat) : ByteArray × Int × Nat × Dat × Nat × Dat :=
  (i, j, (m59 b d).1, (m59 b d).2, (m36 e g).1, (m36 e g).2)
noncomputable def n20 (i : ByteArray) (j : Int) (b : Nat) (d : Dat) (e : Nat) (g : Dat) : Bool :=
  ((n59 b d) && ((n36 e g) && true))
noncomputable def q20 (r : ByteArray × Int × Nat × Dat × Nat × Dat) : SV × List Blk × List Blk := (.agg [.str r.1, V Z r.2.1, .ro [W Z, W Z] r.2.2.1 r.2.2.2.1, .ro [W Z, W Z, W Z] r.2.2.2.2.1 r.2.2.2.2.2], [], [])
noncomputable def g20 : GF := fun vs bs => match vs, bs with
  | [.agg [.str i, V Z j, .ro [W Z, W Z] b d, .ro [W Z, W Z, W Z] e g]], [] => some (rs 0 (q20 (m20 i j b d e g)) [n20 i j b d e g])
  | _, _ => none
noncomputable def c20 : Ctr := genC [.a [.k, .k, .ro [W Z, W Z], .ro [W Z, W Z, W Z]]] g20
theorem k20 : CtrOk Tryd.prog c20 20 := cx (tc k36 (tc k59 tn)) mix_ok 8 (fn := Tryd.f20) (c := (Tryd.f20.body.getD .skip)) (grs := []) (rh := .t [.k, .k, .ro [W Z, W Z], .ro [W Z, W Z, W Z]]) Tryd.func20 rfl (by kernel_rfl) noLam fun vs bs q h hn => by
  unfold g20 at h
  split at h <;> cases h
  rename_i i j b d e g
  have hn := n1 hn
  exact ⟨_, rfl, ca (fun R => (cnd (n59 b d)
 (cnd (n36 e g)
 (R (.agg [.str i, V Z j, .ro [W Z, W Z] (m59 b d).1 (m59 b d).2, .ro [W Z, W Z, W Z] (m36 e g).1 (m36 e g).2]) [] [])
   False)
  False)) (fun R => by kernel_rfl) (cn (al hn) (cn (al (ar hn)) (lf rfl rfl)))⟩
/-! ### shotline/shotlinebase.Floor -/
noncomputable def m91 (b a : Int) : Int :=
  (cond (decide ((b.tmod a) < 0)) (Z.wrap ((Z.wrap (b.tdiv a)) - 1)) (Z.wrap (b.tdiv a)))
noncomputable def n91 (b a : Int) : Bool :=
  ((bif (decide (a = 0)) then false else true) && ((bif (decide (a = 0)) then false else true) && true))
noncomputable def q91 (r : Int) : SV × List Blk × List Blk := (V Z r, [], [])
noncomputable def g91 : GF := fun vs bs => match vs, bs with
  | [V Z b, V Z a], [] => some (rs 0 (q91 (m91 b a)) [n91 b a])
  | _, _ => none
noncomputable def c91 : Ctr := genC [.k, .k] g91
theorem k91 : CtrOk Tryd.prog c91 91 := cx tn mix_ok 8 (fn := Tryd.f91) (c := (Tryd.f91.body.getD .skip)) (grs := []) (rh := .k) Tryd.func91 rfl (by kernel_rfl) noLam fun vs bs q h hn => by
  unfold g91 at h
  split at h <;> cases h
  rename_i b a
  have hn := n1 hn
  exact ⟨_, rfl, ca (fun R => (cnd (bif (decide (a = 0)) then false else true)
 (cnd (bif (decide (a = 0)) then false else true)
 (cnd (decide ((b.tmod a) < 0))
 (R (V Z (Z.wrap ((Z.wrap (b.tdiv a)) - 1))) [] [])
 (R (V Z (Z.wrap (b.tdiv a))) [] []))
   False)
  False)) (fun R => by kernel_rfl) (cn (al hn) (cn (al (ar hn)) (co (fun h0 => lf (cT h0 rfl) rfl) (fun h0 => lf (cF h0 rfl) rfl))))⟩
/-! ### shotline/shotlinebase.Ceil -/
noncomputable def m92 (a b : Int) : Int :=
  (Z.wrap (0 - (m91 (Z.wrap (0 - a)) b)))
noncomputable def n92 (a b : Int) : Bool :=
  ((n91 (Z.wrap (0 - a)) b) && true)
noncomputable def q92 (r : Int) : SV × List Blk × List Blk := (V Z r, [], [])
noncomputable def g92 : GF := fun vs bs => match vs, bs with
  | [V Z a, V Z b], [] => some (rs 0 (q92 (m92 a b)) [n92 a b])
  | _, _ => none
noncomputable def c92 : Ctr := genC [.k, .k] g92
theorem k92 : CtrOk Tryd.prog c92 92 := cx (tc k91 tn) mix_ok 8 (fn := Tryd.f92) (c := (Tryd.f92.body.getD .skip)) (grs := []) (rh := .k) Tryd.func92 rfl (by kernel_rfl) noLam fun vs bs q h hn => by
  unfold g92 at h
  split at h <;> cases h
  rename_i a b
  have hn := n1 hn
  exact ⟨_, rfl, ca (fun R => (cnd (n91 (Z.wrap (0 - a)) b)
 (R (V Z (Z.wrap (0 - (m91 (Z.wrap (0 - a)) b)))) [] [])
  False)) (fun R => by kernel_rfl) (cn (al hn) (lf rfl rfl))⟩
/-! ### shotline/shotlinebase.IsName -/
noncomputable def l64_0 (b : ByteArray) : Nat → Int → Option (Bool × (Bool) × (Unit))
  | 0, _ => none
  | f + 1, a => (cond (decide (a < (↑b.size : Int))) (cond (decide (0 ≤ a ∧ a < (↑b.size : Int))) (cond (bif (bif (bif (bif (decide (97 ≤ (byteAt b a.toNat))) then (decide ((byteAt b a.toNat) ≤ 122)) else false) then true else (bif (decide (65 ≤ (byteAt b a.toNat))) then (decide ((byteAt b a.toNat) ≤ 90)) else false)) then false else true) then (bif (decide (a = 0)) then true else (bif (bif (decide ((byteAt b a.toNat) = 45)) then false else true) then (bif (decide ((byteAt b a.toNat) < 48)) then true else (decide (57 < (byteAt b a.toNat)))) else false)) else false) (some (true, false, default)) (l64_0 b f (Z.wrap (a + 1)))) none) (some (false, default, ())))
noncomputable abbrev o64_0 (b : ByteArray) (a : Int) : Option (Bool × (Bool) × (Unit)) := l64_0 b (b.size + a.toNat + 8) a
noncomputable def e64_0 (b : ByteArray) (r : Bool × (Bool) × (Unit)) (K : XR) : Prop := cnd r.1 (K (XE.ret) [.bool r.2.1] []) (K (XE.exit 0) [.any] [])
noncomputable def g64_0 : LSum := fun s k => match czv 0 55 [0, 3] 0 [] s with
  | some ([.str b, V Z a], []) => needs [(o64_0 b a).isSome] (e64_0 b ((o64_0 b a).getD default) fun e vs bs => inBlk 0 k e (mkSt 0 55 [2] vs 0 bs))
  | _ => False
theorem z64_0 : LOk Tryd.prog g64_0 (.block 0 (bodyAt (Tryd.f64.body.getD .skip) 0)) := by
  refine lb (ι := ByteArray × Int) (fuel := 8) (na := 0) (nt := 55) (nx := 0) (Lh := [0, 3]) (Le := [2]) (gl := []) tn mix_ok noLam rfl (fun f (b, a) K => GG default (e64_0 b) K (l64_0 b f a)) (fun (b, a) => [.str b, V Z a]) (fun (b, a) => []) (fun (_, _) K => gg_none) ?_ ?_
  · rintro f ⟨b, a⟩ K hG
    refine ro (fun R => (cnd (decide (a < (↑b.size : Int)))
 (cnd (decide (0 ≤ a ∧ a < (↑b.size : Int)))
 (cnd (bif (bif (bif (bif (decide (97 ≤ (byteAt b a.toNat))) then (decide ((byteAt b a.toNat) ≤ 122)) else false) then true else (bif (decide (65 ≤ (byteAt b a.toNat))) then (decide ((byteAt b a.toNat) ≤ 90)) else false)) then false else true) then (bif (decide (a = 0)) then true else (bif (bif (decide ((byteAt b a.toNat) = 45)) then false else true) then (bif (decide ((byteAt b a.toNat) < 48)) then true else (decide (57 < (byteAt b a.toNat)))) else false)) else false)
 (R (XE.ret) [.bool false] [])
 (R (XE.normal) [.str b, V Z (Z.wrap (a + 1))] []))
   False)
 (R (XE.exit 0) [.any] []))) (fun R => by kernel_rfl) ?_
    exact ch hG (fun h0 => cg h0 fun h1 => ch h1 (fun h2 => h2.2) (fun h2 => ⟨(_, _), rfl, rfl, h2⟩)) (fun h0 => h0.2)
  · intro s k h
    unfold g64_0 at h
    split at h <;> try exact h.elim
    rename_i e1
    rw [needs_iff] at h
    exact ⟨_, e1, _, (_, _), rfl, rfl, h.1 _ (List.mem_singleton.2 rfl), h.2⟩
noncomputable def m64 (d : ByteArray) : Bool :=
  (cond (bif (decide ((↑d.size : Int) < 1)) then true else (decide (12 < (↑d.size : Int)))) false (cond ((o64_0 d 0).getD default).1 ((o64_0 d 0).getD default).2.1 true))
noncomputable def n64 (d : ByteArray) : Bool :=
  (cond (bif (decide ((↑d.size : Int) < 1)) then true else (decide (12 < (↑d.size : Int)))) true (((o64_0 d 0).isSome) && true))
noncomputable def q64 (r : Bool) : SV × List Blk × List Blk := (.bool r, [], [])
noncomputable def g64 : GF := fun vs bs => match vs, bs with
  | [.str d], [] => some (rs 0 (q64 (m64 d)) [n64 d])
  | _, _ => none
noncomputable def c64 : Ctr := genC [.k] g64
theorem k64 : CtrOk Tryd.prog c64 64 := cx tn mix_ok 8 (fn := Tryd.f64) (c := (Tryd.f64.body.getD .skip)) (grs := []) (rh := .k) Tryd.func64 rfl (by kernel_rfl) (lam_of rfl (lc z64_0 ln)) fun vs bs q h hn => by
  unfold g64 at h
  split at h <;> cases h
  rename_i d
  have hn := n1 hn
  exact ⟨_, rfl, ca (fun R => (cnd (bif (decide ((↑d.size : Int) < 1)) then true else (decide (12 < (↑d.size : Int))))
 (R (.bool false) [] [])
 (cnd ((o64_0 d 0).isSome)
 (cnd ((o64_0 d 0).getD default).1
 (R (.bool ((o64_0 d 0).getD default).2.1) [] [])
 (R (.bool true) [] []))
   False))) (fun R => by kernel_rfl) (co (fun h0 => lf (cT h0 rfl) rfl) (fun h0 => cn (al (cf h0 hn)) (co (fun h1 => lf (cF h0 (cT h1 rfl)) rfl) (fun h1 => lf (cF h0 (cF h1 rfl)) rfl))))⟩
/-! ### shotline/shotlineref01.CheckGas -/
noncomputable def m65 (a b : Int) : Int :=
  (cond (bif (bif (m16 a 0 1000) then false else true) then true else (bif (m16 b 0 1000) then false else true)) 2 (cond (decide ((1000 : Int) < (Z.wrap (a + b)))) 23 0))
noncomputable def q65 (r : Int) : SV × List Blk × List Blk := (V Z r, [], [])
noncomputable def g65 : GF := fun vs bs => match vs, bs with
  | [.agg [V Z a, V Z b]], [] => some (rs 0 (q65 (m65 a b)) [])
  | _, _ => none
noncomputable def c65 : Ctr := genC [.k] g65
theorem k65 : CtrOk Tryd.prog c65 65 := cx (tc k16 tn) mix_ok 8 (fn := Tryd.f65) (c := (Tryd.f65.body.getD .skip)) (grs := []) (rh := .k) Tryd.func65 rfl (by kernel_rfl) noLam fun vs bs q h hn => by
  unfold g65 at h
  split at h <;> cases h
  rename_i a b
  exact ⟨_, rfl, ca (fun R => (cnd (bif (bif (m16 a 0 1000) then false else true) then true else (bif (m16 b 0 1000) then false else true))
 (R (V Z 2) [] [])
 (cnd (decide ((1000 : Int) < (Z.wrap (a + b))))
 (R (V Z 23) [] [])
 (R (V Z 0) [] [])))) (fun R => by kernel_rfl) (co (fun h0 => lf (cT h0 rfl) rfl) (fun h0 => co (fun h1 => lf (cF h0 (cT h1 rfl)) rfl) (fun h1 => lf (cF h0 (cF h1 rfl)) rfl)))⟩
/-! ### shotline/profile.PointsOf -/
noncomputable def m22 (i : ByteArray) (j : Int) (b : Nat) (d : Dat) (e : Nat) (g : Dat) : Nat × Dat × Int :=
  (cond (bif (decide ((m60 1 (datS [SV.str i, V Z j, SV.ro [Kd.int Z, Kd.int Z] b d, SV.ro [Kd.int Z, Kd.int Z, Kd.int Z] e g] 4)) = 0)) then false else true) (0, noDat, (m60 1 (datS [SV.str i, V Z j, SV.ro [Kd.int Z, Kd.int Z] b d, SV.ro [Kd.int Z, Kd.int Z, Kd.int Z] e g] 4))) ((m61 i j b d e g).1, (m61 i j b d e g).2, 0))
noncomputable def n22 (i : ByteArray) (j : Int) (b : Nat) (d : Dat) (e : Nat) (g : Dat) : Bool :=
  ((n60 1 (datS [SV.str i, V Z j, SV.ro [Kd.int Z, Kd.int Z] b d, SV.ro [Kd.int Z, Kd.int Z, Kd.int Z] e g] 4)) && (cond (bif (decide ((m60 1 (datS [SV.str i, V Z j, SV.ro [Kd.int Z, Kd.int Z] b d, SV.ro [Kd.int Z, Kd.int Z, Kd.int Z] e g] 4)) = 0)) then false else true) true ((n61 i j b d e g) && true)))
noncomputable def q22 (r : Nat × Dat × Int) : SV × List Blk × List Blk := (.tup [.ro [W Z, W Z] r.1 r.2.1, V Z r.2.2], [], [])
noncomputable def g22 : GF := fun vs bs => match vs, bs with
  | [.agg [.str i, V Z j, .ro [W Z, W Z] b d, .ro [W Z, W Z, W Z] e g]], [] => some (rs 0 (q22 (m22 i j b d e g)) [n22 i j b d e g])
  | _, _ => none
noncomputable def c22 : Ctr := genC [.a [.k, .k, .ro [W Z, W Z], .ro [W Z, W Z, W Z]]] g22
theorem k22 : CtrOk Tryd.prog c22 22 := cx (tc k60 (tc k61 tn)) mix_ok 8 (fn := Tryd.f22) (c := (Tryd.f22.body.getD .skip)) (grs := []) (rh := .t [.ro [W Z, W Z], .k]) Tryd.func22 rfl (by kernel_rfl) noLam fun vs bs q h hn => by
  unfold g22 at h
  split at h <;> cases h
  rename_i i j b d e g
  have hn := n1 hn
  exact ⟨_, rfl, ca (fun R => (cnd (n60 1 (datS [SV.str i, V Z j, SV.ro [Kd.int Z, Kd.int Z] b d, SV.ro [Kd.int Z, Kd.int Z, Kd.int Z] e g] 4))
 (cnd (bif (decide ((m60 1 (datS [SV.str i, V Z j, SV.ro [Kd.int Z, Kd.int Z] b d, SV.ro [Kd.int Z, Kd.int Z, Kd.int Z] e g] 4)) = 0)) then false else true)
 (R (.tup [.ro [W Z, W Z] 0 noDat, V Z (m60 1 (datS [SV.str i, V Z j, SV.ro [Kd.int Z, Kd.int Z] b d, SV.ro [Kd.int Z, Kd.int Z, Kd.int Z] e g] 4))]) [] [])
 (cnd (n61 i j b d e g)
 (R (.tup [.ro [W Z, W Z] (m61 i j b d e g).1 (m61 i j b d e g).2, V Z 0]) [] [])
    False))
  False)) (fun R => by kernel_rfl) (cn (al hn) (co (fun h0 => lf (cT h0 rfl) rfl) (fun h0 => cn (al (cf h0 (ar hn))) (lf (cF h0 rfl) rfl))))⟩
/-! ### shotline/profile.MeanDepth -/
noncomputable def l23_0 (p : Nat) (t : Dat) (o : Nat) (n : Dat) (E : Int) (u : ByteArray) (v : Int) (w : Nat) (A : Dat) (x : Nat) (C : Dat) (y z : Int) (D : Dat) : Nat → Int → Int → Option (Int)
  | 0, _, _ => none
  | f + 1, F, m => (cond (decide (m < E)) (cond (decide (0 ≤ m ∧ m < ↑o)) (cond (decide (0 ≤ m ∧ m < ↑p)) (cond (decide (0 ≤ m ∧ m < ↑p)) (l23_0 p t o n E u v w A x C y z D f (Z.wrap (F + (Z.wrap ((Z.wrap ((t.ii m.toNat 1) + (n.ii m.toNat 1))) * (Z.wrap ((n.ii m.toNat 0) - (t.ii m.toNat 0))))))) (Z.wrap (m + 1))) none) none) none) (some F))
noncomputable abbrev o23_0 (p : Nat) (t : Dat) (o : Nat) (n : Dat) (E : Int) (u : ByteArray) (v : Int) (w : Nat) (A : Dat) (x : Nat) (C : Dat) (y z : Int) (D : Dat) (F m : Int) : Option (Int) := l23_0 p t o n E u v w A x C y z D (p + F.toNat + o + E.toNat + m.toNat + u.size + v.toNat + w + x + y.toNat + z.toNat + 8) F m
noncomputable def e23_0 (p : Nat) (t : Dat) (o : Nat) (n : Dat) (E : Int) (u : ByteArray) (v : Int) (w : Nat) (A : Dat) (x : Nat) (C : Dat) (y z : Int) (D : Dat) (r : Int) (K : XR) : Prop := K (XE.exit 0) [.ptr 1 0, .ro [W Z, W Z] p t, V Z r] [.cells 41 [.str u, V Z v, .ro [W Z, W Z] w A, .ro [W Z, W Z, W Z] x C], .cells 26 [V Z y, V Z z], .row 41 [.str, W Z, .sl [W Z, W Z], .sl [W Z, W Z, W Z]] 1 D]
noncomputable def g23_0 : LSum := fun s k => match czv 0 56 [2, 5, 6, 23, 24, 25] 3 [] s with
  | some ([.ptr 1 0, .ro [W Z, W Z] p t, V Z F, .ro [W Z, W Z] o n, V Z E, V Z m], [.cells 41 [.str u, V Z v, .ro [W Z, W Z] w A, .ro [W Z, W Z, W Z] x C], .cells 26 [V Z y, V Z z], .row 41 [.str, W Z, .sl [W Z, W Z], .sl [W Z, W Z, W Z]] 1 D]) => needs [(o23_0 p t o n E u v w A x C y z D F m).isSome] (e23_0 p t o n E u v w A x C y z D ((o23_0 p t o n E u v w A x C y z D F m).getD default) fun e vs bs => inBlk 0 k e (mkSt 0 56 [2, 5, 6] vs 3 bs))
  | _ => False
theorem z23_0 : LOk Tryd.prog g23_0 (.block 0 (bodyAt (Tryd.f23.body.getD .skip) 0)) := by
  refine lb (ι := Nat × Dat × Int × Nat × Dat × Int × Int × ByteArray × Int × Nat × Dat × Nat × Dat × Int × Int × Dat) (fuel := 8) (na := 0) (nt := 56) (nx := 3) (Lh := [2, 5, 6, 23, 24, 25]) (Le := [2, 5, 6]) (gl := []) (tc k54 (tc k60 (tc k61 (tc k62 tn)))) mix_ok noLam rfl (fun f (p, t, F, o, n, E, m, u, v, w, A, x, C, y, z, D) K => GG default (e23_0 p t o n E u v w A x C y z D) K (l23_0 p t o n E u v w A x C y z D f F m)) (fun (p, t, F, o, n, E, m, u, v, w, A, x, C, y, z, D) => [.ptr 1 0, .ro [W Z, W Z] p t, V Z F, .ro [W Z, W Z] o n, V Z E, V Z m]) (fun (p, t, F, o, n, E, m, u, v, w, A, x, C, y, z, D) => [.cells 41 [.str u, V Z v, .ro [W Z, W Z] w A, .ro [W Z, W Z, W Z] x C], .cells 26 [V Z y, V Z z], .row 41 [.str, W Z, .sl [W Z, W Z], .sl [W Z, W Z, W Z]] 1 D]) (fun (_, _, _, _, _, _, _, _, _, _, _, _, _, _, _, _) K => gg_none) ?_ ?_
  · rintro f ⟨p, t, F, o, n, E, m, u, v, w, A, x, C, y, z, D⟩ K hG
    refine ro (fun R => (cnd (decide (m < E))
 (cnd (decide (0 ≤ m ∧ m < ↑o))
 (cnd (decide (0 ≤ m ∧ m < ↑p))
 (cnd (decide (0 ≤ m ∧ m < ↑p))
 (R (XE.normal) [.ptr 1 0, .ro [W Z, W Z] p t, V Z (Z.wrap (F + (Z.wrap ((Z.wrap ((t.ii m.toNat 1) + (n.ii m.toNat 1))) * (Z.wrap ((n.ii m.toNat 0) - (t.ii m.toNat 0))))))), .ro [W Z, W Z] o n, V Z E, V Z (Z.wrap (m + 1))] [.cells 41 [.str u, V Z v, .ro [W Z, W Z] w A, .ro [W Z, W Z, W Z] x C], .cells 26 [V Z y, V Z z], .row 41 [.str, W Z, .sl [W Z, W Z], .sl [W Z, W Z, W Z]] 1 D])
     False)
    False)
   False)
 (R (XE.exit 0) [.ptr 1 0, .ro [W Z, W Z] p t, V Z F] [.cells 41 [.str u, V Z v, .ro [W Z, W Z] w A, .ro [W Z, W Z, W Z] x C], .cells 26 [V Z y, V Z z], .row 41 [.str, W Z, .sl [W Z, W Z], .sl [W Z, W Z, W Z]] 1 D]))) (fun R => by kernel_rfl) ?_
    exact ch hG (fun h0 => cg h0 fun h1 => cg h1 fun h2 => cg h2 fun h3 => ⟨(_, _, _, _, _, _, _, _, _, _, _, _, _, _, _, _), rfl, rfl, h3⟩) (fun h0 => h0.2)
  · intro s k h
    unfold g23_0 at h
    split at h <;> try exact h.elim
    rename_i e1
    rw [needs_iff] at h
    exact ⟨_, e1, _, (_, _, _, _, _, _, _, _, _, _, _, _, _, _, _, _), rfl, rfl, h.1 _ (List.mem_singleton.2 rfl), h.2⟩
noncomputable def m23 (j : ByteArray) (l : Int) (b : Nat) (d : Dat) (g : Nat) (i : Dat) : Int × Int × Int :=
  (cond (bif (decide ((m60 1 (datS [SV.str j, V Z l, SV.ro [Kd.int Z, Kd.int Z] b d, SV.ro [Kd.int Z, Kd.int Z, Kd.int Z] g i] 4)) = 0)) then false else true) (0, 0, (m60 1 (datS [SV.str j, V Z l, SV.ro [Kd.int Z, Kd.int Z] b d, SV.ro [Kd.int Z, Kd.int Z, Kd.int Z] g i] 4))) (cond (decide ((m62 (m61 j l b d g i).1 (m61 j l b d g i).2) = 0)) (0, 0, 0) ((m54 ((o23_0 (m61 j l b d g i).1 (m61 j l b d g i).2 (((↑((m61 j l b d g i).1) : Int) - 1).toNat) ((m61 j l b d g i).2.shift 1) (↑(((↑((m61 j l b d g i).1) : Int) - 1).toNat) : Int) j l b d g i 0 0 (datS [SV.str j, V Z l, SV.ro [Kd.int Z, Kd.int Z] b d, SV.ro [Kd.int Z, Kd.int Z, Kd.int Z] g i] 4) 0 0).getD 0) (Z.wrap (2 * (m62 (m61 j l b d g i).1 (m61 j l b d g i).2)))).1, (m54 ((o23_0 (m61 j l b d g i).1 (m61 j l b d g i).2 (((↑((m61 j l b d g i).1) : Int) - 1).toNat) ((m61 j l b d g i).2.shift 1) (↑(((↑((m61 j l b d g i).1) : Int) - 1).toNat) : Int) j l b d g i 0 0 (datS [SV.str j, V Z l, SV.ro [Kd.int Z, Kd.int Z] b d, SV.ro [Kd.int Z, Kd.int Z, Kd.int Z] g i] 4) 0 0).getD 0) (Z.wrap (2 * (m62 (m61 j l b d g i).1 (m61 j l b d g i).2)))).2, 0)))
noncomputable def n23 (j : ByteArray) (l : Int) (b : Nat) (d : Dat) (g : Nat) (i : Dat) : Bool :=
  ((n60 1 (datS [SV.str j, V Z l, SV.ro [Kd.int Z, Kd.int Z] b d, SV.ro [Kd.int Z, Kd.int Z, Kd.int Z] g i] 4)) && (cond (bif (decide ((m60 1 (datS [SV.str j, V Z l, SV.ro [Kd.int Z, Kd.int Z] b d, SV.ro [Kd.int Z, Kd.int Z, Kd.int Z] g i] 4)) = 0)) then false else true) true ((n61 j l b d g i) && ((n62 (m61 j l b d g i).1 (m61 j l b d g i).2) && (cond (decide ((m62 (m61 j l b d g i).1 (m61 j l b d g i).2) = 0)) true ((decide ((0 : Int) ≤ (1 : Int) ∧ (1 : Int) ≤ (↑(m61 j l b d g i).1 : Int) ∧ (↑(m61 j l b d g i).1 : Int) ≤ (↑(m61 j l b d g i).1 : Int))) && (((o23_0 (m61 j l b d g i).1 (m61 j l b d g i).2 (((↑((m61 j l b d g i).1) : Int) - 1).toNat) ((m61 j l b d g i).2.shift 1) (↑(((↑((m61 j l b d g i).1) : Int) - 1).toNat) : Int) j l b d g i 0 0 (datS [SV.str j, V Z l, SV.ro [Kd.int Z, Kd.int Z] b d, SV.ro [Kd.int Z, Kd.int Z, Kd.int Z] g i] 4) 0 0).isSome) && ((n62 (m61 j l b d g i).1 (m61 j l b d g i).2) && ((n54 ((o23_0 (m61 j l b d g i).1 (m61 j l b d g i).2 (((↑((m61 j l b d g i).1) : Int) - 1).toNat) ((m61 j l b d g i).2.shift 1) (↑(((↑((m61 j l b d g i).1) : Int) - 1).toNat) : Int) j l b d g i 0 0 (datS [SV.str j, V Z l, SV.ro [Kd.int Z, Kd.int Z] b d, SV.ro [Kd.int Z, Kd.int Z, Kd.int Z] g i] 4) 0 0).getD 0) (Z.wrap (2 * (m62 (m61 j l b d g i).1 (m61 j l b d g i).2)))) && true)))))))))
noncomputable def q23 (r : Int × Int × Int) : SV × List Blk × List Blk := (.tup [.agg [V Z r.1, V Z r.2.1], V Z r.2.2], [], [])
noncomputable def g23 : GF := fun vs bs => match vs, bs with
  | [.agg [.str j, V Z l, .ro [W Z, W Z] b d, .ro [W Z, W Z, W Z] g i]], [] => some (rs 0 (q23 (m23 j l b d g i)) [n23 j l b d g i])
  | _, _ => none
noncomputable def c23 : Ctr := genC [.a [.k, .k, .ro [W Z, W Z], .ro [W Z, W Z, W Z]]] g23
theorem k23 : CtrOk Tryd.prog c23 23 := cx (tc k54 (tc k60 (tc k61 (tc k62 tn)))) mix_ok 8 (fn := Tryd.f23) (c := (Tryd.f23.body.getD .skip)) (grs := []) (rh := .k) Tryd.func23 rfl (by kernel_rfl) (lam_of rfl (lc z23_0 ln)) fun vs bs q h hn => by
  unfold g23 at h
  split at h <;> cases h
  rename_i j l b d g i
  have hn := n1 hn
  exact ⟨_, rfl, ca (fun R => (cnd (n60 1 (datS [SV.str j, V Z l, SV.ro [Kd.int Z, Kd.int Z] b d, SV.ro [Kd.int Z, Kd.int Z, Kd.int Z] g i] 4))
 (cnd (bif (decide ((m60 1 (datS [SV.str j, V Z l, SV.ro [Kd.int Z, Kd.int Z] b d, SV.ro [Kd.int Z, Kd.int Z, Kd.int Z] g i] 4)) = 0)) then false else true)
 (R (.tup [.agg [V Z 0, V Z 0], V Z (m60 1 (datS [SV.str j, V Z l, SV.ro [Kd.int Z, Kd.int Z] b d, SV.ro [Kd.int Z, Kd.int Z, Kd.int Z] g i] 4))]) [] [])
 (cnd (n61 j l b d g i)
 (cnd (n62 (m61 j l b d g i).1 (m61 j l b d g i).2)
 (cnd (decide ((m62 (m61 j l b d g i).1 (m61 j l b d g i).2) = 0))
 (R (.tup [.agg [V Z 0, V Z 0], V Z 0]) [] [])
 (cnd (decide ((0 : Int) ≤ (1 : Int) ∧ (1 : Int) ≤ (↑(m61 j l b d g i).1 : Int) ∧ (↑(m61 j l b d g i).1 : Int) ≤ (↑(m61 j l b d g i).1 : Int)))
 (cnd ((o23_0 (m61 j l b d g i).1 (m61 j l b d g i).2 (((↑((m61 j l b d g i).1) : Int) - 1).toNat) ((m61 j l b d g i).2.shift 1) (↑(((↑((m61 j l b d g i).1) : Int) - 1).toNat) : Int) j l b d g i 0 0 (datS [SV.str j, V Z l, SV.ro [Kd.int Z, Kd.int Z] b d, SV.ro [Kd.int Z, Kd.int Z, Kd.int Z] g i] 4) 0 0).isSome)
 (cnd (n62 (m61 j l b d g i).1 (m61 j l b d g i).2)
 (cnd (n54 ((o23_0 (m61 j l b d g i).1 (m61 j l b d g i).2 (((↑((m61 j l b d g i).1) : Int) - 1).toNat) ((m61 j l b d g i).2.shift 1) (↑(((↑((m61 j l b d g i).1) : Int) - 1).toNat) : Int) j l b d g i 0 0 (datS [SV.str j, V Z l, SV.ro [Kd.int Z, Kd.int Z] b d, SV.ro [Kd.int Z, Kd.int Z, Kd.int Z] g i] 4) 0 0).getD 0) (Z.wrap (2 * (m62 (m61 j l b d g i).1 (m61 j l b d g i).2))))
 (R (.tup [.agg [V Z (m54 ((o23_0 (m61 j l b d g i).1 (m61 j l b d g i).2 (((↑((m61 j l b d g i).1) : Int) - 1).toNat) ((m61 j l b d g i).2.shift 1) (↑(((↑((m61 j l b d g i).1) : Int) - 1).toNat) : Int) j l b d g i 0 0 (datS [SV.str j, V Z l, SV.ro [Kd.int Z, Kd.int Z] b d, SV.ro [Kd.int Z, Kd.int Z, Kd.int Z] g i] 4) 0 0).getD 0) (Z.wrap (2 * (m62 (m61 j l b d g i).1 (m61 j l b d g i).2)))).1, V Z (m54 ((o23_0 (m61 j l b d g i).1 (m61 j l b d g i).2 (((↑((m61 j l b d g i).1) : Int) - 1).toNat) ((m61 j l b d g i).2.shift 1) (↑(((↑((m61 j l b d g i).1) : Int) - 1).toNat) : Int) j l b d g i 0 0 (datS [SV.str j, V Z l, SV.ro [Kd.int Z, Kd.int Z] b d, SV.ro [Kd.int Z, Kd.int Z, Kd.int Z] g i] 4) 0 0).getD 0) (Z.wrap (2 * (m62 (m61 j l b d g i).1 (m61 j l b d g i).2)))).2], V Z 0]) [] [])
          False)
         False)
        False)
       False))
     False)
    False))
  False)) (fun R => by kernel_rfl) (cn (al hn) (co (fun h0 => lf (cT h0 rfl) rfl) (fun h0 => cn (al (cf h0 (ar hn))) (cn (al (ar (cf h0 (ar hn)))) (co (fun h1 => lf (cF h0 (cT h1 rfl)) rfl) (fun h1 => cn (al (cf h1 (ar (ar (cf h0 (ar hn)))))) (cn (al (ar (cf h1 (ar (ar (cf h0 (ar hn))))))) (cn (al (ar (ar (cf h1 (ar (ar (cf h0 (ar hn)))))))) (cn (al (ar (ar (ar (cf h1 (ar (ar (cf h0 (ar hn))))))))) (lf (cF h0 (cF h1 rfl)) rfl))))))))))⟩
/-! ### shotline/profile.FastestUp -/
noncomputable def l24_0 (t : Nat) (p : Dat) (m : Nat) (n : Dat) (F : Int) (u : ByteArray) (v : Int) (w : Nat) (z A : Dat) (x y : Int) (C : Dat) : Nat → Int → Int → Int → Int → Option (Int × Int × Int)
  | 0, _, _, _, _ => none
  | f + 1, G, o, D, E => (cond (decide (o < F)) (cond (decide (0 ≤ o ∧ o < ↑m)) (cond (decide (0 ≤ o ∧ o < ↑t)) (cond (m63 D E (Z.wrap (60 * (Z.wrap ((p.ii o.toNat 1) - (n.ii o.toNat 1))))) (n.ii o.toNat 0)) (l24_0 t p m n F u v w z A x y C f o (Z.wrap (o + 1)) (Z.wrap (60 * (Z.wrap ((p.ii o.toNat 1) - (n.ii o.toNat 1))))) (n.ii o.toNat 0)) (l24_0 t p m n F u v w z A x y C f G (Z.wrap (o + 1)) D E)) none) none) (some (G, D, E)))
noncomputable abbrev o24_0 (t : Nat) (p : Dat) (m : Nat) (n : Dat) (F : Int) (u : ByteArray) (v : Int) (w : Nat) (z A : Dat) (x y : Int) (C : Dat) (G o D E : Int) : Option (Int × Int × Int) := l24_0 t p m n F u v w z A x y C (G.toNat + t + m + F.toNat + o.toNat + u.size + v.toNat + w + x.toNat + y.toNat + D.toNat + E.toNat + 8) G o D E
noncomputable def e24_0 (t : Nat) (p : Dat) (m : Nat) (n : Dat) (F : Int) (u : ByteArray) (v : Int) (w : Nat) (z A : Dat) (x y : Int) (C : Dat) (r : Int × Int × Int) (K : XR) : Prop := K (XE.exit 0) [.ptr 1 0, V Z r.1, .ptr 3 0] [.cells 41 [.str u, V Z v, .ro [W Z, W Z] w z, .ro [W Z, W Z, W Z] m A], .cells 26 [V Z x, V Z y], .row 41 [.str, W Z, .sl [W Z, W Z], .sl [W Z, W Z, W Z]] 1 C, .cells 89 [V Z r.2.1, V Z r.2.2]]
noncomputable def g24_0 : LSum := fun s k => match czv 0 54 [3, 6, 7, 8, 23, 24, 25] 4 [] s with
  | some ([.ptr 1 0, V Z G, .ptr 3 0, .ro [W Z, W Z] t p, .ro [W Z, W Z, W Z] m n, V Z F, V Z o], [.cells 41 [.str u, V Z v, .ro [W Z, W Z] w z, .ro [W Z, W Z, W Z] b0_4 A], .cells 26 [V Z x, V Z y], .row 41 [.str, W Z, .sl [W Z, W Z], .sl [W Z, W Z, W Z]] 1 C, .cells 89 [V Z D, V Z E]]) => needs [decide (m = b0_4), (o24_0 t p m n F u v w z A x y C G o D E).isSome] (e24_0 t p m n F u v w z A x y C ((o24_0 t p m n F u v w z A x y C G o D E).getD default) fun e vs bs => inBlk 0 k e (mkSt 0 54 [3, 6, 7] vs 4 bs))
  | _ => False
theorem z24_0 : LOk Tryd.prog g24_0 (.block 0 (bodyAt (Tryd.f24.body.getD .skip) 0)) := by
  refine lb (ι := Int × Nat × Dat × Nat × Dat × Int × Int × ByteArray × Int × Nat × Dat × Dat × Int × Int × Dat × Int × Int) (fuel := 8) (na := 0) (nt := 54) (nx := 4) (Lh := [3, 6, 7, 8, 23, 24, 25]) (Le := [3, 6, 7]) (gl := []) (tc k54 (tc k60 (tc k61 (tc k63 tn)))) mix_ok noLam rfl (fun f (G, t, p, m, n, F, o, u, v, w, z, A, x, y, C, D, E) K => GG default (e24_0 t p m n F u v w z A x y C) K (l24_0 t p m n F u v w z A x y C f G o D E)) (fun (G, t, p, m, n, F, o, u, v, w, z, A, x, y, C, D, E) => [.ptr 1 0, V Z G, .ptr 3 0, .ro [W Z, W Z] t p, .ro [W Z, W Z, W Z] m n, V Z F, V Z o]) (fun (G, t, p, m, n, F, o, u, v, w, z, A, x, y, C, D, E) => [.cells 41 [.str u, V Z v, .ro [W Z, W Z] w z, .ro [W Z, W Z, W Z] m A], .cells 26 [V Z x, V Z y], .row 41 [.str, W Z, .sl [W Z, W Z], .sl [W Z, W Z, W Z]] 1 C, .cells 89 [V Z D, V Z E]]) (fun (_, _, _, _, _, _, _, _, _, _, _, _, _, _, _, _, _) K => gg_none) ?_ ?_
  · rintro f ⟨G, t, p, m, n, F, o, u, v, w, z, A, x, y, C, D, E⟩ K hG
    refine ro (fun R => (cnd (decide (o < F))
 (cnd (decide (0 ≤ o ∧ o < ↑m))
 (cnd (decide (0 ≤ o ∧ o < ↑t))
 (cnd (m63 D E (Z.wrap (60 * (Z.wrap ((p.ii o.toNat 1) - (n.ii o.toNat 1))))) (n.ii o.toNat 0))
 (R (XE.normal) [.ptr 1 0, V Z o, .ptr 3 0, .ro [W Z, W Z] t p, .ro [W Z, W Z, W Z] m n, V Z F, V Z (Z.wrap (o + 1))] [.cells 41 [.str u, V Z v, .ro [W Z, W Z] w z, .ro [W Z, W Z, W Z] m A], .cells 26 [V Z x, V Z y], .row 41 [.str, W Z, .sl [W Z, W Z], .sl [W Z, W Z, W Z]] 1 C, .cells 89 [V Z (Z.wrap (60 * (Z.wrap ((p.ii o.toNat 1) - (n.ii o.toNat 1))))), V Z (n.ii o.toNat 0)]])
 (R (XE.normal) [.ptr 1 0, V Z G, .ptr 3 0, .ro [W Z, W Z] t p, .ro [W Z, W Z, W Z] m n, V Z F, V Z (Z.wrap (o + 1))] [.cells 41 [.str u, V Z v, .ro [W Z, W Z] w z, .ro [W Z, W Z, W Z] m A], .cells 26 [V Z x, V Z y], .row 41 [.str, W Z, .sl [W Z, W Z], .sl [W Z, W Z, W Z]] 1 C, .cells 89 [V Z D, V Z E]]))
    False)
   False)
 (R (XE.exit 0) [.ptr 1 0, V Z G, .ptr 3 0] [.cells 41 [.str u, V Z v, .ro [W Z, W Z] w z, .ro [W Z, W Z, W Z] m A], .cells 26 [V Z x, V Z y], .row 41 [.str, W Z, .sl [W Z, W Z], .sl [W Z, W Z, W Z]] 1 C, .cells 89 [V Z D, V Z E]]))) (fun R => by kernel_rfl) ?_
    exact ch hG (fun h0 => cg h0 fun h1 => cg h1 fun h2 => ch h2 (fun h3 => ⟨(_, _, _, _, _, _, _, _, _, _, _, _, _, _, _, _, _), rfl, rfl, h3⟩) (fun h3 => ⟨(_, _, _, _, _, _, _, _, _, _, _, _, _, _, _, _, _), rfl, rfl, h3⟩)) (fun h0 => h0.2)
  · intro s k h
    unfold g24_0 at h
    split at h <;> try exact h.elim
    rename_i e1
    rw [needs_iff] at h
    have hq := h.1
    simp only [List.mem_cons, forall_eq_or_imp, decide_eq_true_eq, List.not_mem_nil, false_imp_iff, implies_true, and_true] at hq
    obtain ⟨rfl, hq⟩ := hq
    exact ⟨_, e1, _, (_, _, _, _, _, _, _, _, _, _, _, _, _, _, _, _, _), rfl, rfl, hq, h.2⟩
noncomputable def m24 (j : ByteArray) (l : Int) (g : Nat) (i : Dat) (b : Nat) (d : Dat) : Int × Int × Int × Int :=
  (cond (bif (decide ((m60 1 (datS [SV.str j, V Z l, SV.ro [Kd.int Z, Kd.int Z] g i, SV.ro [Kd.int Z, Kd.int Z, Kd.int Z] b d] 4)) = 0)) then false else true) (0, 0, 0, (m60 1 (datS [SV.str j, V Z l, SV.ro [Kd.int Z, Kd.int Z] g i, SV.ro [Kd.int Z, Kd.int Z, Kd.int Z] b d] 4))) (cond (decide (((o24_0 (m61 j l g i b d).1 (m61 j l g i b d).2 b d (↑b : Int) j l g i d 0 0 (datS [SV.str j, V Z l, SV.ro [Kd.int Z, Kd.int Z] g i, SV.ro [Kd.int Z, Kd.int Z, Kd.int Z] b d] 4) (-1) 0 0 1).getD default).1 < 0)) (0, 0, 0, 12) (((o24_0 (m61 j l g i b d).1 (m61 j l g i b d).2 b d (↑b : Int) j l g i d 0 0 (datS [SV.str j, V Z l, SV.ro [Kd.int Z, Kd.int Z] g i, SV.ro [Kd.int Z, Kd.int Z, Kd.int Z] b d] 4) (-1) 0 0 1).getD default).1, (m54 ((o24_0 (m61 j l g i b d).1 (m61 j l g i b d).2 b d (↑b : Int) j l g i d 0 0 (datS [SV.str j, V Z l, SV.ro [Kd.int Z, Kd.int Z] g i, SV.ro [Kd.int Z, Kd.int Z, Kd.int Z] b d] 4) (-1) 0 0 1).getD default).2.1 ((o24_0 (m61 j l g i b d).1 (m61 j l g i b d).2 b d (↑b : Int) j l g i d 0 0 (datS [SV.str j, V Z l, SV.ro [Kd.int Z, Kd.int Z] g i, SV.ro [Kd.int Z, Kd.int Z, Kd.int Z] b d] 4) (-1) 0 0 1).getD default).2.2).1, (m54 ((o24_0 (m61 j l g i b d).1 (m61 j l g i b d).2 b d (↑b : Int) j l g i d 0 0 (datS [SV.str j, V Z l, SV.ro [Kd.int Z, Kd.int Z] g i, SV.ro [Kd.int Z, Kd.int Z, Kd.int Z] b d] 4) (-1) 0 0 1).getD default).2.1 ((o24_0 (m61 j l g i b d).1 (m61 j l g i b d).2 b d (↑b : Int) j l g i d 0 0 (datS [SV.str j, V Z l, SV.ro [Kd.int Z, Kd.int Z] g i, SV.ro [Kd.int Z, Kd.int Z, Kd.int Z] b d] 4) (-1) 0 0 1).getD default).2.2).2, 0)))
noncomputable def n24 (j : ByteArray) (l : Int) (g : Nat) (i : Dat) (b : Nat) (d : Dat) : Bool :=
  ((n60 1 (datS [SV.str j, V Z l, SV.ro [Kd.int Z, Kd.int Z] g i, SV.ro [Kd.int Z, Kd.int Z, Kd.int Z] b d] 4)) && (cond (bif (decide ((m60 1 (datS [SV.str j, V Z l, SV.ro [Kd.int Z, Kd.int Z] g i, SV.ro [Kd.int Z, Kd.int Z, Kd.int Z] b d] 4)) = 0)) then false else true) true ((n61 j l g i b d) && (((o24_0 (m61 j l g i b d).1 (m61 j l g i b d).2 b d (↑b : Int) j l g i d 0 0 (datS [SV.str j, V Z l, SV.ro [Kd.int Z, Kd.int Z] g i, SV.ro [Kd.int Z, Kd.int Z, Kd.int Z] b d] 4) (-1) 0 0 1).isSome) && (cond (decide (((o24_0 (m61 j l g i b d).1 (m61 j l g i b d).2 b d (↑b : Int) j l g i d 0 0 (datS [SV.str j, V Z l, SV.ro [Kd.int Z, Kd.int Z] g i, SV.ro [Kd.int Z, Kd.int Z, Kd.int Z] b d] 4) (-1) 0 0 1).getD default).1 < 0)) true ((n54 ((o24_0 (m61 j l g i b d).1 (m61 j l g i b d).2 b d (↑b : Int) j l g i d 0 0 (datS [SV.str j, V Z l, SV.ro [Kd.int Z, Kd.int Z] g i, SV.ro [Kd.int Z, Kd.int Z, Kd.int Z] b d] 4) (-1) 0 0 1).getD default).2.1 ((o24_0 (m61 j l g i b d).1 (m61 j l g i b d).2 b d (↑b : Int) j l g i d 0 0 (datS [SV.str j, V Z l, SV.ro [Kd.int Z, Kd.int Z] g i, SV.ro [Kd.int Z, Kd.int Z, Kd.int Z] b d] 4) (-1) 0 0 1).getD default).2.2) && true))))))
noncomputable def q24 (r : Int × Int × Int × Int) : SV × List Blk × List Blk := (.tup [V Z r.1, .agg [V Z r.2.1, V Z r.2.2.1], V Z r.2.2.2], [], [])
noncomputable def g24 : GF := fun vs bs => match vs, bs with
  | [.agg [.str j, V Z l, .ro [W Z, W Z] g i, .ro [W Z, W Z, W Z] b d]], [] => some (rs 0 (q24 (m24 j l g i b d)) [n24 j l g i b d])
  | _, _ => none
noncomputable def c24 : Ctr := genC [.a [.k, .k, .ro [W Z, W Z], .ro [W Z, W Z, W Z]]] g24
theorem k24 : CtrOk Tryd.prog c24 24 := cx (tc k54 (tc k60 (tc k61 (tc k63 tn)))) mix_ok 8 (fn := Tryd.f24) (c := (Tryd.f24.body.getD .skip)) (grs := []) (rh := .k) Tryd.func24 rfl (by kernel_rfl) (lam_of rfl (lc z24_0 ln)) fun vs bs q h hn => by
  unfold g24 at h
  split at h <;> cases h
  rename_i j l g i b d
  have hn := n1 hn
  exact ⟨_, rfl, ca (fun R => (cnd (n60 1 (datS [SV.str j, V Z l, SV.ro [Kd.int Z, Kd.int Z] g i, SV.ro [Kd.int Z, Kd.int Z, Kd.int Z] b d] 4))
 (cnd (bif (decide ((m60 1 (datS [SV.str j, V Z l, SV.ro [Kd.int Z, Kd.int Z] g i, SV.ro [Kd.int Z, Kd.int Z, Kd.int Z] b d] 4)) = 0)) then false else true)
 (R (.tup [V Z 0, .agg [V Z 0, V Z 0], V Z (m60 1 (datS [SV.str j, V Z l, SV.ro [Kd.int Z, Kd.int Z] g i, SV.ro [Kd.int Z, Kd.int Z, Kd.int Z] b d] 4))]) [] [])
 (cnd (n61 j l g i b d)
 (cnd (decide (b = b))
 (cnd ((o24_0 (m61 j l g i b d).1 (m61 j l g i b d).2 b d (↑b : Int) j l g i d 0 0 (datS [SV.str j, V Z l, SV.ro [Kd.int Z, Kd.int Z] g i, SV.ro [Kd.int Z, Kd.int Z, Kd.int Z] b d] 4) (-1) 0 0 1).isSome)
 (cnd (decide (((o24_0 (m61 j l g i b d).1 (m61 j l g i b d).2 b d (↑b : Int) j l g i d 0 0 (datS [SV.str j, V Z l, SV.ro [Kd.int Z, Kd.int Z] g i, SV.ro [Kd.int Z, Kd.int Z, Kd.int Z] b d] 4) (-1) 0 0 1).getD default).1 < 0))
 (R (.tup [V Z 0, .agg [V Z 0, V Z 0], V Z 12]) [] [])
 (cnd (n54 ((o24_0 (m61 j l g i b d).1 (m61 j l g i b d).2 b d (↑b : Int) j l g i d 0 0 (datS [SV.str j, V Z l, SV.ro [Kd.int Z, Kd.int Z] g i, SV.ro [Kd.int Z, Kd.int Z, Kd.int Z] b d] 4) (-1) 0 0 1).getD default).2.1 ((o24_0 (m61 j l g i b d).1 (m61 j l g i b d).2 b d (↑b : Int) j l g i d 0 0 (datS [SV.str j, V Z l, SV.ro [Kd.int Z, Kd.int Z] g i, SV.ro [Kd.int Z, Kd.int Z, Kd.int Z] b d] 4) (-1) 0 0 1).getD default).2.2)
 (R (.tup [V Z ((o24_0 (m61 j l g i b d).1 (m61 j l g i b d).2 b d (↑b : Int) j l g i d 0 0 (datS [SV.str j, V Z l, SV.ro [Kd.int Z, Kd.int Z] g i, SV.ro [Kd.int Z, Kd.int Z, Kd.int Z] b d] 4) (-1) 0 0 1).getD default).1, .agg [V Z (m54 ((o24_0 (m61 j l g i b d).1 (m61 j l g i b d).2 b d (↑b : Int) j l g i d 0 0 (datS [SV.str j, V Z l, SV.ro [Kd.int Z, Kd.int Z] g i, SV.ro [Kd.int Z, Kd.int Z, Kd.int Z] b d] 4) (-1) 0 0 1).getD default).2.1 ((o24_0 (m61 j l g i b d).1 (m61 j l g i b d).2 b d (↑b : Int) j l g i d 0 0 (datS [SV.str j, V Z l, SV.ro [Kd.int Z, Kd.int Z] g i, SV.ro [Kd.int Z, Kd.int Z, Kd.int Z] b d] 4) (-1) 0 0 1).getD default).2.2).1, V Z (m54 ((o24_0 (m61 j l g i b d).1 (m61 j l g i b d).2 b d (↑b : Int) j l g i d 0 0 (datS [SV.str j, V Z l, SV.ro [Kd.int Z, Kd.int Z] g i, SV.ro [Kd.int Z, Kd.int Z, Kd.int Z] b d] 4) (-1) 0 0 1).getD default).2.1 ((o24_0 (m61 j l g i b d).1 (m61 j l g i b d).2 b d (↑b : Int) j l g i d 0 0 (datS [SV.str j, V Z l, SV.ro [Kd.int Z, Kd.int Z] g i, SV.ro [Kd.int Z, Kd.int Z, Kd.int Z] b d] 4) (-1) 0 0 1).getD default).2.2).2], V Z 0]) [] [])
        False))
      False)
     False)
    False))
  False)) (fun R => by kernel_rfl) (cn (al hn) (co (fun h0 => lf (cT h0 rfl) rfl) (fun h0 => cn (al (cf h0 (ar hn))) (cn (decide_eq_true rfl) (cn (al (ar (cf h0 (ar hn)))) (co (fun h1 => lf (cF h0 (cT h1 rfl)) rfl) (fun h1 => cn (al (cf h1 (ar (ar (cf h0 (ar hn)))))) (lf (cF h0 (cF h1 rfl)) rfl))))))))⟩
/-! ### shotline/shotlineref02.rounded -/
noncomputable def m56 (a b : Int) : Int × Int :=
  ((m91 a b), (m92 a b))
noncomputable def n56 (a b : Int) : Bool :=
  ((n91 a b) && ((n92 a b) && true))
noncomputable def q56 (r : Int × Int) : SV × List Blk × List Blk := (.agg [V Z r.1, V Z r.2], [], [])
noncomputable def g56 : GF := fun vs bs => match vs, bs with
  | [V Z a, V Z b], [] => some (rs 0 (q56 (m56 a b)) [n56 a b])
  | _, _ => none
noncomputable def c56 : Ctr := genC [.k, .k] g56
theorem k56 : CtrOk Tryd.prog c56 56 := cx (tc k91 (tc k92 tn)) mix_ok 8 (fn := Tryd.f56) (c := (Tryd.f56.body.getD .skip)) (grs := []) (rh := .k) Tryd.func56 rfl (by kernel_rfl) noLam fun vs bs q h hn => by
  unfold g56 at h
  split at h <;> cases h
  rename_i a b
  have hn := n1 hn
  exact ⟨_, rfl, ca (fun R => (cnd (n91 a b)
 (cnd (n92 a b)
 (R (.agg [V Z (m91 a b), V Z (m92 a b)]) [] [])
   False)
  False)) (fun R => by kernel_rfl) (cn (al hn) (cn (al (ar hn)) (lf rfl rfl)))⟩
/-! ### shotline/shotlineref02.Seconds -/
noncomputable def l26_0 (g : ByteArray) (i : Int) (j : Nat) (l : Dat) (b : Nat) (d : Dat) : Nat → Int → Int → Option (Int)
  | 0, _, _ => none
  | f + 1, w, t => (cond (decide (t < (↑b : Int))) (cond (decide (0 ≤ t ∧ t < ↑b)) (l26_0 g i j l b d f (Z.wrap (w + (d.ii t.toNat 0))) (Z.wrap (t + 1))) none) (some w))
noncomputable abbrev o26_0 (g : ByteArray) (i : Int) (j : Nat) (l : Dat) (b : Nat) (d : Dat) (w t : Int) : Option (Int) := l26_0 g i j l b d (w.toNat + t.toNat + g.size + i.toNat + j + b + 8) w t
noncomputable def e26_0 (g : ByteArray) (i : Int) (j : Nat) (l : Dat) (b : Nat) (d : Dat) (r : Int) (K : XR) : Prop := K (XE.exit 0) [V Z r] [.cells 41 [.str g, V Z i, .ro [W Z, W Z] j l, .ro [W Z, W Z, W Z] b d]]
noncomputable def g26_0 : LSum := fun s k => match czv 0 21 [1, 3, 4] 1 [] s with
  | some ([.ptr 0 0, V Z w, V Z t], [.cells 41 [.str g, V Z i, .ro [W Z, W Z] j l, .ro [W Z, W Z, W Z] b d]]) => needs [(o26_0 g i j l b d w t).isSome] (e26_0 g i j l b d ((o26_0 g i j l b d w t).getD default) fun e vs bs => inBlk 0 k e (mkSt 0 21 [3] vs 1 bs))
  | _ => False
theorem z26_0 : LOk Tryd.prog g26_0 (.block 0 (bodyAt (Tryd.f26.body.getD .skip) 0)) := by
  refine lb (ι := Int × Int × ByteArray × Int × Nat × Dat × Nat × Dat) (fuel := 8) (na := 0) (nt := 21) (nx := 1) (Lh := [1, 3, 4]) (Le := [3]) (gl := []) tn mix_ok noLam rfl (fun f (w, t, g, i, j, l, b, d) K => GG default (e26_0 g i j l b d) K (l26_0 g i j l b d f w t)) (fun (w, t, g, i, j, l, b, d) => [.ptr 0 0, V Z w, V Z t]) (fun (w, t, g, i, j, l, b, d) => [.cells 41 [.str g, V Z i, .ro [W Z, W Z] j l, .ro [W Z, W Z, W Z] b d]]) (fun (_, _, _, _, _, _, _, _) K => gg_none) ?_ ?_
  · rintro f ⟨w, t, g, i, j, l, b, d⟩ K hG
    refine ro (fun R => (cnd (decide (t < (↑b : Int)))
 (cnd (decide (0 ≤ t ∧ t < ↑b))
 (R (XE.normal) [.ptr 0 0, V Z (Z.wrap (w + (d.ii t.toNat 0))), V Z (Z.wrap (t + 1))] [.cells 41 [.str g, V Z i, .ro [W Z, W Z] j l, .ro [W Z, W Z, W Z] b d]])
   False)
 (R (XE.exit 0) [V Z w] [.cells 41 [.str g, V Z i, .ro [W Z, W Z] j l, .ro [W Z, W Z, W Z] b d]]))) (fun R => by kernel_rfl) ?_
    exact ch hG (fun h0 => cg h0 fun h1 => ⟨(_, _, _, _, _, _, _, _), rfl, rfl, h1⟩) (fun h0 => h0.2)
  · intro s k h
    unfold g26_0 at h
    split at h <;> try exact h.elim
    rename_i e1
    rw [needs_iff] at h
    exact ⟨_, e1, _, (_, _, _, _, _, _, _, _), rfl, rfl, h.1 _ (List.mem_singleton.2 rfl), h.2⟩
noncomputable def m26 (u : ByteArray) (v : Int) (m : Nat) (n : Dat) (o : Nat) (p : Dat) : Int :=
  ((o26_0 u v m n o p 0 0).getD 0)
noncomputable def n26 (u : ByteArray) (v : Int) (m : Nat) (n : Dat) (o : Nat) (p : Dat) : Bool :=
  (((o26_0 u v m n o p 0 0).isSome) && true)
noncomputable def q26 (r : Int) : SV × List Blk × List Blk := (V Z r, [], [])
noncomputable def g26 : GF := fun vs bs => match vs, bs with
  | [.agg [.str u, V Z v, .ro [W Z, W Z] m n, .ro [W Z, W Z, W Z] o p]], [] => some (rs 0 (q26 (m26 u v m n o p)) [n26 u v m n o p])
  | _, _ => none
noncomputable def c26 : Ctr := genC [.a [.k, .k, .ro [W Z, W Z], .ro [W Z, W Z, W Z]]] g26
theorem k26 : CtrOk Tryd.prog c26 26 := cx tn mix_ok 8 (fn := Tryd.f26) (c := (Tryd.f26.body.getD .skip)) (grs := []) (rh := .k) Tryd.func26 rfl (by kernel_rfl) (lam_of rfl (lc z26_0 ln)) fun vs bs q h hn => by
  unfold g26 at h
  split at h <;> cases h
  rename_i u v m n o p
  have hn := n1 hn
  exact ⟨_, rfl, ca (fun R => (cnd ((o26_0 u v m n o p 0 0).isSome)
 (R (V Z ((o26_0 u v m n o p 0 0).getD 0)) [] [])
  False)) (fun R => by kernel_rfl) (cn (al hn) (lf rfl rfl))⟩
/-! ### shotline/shotlineref02.CheckPlan -/
noncomputable def l25_0 (j : ByteArray) (l : Int) (d : Nat) (g : Dat) (i : Nat) (b : Dat) : Nat → Int → Option (Bool × (Int × Int) × (Unit))
  | 0, _ => none
  | f + 1, w => (cond (decide (w < (↑d : Int))) (cond (decide (0 ≤ w ∧ w < ↑d)) (cond (bif (decide ((m65 (g.ii w.toNat 0) (g.ii w.toNat 1)) = 0)) then false else true) (some (true, (0, (m65 (g.ii w.toNat 0) (g.ii w.toNat 1))), default)) (l25_0 j l d g i b f (Z.wrap (w + 1)))) none) (some (false, default, ())))
noncomputable abbrev o25_0 (j : ByteArray) (l : Int) (d : Nat) (g : Dat) (i : Nat) (b : Dat) (w : Int) : Option (Bool × (Int × Int) × (Unit)) := l25_0 j l d g i b (w.toNat + j.size + l.toNat + d + i + 8) w
noncomputable def e25_0 (j : ByteArray) (l : Int) (d : Nat) (g : Dat) (i : Nat) (b : Dat) (r : Bool × (Int × Int) × (Unit)) (K : XR) : Prop := cnd r.1 (K (XE.ret) [.ptr 0 0, V Z r.2.1.1, V Z r.2.1.2] [.cells 41 [.str j, V Z l, .ro [W Z, W Z] d g, .ro [W Z, W Z, W Z] i b]]) (K (XE.exit 0) [.ptr 0 0, .any, .any] [.cells 41 [.str j, V Z l, .ro [W Z, W Z] d g, .ro [W Z, W Z, W Z] i b]])
noncomputable def g25_0 : LSum := fun s k => match czv 0 84 [1, 4] 1 [] s with
  | some ([.ptr 0 0, V Z w], [.cells 41 [.str j, V Z l, .ro [W Z, W Z] d g, .ro [W Z, W Z, W Z] i b]]) => needs [(o25_0 j l d g i b w).isSome] (e25_0 j l d g i b ((o25_0 j l d g i b w).getD default) fun e vs bs => inBlk 0 k e (mkSt 0 84 [1, 2, 3] vs 1 bs))
  | _ => False
theorem z25_0 : LOk Tryd.prog g25_0 (.block 0 (bodyAt (Tryd.f25.body.getD .skip) 0)) := by
  refine lb (ι := Int × ByteArray × Int × Nat × Dat × Nat × Dat) (fuel := 8) (na := 0) (nt := 84) (nx := 1) (Lh := [1, 4]) (Le := [1, 2, 3]) (gl := []) (tc k16 (tc k64 (tc k65 tn))) mix_ok noLam rfl (fun f (w, j, l, d, g, i, b) K => GG default (e25_0 j l d g i b) K (l25_0 j l d g i b f w)) (fun (w, j, l, d, g, i, b) => [.ptr 0 0, V Z w]) (fun (w, j, l, d, g, i, b) => [.cells 41 [.str j, V Z l, .ro [W Z, W Z] d g, .ro [W Z, W Z, W Z] i b]]) (fun (_, _, _, _, _, _, _) K => gg_none) ?_ ?_
  · rintro f ⟨w, j, l, d, g, i, b⟩ K hG
    refine ro (fun R => (cnd (decide (w < (↑d : Int)))
 (cnd (decide (0 ≤ w ∧ w < ↑d))
 (cnd (bif (decide ((m65 (g.ii w.toNat 0) (g.ii w.toNat 1)) = 0)) then false else true)
 (R (XE.ret) [.ptr 0 0, V Z 0, V Z (m65 (g.ii w.toNat 0) (g.ii w.toNat 1))] [.cells 41 [.str j, V Z l, .ro [W Z, W Z] d g, .ro [W Z, W Z, W Z] i b]])
 (R (XE.normal) [.ptr 0 0, V Z (Z.wrap (w + 1))] [.cells 41 [.str j, V Z l, .ro [W Z, W Z] d g, .ro [W Z, W Z, W Z] i b]]))
   False)
 (R (XE.exit 0) [.ptr 0 0, .any, .any] [.cells 41 [.str j, V Z l, .ro [W Z, W Z] d g, .ro [W Z, W Z, W Z] i b]]))) (fun R => by kernel_rfl) ?_
    exact ch hG (fun h0 => cg h0 fun h1 => ch h1 (fun h2 => h2.2) (fun h2 => ⟨(_, _, _, _, _, _, _), rfl, rfl, h2⟩)) (fun h0 => h0.2)
  · intro s k h
    unfold g25_0 at h
    split at h <;> try exact h.elim
    rename_i e1
    rw [needs_iff] at h
    exact ⟨_, e1, _, (_, _, _, _, _, _, _), rfl, rfl, h.1 _ (List.mem_singleton.2 rfl), h.2⟩
noncomputable def l25_2 (j : ByteArray) (l : Int) (d : Nat) (g : Dat) (i : Nat) (b : Dat) : Nat → Int → Int → Option (Bool × (Int × Int) × (Unit))
  | 0, _, _ => none
  | f + 1, x, v => (cond (decide (v < (↑i : Int))) (cond (decide (0 ≤ v ∧ v < ↑i)) (cond (bif (bif (m16 (b.ii v.toNat 0) 1 1000000) then false else true) then true else (bif (m16 (b.ii v.toNat 1) 0 30000) then false else true)) (some (true, (v, 2), default)) (cond (bif (m16 (b.ii v.toNat 2) 0 (Z.wrap ((↑d : Int) - 1))) then false else true) (some (true, (v, 6), default)) (cond (decide ((1000000 : Int) < (Z.wrap (x + (b.ii v.toNat 0))))) (some (true, (v, 8), default)) (l25_2 j l d g i b f (Z.wrap (x + (b.ii v.toNat 0))) (Z.wrap (v + 1)))))) none) (some (false, default, ())))
noncomputable abbrev o25_2 (j : ByteArray) (l : Int) (d : Nat) (g : Dat) (i : Nat) (b : Dat) (x v : Int) : Option (Bool × (Int × Int) × (Unit)) := l25_2 j l d g i b (x.toNat + v.toNat + j.size + l.toNat + d + i + 8) x v
noncomputable def e25_2 (j : ByteArray) (l : Int) (d : Nat) (g : Dat) (i : Nat) (b : Dat) (r : Bool × (Int × Int) × (Unit)) (K : XR) : Prop := cnd r.1 (K (XE.ret) [V Z r.2.1.1, V Z r.2.1.2] [.cells 41 [.str j, V Z l, .ro [W Z, W Z] d g, .ro [W Z, W Z, W Z] i b]]) (K (XE.exit 2) [.any, .any] [.cells 41 [.str j, V Z l, .ro [W Z, W Z] d g, .ro [W Z, W Z, W Z] i b]])
noncomputable def g25_2 : LSum := fun s k => match czv 0 84 [1, 6, 7] 1 [] s with
  | some ([.ptr 0 0, V Z x, V Z v], [.cells 41 [.str j, V Z l, .ro [W Z, W Z] d g, .ro [W Z, W Z, W Z] i b]]) => needs [(o25_2 j l d g i b x v).isSome] (e25_2 j l d g i b ((o25_2 j l d g i b x v).getD default) fun e vs bs => inBlk 2 k e (mkSt 0 84 [2, 3] vs 1 bs))
  | _ => False
theorem z25_2 : LOk Tryd.prog g25_2 (.block 2 (bodyAt (Tryd.f25.body.getD .skip) 2)) := by
  refine lb (ι := Int × Int × ByteArray × Int × Nat × Dat × Nat × Dat) (fuel := 8) (na := 0) (nt := 84) (nx := 1) (Lh := [1, 6, 7]) (Le := [2, 3]) (gl := []) (tc k16 (tc k64 (tc k65 tn))) mix_ok (lam_of rfl (lc z25_0 ln)) rfl (fun f (x, v, j, l, d, g, i, b) K => GG default (e25_2 j l d g i b) K (l25_2 j l d g i b f x v)) (fun (x, v, j, l, d, g, i, b) => [.ptr 0 0, V Z x, V Z v]) (fun (x, v, j, l, d, g, i, b) => [.cells 41 [.str j, V Z l, .ro [W Z, W Z] d g, .ro [W Z, W Z, W Z] i b]]) (fun (_, _, _, _, _, _, _, _) K => gg_none) ?_ ?_
  · rintro f ⟨x, v, j, l, d, g, i, b⟩ K hG
    refine ro (fun R => (cnd (decide (v < (↑i : Int)))
 (cnd (decide (0 ≤ v ∧ v < ↑i))
 (cnd (bif (bif (m16 (b.ii v.toNat 0) 1 1000000) then false else true) then true else (bif (m16 (b.ii v.toNat 1) 0 30000) then false else true))
 (R (XE.ret) [V Z v, V Z 2] [.cells 41 [.str j, V Z l, .ro [W Z, W Z] d g, .ro [W Z, W Z, W Z] i b]])
 (cnd (bif (m16 (b.ii v.toNat 2) 0 (Z.wrap ((↑d : Int) - 1))) then false else true)
 (R (XE.ret) [V Z v, V Z 6] [.cells 41 [.str j, V Z l, .ro [W Z, W Z] d g, .ro [W Z, W Z, W Z] i b]])
 (cnd (decide ((1000000 : Int) < (Z.wrap (x + (b.ii v.toNat 0)))))
 (R (XE.ret) [V Z v, V Z 8] [.cells 41 [.str j, V Z l, .ro [W Z, W Z] d g, .ro [W Z, W Z, W Z] i b]])
 (R (XE.normal) [.ptr 0 0, V Z (Z.wrap (x + (b.ii v.toNat 0))), V Z (Z.wrap (v + 1))] [.cells 41 [.str j, V Z l, .ro [W Z, W Z] d g, .ro [W Z, W Z, W Z] i b]]))))
   False)
 (R (XE.exit 2) [.any, .any] [.cells 41 [.str j, V Z l, .ro [W Z, W Z] d g, .ro [W Z, W Z, W Z] i b]]))) (fun R => by kernel_rfl) ?_
    exact ch hG (fun h0 => cg h0 fun h1 => ch h1 (fun h2 => h2.2) (fun h2 => ch h2 (fun h3 => h3.2) (fun h3 => ch h3 (fun h4 => h4.2) (fun h4 => ⟨(_, _, _, _, _, _, _, _), rfl, rfl, h4⟩)))) (fun h0 => h0.2)
  · intro s k h
    unfold g25_2 at h
    split at h <;> try exact h.elim
    rename_i e1
    rw [needs_iff] at h
    exact ⟨_, e1, _, (_, _, _, _, _, _, _, _), rfl, rfl, h.1 _ (List.mem_singleton.2 rfl), h.2⟩
noncomputable def m25 (t : ByteArray) (u : Int) (m : Nat) (o : Dat) (n : Nat) (p : Dat) : Int × Int :=
  (cond (bif (m64 t) then false else true) (0, 4) (cond (bif (m16 u 400 1100) then false else true) (0, 2) (cond (decide ((↑m : Int) = 0)) (0, 10) (cond (decide (8 < (↑m : Int))) (0, 8) (cond ((o25_0 t u m o n p 0).getD default).1 (((o25_0 t u m o n p 0).getD default).2.1.1, ((o25_0 t u m o n p 0).getD default).2.1.2) (cond (decide ((60 : Int) < (↑n : Int))) (0, 8) (cond ((o25_2 t u m o n p 0 0).getD default).1 (((o25_2 t u m o n p 0 0).getD default).2.1.1, ((o25_2 t u m o n p 0 0).getD default).2.1.2) (0, 0))))))))
noncomputable def n25 (t : ByteArray) (u : Int) (m : Nat) (o : Dat) (n : Nat) (p : Dat) : Bool :=
  ((n64 t) && (cond (bif (m64 t) then false else true) true (cond (bif (m16 u 400 1100) then false else true) true (cond (decide ((↑m : Int) = 0)) true (cond (decide (8 < (↑m : Int))) true (((o25_0 t u m o n p 0).isSome) && (cond ((o25_0 t u m o n p 0).getD default).1 true (cond (decide ((60 : Int) < (↑n : Int))) true (((o25_2 t u m o n p 0 0).isSome) && true)))))))))
noncomputable def q25 (r : Int × Int) : SV × List Blk × List Blk := (.tup [V Z r.1, V Z r.2], [], [])
noncomputable def g25 : GF := fun vs bs => match vs, bs with
  | [.agg [.str t, V Z u, .ro [W Z, W Z] m o, .ro [W Z, W Z, W Z] n p]], [] => some (rs 0 (q25 (m25 t u m o n p)) [n25 t u m o n p])
  | _, _ => none
noncomputable def c25 : Ctr := genC [.a [.k, .k, .ro [W Z, W Z], .ro [W Z, W Z, W Z]]] g25
theorem k25 : CtrOk Tryd.prog c25 25 := cx (tc k16 (tc k64 (tc k65 tn))) mix_ok 8 (fn := Tryd.f25) (c := (Tryd.f25.body.getD .skip)) (grs := []) (rh := .k) Tryd.func25 rfl (by kernel_rfl) (lam_of rfl (lc z25_0 (lc z25_2 ln))) fun vs bs q h hn => by
  unfold g25 at h
  split at h <;> cases h
  rename_i t u m o n p
  have hn := n1 hn
  exact ⟨_, rfl, ca (fun R => (cnd (n64 t)
 (cnd (bif (m64 t) then false else true)
 (R (.tup [V Z 0, V Z 4]) [] [])
 (cnd (bif (m16 u 400 1100) then false else true)
 (R (.tup [V Z 0, V Z 2]) [] [])
 (cnd (decide ((↑m : Int) = 0))
 (R (.tup [V Z 0, V Z 10]) [] [])
 (cnd (decide (8 < (↑m : Int)))
 (R (.tup [V Z 0, V Z 8]) [] [])
 (cnd ((o25_0 t u m o n p 0).isSome)
 (cnd ((o25_0 t u m o n p 0).getD default).1
 (R (.tup [V Z ((o25_0 t u m o n p 0).getD default).2.1.1, V Z ((o25_0 t u m o n p 0).getD default).2.1.2]) [] [])
 (cnd (decide ((60 : Int) < (↑n : Int)))
 (R (.tup [V Z 0, V Z 8]) [] [])
 (cnd ((o25_2 t u m o n p 0 0).isSome)
 (cnd ((o25_2 t u m o n p 0 0).getD default).1
 (R (.tup [V Z ((o25_2 t u m o n p 0 0).getD default).2.1.1, V Z ((o25_2 t u m o n p 0 0).getD default).2.1.2]) [] [])
 (R (.tup [V Z 0, V Z 0]) [] []))
          False)))
       False)))))
  False)) (fun R => by kernel_rfl) (cn (al hn) (co (fun h0 => lf (cT h0 rfl) rfl) (fun h0 => co (fun h1 => lf (cF h0 (cT h1 rfl)) rfl) (fun h1 => co (fun h2 => lf (cF h0 (cF h1 (cT h2 rfl))) rfl) (fun h2 => co (fun h3 => lf (cF h0 (cF h1 (cF h2 (cT h3 rfl)))) rfl) (fun h3 => cn (al (cf h3 (cf h2 (cf h1 (cf h0 (ar hn)))))) (co (fun h4 => lf (cF h0 (cF h1 (cF h2 (cF h3 (cT h4 rfl))))) rfl) (fun h4 => co (fun h5 => lf (cF h0 (cF h1 (cF h2 (cF h3 (cF h4 (cT h5 rfl)))))) rfl) (fun h5 => cn (al (cf h5 (cf h4 (ar (cf h3 (cf h2 (cf h1 (cf h0 (ar hn))))))))) (co (fun h6 => lf (cF h0 (cF h1 (cF h2 (cF h3 (cF h4 (cF h5 (cT h6 rfl))))))) rfl) (fun h6 => lf (cF h0 (cF h1 (cF h2 (cF h3 (cF h4 (cF h5 (cF h6 rfl))))))) rfl)))))))))))⟩
/-! ### shotline/shotlineref02.Points -/
noncomputable def l28_0 (g : ByteArray) (i : Int) (j : Nat) (p : Dat) (b : Nat) (d : Dat) : Nat → Nat → Int → Dat → Option (Nat × Nat × Dat)
  | 0, _, _, _ => none
  | f + 1, v, t, u => (cond (decide (t < (↑b : Int))) (cond (decide (0 ≤ t ∧ t < ↑v)) (cond (decide (t.toNat < v)) (cond (decide (0 ≤ t ∧ t < ↑b)) (cond (decide (0 ≤ t ∧ t < ↑b)) (cond (decide ((v + 1) ≤ 1073741824)) (l28_0 g i j p b d f (v + 1) (Z.wrap (t + 1)) (u.app v (datS [V Z (Z.wrap ((u.ii t.toNat 0) + (d.ii t.toNat 0))), V Z (d.ii t.toNat 1)] 2))) none) none) none) none) none) (some (v, v, u)))
noncomputable abbrev o28_0 (g : ByteArray) (i : Int) (j : Nat) (p : Dat) (b : Nat) (d : Dat) (v : Nat) (t : Int) (u : Dat) : Option (Nat × Nat × Dat) := l28_0 g i j p b d (v + t.toNat + g.size + i.toNat + j + b + 8) v t u
noncomputable def e28_0 (g : ByteArray) (i : Int) (j : Nat) (p : Dat) (b : Nat) (d : Dat) (r : Nat × Nat × Dat) (K : XR) : Prop := K (XE.exit 0) [.gr 1 2 r.1] [.cells 41 [.str g, V Z i, .ro [W Z, W Z] j p, .ro [W Z, W Z, W Z] b d], .row 35 [W Z, W Z] r.2.1 r.2.2]
noncomputable def g28_0 : LSum := fun s k => match czv 0 37 [1, 3, 4] 2 [⟨true, 3, 0, 1, 35, [W Z, W Z]⟩] s with
  | some ([.ptr 0 0, .gr 1 2 v, V Z t], [.cells 41 [.str g, V Z i, .ro [W Z, W Z] j p, .ro [W Z, W Z, W Z] b d], .row 35 [W Z, W Z] b1_0 u]) => needs [decide (v = b1_0), (o28_0 g i j p b d v t u).isSome] (e28_0 g i j p b d ((o28_0 g i j p b d v t u).getD default) fun e vs bs => inBlk 0 k e (mkSt 0 37 [3] vs 2 bs))
  | _ => False
theorem z28_0 : LOk Tryd.prog g28_0 (.block 0 (bodyAt (Tryd.f28.body.getD .skip) 0)) := by
  refine lb (ι := Nat × Int × ByteArray × Int × Nat × Dat × Nat × Dat × Dat) (fuel := 8) (na := 0) (nt := 37) (nx := 2) (Lh := [1, 3, 4]) (Le := [3]) (gl := [⟨true, 3, 0, 1, 35, [W Z, W Z]⟩]) tn mix_ok noLam rfl (fun f (v, t, g, i, j, p, b, d, u) K => GG default (e28_0 g i j p b d) K (l28_0 g i j p b d f v t u)) (fun (v, t, g, i, j, p, b, d, u) => [.ptr 0 0, .gr 1 2 v, V Z t]) (fun (v, t, g, i, j, p, b, d, u) => [.cells 41 [.str g, V Z i, .ro [W Z, W Z] j p, .ro [W Z, W Z, W Z] b d], .row 35 [W Z, W Z] v u]) (fun (_, _, _, _, _, _, _, _, _) K => gg_none) ?_ ?_
  · rintro f ⟨v, t, g, i, j, p, b, d, u⟩ K hG
    refine ro (fun R => (cnd (decide (t < (↑b : Int)))
 (cnd (decide (0 ≤ t ∧ t < ↑v))
 (cnd (decide (t.toNat < v))
 (cnd (decide (0 ≤ t ∧ t < ↑b))
 (cnd (decide (0 ≤ t ∧ t < ↑b))
 (cnd (decide (v ≤ v))
 (cnd (decide ((v + 1) ≤ 1073741824))
 (R (XE.normal) [.ptr 0 0, .gr 1 2 (v + 1), V Z (Z.wrap (t + 1))] [.cells 41 [.str g, V Z i, .ro [W Z, W Z] j p, .ro [W Z, W Z, W Z] b d], .row 35 [W Z, W Z] (v + 1) (u.app v (datS [V Z (Z.wrap ((u.ii t.toNat 0) + (d.ii t.toNat 0))), V Z (d.ii t.toNat 1)] 2))])
        False)
       False)
      False)
     False)
    False)
   False)
 (R (XE.exit 0) [.gr 1 2 v] [.cells 41 [.str g, V Z i, .ro [W Z, W Z] j p, .ro [W Z, W Z, W Z] b d], .row 35 [W Z, W Z] v u]))) (fun R => by kernel_rfl) ?_
    exact ch hG (fun h0 => cg h0 fun h1 => cg h1 fun h2 => cg h2 fun h3 => cg h3 fun h4 => cn (decide_eq_true (Nat.le_refl _)) (cg h4 fun h5 => ⟨(_, _, _, _, _, _, _, _, _), rfl, rfl, h5⟩)) (fun h0 => h0.2)
  · intro s k h
    unfold g28_0 at h
    split at h <;> try exact h.elim
    rename_i e1
    rw [needs_iff] at h
    have hq := h.1
    simp only [List.mem_cons, forall_eq_or_imp, decide_eq_true_eq, List.not_mem_nil, false_imp_iff, implies_true, and_true] at hq
    obtain ⟨rfl, hq⟩ := hq
    exact ⟨_, e1, _, (_, _, _, _, _, _, _, _, _), rfl, rfl, hq, h.2⟩
noncomputable def m28 (w : ByteArray) (x : Int) (l : Nat) (m : Dat) (n : Nat) (o : Dat) : Nat × Dat :=
  (((o28_0 w x l m n o 1 0 (datS [V Z 0, V Z 0] 2)).getD default).1, ((o28_0 w x l m n o 1 0 (datS [V Z 0, V Z 0] 2)).getD default).2.2)
noncomputable def n28 (w : ByteArray) (x : Int) (l : Nat) (m : Dat) (n : Nat) (o : Dat) : Bool :=
  (((o28_0 w x l m n o 1 0 (datS [V Z 0, V Z 0] 2)).isSome) && ((decide ((0 + ((o28_0 w x l m n o 1 0 (datS [V Z 0, V Z 0] 2)).getD default).1) ≤ ((o28_0 w x l m n o 1 0 (datS [V Z 0, V Z 0] 2)).getD default).2.1)) && true))
noncomputable def q28 (r : Nat × Dat) : SV × List Blk × List Blk := (.ro [W Z, W Z] r.1 r.2, [], [])
noncomputable def g28 : GF := fun vs bs => match vs, bs with
  | [.agg [.str w, V Z x, .ro [W Z, W Z] l m, .ro [W Z, W Z, W Z] n o]], [] => some (rs 0 (q28 (m28 w x l m n o)) [n28 w x l m n o])
  | _, _ => none
noncomputable def c28 : Ctr := genC [.a [.k, .k, .ro [W Z, W Z], .ro [W Z, W Z, W Z]]] g28
theorem k28 : CtrOk Tryd.prog c28 28 := cx tn mix_ok 8 (fn := Tryd.f28) (c := (Tryd.f28.body.getD .skip)) (grs := []) (rh := .ro [W Z, W Z]) Tryd.func28 rfl (by kernel_rfl) (lam_of rfl (lc z28_0 ln)) fun vs bs q h hn => by
  unfold g28 at h
  split at h <;> cases h
  rename_i w x l m n o
  have hn := n1 hn
  exact ⟨_, rfl, ca (fun R => (cnd ((o28_0 w x l m n o 1 0 (datS [V Z 0, V Z 0] 2)).isSome)
 (cnd (decide ((0 + ((o28_0 w x l m n o 1 0 (datS [V Z 0, V Z 0] 2)).getD default).1) ≤ ((o28_0 w x l m n o 1 0 (datS [V Z 0, V Z 0] 2)).getD default).2.1))
 (R (.ro [W Z, W Z] ((o28_0 w x l m n o 1 0 (datS [V Z 0, V Z 0] 2)).getD default).1 ((o28_0 w x l m n o 1 0 (datS [V Z 0, V Z 0] 2)).getD default).2.2) [] [])
   False)
  False)) (fun R => by kernel_rfl) (cn (al hn) (cn (al (ar hn)) (lf rfl rfl)))⟩
/-! ### shotline/shotlineref02.MeanDepth -/
noncomputable def l29_0 (o : ByteArray) (p : Int) (t : Nat) (w : Dat) (d : Nat) (l : Dat) (u v : Int) : Nat → Int → Int → Int → Option (Int)
  | 0, _, _, _ => none
  | f + 1, y, z, x => (cond (decide (x < (↑d : Int))) (cond (decide (0 ≤ x ∧ x < ↑d)) (cond (decide (0 ≤ x ∧ x < ↑d)) (cond (decide (0 ≤ x ∧ x < ↑d)) (l29_0 o p t w d l u v f (Z.wrap (y + (Z.wrap ((l.ii x.toNat 0) * (Z.wrap (z + (l.ii x.toNat 1))))))) (l.ii x.toNat 1) (Z.wrap (x + 1))) none) none) none) (some y))
noncomputable abbrev o29_0 (o : ByteArray) (p : Int) (t : Nat) (w : Dat) (d : Nat) (l : Dat) (u v y z x : Int) : Option (Int) := l29_0 o p t w d l u v (y.toNat + z.toNat + x.toNat + o.size + p.toNat + t + d + u.toNat + v.toNat + 8) y z x
noncomputable def e29_0 (o : ByteArray) (p : Int) (t : Nat) (w : Dat) (d : Nat) (l : Dat) (u v r : Int) (K : XR) : Prop := K (XE.exit 0) [.ptr 0 0, .ptr 1 0, V Z r] [.cells 41 [.str o, V Z p, .ro [W Z, W Z] t w, .ro [W Z, W Z, W Z] d l], .cells 26 [V Z u, V Z v]]
noncomputable def g29_0 : LSum := fun s k => match czv 0 46 [1, 2, 3, 4, 5] 2 [] s with
  | some ([.ptr 0 0, .ptr 1 0, V Z y, V Z z, V Z x], [.cells 41 [.str o, V Z p, .ro [W Z, W Z] t w, .ro [W Z, W Z, W Z] d l], .cells 26 [V Z u, V Z v]]) => needs [(o29_0 o p t w d l u v y z x).isSome] (e29_0 o p t w d l u v ((o29_0 o p t w d l u v y z x).getD default) fun e vs bs => inBlk 0 k e (mkSt 0 46 [1, 2, 3] vs 2 bs))
  | _ => False
theorem z29_0 : LOk Tryd.prog g29_0 (.block 0 (bodyAt (Tryd.f29.body.getD .skip) 0)) := by
  refine lb (ι := Int × Int × Int × ByteArray × Int × Nat × Dat × Nat × Dat × Int × Int) (fuel := 8) (na := 0) (nt := 46) (nx := 2) (Lh := [1, 2, 3, 4, 5]) (Le := [1, 2, 3]) (gl := []) (tc k26 (tc k56 tn)) mix_ok noLam rfl (fun f (y, z, x, o, p, t, w, d, l, u, v) K => GG default (e29_0 o p t w d l u v) K (l29_0 o p t w d l u v f y z x)) (fun (y, z, x, o, p, t, w, d, l, u, v) => [.ptr 0 0, .ptr 1 0, V Z y, V Z z, V Z x]) (fun (y, z, x, o, p, t, w, d, l, u, v) => [.cells 41 [.str o, V Z p, .ro [W Z, W Z] t w, .ro [W Z, W Z, W Z] d l], .cells 26 [V Z u, V Z v]]) (fun (_, _, _, _, _, _, _, _, _, _, _) K => gg_none) ?_ ?_
  · rintro f ⟨y, z, x, o, p, t, w, d, l, u, v⟩ K hG
    refine ro (fun R => (cnd (decide (x < (↑d : Int)))
 (cnd (decide (0 ≤ x ∧ x < ↑d))
 (cnd (decide (0 ≤ x ∧ x < ↑d))
 (cnd (decide (0 ≤ x ∧ x < ↑d))
 (R (XE.normal) [.ptr 0 0, .ptr 1 0, V Z (Z.wrap (y + (Z.wrap ((l.ii x.toNat 0) * (Z.wrap (z + (l.ii x.toNat 1))))))), V Z (l.ii x.toNat 1), V Z (Z.wrap (x + 1))] [.cells 41 [.str o, V Z p, .ro [W Z, W Z] t w, .ro [W Z, W Z, W Z] d l], .cells 26 [V Z u, V Z v]])
     False)
    False)
   False)
 (R (XE.exit 0) [.ptr 0 0, .ptr 1 0, V Z y] [.cells 41 [.str o, V Z p, .ro [W Z, W Z] t w, .ro [W Z, W Z, W Z] d l], .cells 26 [V Z u, V Z v]]))) (fun R => by kernel_rfl) ?_
    exact ch hG (fun h0 => cg h0 fun h1 => cg h1 fun h2 => cg h2 fun h3 => ⟨(_, _, _, _, _, _, _, _, _, _, _), rfl, rfl, h3⟩) (fun h0 => h0.2)
  · intro s k h
    unfold g29_0 at h
    split at h <;> try exact h.elim
    rename_i e1
    rw [needs_iff] at h
    exact ⟨_, e1, _, (_, _, _, _, _, _, _, _, _, _, _), rfl, rfl, h.1 _ (List.mem_singleton.2 rfl), h.2⟩
noncomputable def m29 (m : ByteArray) (n : Int) (g : Nat) (i : Dat) (b : Nat) (j : Dat) : Int × Int :=
  (cond (decide ((↑b : Int) = 0)) (0, 0) ((m56 ((o29_0 m n g i b j 0 0 0 0 0).getD 0) (Z.wrap (2 * (m26 m n g i b j)))).1, (m56 ((o29_0 m n g i b j 0 0 0 0 0).getD 0) (Z.wrap (2 * (m26 m n g i b j)))).2))
noncomputable def n29 (m : ByteArray) (n : Int) (g : Nat) (i : Dat) (b : Nat) (j : Dat) : Bool :=
  (cond (decide ((↑b : Int) = 0)) true (((o29_0 m n g i b j 0 0 0 0 0).isSome) && ((n26 m n g i b j) && ((n56 ((o29_0 m n g i b j 0 0 0 0 0).getD 0) (Z.wrap (2 * (m26 m n g i b j)))) && true))))
noncomputable def q29 (r : Int × Int) : SV × List Blk × List Blk := (.agg [V Z r.1, V Z r.2], [], [])
noncomputable def g29 : GF := fun vs bs => match vs, bs with
  | [.agg [.str m, V Z n, .ro [W Z, W Z] g i, .ro [W Z, W Z, W Z] b j]], [] => some (rs 0 (q29 (m29 m n g i b j)) [n29 m n g i b j])
  | _, _ => none
noncomputable def c29 : Ctr := genC [.a [.k, .k, .ro [W Z, W Z], .ro [W Z, W Z, W Z]]] g29
theorem k29 : CtrOk Tryd.prog c29 29 := cx (tc k26 (tc k56 tn)) mix_ok 8 (fn := Tryd.f29) (c := (Tryd.f29.body.getD .skip)) (grs := []) (rh := .k) Tryd.func29 rfl (by kernel_rfl) (lam_of rfl (lc z29_0 ln)) fun vs bs q h hn => by
  unfold g29 at h
  split at h <;> cases h
  rename_i m n g i b j
  have hn := n1 hn
  exact ⟨_, rfl, ca (fun R => (cnd (decide ((↑b : Int) = 0))
 (R (.agg [V Z 0, V Z 0]) [] [])
 (cnd ((o29_0 m n g i b j 0 0 0 0 0).isSome)
 (cnd (n26 m n g i b j)
 (cnd (n56 ((o29_0 m n g i b j 0 0 0 0 0).getD 0) (Z.wrap (2 * (m26 m n g i b j))))
 (R (.agg [V Z (m56 ((o29_0 m n g i b j 0 0 0 0 0).getD 0) (Z.wrap (2 * (m26 m n g i b j)))).1, V Z (m56 ((o29_0 m n g i b j 0 0 0 0 0).getD 0) (Z.wrap (2 * (m26 m n g i b j)))).2]) [] [])
     False)
    False)
   False))) (fun R => by kernel_rfl) (co (fun h0 => lf (cT h0 rfl) rfl) (fun h0 => cn (al (cf h0 hn)) (cn (al (ar (cf h0 hn))) (cn (al (ar (ar (cf h0 hn)))) (lf (cF h0 rfl) rfl)))))⟩
/-! ### shotline/shotlineref02.FastestUp -/
noncomputable def l30_0 (o : ByteArray) (p : Int) (t : Nat) (w : Dat) (l : Nat) (b : Dat) (u v : Int) : Nat → Int → Int → Int → Int → Int → Option (Int × Int × Int)
  | 0, _, _, _, _, _ => none
  | f + 1, A, y, z, C, x => (cond (decide (x < (↑l : Int))) (cond (decide (0 ≤ x ∧ x < ↑l)) (cond (decide ((Z.wrap (y * (b.ii x.toNat 0))) < (Z.wrap ((Z.wrap (60 * (Z.wrap (C - (b.ii x.toNat 1))))) * z)))) (l30_0 o p t w l b u v f x (Z.wrap (60 * (Z.wrap (C - (b.ii x.toNat 1))))) (b.ii x.toNat 0) (b.ii x.toNat 1) (Z.wrap (x + 1))) (l30_0 o p t w l b u v f A y z (b.ii x.toNat 1) (Z.wrap (x + 1)))) none) (some (A, y, z)))
noncomputable abbrev o30_0 (o : ByteArray) (p : Int) (t : Nat) (w : Dat) (l : Nat) (b : Dat) (u v A y z C x : Int) : Option (Int × Int × Int) := l30_0 o p t w l b u v (A.toNat + y.toNat + z.toNat + C.toNat + x.toNat + o.size + p.toNat + t + l + u.toNat + v.toNat + 8) A y z C x
noncomputable def e30_0 (o : ByteArray) (p : Int) (t : Nat) (w : Dat) (l : Nat) (b : Dat) (u v : Int) (r : Int × Int × Int) (K : XR) : Prop := K (XE.exit 0) [.ptr 1 0, V Z r.1, V Z r.2.1, V Z r.2.2] [.cells 41 [.str o, V Z p, .ro [W Z, W Z] t w, .ro [W Z, W Z, W Z] l b], .cells 26 [V Z u, V Z v]]
noncomputable def g30_0 : LSum := fun s k => match czv 0 51 [1, 3, 4, 5, 6, 7, 8] 2 [] s with
  | some ([.ptr 0 0, .ptr 1 0, V Z A, V Z y, V Z z, V Z C, V Z x], [.cells 41 [.str o, V Z p, .ro [W Z, W Z] t w, .ro [W Z, W Z, W Z] l b], .cells 26 [V Z u, V Z v]]) => needs [(o30_0 o p t w l b u v A y z C x).isSome] (e30_0 o p t w l b u v ((o30_0 o p t w l b u v A y z C x).getD default) fun e vs bs => inBlk 0 k e (mkSt 0 51 [3, 4, 5, 6] vs 2 bs))
  | _ => False
theorem z30_0 : LOk Tryd.prog g30_0 (.block 0 (bodyAt (Tryd.f30.body.getD .skip) 0)) := by
  refine lb (ι := Int × Int × Int × Int × Int × ByteArray × Int × Nat × Dat × Nat × Dat × Int × Int) (fuel := 8) (na := 0) (nt := 51) (nx := 2) (Lh := [1, 3, 4, 5, 6, 7, 8]) (Le := [3, 4, 5, 6]) (gl := []) (tc k56 tn) mix_ok noLam rfl (fun f (A, y, z, C, x, o, p, t, w, l, b, u, v) K => GG default (e30_0 o p t w l b u v) K (l30_0 o p t w l b u v f A y z C x)) (fun (A, y, z, C, x, o, p, t, w, l, b, u, v) => [.ptr 0 0, .ptr 1 0, V Z A, V Z y, V Z z, V Z C, V Z x]) (fun (A, y, z, C, x, o, p, t, w, l, b, u, v) => [.cells 41 [.str o, V Z p, .ro [W Z, W Z] t w, .ro [W Z, W Z, W Z] l b], .cells 26 [V Z u, V Z v]]) (fun (_, _, _, _, _, _, _, _, _, _, _, _, _) K => gg_none) ?_ ?_
  · rintro f ⟨A, y, z, C, x, o, p, t, w, l, b, u, v⟩ K hG
    refine ro (fun R => (cnd (decide (x < (↑l : Int)))
 (cnd (decide (0 ≤ x ∧ x < ↑l))
 (cnd (decide ((Z.wrap (y * (b.ii x.toNat 0))) < (Z.wrap ((Z.wrap (60 * (Z.wrap (C - (b.ii x.toNat 1))))) * z))))
 (R (XE.normal) [.ptr 0 0, .ptr 1 0, V Z x, V Z (Z.wrap (60 * (Z.wrap (C - (b.ii x.toNat 1))))), V Z (b.ii x.toNat 0), V Z (b.ii x.toNat 1), V Z (Z.wrap (x + 1))] [.cells 41 [.str o, V Z p, .ro [W Z, W Z] t w, .ro [W Z, W Z, W Z] l b], .cells 26 [V Z u, V Z v]])
 (R (XE.normal) [.ptr 0 0, .ptr 1 0, V Z A, V Z y, V Z z, V Z (b.ii x.toNat 1), V Z (Z.wrap (x + 1))] [.cells 41 [.str o, V Z p, .ro [W Z, W Z] t w, .ro [W Z, W Z, W Z] l b], .cells 26 [V Z u, V Z v]]))
   False)
 (R (XE.exit 0) [.ptr 1 0, V Z A, V Z y, V Z z] [.cells 41 [.str o, V Z p, .ro [W Z, W Z] t w, .ro [W Z, W Z, W Z] l b], .cells 26 [V Z u, V Z v]]))) (fun R => by kernel_rfl) ?_
    exact ch hG (fun h0 => cg h0 fun h1 => ch h1 (fun h2 => ⟨(_, _, _, _, _, _, _, _, _, _, _, _, _), rfl, rfl, h2⟩) (fun h2 => ⟨(_, _, _, _, _, _, _, _, _, _, _, _, _), rfl, rfl, h2⟩)) (fun h0 => h0.2)
  · intro s k h
    unfold g30_0 at h
    split at h <;> try exact h.elim
    rename_i e1
    rw [needs_iff] at h
    exact ⟨_, e1, _, (_, _, _, _, _, _, _, _, _, _, _, _, _), rfl, rfl, h.1 _ (List.mem_singleton.2 rfl), h.2⟩
noncomputable def m30 (m : ByteArray) (n : Int) (d : Nat) (g : Dat) (i : Nat) (j : Dat) : Int × Int × Int :=
  (cond (decide (((o30_0 m n d g i j 0 0 (-1) 0 1 0 0).getD default).1 < 0)) ((-1), 0, 0) (((o30_0 m n d g i j 0 0 (-1) 0 1 0 0).getD default).1, (m56 ((o30_0 m n d g i j 0 0 (-1) 0 1 0 0).getD default).2.1 ((o30_0 m n d g i j 0 0 (-1) 0 1 0 0).getD default).2.2).1, (m56 ((o30_0 m n d g i j 0 0 (-1) 0 1 0 0).getD default).2.1 ((o30_0 m n d g i j 0 0 (-1) 0 1 0 0).getD default).2.2).2))
noncomputable def n30 (m : ByteArray) (n : Int) (d : Nat) (g : Dat) (i : Nat) (j : Dat) : Bool :=
  (((o30_0 m n d g i j 0 0 (-1) 0 1 0 0).isSome) && (cond (decide (((o30_0 m n d g i j 0 0 (-1) 0 1 0 0).getD default).1 < 0)) true ((n56 ((o30_0 m n d g i j 0 0 (-1) 0 1 0 0).getD default).2.1 ((o30_0 m n d g i j 0 0 (-1) 0 1 0 0).getD default).2.2) && true)))
noncomputable def q30 (r : Int × Int × Int) : SV × List Blk × List Blk := (.tup [V Z r.1, .agg [V Z r.2.1, V Z r.2.2]], [], [])
noncomputable def g30 : GF := fun vs bs => match vs, bs with
  | [.agg [.str m, V Z n, .ro [W Z, W Z] d g, .ro [W Z, W Z, W Z] i j]], [] => some (rs 0 (q30 (m30 m n d g i j)) [n30 m n d g i j])
  | _, _ => none
noncomputable def c30 : Ctr := genC [.a [.k, .k, .ro [W Z, W Z], .ro [W Z, W Z, W Z]]] g30
theorem k30 : CtrOk Tryd.prog c30 30 := cx (tc k56 tn) mix_ok 8 (fn := Tryd.f30) (c := (Tryd.f30.body.getD .skip)) (grs := []) (rh := .k) Tryd.func30 rfl (by kernel_rfl) (lam_of rfl (lc z30_0 ln)) fun vs bs q h hn => by
  unfold g30 at h
  split at h <;> cases h
  rename_i m n d g i j
  have hn := n1 hn
  exact ⟨_, rfl, ca (fun R => (cnd ((o30_0 m n d g i j 0 0 (-1) 0 1 0 0).isSome)
 (cnd (decide (((o30_0 m n d g i j 0 0 (-1) 0 1 0 0).getD default).1 < 0))
 (R (.tup [V Z (-1), .agg [V Z 0, V Z 0]]) [] [])
 (cnd (n56 ((o30_0 m n d g i j 0 0 (-1) 0 1 0 0).getD default).2.1 ((o30_0 m n d g i j 0 0 (-1) 0 1 0 0).getD default).2.2)
 (R (.tup [V Z ((o30_0 m n d g i j 0 0 (-1) 0 1 0 0).getD default).1, .agg [V Z (m56 ((o30_0 m n d g i j 0 0 (-1) 0 1 0 0).getD default).2.1 ((o30_0 m n d g i j 0 0 (-1) 0 1 0 0).getD default).2.2).1, V Z (m56 ((o30_0 m n d g i j 0 0 (-1) 0 1 0 0).getD default).2.1 ((o30_0 m n d g i j 0 0 (-1) 0 1 0 0).getD default).2.2).2]]) [] [])
    False))
  False)) (fun R => by kernel_rfl) (cn (al hn) (co (fun h0 => lf (cT h0 rfl) rfl) (fun h0 => cn (al (cf h0 (ar hn))) (lf (cF h0 rfl) rfl))))⟩
/-! ### shotline/shotlinebase.Points -/
noncomputable def l27_0 (a : Nat) (b : Dat) (g : Nat) (d : Dat) : Nat → Int → Option (Bool × (Bool) × (Unit))
  | 0, _ => none
  | f + 1, i => (cond (decide (i < (↑a : Int))) (cond (decide (0 ≤ i ∧ i < ↑a)) (cond (decide (0 ≤ i ∧ i < ↑g)) (cond (bif (bif (decide ((b.ii i.toNat 0) = (d.ii i.toNat 0))) then (bif (decide ((b.ii i.toNat 1) = (d.ii i.toNat 1))) then true else false) else false) then false else true) (some (true, false, default)) (l27_0 a b g d f (Z.wrap (i + 1)))) none) none) (some (false, default, ())))
noncomputable abbrev o27_0 (a : Nat) (b : Dat) (g : Nat) (d : Dat) (i : Int) : Option (Bool × (Bool) × (Unit)) := l27_0 a b g d (a + g + i.toNat + 8) i
noncomputable def e27_0 (a : Nat) (b : Dat) (g : Nat) (d : Dat) (r : Bool × (Bool) × (Unit)) (K : XR) : Prop := cnd r.1 (K (XE.ret) [.bool r.2.1] []) (K (XE.exit 0) [.any] [])
noncomputable def g27_0 : LSum := fun s k => match czv 0 26 [0, 1, 5] 0 [] s with
  | some ([.ro [W Z, W Z] a b, .ro [W Z, W Z] g d, V Z i], []) => needs [(o27_0 a b g d i).isSome] (e27_0 a b g d ((o27_0 a b g d i).getD default) fun e vs bs => inBlk 0 k e (mkSt 0 26 [4] vs 0 bs))
  | _ => False
theorem z27_0 : LOk Tryd.prog g27_0 (.block 0 (bodyAt (Tryd.f27.body.getD .skip) 0)) := by
  refine lb (ι := Nat × Dat × Nat × Dat × Int) (fuel := 8) (na := 0) (nt := 26) (nx := 0) (Lh := [0, 1, 5]) (Le := [4]) (gl := []) tn mix_ok noLam rfl (fun f (a, b, g, d, i) K => GG default (e27_0 a b g d) K (l27_0 a b g d f i)) (fun (a, b, g, d, i) => [.ro [W Z, W Z] a b, .ro [W Z, W Z] g d, V Z i]) (fun (a, b, g, d, i) => []) (fun (_, _, _, _, _) K => gg_none) ?_ ?_
  · rintro f ⟨a, b, g, d, i⟩ K hG
    refine ro (fun R => (cnd (decide (i < (↑a : Int)))
 (cnd (decide (0 ≤ i ∧ i < ↑a))
 (cnd (decide (0 ≤ i ∧ i < ↑g))
 (cnd (bif (bif (decide ((b.ii i.toNat 0) = (d.ii i.toNat 0))) then (bif (decide ((b.ii i.toNat 1) = (d.ii i.toNat 1))) then true else false) else false) then false else true)
 (R (XE.ret) [.bool false] [])
 (R (XE.normal) [.ro [W Z, W Z] a b, .ro [W Z, W Z] g d, V Z (Z.wrap (i + 1))] []))
    False)
   False)
 (R (XE.exit 0) [.any] []))) (fun R => by kernel_rfl) ?_
    exact ch hG (fun h0 => cg h0 fun h1 => cg h1 fun h2 => ch h2 (fun h3 => h3.2) (fun h3 => ⟨(_, _, _, _, _), rfl, rfl, h3⟩)) (fun h0 => h0.2)
  · intro s k h
    unfold g27_0 at h
    split at h <;> try exact h.elim
    rename_i e1
    rw [needs_iff] at h
    exact ⟨_, e1, _, (_, _, _, _, _), rfl, rfl, h.1 _ (List.mem_singleton.2 rfl), h.2⟩
noncomputable def m27 (j : Nat) (m : Dat) (l : Nat) (n : Dat) : Bool :=
  (cond (bif (decide ((↑j : Int) = (↑l : Int))) then false else true) false (cond ((o27_0 j m l n 0).getD default).1 ((o27_0 j m l n 0).getD default).2.1 true))
noncomputable def n27 (j : Nat) (m : Dat) (l : Nat) (n : Dat) : Bool :=
  (cond (bif (decide ((↑j : Int) = (↑l : Int))) then false else true) true (((o27_0 j m l n 0).isSome) && true))
noncomputable def q27 (r : Bool) : SV × List Blk × List Blk := (.bool r, [], [])
noncomputable def g27 : GF := fun vs bs => match vs, bs with
  | [.ro [W Z, W Z] j m, .ro [W Z, W Z] l n], [] => some (rs 0 (q27 (m27 j m l n)) [n27 j m l n])
  | _, _ => none
noncomputable def c27 : Ctr := genC [.ro [W Z, W Z], .ro [W Z, W Z]] g27
theorem k27 : CtrOk Tryd.prog c27 27 := cx tn mix_ok 8 (fn := Tryd.f27) (c := (Tryd.f27.body.getD .skip)) (grs := []) (rh := .k) Tryd.func27 rfl (by kernel_rfl) (lam_of rfl (lc z27_0 ln)) fun vs bs q h hn => by
  unfold g27 at h
  split at h <;> cases h
  rename_i j m l n
  have hn := n1 hn
  exact ⟨_, rfl, ca (fun R => (cnd (bif (decide ((↑j : Int) = (↑l : Int))) then false else true)
 (R (.bool false) [] [])
 (cnd ((o27_0 j m l n 0).isSome)
 (cnd ((o27_0 j m l n 0).getD default).1
 (R (.bool ((o27_0 j m l n 0).getD default).2.1) [] [])
 (R (.bool true) [] []))
   False))) (fun R => by kernel_rfl) (co (fun h0 => lf (cT h0 rfl) rfl) (fun h0 => cn (al (cf h0 hn)) (co (fun h1 => lf (cF h0 (cT h1 rfl)) rfl) (fun h1 => lf (cF h0 (cF h1 rfl)) rfl))))⟩
/-! ### shotline/profile.followed -/
noncomputable def m78 (i : ByteArray) (j : Int) (b : Nat) (d : Dat) (e : Nat) (g : Dat) (l : Int) : Nat × Dat × Int :=
  (cond (bif (decide ((m60 1 (datS [SV.str i, V Z j, SV.ro [Kd.int Z, Kd.int Z] b d, SV.ro [Kd.int Z, Kd.int Z, Kd.int Z] e g] 4)) = 0)) then false else true) (0, noDat, (m60 1 (datS [SV.str i, V Z j, SV.ro [Kd.int Z, Kd.int Z] b d, SV.ro [Kd.int Z, Kd.int Z, Kd.int Z] e g] 4))) (cond (bif (m52 l 0 (m62 (m61 i j b d e g).1 (m61 i j b d e g).2)) then false else true) (0, noDat, 2) ((m61 i j b d e g).1, (m61 i j b d e g).2, 0)))
noncomputable def n78 (i : ByteArray) (j : Int) (b : Nat) (d : Dat) (e : Nat) (g : Dat) (l : Int) : Bool :=
  ((n60 1 (datS [SV.str i, V Z j, SV.ro [Kd.int Z, Kd.int Z] b d, SV.ro [Kd.int Z, Kd.int Z, Kd.int Z] e g] 4)) && (cond (bif (decide ((m60 1 (datS [SV.str i, V Z j, SV.ro [Kd.int Z, Kd.int Z] b d, SV.ro [Kd.int Z, Kd.int Z, Kd.int Z] e g] 4)) = 0)) then false else true) true ((n61 i j b d e g) && ((n62 (m61 i j b d e g).1 (m61 i j b d e g).2) && true))))
noncomputable def q78 (r : Nat × Dat × Int) : SV × List Blk × List Blk := (.tup [.ro [W Z, W Z] r.1 r.2.1, V Z r.2.2], [], [])
noncomputable def g78 : GF := fun vs bs => match vs, bs with
  | [.agg [.str i, V Z j, .ro [W Z, W Z] b d, .ro [W Z, W Z, W Z] e g], V Z l], [] => some (rs 0 (q78 (m78 i j b d e g l)) [n78 i j b d e g l])
  | _, _ => none
noncomputable def c78 : Ctr := genC [.a [.k, .k, .ro [W Z, W Z], .ro [W Z, W Z, W Z]], .k] g78
theorem k78 : CtrOk Tryd.prog c78 78 := cx (tc k52 (tc k60 (tc k61 (tc k62 tn)))) mix_ok 8 (fn := Tryd.f78) (c := (Tryd.f78.body.getD .skip)) (grs := []) (rh := .t [.ro [W Z, W Z], .k]) Tryd.func78 rfl (by kernel_rfl) noLam fun vs bs q h hn => by
  unfold g78 at h
  split at h <;> cases h
  rename_i i j b d e g l
  have hn := n1 hn
  exact ⟨_, rfl, ca (fun R => (cnd (n60 1 (datS [SV.str i, V Z j, SV.ro [Kd.int Z, Kd.int Z] b d, SV.ro [Kd.int Z, Kd.int Z, Kd.int Z] e g] 4))
 (cnd (bif (decide ((m60 1 (datS [SV.str i, V Z j, SV.ro [Kd.int Z, Kd.int Z] b d, SV.ro [Kd.int Z, Kd.int Z, Kd.int Z] e g] 4)) = 0)) then false else true)
 (R (.tup [.ro [W Z, W Z] 0 noDat, V Z (m60 1 (datS [SV.str i, V Z j, SV.ro [Kd.int Z, Kd.int Z] b d, SV.ro [Kd.int Z, Kd.int Z, Kd.int Z] e g] 4))]) [] [])
 (cnd (n61 i j b d e g)
 (cnd (n62 (m61 i j b d e g).1 (m61 i j b d e g).2)
 (cnd (bif (m52 l 0 (m62 (m61 i j b d e g).1 (m61 i j b d e g).2)) then false else true)
 (R (.tup [.ro [W Z, W Z] 0 noDat, V Z 2]) [] [])
 (R (.tup [.ro [W Z, W Z] (m61 i j b d e g).1 (m61 i j b d e g).2, V Z 0]) [] []))
     False)
    False))
  False)) (fun R => by kernel_rfl) (cn (al hn) (co (fun h0 => lf (cT h0 rfl) rfl) (fun h0 => cn (al (cf h0 (ar hn))) (cn (al (ar (cf h0 (ar hn)))) (co (fun h1 => lf (cF h0 (cT h1 rfl)) rfl) (fun h1 => lf (cF h0 (cF h1 rfl)) rfl))))))⟩
end Go.Proofs.YtchhhoamnagbfaaDoor
