/-
  Contracts of functions: models, equations by the kernel, contracts. Conditions: none.
-/
import Derived.Test.YtchhhoamnagbfaaDoorC2
import Derived.KernelRfl
namespace Go.Proofs.YtchhhoamnagbfaaDoor
open Go Go.Sy
set_option linter.unusedVariables false
set_option linter.unusedSimpArgs false
set_option maxRecDepth 100000
set_option maxHeartbeats 2000000
attribute [local irreducible] Go.IntKind.wrap Int.tdiv Int.tmod Int.fdiv
open Go.Sy renaming tabOk_cons → tc, tabOk_nil → tn, cnd_need → cn, leaf_of → lf, cnd_gg → cg, cnd_gg2 → ch, cond_f → cf, cond_t → ct, cnd_of → co, callOf → ca, roundOf → ro, cnd_not → nn, lams_cons → lc, lams_nil → ln, condT → cT, condF → cF, need1 → n1, resOf → rs, and_l → al, and_r → ar, or_gg → og, ctr_of → cx, loop_blk → lb
open Go.IntKind renaming i64 → Z
open Go.Sy.SV renaming int → V
open Go.Sy.Kd renaming int → W
/-! ### shotline/shotlinelaw02.short -/
noncomputable def m11 (a : Nat) (b : Dat) : Bool :=
  (bif (decide ((↑a : Int) ≤ 12)) then true else (bif (decide ((200 : Int) < (↑a : Int))) then (decide ((↑a : Int) ≤ 202)) else false))
noncomputable def q11 (r : Bool) : SV × List Blk × List Blk := (.bool r, [], [])
noncomputable def g11 : GF := fun vs bs => match vs, bs with
  | [.ro [W Z, W Z] a b], [] => some (rs 0 (q11 (m11 a b)) [])
  | _, _ => none
noncomputable def c11 : Ctr := genC [.ro [W Z, W Z]] g11
theorem k11 : CtrOk Tryd.prog c11 11 := cx tn mix_ok 8 (fn := Tryd.f11) (c := (Tryd.f11.body.getD .skip)) (grs := []) (rh := .k) Tryd.func11 rfl (by kernel_rfl) noLam fun vs bs q h hn => by
  unfold g11 at h
  split at h <;> cases h
  rename_i a b
  exact ⟨_, rfl, ca (fun R => (R (.bool (bif (decide ((↑a : Int) ≤ 12)) then true else (bif (decide ((200 : Int) < (↑a : Int))) then (decide ((↑a : Int) ≤ 202)) else false))) [] [])) (fun R => by kernel_rfl) (lf rfl rfl)⟩
/-! ### shotline/shotlinebase.CopyPoints -/
noncomputable def m13 (a : Nat) (b : Dat) : Nat × Dat :=
  ((0 + a), ((datS [] 2).app 0 b))
noncomputable def n13 (a : Nat) (b : Dat) : Bool :=
  ((decide ((0 + a) ≤ 1073741824)) && ((decide ((0 + (0 + a)) ≤ (0 + a))) && true))
noncomputable def q13 (r : Nat × Dat) : SV × List Blk × List Blk := (.ro [W Z, W Z] r.1 r.2, [], [])
noncomputable def g13 : GF := fun vs bs => match vs, bs with
  | [.ro [W Z, W Z] a b], [] => some (rs 0 (q13 (m13 a b)) [n13 a b])
  | _, _ => none
noncomputable def c13 : Ctr := genC [.ro [W Z, W Z]] g13
theorem k13 : CtrOk Tryd.prog c13 13 := cx tn mix_ok 8 (fn := Tryd.f13) (c := (Tryd.f13.body.getD .skip)) (grs := []) (rh := .ro [W Z, W Z]) Tryd.func13 rfl (by kernel_rfl) noLam fun vs bs q h hn => by
  unfold g13 at h
  split at h <;> cases h
  rename_i a b
  have hn := n1 hn
  exact ⟨_, rfl, ca (fun R => (cnd (decide ((0 + a) ≤ 1073741824))
 (cnd (decide ((0 + (0 + a)) ≤ (0 + a)))
 (R (.ro [W Z, W Z] (0 + a) ((datS [] 2).app 0 b)) [] [])
   False)
  False)) (fun R => by kernel_rfl) (cn (al hn) (cn (al (ar hn)) (lf rfl rfl)))⟩
/-! ### shotline/shotlinebase.Floor -/
noncomputable def m91 (b a : Int) : Int :=
  (cond (decide ((b.tmod a) < 0)) (Z.wrap ((Z.wrap (b.tdiv a)) - 1)) (Z.wrap (b.tdiv a)))
noncomputable def n91 (b a : Int) : Bool :=
  ((bif (decide (a = 0)) then false else true) && ((bif (decide (a = 0)) then false else true) && true))
noncomputable def q91 (r : Int) : SV × List Blk × List Blk := (V Z r, [], [])
noncomputable def g91 : GF := fun vs bs => match vs, bs with
  | [V Z b, V Z a], [] => some (rs 0 (q91 (m91 b a)) [n91 b a])
  | _, _ => none
noncomputable def c91 : Ctr := genC [.k, .k] g91
theorem k91 : CtrOk Tryd.prog c91 91 := cx tn mix_ok 8 (fn := Tryd.f91) (c := (Tryd.f91.body.getD .skip)) (grs := []) (rh := .k) Tryd.func91 rfl (by kernel_rfl) noLam fun vs bs q h hn => by
  unfold g91 at h
  split at h <;> cases h
  rename_i b a
  have hn := n1 hn
  exact ⟨_, rfl, ca (fun R => (cnd (bif (decide (a = 0)) then false else true)
 (cnd (bif (decide (a = 0)) then false else true)
 (cnd (decide ((b.tmod a) < 0))
 (R (V Z (Z.wrap ((Z.wrap (b.tdiv a)) - 1))) [] [])
 (R (V Z (Z.wrap (b.tdiv a))) [] []))
   False)
  False)) (fun R => by kernel_rfl) (cn (al hn) (cn (al (ar hn)) (co (fun h0 => lf (cT h0 rfl) rfl) (fun h0 => lf (cF h0 rfl) rfl))))⟩
/-! ### shotline/shotlinebase.Ceil -/
noncomputable def m92 (a b : Int) : Int :=
  (Z.wrap (0 - (m91 (Z.wrap (0 - a)) b)))
noncomputable def n92 (a b : Int) : Bool :=
  ((n91 (Z.wrap (0 - a)) b) && true)
noncomputable def q92 (r : Int) : SV × List Blk × List Blk := (V Z r, [], [])
noncomputable def g92 : GF := fun vs bs => match vs, bs with
  | [V Z a, V Z b], [] => some (rs 0 (q92 (m92 a b)) [n92 a b])
  | _, _ => none
noncomputable def c92 : Ctr := genC [.k, .k] g92
theorem k92 : CtrOk Tryd.prog c92 92 := cx (tc k91 tn) mix_ok 8 (fn := Tryd.f92) (c := (Tryd.f92.body.getD .skip)) (grs := []) (rh := .k) Tryd.func92 rfl (by kernel_rfl) noLam fun vs bs q h hn => by
  unfold g92 at h
  split at h <;> cases h
  rename_i a b
  have hn := n1 hn
  exact ⟨_, rfl, ca (fun R => (cnd (n91 (Z.wrap (0 - a)) b)
 (R (V Z (Z.wrap (0 - (m91 (Z.wrap (0 - a)) b)))) [] [])
  False)) (fun R => by kernel_rfl) (cn (al hn) (lf rfl rfl))⟩
/-! ### shotline/shotlinebase.IsName -/
noncomputable def l64_0 (b : ByteArray) : Nat → Int → Option (Bool × (Bool) × (Unit))
  | 0, _ => none
  | f + 1, a => (cond (decide (a < (↑b.size : Int))) (cond (decide (0 ≤ a ∧ a < (↑b.size : Int))) (cond (bif (bif (bif (bif (decide (97 ≤ (byteAt b a.toNat))) then (decide ((byteAt b a.toNat) ≤ 122)) else false) then true else (bif (decide (65 ≤ (byteAt b a.toNat))) then (decide ((byteAt b a.toNat) ≤ 90)) else false)) then false else true) then (bif (decide (a = 0)) then true else (bif (bif (decide ((byteAt b a.toNat) = 45)) then false else true) then (bif (decide ((byteAt b a.toNat) < 48)) then true else (decide (57 < (byteAt b a.toNat)))) else false)) else false) (some (true, false, default)) (l64_0 b f (Z.wrap (a + 1)))) none) (some (false, default, ())))
noncomputable abbrev o64_0 (b : ByteArray) (a : Int) : Option (Bool × (Bool) × (Unit)) := l64_0 b (b.size + a.toNat + 8) a
noncomputable def e64_0 (b : ByteArray) (r : Bool × (Bool) × (Unit)) (K : XR) : Prop := cnd r.1 (K (XE.ret) [.bool r.2.1] []) (K (XE.exit 0) [.any] [])
noncomputable def g64_0 : LSum := fun s k => match czv 0 55 [0, 3] 0 [] s with
  | some ([.str b, V Z a], []) => needs [(o64_0 b a).isSome] (e64_0 b ((o64_0 b a).getD default) fun e vs bs => inBlk 0 k e (mkSt 0 55 [2] vs 0 bs))
  | _ => False
theorem z64_0 : LOk Tryd.prog g64_0 (.block 0 (bodyAt (Tryd.f64.body.getD .skip) 0)) := by
  refine lb (ι := ByteArray × Int) (fuel := 8) (na := 0) (nt := 55) (nx := 0) (Lh := [0, 3]) (Le := [2]) (gl := []) tn mix_ok noLam rfl (fun f (b, a) K => GG default (e64_0 b) K (l64_0 b f a)) (fun (b, a) => [.str b, V Z a]) (fun (b, a) => []) (fun (_, _) K => gg_none) ?_ ?_
  · rintro f ⟨b, a⟩ K hG
    refine ro (fun R => (cnd (decide (a < (↑b.size : Int)))
 (cnd (decide (0 ≤ a ∧ a < (↑b.size : Int)))
 (cnd (bif (bif (bif (bif (decide (97 ≤ (byteAt b a.toNat))) then (decide ((byteAt b a.toNat) ≤ 122)) else false) then true else (bif (decide (65 ≤ (byteAt b a.toNat))) then (decide ((byteAt b a.toNat) ≤ 90)) else false)) then false else true) then (bif (decide (a = 0)) then true else (bif (bif (decide ((byteAt b a.toNat) = 45)) then false else true) then (bif (decide ((byteAt b a.toNat) < 48)) then true else (decide (57 < (byteAt b a.toNat)))) else false)) else false)
 (R (XE.ret) [.bool false] [])
 (R (XE.normal) [.str b, V Z (Z.wrap (a + 1))] []))
   False)
 (R (XE.exit 0) [.any] []))) (fun R => by kernel_rfl) ?_
    exact ch hG (fun h0 => cg h0 fun h1 => ch h1 (fun h2 => h2.2) (fun h2 => ⟨(_, _), rfl, rfl, h2⟩)) (fun h0 => h0.2)
  · intro s k h
    unfold g64_0 at h
    split at h <;> try exact h.elim
    rename_i e1
    rw [needs_iff] at h
    exact ⟨_, e1, _, (_, _), rfl, rfl, h.1 _ (List.mem_singleton.2 rfl), h.2⟩
noncomputable def m64 (d : ByteArray) : Bool :=
  (cond (bif (decide ((↑d.size : Int) < 1)) then true else (decide (12 < (↑d.size : Int)))) false (cond ((o64_0 d 0).getD default).1 ((o64_0 d 0).getD default).2.1 true))
noncomputable def n64 (d : ByteArray) : Bool :=
  (cond (bif (decide ((↑d.size : Int) < 1)) then true else (decide (12 < (↑d.size : Int)))) true (((o64_0 d 0).isSome) && true))
noncomputable def q64 (r : Bool) : SV × List Blk × List Blk := (.bool r, [], [])
noncomputable def g64 : GF := fun vs bs => match vs, bs with
  | [.str d], [] => some (rs 0 (q64 (m64 d)) [n64 d])
  | _, _ => none
noncomputable def c64 : Ctr := genC [.k] g64
theorem k64 : CtrOk Tryd.prog c64 64 := cx tn mix_ok 8 (fn := Tryd.f64) (c := (Tryd.f64.body.getD .skip)) (grs := []) (rh := .k) Tryd.func64 rfl (by kernel_rfl) (lam_of rfl (lc z64_0 ln)) fun vs bs q h hn => by
  unfold g64 at h
  split at h <;> cases h
  rename_i d
  have hn := n1 hn
  exact ⟨_, rfl, ca (fun R => (cnd (bif (decide ((↑d.size : Int) < 1)) then true else (decide (12 < (↑d.size : Int))))
 (R (.bool false) [] [])
 (cnd ((o64_0 d 0).isSome)
 (cnd ((o64_0 d 0).getD default).1
 (R (.bool ((o64_0 d 0).getD default).2.1) [] [])
 (R (.bool true) [] []))
   False))) (fun R => by kernel_rfl) (co (fun h0 => lf (cT h0 rfl) rfl) (fun h0 => cn (al (cf h0 hn)) (co (fun h1 => lf (cF h0 (cT h1 rfl)) rfl) (fun h1 => lf (cF h0 (cF h1 rfl)) rfl))))⟩
/-! ### shotline/shotlineref01.CheckGas -/
noncomputable def m65 (a b : Int) : Int :=
  (cond (bif (bif (m16 a 0 1000) then false else true) then true else (bif (m16 b 0 1000) then false else true)) 2 (cond (decide ((1000 : Int) < (Z.wrap (a + b)))) 23 0))
noncomputable def q65 (r : Int) : SV × List Blk × List Blk := (V Z r, [], [])
noncomputable def g65 : GF := fun vs bs => match vs, bs with
  | [.agg [V Z a, V Z b]], [] => some (rs 0 (q65 (m65 a b)) [])
  | _, _ => none
noncomputable def c65 : Ctr := genC [.k] g65
theorem k65 : CtrOk Tryd.prog c65 65 := cx (tc k16 tn) mix_ok 8 (fn := Tryd.f65) (c := (Tryd.f65.body.getD .skip)) (grs := []) (rh := .k) Tryd.func65 rfl (by kernel_rfl) noLam fun vs bs q h hn => by
  unfold g65 at h
  split at h <;> cases h
  rename_i a b
  exact ⟨_, rfl, ca (fun R => (cnd (bif (bif (m16 a 0 1000) then false else true) then true else (bif (m16 b 0 1000) then false else true))
 (R (V Z 2) [] [])
 (cnd (decide ((1000 : Int) < (Z.wrap (a + b))))
 (R (V Z 23) [] [])
 (R (V Z 0) [] [])))) (fun R => by kernel_rfl) (co (fun h0 => lf (cT h0 rfl) rfl) (fun h0 => co (fun h1 => lf (cF h0 (cT h1 rfl)) rfl) (fun h1 => lf (cF h0 (cF h1 rfl)) rfl)))⟩
/-! ### shotline/profile.MeanDepth -/
noncomputable def l23_0 (p : Nat) (t : Dat) (o : Nat) (n : Dat) (E : Int) (u : ByteArray) (v : Int) (w : Nat) (A : Dat) (x : Nat) (C : Dat) (y z : Int) (D : Dat) : Nat → Int → Int → Option (Int)
  | 0, _, _ => none
  | f + 1, F, m => (cond (decide (m < E)) (cond (decide (0 ≤ m ∧ m < ↑o)) (cond (decide (0 ≤ m ∧ m < ↑p)) (cond (decide (0 ≤ m ∧ m < ↑p)) (l23_0 p t o n E u v w A x C y z D f (Z.wrap (F + (Z.wrap ((Z.wrap ((t.ii m.toNat 1) + (n.ii m.toNat 1))) * (Z.wrap ((n.ii m.toNat 0) - (t.ii m.toNat 0))))))) (Z.wrap (m + 1))) none) none) none) (some F))
noncomputable abbrev o23_0 (p : Nat) (t : Dat) (o : Nat) (n : Dat) (E : Int) (u : ByteArray) (v : Int) (w : Nat) (A : Dat) (x : Nat) (C : Dat) (y z : Int) (D : Dat) (F m : Int) : Option (Int) := l23_0 p t o n E u v w A x C y z D (p + F.toNat + o + E.toNat + m.toNat + u.size + v.toNat + w + x + y.toNat + z.toNat + 8) F m
noncomputable def e23_0 (p : Nat) (t : Dat) (o : Nat) (n : Dat) (E : Int) (u : ByteArray) (v : Int) (w : Nat) (A : Dat) (x : Nat) (C : Dat) (y z : Int) (D : Dat) (r : Int) (K : XR) : Prop := K (XE.exit 0) [.ptr 1 0, .ro [W Z, W Z] p t, V Z r] [.cells 41 [.str u, V Z v, .ro [W Z, W Z] w A, .ro [W Z, W Z, W Z] x C], .cells 26 [V Z y, V Z z], .row 41 [.str, W Z, .sl [W Z, W Z], .sl [W Z, W Z, W Z]] 1 D]
noncomputable def g23_0 : LSum := fun s k => match czv 0 56 [2, 5, 6, 23, 24, 25] 3 [] s with
  | some ([.ptr 1 0, .ro [W Z, W Z] p t, V Z F, .ro [W Z, W Z] o n, V Z E, V Z m], [.cells 41 [.str u, V Z v, .ro [W Z, W Z] w A, .ro [W Z, W Z, W Z] x C], .cells 26 [V Z y, V Z z], .row 41 [.str, W Z, .sl [W Z, W Z], .sl [W Z, W Z, W Z]] 1 D]) => needs [(o23_0 p t o n E u v w A x C y z D F m).isSome] (e23_0 p t o n E u v w A x C y z D ((o23_0 p t o n E u v w A x C y z D F m).getD default) fun e vs bs => inBlk 0 k e (mkSt 0 56 [2, 5, 6] vs 3 bs))
  | _ => False
theorem z23_0 : LOk Tryd.prog g23_0 (.block 0 (bodyAt (Tryd.f23.body.getD .skip) 0)) := by
  refine lb (ι := Nat × Dat × Int × Nat × Dat × Int × Int × ByteArray × Int × Nat × Dat × Nat × Dat × Int × Int × Dat) (fuel := 8) (na := 0) (nt := 56) (nx := 3) (Lh := [2, 5, 6, 23, 24, 25]) (Le := [2, 5, 6]) (gl := []) (tc k54 (tc k60 (tc k61 (tc k62 tn)))) mix_ok noLam rfl (fun f (p, t, F, o, n, E, m, u, v, w, A, x, C, y, z, D) K => GG default (e23_0 p t o n E u v w A x C y z D) K (l23_0 p t o n E u v w A x C y z D f F m)) (fun (p, t, F, o, n, E, m, u, v, w, A, x, C, y, z, D) => [.ptr 1 0, .ro [W Z, W Z] p t, V Z F, .ro [W Z, W Z] o n, V Z E, V Z m]) (fun (p, t, F, o, n, E, m, u, v, w, A, x, C, y, z, D) => [.cells 41 [.str u, V Z v, .ro [W Z, W Z] w A, .ro [W Z, W Z, W Z] x C], .cells 26 [V Z y, V Z z], .row 41 [.str, W Z, .sl [W Z, W Z], .sl [W Z, W Z, W Z]] 1 D]) (fun (_, _, _, _, _, _, _, _, _, _, _, _, _, _, _, _) K => gg_none) ?_ ?_
  · rintro f ⟨p, t, F, o, n, E, m, u, v, w, A, x, C, y, z, D⟩ K hG
    refine ro (fun R => (cnd (decide (m < E))
 (cnd (decide (0 ≤ m ∧ m < ↑o))
 (cnd (decide (0 ≤ m ∧ m < ↑p))
 (cnd (decide (0 ≤ m ∧ m < ↑p))
 (R (XE.normal) [.ptr 1 0, .ro [W Z, W Z] p t, V Z (Z.wrap (F + (Z.wrap ((Z.wrap ((t.ii m.toNat 1) + (n.ii m.toNat 1))) * (Z.wrap ((n.ii m.toNat 0) - (t.ii m.toNat 0))))))), .ro [W Z, W Z] o n, V Z E, V Z (Z.wrap (m + 1))] [.cells 41 [.str u, V Z v, .ro [W Z, W Z] w A, .ro [W Z, W Z, W Z] x C], .cells 26 [V Z y, V Z z], .row 41 [.str, W Z, .sl [W Z, W Z], .sl [W Z, W Z, W Z]] 1 D])
     False)
    False)
   False)
 (R (XE.exit 0) [.ptr 1 0, .ro [W Z, W Z] p t, V Z F] [.cells 41 [.str u, V Z v, .ro [W Z, W Z] w A, .ro [W Z, W Z, W Z] x C], .cells 26 [V Z y, V Z z], .row 41 [.str, W Z, .sl [W Z, W Z], .sl [W Z, W Z, W Z]] 1 D]))) (fun R => by kernel_rfl) ?_
    exact ch hG (fun h0 => cg h0 fun h1 => cg h1 fun h2 => cg h2 fun h3 => ⟨(_, _, _, _, _, _, _, _, _, _, _, _, _, _, _, _), rfl, rfl, h3⟩) (fun h0 => h0.2)
  · intro s k h
    unfold g23_0 at h
    split at h <;> try exact h.elim
    rename_i e1
    rw [needs_iff] at h
    exact ⟨_, e1, _, (_, _, _, _, _, _, _, _, _, _, _, _, _, _, _, _), rfl, rfl, h.1 _ (List.mem_singleton.2 rfl), h.2⟩
noncomputable def m23 (j : ByteArray) (l : Int) (b : Nat) (d : Dat) (g : Nat) (i : Dat) : Int × Int × Int :=
  (cond (bif (decide ((m60 1 (datS [SV.str j, V Z l, SV.ro [Kd.int Z, Kd.int Z] b d, SV.ro [Kd.int Z, Kd.int Z, Kd.int Z] g i] 4)) = 0)) then false else true) (0, 0, (m60 1 (datS [SV.str j, V Z l, SV.ro [Kd.int Z, Kd.int Z] b d, SV.ro [Kd.int Z, Kd.int Z, Kd.int Z] g i] 4))) (cond (decide ((m62 (m61 j l b d g i).1 (m61 j l b d g i).2) = 0)) (0, 0, 0) ((m54 ((o23_0 (m61 j l b d g i).1 (m61 j l b d g i).2 (((↑((m61 j l b d g i).1) : Int) - 1).toNat) ((m61 j l b d g i).2.shift 1) (↑(((↑((m61 j l b d g i).1) : Int) - 1).toNat) : Int) j l b d g i 0 0 (datS [SV.str j, V Z l, SV.ro [Kd.int Z, Kd.int Z] b d, SV.ro [Kd.int Z, Kd.int Z, Kd.int Z] g i] 4) 0 0).getD 0) (Z.wrap (2 * (m62 (m61 j l b d g i).1 (m61 j l b d g i).2)))).1, (m54 ((o23_0 (m61 j l b d g i).1 (m61 j l b d g i).2 (((↑((m61 j l b d g i).1) : Int) - 1).toNat) ((m61 j l b d g i).2.shift 1) (↑(((↑((m61 j l b d g i).1) : Int) - 1).toNat) : Int) j l b d g i 0 0 (datS [SV.str j, V Z l, SV.ro [Kd.int Z, Kd.int Z] b d, SV.ro [Kd.int Z, Kd.int Z, Kd.int Z] g i] 4) 0 0).getD 0) (Z.wrap (2 * (m62 (m61 j l b d g i).1 (m61 j l b d g i).2)))).2, 0)))
noncomputable def n23 (j : ByteArray) (l : Int) (b : Nat) (d : Dat) (g : Nat) (i : Dat) : Bool :=
  ((n60 1 (datS [SV.str j, V Z l, SV.ro [Kd.int Z, Kd.int Z] b d, SV.ro [Kd.int Z, Kd.int Z, Kd.int Z] g i] 4)) && (cond (bif (decide ((m60 1 (datS [SV.str j, V Z l, SV.ro [Kd.int Z, Kd.int Z] b d, SV.ro [Kd.int Z, Kd.int Z, Kd.int Z] g i] 4)) = 0)) then false else true) true ((n61 j l b d g i) && ((n62 (m61 j l b d g i).1 (m61 j l b d g i).2) && (cond (decide ((m62 (m61 j l b d g i).1 (m61 j l b d g i).2) = 0)) true ((decide ((0 : Int) ≤ (1 : Int) ∧ (1 : Int) ≤ (↑(m61 j l b d g i).1 : Int) ∧ (↑(m61 j l b d g i).1 : Int) ≤ (↑(m61 j l b d g i).1 : Int))) && (((o23_0 (m61 j l b d g i).1 (m61 j l b d g i).2 (((↑((m61 j l b d g i).1) : Int) - 1).toNat) ((m61 j l b d g i).2.shift 1) (↑(((↑((m61 j l b d g i).1) : Int) - 1).toNat) : Int) j l b d g i 0 0 (datS [SV.str j, V Z l, SV.ro [Kd.int Z, Kd.int Z] b d, SV.ro [Kd.int Z, Kd.int Z, Kd.int Z] g i] 4) 0 0).isSome) && ((n62 (m61 j l b d g i).1 (m61 j l b d g i).2) && ((n54 ((o23_0 (m61 j l b d g i).1 (m61 j l b d g i).2 (((↑((m61 j l b d g i).1) : Int) - 1).toNat) ((m61 j l b d g i).2.shift 1) (↑(((↑((m61 j l b d g i).1) : Int) - 1).toNat) : Int) j l b d g i 0 0 (datS [SV.str j, V Z l, SV.ro [Kd.int Z, Kd.int Z] b d, SV.ro [Kd.int Z, Kd.int Z, Kd.int Z] g i] 4) 0 0).getD 0) (Z.wrap (2 * (m62 (m61 j l b d g i).1 (m61 j l b d g i).2)))) && true)))))))))
noncomputable def q23 (r : Int × Int × Int) : SV × List Blk × List Blk := (.tup [.agg [V Z r.1, V Z r.2.1], V Z r.2.2], [], [])
noncomputable def g23 : GF := fun vs bs => match vs, bs with
  | [.agg [.str j, V Z l, .ro [W Z, W Z] b d, .ro [W Z, W Z, W Z] g i]], [] => some (rs 0 (q23 (m23 j l b d g i)) [n23 j l b d g i])
  | _, _ => none
noncomputable def c23 : Ctr := genC [.a [.k, .k, .ro [W Z, W Z], .ro [W Z, W Z, W Z]]] g23
theorem k23 : CtrOk Tryd.prog c23 23 := cx (tc k54 (tc k60 (tc k61 (tc k62 tn)))) mix_ok 8 (fn := Tryd.f23) (c := (Tryd.f23.body.getD .skip)) (grs := []) (rh := .k) Tryd.func23 rfl (by kernel_rfl) (lam_of rfl (lc z23_0 ln)) fun vs bs q h hn => by
  unfold g23 at h
  split at h <;> cases h
  rename_i j l b d g i
  have hn := n1 hn
  exact ⟨_, rfl, ca (fun R => (cnd (n60 1 (datS [SV.str j, V Z l, SV.ro [Kd.int Z, Kd.int Z] b d, SV.ro [Kd.int Z, Kd.int Z, Kd.int Z] g i] 4))
 (cnd (bif (decide ((m60 1 (datS [SV.str j, V Z l, SV.ro [Kd.int Z, Kd.int Z] b d, SV.ro [Kd.int Z, Kd.int Z, Kd.int Z] g i] 4)) = 0)) then false else true)
 (R (.tup [.agg [V Z 0, V Z 0], V Z (m60 1 (datS [SV.str j, V Z l, SV.ro [Kd.int Z, Kd.int Z] b d, SV.ro [Kd.int Z, Kd.int Z, Kd.int Z] g i] 4))]) [] [])
 (cnd (n61 j l b d g i)
 (cnd (n62 (m61 j l b d g i).1 (m61 j l b d g i).2)
 (cnd (decide ((m62 (m61 j l b d g i).1 (m61 j l b d g i).2) = 0))
 (R (.tup [.agg [V Z 0, V Z 0], V Z 0]) [] [])
 (cnd (decide ((0 : Int) ≤ (1 : Int) ∧ (1 : Int) ≤ (↑(m61 j l b d g i).1 : Int) ∧ (↑(m61 j l b d g i).1 : Int) ≤ (↑(m61 j l b d g i).1 : Int)))
 (cnd ((o23_0 (m61 j l b d g i).1 (m61 j l b d g i).2 (((↑((m61 j l b d g i).1) : Int) - 1).toNat) ((m61 j l b d g i).2.shift 1) (↑(((↑((m61 j l b d g i).1) : Int) - 1).toNat) : Int) j l b d g i 0 0 (datS [SV.str j, V Z l, SV.ro [Kd.int Z, Kd.int Z] b d, SV.ro [Kd.int Z, Kd.int Z, Kd.int Z] g i] 4) 0 0).isSome)
 (cnd (n62 (m61 j l b d g i).1 (m61 j l b d g i).2)
 (cnd (n54 ((o23_0 (m61 j l b d g i).1 (m61 j l b d g i).2 (((↑((m61 j l b d g i).1) : Int) - 1).toNat) ((m61 j l b d g i).2.shift 1) (↑(((↑((m61 j l b d g i).1) : Int) - 1).toNat) : Int) j l b d g i 0 0 (datS [SV.str j, V Z l, SV.ro [Kd.int Z, Kd.int Z] b d, SV.ro [Kd.int Z, Kd.int Z, Kd.int Z] g i] 4) 0 0).getD 0) (Z.wrap (2 * (m62 (m61 j l b d g i).1 (m61 j l b d g i).2))))
 (R (.tup [.agg [V Z (m54 ((o23_0 (m61 j l b d g i).1 (m61 j l b d g i).2 (((↑((m61 j l b d g i).1) : Int) - 1).toNat) ((m61 j l b d g i).2.shift 1) (↑(((↑((m61 j l b d g i).1) : Int) - 1).toNat) : Int) j l b d g i 0 0 (datS [SV.str j, V Z l, SV.ro [Kd.int Z, Kd.int Z] b d, SV.ro [Kd.int Z, Kd.int Z, Kd.int Z] g i] 4) 0 0).getD 0) (Z.wrap (2 * (m62 (m61 j l b d g i).1 (m61 j l b d g i).2)))).1, V Z (m54 ((o23_0 (m61 j l b d g i).1 (m61 j l b d g i).2 (((↑((m61 j l b d g i).1) : Int) - 1).toNat) ((m61 j l b d g i).2.shift 1) (↑(((↑((m61 j l b d g i).1) : Int) - 1).toNat) : Int) j l b d g i 0 0 (datS [SV.str j, V Z l, SV.ro [Kd.int Z, Kd.int Z] b d, SV.ro [Kd.int Z, Kd.int Z, Kd.int Z] g i] 4) 0 0).getD 0) (Z.wrap (2 * (m62 (m61 j l b d g i).1 (m61 j l b d g i).2)))).2], V Z 0]) [] [])
          False)
         False)
        False)
       False))
     False)
    False))
  False)) (fun R => by kernel_rfl) (cn (al hn) (co (fun h0 => lf (cT h0 rfl) rfl) (fun h0 => cn (al (cf h0 (ar hn))) (cn (al (ar (cf h0 (ar hn)))) (co (fun h1 => lf (cF h0 (cT h1 rfl)) rfl) (fun h1 => cn (al (cf h1 (ar (ar (cf h0 (ar hn)))))) (cn (al (ar (cf h1 (ar (ar (cf h0 (ar hn))))))) (cn (al (ar (ar (cf h1 (ar (ar (cf h0 (ar hn)))))))) (cn (al (ar (ar (ar (cf h1 (ar (ar (cf h0 (ar hn))))))))) (lf (cF h0 (cF h1 rfl)) rfl))))))))))⟩
/-! ### shotline/shotlineref02.At -/
noncomputable def l55_0 (b : Nat) (a : Dat) (j : Int) : Nat → Int → Option (Bool × (Int × Int) × (Unit))
  | 0, _ => none
  | f + 1, d => (cond (decide (d < (↑b : Int))) (cond (decide (0 ≤ d ∧ d < ↑b)) (cond (decide (j ≤ (a.ii d.toNat 0))) (cond (decide (0 ≤ Z.wrap (d - 1) ∧ Z.wrap (d - 1) < (↑b : Int))) (cond (decide (0 ≤ d ∧ d < ↑b)) (some (true, ((Z.wrap ((Z.wrap ((a.ii ((Z.wrap (d - 1)).toNat) 1) * (Z.wrap ((a.ii d.toNat 0) - (a.ii ((Z.wrap (d - 1)).toNat) 0))))) + (Z.wrap ((Z.wrap ((a.ii d.toNat 1) - (a.ii ((Z.wrap (d - 1)).toNat) 1))) * (Z.wrap (j - (a.ii ((Z.wrap (d - 1)).toNat) 0))))))), (Z.wrap ((a.ii d.toNat 0) - (a.ii ((Z.wrap (d - 1)).toNat) 0)))), default)) none) none) (l55_0 b a j f (Z.wrap (d + 1)))) none) (some (false, default, ())))
noncomputable abbrev o55_0 (b : Nat) (a : Dat) (j d : Int) : Option (Bool × (Int × Int) × (Unit)) := l55_0 b a j (b + j.toNat + d.toNat + 8) d
noncomputable def e55_0 (b : Nat) (a : Dat) (j : Int) (r : Bool × (Int × Int) × (Unit)) (K : XR) : Prop := cnd r.1 (K (XE.ret) [.ro [W Z, W Z] b a, V Z r.2.1.1, V Z r.2.1.2] []) (K (XE.exit 0) [.ro [W Z, W Z] b a, .any, .any] [])
noncomputable def g55_0 : LSum := fun s k => match czv 0 59 [0, 1, 6] 0 [] s with
  | some ([.ro [W Z, W Z] b a, V Z j, V Z d], []) => needs [(o55_0 b a j d).isSome] (e55_0 b a j ((o55_0 b a j d).getD default) fun e vs bs => inBlk 0 k e (mkSt 0 59 [0, 4, 5] vs 0 bs))
  | _ => False
theorem z55_0 : LOk Tryd.prog g55_0 (.block 0 (bodyAt (Tryd.f55.body.getD .skip) 0)) := by
  refine lb (ι := Nat × Dat × Int × Int) (fuel := 8) (na := 0) (nt := 59) (nx := 0) (Lh := [0, 1, 6]) (Le := [0, 4, 5]) (gl := []) tn mix_ok noLam rfl (fun f (b, a, j, d) K => GG default (e55_0 b a j) K (l55_0 b a j f d)) (fun (b, a, j, d) => [.ro [W Z, W Z] b a, V Z j, V Z d]) (fun (b, a, j, d) => []) (fun (_, _, _, _) K => gg_none) ?_ ?_
  · rintro f ⟨b, a, j, d⟩ K hG
    refine ro (fun R => (cnd (decide (d < (↑b : Int)))
 (cnd (decide (0 ≤ d ∧ d < ↑b))
 (cnd (decide (j ≤ (a.ii d.toNat 0)))
 (cnd (decide (0 ≤ Z.wrap (d - 1) ∧ Z.wrap (d - 1) < (↑b : Int)))
 (cnd (decide (0 ≤ d ∧ d < ↑b))
 (R (XE.ret) [.ro [W Z, W Z] b a, V Z (Z.wrap ((Z.wrap ((a.ii ((Z.wrap (d - 1)).toNat) 1) * (Z.wrap ((a.ii d.toNat 0) - (a.ii ((Z.wrap (d - 1)).toNat) 0))))) + (Z.wrap ((Z.wrap ((a.ii d.toNat 1) - (a.ii ((Z.wrap (d - 1)).toNat) 1))) * (Z.wrap (j - (a.ii ((Z.wrap (d - 1)).toNat) 0))))))), V Z (Z.wrap ((a.ii d.toNat 0) - (a.ii ((Z.wrap (d - 1)).toNat) 0)))] [])
      False)
     False)
 (R (XE.normal) [.ro [W Z, W Z] b a, V Z j, V Z (Z.wrap (d + 1))] []))
   False)
 (R (XE.exit 0) [.ro [W Z, W Z] b a, .any, .any] []))) (fun R => by kernel_rfl) ?_
    exact ch hG (fun h0 => cg h0 fun h1 => ch h1 (fun h2 => cg h2 fun h3 => cg h3 fun h4 => h4.2) (fun h2 => ⟨(_, _, _, _), rfl, rfl, h2⟩)) (fun h0 => h0.2)
  · intro s k h
    unfold g55_0 at h
    split at h <;> try exact h.elim
    rename_i e1
    rw [needs_iff] at h
    exact ⟨_, e1, _, (_, _, _, _), rfl, rfl, h.1 _ (List.mem_singleton.2 rfl), h.2⟩
noncomputable def m55 (g : Nat) (i : Dat) (l : Int) : Int × Int :=
  (cond ((o55_0 g i l 1).getD default).1 (((o55_0 g i l 1).getD default).2.1.1, ((o55_0 g i l 1).getD default).2.1.2) ((i.ii 0 1), 1))
noncomputable def n55 (g : Nat) (i : Dat) (l : Int) : Bool :=
  (((o55_0 g i l 1).isSome) && (cond ((o55_0 g i l 1).getD default).1 true ((decide ((0 : Int) ≤ (0 : Int) ∧ (0 : Int) < (↑g : Int))) && true)))
noncomputable def q55 (r : Int × Int) : SV × List Blk × List Blk := (.tup [V Z r.1, V Z r.2], [], [])
noncomputable def g55 : GF := fun vs bs => match vs, bs with
  | [.ro [W Z, W Z] g i, V Z l], [] => some (rs 0 (q55 (m55 g i l)) [n55 g i l])
  | _, _ => none
noncomputable def c55 : Ctr := genC [.ro [W Z, W Z], .k] g55
theorem k55 : CtrOk Tryd.prog c55 55 := cx tn mix_ok 8 (fn := Tryd.f55) (c := (Tryd.f55.body.getD .skip)) (grs := []) (rh := .k) Tryd.func55 rfl (by kernel_rfl) (lam_of rfl (lc z55_0 ln)) fun vs bs q h hn => by
  unfold g55 at h
  split at h <;> cases h
  rename_i g i l
  have hn := n1 hn
  exact ⟨_, rfl, ca (fun R => (cnd ((o55_0 g i l 1).isSome)
 (cnd ((o55_0 g i l 1).getD default).1
 (R (.tup [V Z ((o55_0 g i l 1).getD default).2.1.1, V Z ((o55_0 g i l 1).getD default).2.1.2]) [] [])
 (cnd (decide ((0 : Int) ≤ (0 : Int) ∧ (0 : Int) < (↑g : Int)))
 (R (.tup [V Z (i.ii 0 1), V Z 1]) [] [])
    False))
  False)) (fun R => by kernel_rfl) (cn (al hn) (co (fun h0 => lf (cT h0 rfl) rfl) (fun h0 => cn (al (cf h0 (ar hn))) (lf (cF h0 rfl) rfl))))⟩
/-! ### shotline/shotlineref02.rounded -/
noncomputable def m56 (a b : Int) : Int × Int :=
  ((m91 a b), (m92 a b))
noncomputable def n56 (a b : Int) : Bool :=
  ((n91 a b) && ((n92 a b) && true))
noncomputable def q56 (r : Int × Int) : SV × List Blk × List Blk := (.agg [V Z r.1, V Z r.2], [], [])
noncomputable def g56 : GF := fun vs bs => match vs, bs with
  | [V Z a, V Z b], [] => some (rs 0 (q56 (m56 a b)) [n56 a b])
  | _, _ => none
noncomputable def c56 : Ctr := genC [.k, .k] g56
theorem k56 : CtrOk Tryd.prog c56 56 := cx (tc k91 (tc k92 tn)) mix_ok 8 (fn := Tryd.f56) (c := (Tryd.f56.body.getD .skip)) (grs := []) (rh := .k) Tryd.func56 rfl (by kernel_rfl) noLam fun vs bs q h hn => by
  unfold g56 at h
  split at h <;> cases h
  rename_i a b
  have hn := n1 hn
  exact ⟨_, rfl, ca (fun R => (cnd (n91 a b)
 (cnd (n92 a b)
 (R (.agg [V Z (m91 a b), V Z (m92 a b)]) [] [])
   False)
  False)) (fun R => by kernel_rfl) (cn (al hn) (cn (al (ar hn)) (lf rfl rfl)))⟩
/-! ### shotline/shotlineref02.Clash -/
noncomputable def m33 (a : Nat) (d : Dat) (b : Nat) (e : Dat) : Bool :=
  (bif (bif (decide ((d.ii 0 0) = (e.ii 0 0))) then false else true) then true else (bif (decide ((d.ii ((Z.wrap ((↑a : Int) - 1)).toNat) 0) = (e.ii ((Z.wrap ((↑b : Int) - 1)).toNat) 0))) then false else true))
noncomputable def n33 (a : Nat) (d : Dat) (b : Nat) (e : Dat) : Bool :=
  ((decide ((0 : Int) ≤ (0 : Int) ∧ (0 : Int) < (↑a : Int))) && ((decide ((0 : Int) ≤ (0 : Int) ∧ (0 : Int) < (↑b : Int))) && ((bif (bif (bif (bif (decide ((d.ii 0 0) = (e.ii 0 0))) then false else true) then false else true) then false else true) then true else (decide (0 ≤ Z.wrap ((↑a : Int) - 1) ∧ Z.wrap ((↑a : Int) - 1) < (↑a : Int)))) && ((bif (bif (bif (bif (decide ((d.ii 0 0) = (e.ii 0 0))) then false else true) then false else true) then false else true) then true else (decide (0 ≤ Z.wrap ((↑b : Int) - 1) ∧ Z.wrap ((↑b : Int) - 1) < (↑b : Int)))) && true))))
noncomputable def q33 (r : Bool) : SV × List Blk × List Blk := (.bool r, [], [])
noncomputable def g33 : GF := fun vs bs => match vs, bs with
  | [.ro [W Z, W Z] a d, .ro [W Z, W Z] b e], [] => some (rs 0 (q33 (m33 a d b e)) [n33 a d b e])
  | _, _ => none
noncomputable def c33 : Ctr := genC [.ro [W Z, W Z], .ro [W Z, W Z]] g33
theorem k33 : CtrOk Tryd.prog c33 33 := cx tn mix_ok 8 (fn := Tryd.f33) (c := (Tryd.f33.body.getD .skip)) (grs := []) (rh := .k) Tryd.func33 rfl (by kernel_rfl) noLam fun vs bs q h hn => by
  unfold g33 at h
  split at h <;> cases h
  rename_i a d b e
  have hn := n1 hn
  exact ⟨_, rfl, ca (fun R => (cnd (decide ((0 : Int) ≤ (0 : Int) ∧ (0 : Int) < (↑a : Int)))
 (cnd (decide ((0 : Int) ≤ (0 : Int) ∧ (0 : Int) < (↑b : Int)))
 (cnd (bif (bif (bif (bif (decide ((d.ii 0 0) = (e.ii 0 0))) then false else true) then false else true) then false else true) then true else (decide (0 ≤ Z.wrap ((↑a : Int) - 1) ∧ Z.wrap ((↑a : Int) - 1) < (↑a : Int))))
 (cnd (bif (bif (bif (bif (decide ((d.ii 0 0) = (e.ii 0 0))) then false else true) then false else true) then false else true) then true else (decide (0 ≤ Z.wrap ((↑b : Int) - 1) ∧ Z.wrap ((↑b : Int) - 1) < (↑b : Int))))
 (R (.bool (bif (bif (decide ((d.ii 0 0) = (e.ii 0 0))) then false else true) then true else (bif (decide ((d.ii ((Z.wrap ((↑a : Int) - 1)).toNat) 0) = (e.ii ((Z.wrap ((↑b : Int) - 1)).toNat) 0))) then false else true))) [] [])
     False)
    False)
   False)
  False)) (fun R => by kernel_rfl) (cn (al hn) (cn (al (ar hn)) (cn (al (ar (ar hn))) (cn (al (ar (ar (ar hn)))) (lf rfl rfl)))))⟩
/-! ### shotline/profile.Distance -/
noncomputable def m31 (a : Nat) (b : Dat) (d : Nat) (e : Dat) : Int × Int × Int :=
  (cond (bif (decide ((m66 a b d e) = 0)) then false else true) (0, 0, (m66 a b d e)) (cond (m67 a b d e) (0, 0, 13) ((m54 (m68 a b d e).1 (m68 a b d e).2).1, (m54 (m68 a b d e).1 (m68 a b d e).2).2, 0)))
noncomputable def n31 (a : Nat) (b : Dat) (d : Nat) (e : Dat) : Bool :=
  ((n66 a b d e) && (cond (bif (decide ((m66 a b d e) = 0)) then false else true) true ((n67 a b d e) && (cond (m67 a b d e) true ((n68 a b d e) && ((n54 (m68 a b d e).1 (m68 a b d e).2) && true))))))
noncomputable def q31 (r : Int × Int × Int) : SV × List Blk × List Blk := (.tup [.agg [V Z r.1, V Z r.2.1], V Z r.2.2], [], [])
noncomputable def g31 : GF := fun vs bs => match vs, bs with
  | [.ro [W Z, W Z] a b, .ro [W Z, W Z] d e], [] => some (rs 0 (q31 (m31 a b d e)) [n31 a b d e])
  | _, _ => none
noncomputable def c31 : Ctr := genC [.ro [W Z, W Z], .ro [W Z, W Z]] g31
theorem k31 : CtrOk Tryd.prog c31 31 := cx (tc k54 (tc k66 (tc k67 (tc k68 tn)))) mix_ok 8 (fn := Tryd.f31) (c := (Tryd.f31.body.getD .skip)) (grs := []) (rh := .k) Tryd.func31 rfl (by kernel_rfl) noLam fun vs bs q h hn => by
  unfold g31 at h
  split at h <;> cases h
  rename_i a b d e
  have hn := n1 hn
  exact ⟨_, rfl, ca (fun R => (cnd (n66 a b d e)
 (cnd (bif (decide ((m66 a b d e) = 0)) then false else true)
 (R (.tup [.agg [V Z 0, V Z 0], V Z (m66 a b d e)]) [] [])
 (cnd (n67 a b d e)
 (cnd (m67 a b d e)
 (R (.tup [.agg [V Z 0, V Z 0], V Z 13]) [] [])
 (cnd (n68 a b d e)
 (cnd (n54 (m68 a b d e).1 (m68 a b d e).2)
 (R (.tup [.agg [V Z (m54 (m68 a b d e).1 (m68 a b d e).2).1, V Z (m54 (m68 a b d e).1 (m68 a b d e).2).2], V Z 0]) [] [])
       False)
      False))
    False))
  False)) (fun R => by kernel_rfl) (cn (al hn) (co (fun h0 => lf (cT h0 rfl) rfl) (fun h0 => cn (al (cf h0 (ar hn))) (co (fun h1 => lf (cF h0 (cT h1 rfl)) rfl) (fun h1 => cn (al (cf h1 (ar (cf h0 (ar hn))))) (cn (al (ar (cf h1 (ar (cf h0 (ar hn)))))) (lf (cF h0 (cF h1 rfl)) rfl)))))))⟩
/-! ### shotline/profile.followed -/
noncomputable def m78 (i : ByteArray) (j : Int) (b : Nat) (d : Dat) (e : Nat) (g : Dat) (l : Int) : Nat × Dat × Int :=
  (cond (bif (decide ((m60 1 (datS [SV.str i, V Z j, SV.ro [Kd.int Z, Kd.int Z] b d, SV.ro [Kd.int Z, Kd.int Z, Kd.int Z] e g] 4)) = 0)) then false else true) (0, noDat, (m60 1 (datS [SV.str i, V Z j, SV.ro [Kd.int Z, Kd.int Z] b d, SV.ro [Kd.int Z, Kd.int Z, Kd.int Z] e g] 4))) (cond (bif (m52 l 0 (m62 (m61 i j b d e g).1 (m61 i j b d e g).2)) then false else true) (0, noDat, 2) ((m61 i j b d e g).1, (m61 i j b d e g).2, 0)))
noncomputable def n78 (i : ByteArray) (j : Int) (b : Nat) (d : Dat) (e : Nat) (g : Dat) (l : Int) : Bool :=
  ((n60 1 (datS [SV.str i, V Z j, SV.ro [Kd.int Z, Kd.int Z] b d, SV.ro [Kd.int Z, Kd.int Z, Kd.int Z] e g] 4)) && (cond (bif (decide ((m60 1 (datS [SV.str i, V Z j, SV.ro [Kd.int Z, Kd.int Z] b d, SV.ro [Kd.int Z, Kd.int Z, Kd.int Z] e g] 4)) = 0)) then false else true) true ((n61 i j b d e g) && ((n62 (m61 i j b d e g).1 (m61 i j b d e g).2) && true))))
noncomputable def q78 (r : Nat × Dat × Int) : SV × List Blk × List Blk := (.tup [.ro [W Z, W Z] r.1 r.2.1, V Z r.2.2], [], [])
noncomputable def g78 : GF := fun vs bs => match vs, bs with
  | [.agg [.str i, V Z j, .ro [W Z, W Z] b d, .ro [W Z, W Z, W Z] e g], V Z l], [] => some (rs 0 (q78 (m78 i j b d e g l)) [n78 i j b d e g l])
  | _, _ => none
noncomputable def c78 : Ctr := genC [.a [.k, .k, .ro [W Z, W Z], .ro [W Z, W Z, W Z]], .k] g78
theorem k78 : CtrOk Tryd.prog c78 78 := cx (tc k52 (tc k60 (tc k61 (tc k62 tn)))) mix_ok 8 (fn := Tryd.f78) (c := (Tryd.f78.body.getD .skip)) (grs := []) (rh := .t [.ro [W Z, W Z], .k]) Tryd.func78 rfl (by kernel_rfl) noLam fun vs bs q h hn => by
  unfold g78 at h
  split at h <;> cases h
  rename_i i j b d e g l
  have hn := n1 hn
  exact ⟨_, rfl, ca (fun R => (cnd (n60 1 (datS [SV.str i, V Z j, SV.ro [Kd.int Z, Kd.int Z] b d, SV.ro [Kd.int Z, Kd.int Z, Kd.int Z] e g] 4))
 (cnd (bif (decide ((m60 1 (datS [SV.str i, V Z j, SV.ro [Kd.int Z, Kd.int Z] b d, SV.ro [Kd.int Z, Kd.int Z, Kd.int Z] e g] 4)) = 0)) then false else true)
 (R (.tup [.ro [W Z, W Z] 0 noDat, V Z (m60 1 (datS [SV.str i, V Z j, SV.ro [Kd.int Z, Kd.int Z] b d, SV.ro [Kd.int Z, Kd.int Z, Kd.int Z] e g] 4))]) [] [])
 (cnd (n61 i j b d e g)
 (cnd (n62 (m61 i j b d e g).1 (m61 i j b d e g).2)
 (cnd (bif (m52 l 0 (m62 (m61 i j b d e g).1 (m61 i j b d e g).2)) then false else true)
 (R (.tup [.ro [W Z, W Z] 0 noDat, V Z 2]) [] [])
 (R (.tup [.ro [W Z, W Z] (m61 i j b d e g).1 (m61 i j b d e g).2, V Z 0]) [] []))
     False)
    False))
  False)) (fun R => by kernel_rfl) (cn (al hn) (co (fun h0 => lf (cT h0 rfl) rfl) (fun h0 => cn (al (cf h0 (ar hn))) (cn (al (ar (cf h0 (ar hn)))) (co (fun h1 => lf (cF h0 (cT h1 rfl)) rfl) (fun h1 => lf (cF h0 (cF h1 rfl)) rfl))))))⟩
end Go.Proofs.YtchhhoamnagbfaaDoor
