/-
  Contracts of functions: models, equations by the kernel, contracts. Conditions: none.
-/
import Derived.Test.YtchhhoamnagbfaaGreatDoorBSyY
import Derived.Test.YtchhhoamnagbfaaGreatDoorBSyKo
import Derived.Test.YtchhhoamnagbfaaGreatDoorBSyHd
import Derived.Test.YtchhhoamnagbfaaGreatDoorBSyOr
import Derived.Test.YtchhhoamnagbfaaGreatDoorBBase
import Derived.Test.YtchhhoamnagbfaaGreatDoorBPLoop
import Derived.KernelRfl
namespace Go.Proofs.YtchhhoamnagbfaaGreatDoor
open Go Go.Sy
set_option linter.unusedVariables false
set_option linter.unusedSimpArgs false
set_option maxRecDepth 100000
set_option maxHeartbeats 2000000
attribute [local irreducible] Go.IntKind.wrap Int.tdiv Int.tmod Int.fdiv
open Go.Sy renaming tabOk_cons → tc, tabOk_nil → tn, cnd_need → cn, leaf_of → lf, cnd_gg → cg, cnd_gg2 → ch, cond_f → cf, cond_t → ct, cnd_of → co, callOf → ca, roundOf → ro, cnd_not → nn, lams_cons → lc, lams_nil → ln, condT → cT, condF → cF, need1 → n1, resOf → rs, and_l → al, and_r → ar, or_gg → og, ctr_of → cx, loop_blk → lb
open Go.IntKind renaming i64 → Z
open Go.Sy.SV renaming int → V
open Go.Sy.Kd renaming int → W
/-! ### shotline/shotlinebase.Within -/
noncomputable def m12 (a b d : Int) : Bool :=
  (bif (decide (b ≤ a)) then (decide (a ≤ d)) else false)
noncomputable def q12 (r : Bool) : SV × List Blk × List Blk := (.bool r, [], [])
noncomputable def g12 : GF := fun vs bs => match vs, bs with
  | [V Z a, V Z b, V Z d], [] => some (rs 0 (q12 (m12 a b d)) [])
  | _, _ => none
noncomputable def c12 : Ctr := genC [.k, .k, .k] g12
theorem k12 : CtrOk Tryz.prog c12 12 := cx tn mix_ok 8 (fn := Tryz.f12) (c := (Tryz.f12.body.getD .skip)) (grs := []) (rh := .k) Tryz.func12 rfl (by kernel_rfl) noLam fun vs bs q h hn => by
  unfold g12 at h
  split at h <;> cases h
  rename_i a b d
  exact ⟨_, rfl, ca (fun R => (R (.bool (bif (decide (b ≤ a)) then (decide (a ≤ d)) else false)) [] [])) (fun R => by kernel_rfl) (lf rfl rfl)⟩
/-! ### shotline/profile.within -/
noncomputable def m51 (a b d : Int) : Bool :=
  (bif (decide (b ≤ a)) then (decide (a ≤ d)) else false)
noncomputable def q51 (r : Bool) : SV × List Blk × List Blk := (.bool r, [], [])
noncomputable def g51 : GF := fun vs bs => match vs, bs with
  | [V Z a, V Z b, V Z d], [] => some (rs 0 (q51 (m51 a b d)) [])
  | _, _ => none
noncomputable def c51 : Ctr := genC [.k, .k, .k] g51
theorem k51 : CtrOk Tryz.prog c51 51 := cx tn mix_ok 8 (fn := Tryz.f51) (c := (Tryz.f51.body.getD .skip)) (grs := []) (rh := .k) Tryz.func51 rfl (by kernel_rfl) noLam fun vs bs q h hn => by
  unfold g51 at h
  split at h <;> cases h
  rename_i a b d
  exact ⟨_, rfl, ca (fun R => (R (.bool (bif (decide (b ≤ a)) then (decide (a ≤ d)) else false)) [] [])) (fun R => by kernel_rfl) (lf rfl rfl)⟩
/-! ### shotline/gas.within -/
noncomputable def m98 (a b d : Int) : Bool :=
  (bif (decide (b ≤ a)) then (decide (a ≤ d)) else false)
noncomputable def q98 (r : Bool) : SV × List Blk × List Blk := (.bool r, [], [])
noncomputable def g98 : GF := fun vs bs => match vs, bs with
  | [V Z a, V Z b, V Z d], [] => some (rs 0 (q98 (m98 a b d)) [])
  | _, _ => none
noncomputable def c98 : Ctr := genC [.k, .k, .k] g98
theorem k98 : CtrOk Tryz.prog c98 98 := cx tn mix_ok 8 (fn := Tryz.f98) (c := (Tryz.f98.body.getD .skip)) (grs := []) (rh := .k) Tryz.func98 rfl (by kernel_rfl) noLam fun vs bs q h hn => by
  unfold g98 at h
  split at h <;> cases h
  rename_i a b d
  exact ⟨_, rfl, ca (fun R => (R (.bool (bif (decide (b ≤ a)) then (decide (a ≤ d)) else false)) [] [])) (fun R => by kernel_rfl) (lf rfl rfl)⟩
/-! ### (shotline/profile.ratio).less -/
noncomputable def m79 (a b d e : Int) : Bool :=
  (decide ((Z.wrap (a * e)) < (Z.wrap (d * b))))
noncomputable def q79 (r : Bool) : SV × List Blk × List Blk := (.bool r, [], [])
noncomputable def g79 : GF := fun vs bs => match vs, bs with
  | [.agg [V Z a, V Z b], .agg [V Z d, V Z e]], [] => some (rs 0 (q79 (m79 a b d e)) [])
  | _, _ => none
noncomputable def c79 : Ctr := genC [.k, .k] g79
theorem k79 : CtrOk Tryz.prog c79 79 := cx tn mix_ok 8 (fn := Tryz.f79) (c := (Tryz.f79.body.getD .skip)) (grs := []) (rh := .k) Tryz.func79 rfl (by kernel_rfl) noLam fun vs bs q h hn => by
  unfold g79 at h
  split at h <;> cases h
  rename_i a b d e
  exact ⟨_, rfl, ca (fun R => (R (.bool (decide ((Z.wrap (a * e)) < (Z.wrap (d * b))))) [] [])) (fun R => by kernel_rfl) (lf rfl rfl)⟩
/-! ### (shotline/profile.ratio).rounded -/
noncomputable def m32 (b a : Int) : Int × Int :=
  ((Z.wrap (b.tdiv a)), (Z.wrap ((Z.wrap ((Z.wrap (b + a)) - 1)).tdiv a)))
noncomputable def n32 (b a : Int) : Bool :=
  ((bif (decide (a = 0)) then false else true) && ((bif (decide (a = 0)) then false else true) && true))
noncomputable def q32 (r : Int × Int) : SV × List Blk × List Blk := (.agg [V Z r.1, V Z r.2], [], [])
noncomputable def g32 : GF := fun vs bs => match vs, bs with
  | [.agg [V Z b, V Z a]], [] => some (rs 0 (q32 (m32 b a)) [n32 b a])
  | _, _ => none
noncomputable def c32 : Ctr := genC [.k] g32
theorem k32 : CtrOk Tryz.prog c32 32 := cx tn mix_ok 8 (fn := Tryz.f32) (c := (Tryz.f32.body.getD .skip)) (grs := []) (rh := .k) Tryz.func32 rfl (by kernel_rfl) noLam fun vs bs q h hn => by
  unfold g32 at h
  split at h <;> cases h
  rename_i b a
  have hn := n1 hn
  exact ⟨_, rfl, ca (fun R => (cnd (bif (decide (a = 0)) then false else true)
 (cnd (bif (decide (a = 0)) then false else true)
 (R (.agg [V Z (Z.wrap (b.tdiv a)), V Z (Z.wrap ((Z.wrap ((Z.wrap (b + a)) - 1)).tdiv a))]) [] [])
   False)
  False)) (fun R => by kernel_rfl) (cn (al hn) (cn (al (ar hn)) (lf rfl rfl)))⟩
/-! ### (shotline/profile.track).end -/
noncomputable def m47 (a : Nat) (b : Dat) : Int :=
  (b.ii ((Z.wrap ((↑a : Int) - 1)).toNat) 0)
noncomputable def n47 (a : Nat) (b : Dat) : Bool :=
  ((decide (0 ≤ Z.wrap ((↑a : Int) - 1) ∧ Z.wrap ((↑a : Int) - 1) < (↑a : Int))) && true)
noncomputable def q47 (r : Int) : SV × List Blk × List Blk := (V Z r, [], [])
noncomputable def g47 : GF := fun vs bs => match vs, bs with
  | [.ro [W Z, W Z] a b], [] => some (rs 0 (q47 (m47 a b)) [n47 a b])
  | _, _ => none
noncomputable def c47 : Ctr := genC [.ro [W Z, W Z]] g47
theorem k47 : CtrOk Tryz.prog c47 47 := cx tn mix_ok 8 (fn := Tryz.f47) (c := (Tryz.f47.body.getD .skip)) (grs := []) (rh := .k) Tryz.func47 rfl (by kernel_rfl) noLam fun vs bs q h hn => by
  unfold g47 at h
  split at h <;> cases h
  rename_i a b
  have hn := n1 hn
  exact ⟨_, rfl, ca (fun R => (cnd (decide (0 ≤ Z.wrap ((↑a : Int) - 1) ∧ Z.wrap ((↑a : Int) - 1) < (↑a : Int)))
 (R (V Z (b.ii ((Z.wrap ((↑a : Int) - 1)).toNat) 0)) [] [])
  False)) (fun R => by kernel_rfl) (cn (al hn) (lf rfl rfl))⟩
/-! ### (shotline/profile.track).leg$1 -/
noncomputable def m60 (a d : Int) (b : Dat) : Bool :=
  (decide ((b.ii 0 0) ≤ a))
noncomputable def q60 (r : Bool) : SV × List Blk × List Blk := (.bool r, [], [])
noncomputable def g60 : GF := fun vs bs => match vs, bs with
  | [.agg [V Z a, V Z d], .rp [W Z] b 0 0], [] => some (rs 0 (q60 (m60 a d b)) [])
  | _, _ => none
noncomputable def c60 : Ctr := genC [.k, .rp [W Z]] g60
theorem k60 : CtrOk Tryz.prog c60 60 := cx tn mix_ok 8 (fn := Tryz.f60) (c := (Tryz.f60.body.getD .skip)) (grs := []) (rh := .k) Tryz.func60 rfl (by kernel_rfl) noLam fun vs bs q h hn => by
  unfold g60 at h
  split at h <;> cases h
  rename_i a d b
  exact ⟨_, rfl, ca (fun R => (R (.bool (decide ((b.ii 0 0) ≤ a))) [] [])) (fun R => by kernel_rfl) (lf rfl rfl)⟩
/-! ### shotline/gas.first -/
noncomputable def l88_0 (b : Nat) (a : Dat) (i : Int) : Nat → Int → Option (Bool × (Int) × (Unit))
  | 0, _ => none
  | f + 1, g => (cond (decide (g < i)) (cond (decide (0 ≤ g ∧ g < ↑b)) (cond (bif (decide ((a.ii g.toNat 0) = 0)) then false else true) (some (true, (a.ii g.toNat 0), default)) (l88_0 b a i f (Z.wrap (g + 1)))) none) (some (false, default, ())))
noncomputable abbrev o88_0 (b : Nat) (a : Dat) (i g : Int) : Option (Bool × (Int) × (Unit)) := l88_0 b a i (b + i.toNat + g.toNat + 8) g
noncomputable def e88_0 (b : Nat) (a : Dat) (i : Int) (r : Bool × (Int) × (Unit)) (K : XR) : Prop := cnd r.1 (K (XE.ret) [V Z r.2.1] []) (K (XE.exit 0) [.any] [])
noncomputable def g88_0 : LSum := fun s k => match czv 0 15 [5, 6, 7] 0 [] s with
  | some ([.ro [W Z] b a, V Z i, V Z g], []) => needs [(o88_0 b a i g).isSome] (e88_0 b a i ((o88_0 b a i g).getD default) fun e vs bs => inBlk 0 k e (mkSt 0 15 [2] vs 0 bs))
  | _ => False
theorem z88_0 : LOk Tryz.prog g88_0 (.block 0 (bodyAt (Tryz.f88.body.getD .skip) 0)) := by
  refine lb (ι := Nat × Dat × Int × Int) (fuel := 8) (na := 0) (nt := 15) (nx := 0) (Lh := [5, 6, 7]) (Le := [2]) (gl := []) tn mix_ok noLam rfl (fun f (b, a, i, g) K => GG default (e88_0 b a i) K (l88_0 b a i f g)) (fun (b, a, i, g) => [.ro [W Z] b a, V Z i, V Z g]) (fun (b, a, i, g) => []) (fun (_, _, _, _) K => gg_none) ?_ ?_
  · rintro f ⟨b, a, i, g⟩ K hG
    refine ro (fun R => (cnd (decide (g < i))
 (cnd (decide (0 ≤ g ∧ g < ↑b))
 (cnd (bif (decide ((a.ii g.toNat 0) = 0)) then false else true)
 (R (XE.ret) [V Z (a.ii g.toNat 0)] [])
 (R (XE.normal) [.ro [W Z] b a, V Z i, V Z (Z.wrap (g + 1))] []))
   False)
 (R (XE.exit 0) [.any] []))) (fun R => by kernel_rfl) ?_
    exact ch hG (fun h0 => cg h0 fun h1 => ch h1 (fun h2 => h2.2) (fun h2 => ⟨(_, _, _, _), rfl, rfl, h2⟩)) (fun h0 => h0.2)
  · intro s k h
    unfold g88_0 at h
    split at h <;> try exact h.elim
    rename_i e1
    rw [needs_iff] at h
    exact ⟨_, e1, _, (_, _, _, _), rfl, rfl, h.1 _ (List.mem_singleton.2 rfl), h.2⟩
noncomputable def m88 (d : Nat) (j : Dat) : Int :=
  (cond ((o88_0 d j (↑d : Int) 0).getD default).1 ((o88_0 d j (↑d : Int) 0).getD default).2.1 0)
noncomputable def n88 (d : Nat) (j : Dat) : Bool :=
  (((o88_0 d j (↑d : Int) 0).isSome) && true)
noncomputable def q88 (r : Int) : SV × List Blk × List Blk := (V Z r, [], [])
noncomputable def g88 : GF := fun vs bs => match vs, bs with
  | [.ro [W Z] d j], [] => some (rs 0 (q88 (m88 d j)) [n88 d j])
  | _, _ => none
noncomputable def c88 : Ctr := genC [.ro [W Z]] g88
theorem k88 : CtrOk Tryz.prog c88 88 := cx tn mix_ok 8 (fn := Tryz.f88) (c := (Tryz.f88.body.getD .skip)) (grs := []) (rh := .k) Tryz.func88 rfl (by kernel_rfl) (lam_of rfl (lc z88_0 ln)) fun vs bs q h hn => by
  unfold g88 at h
  split at h <;> cases h
  rename_i d j
  have hn := n1 hn
  exact ⟨_, rfl, ca (fun R => (cnd ((o88_0 d j (↑d : Int) 0).isSome)
 (cnd ((o88_0 d j (↑d : Int) 0).getD default).1
 (R (V Z ((o88_0 d j (↑d : Int) 0).getD default).2.1) [] [])
 (R (V Z 0) [] []))
  False)) (fun R => by kernel_rfl) (cn (al hn) (co (fun h0 => lf (cT h0 rfl) rfl) (fun h0 => lf (cF h0 rfl) rfl)))⟩
/-! ### shotline/profile.trackOf -/
noncomputable def l46_0 (g : Nat) (i : Dat) (z : Int) (j : ByteArray) (l : Int) (m : Nat) (t u : Dat) : Nat → Nat → Int → Dat → Option (Nat × Nat × Dat)
  | 0, _, _, _ => none
  | f + 1, n, v, w => (cond (decide (v < z)) (cond (decide (0 ≤ v ∧ v < ↑g)) (cond (decide (0 ≤ Z.wrap ((↑n : Int) - 1) ∧ Z.wrap ((↑n : Int) - 1) < (↑n : Int))) (cond (decide (((Z.wrap ((↑n : Int) - 1)).toNat) < n)) (cond (decide ((n + 1) ≤ 1073741824)) (l46_0 g i z j l m t u f (n + 1) (Z.wrap (v + 1)) (w.app n (datS [V Z (Z.wrap ((w.ii ((Z.wrap ((↑n : Int) - 1)).toNat) 0) + (i.ii v.toNat 0))), V Z (i.ii v.toNat 1)] 2))) none) none) none) none) (some (n, n, w)))
noncomputable abbrev o46_0 (g : Nat) (i : Dat) (z : Int) (j : ByteArray) (l : Int) (m : Nat) (t u : Dat) (n : Nat) (v : Int) (w : Dat) : Option (Nat × Nat × Dat) := l46_0 g i z j l m t u (n + g + z.toNat + v.toNat + j.size + l.toNat + m + 8) n v w
noncomputable def e46_0 (g : Nat) (i : Dat) (z : Int) (j : ByteArray) (l : Int) (m : Nat) (t u : Dat) (r : Nat × Nat × Dat) (K : XR) : Prop := K (XE.exit 0) [.gr 1 2 r.1] [.cells 25 [.str j, V Z l, .ro [W Z, W Z] m t, .ro [W Z, W Z, W Z] g u], .row 77 [W Z, W Z] r.2.1 r.2.2]
noncomputable def g46_0 : LSum := fun s k => match czv 0 33 [3, 9, 10, 11] 2 [⟨true, 3, 0, 1, 77, [W Z, W Z]⟩] s with
  | some ([.gr 1 2 n, .ro [W Z, W Z, W Z] g i, V Z z, V Z v], [.cells 25 [.str j, V Z l, .ro [W Z, W Z] m t, .ro [W Z, W Z, W Z] b0_4 u], .row 77 [W Z, W Z] b1_0 w]) => needs [decide (g = b0_4), decide (n = b1_0), (o46_0 g i z j l m t u n v w).isSome] (e46_0 g i z j l m t u ((o46_0 g i z j l m t u n v w).getD default) fun e vs bs => inBlk 0 k e (mkSt 0 33 [3] vs 2 bs))
  | _ => False
theorem z46_0 : LOk Tryz.prog g46_0 (.block 0 (bodyAt (Tryz.f46.body.getD .skip) 0)) := by
  refine lb (ι := Nat × Nat × Dat × Int × Int × ByteArray × Int × Nat × Dat × Dat × Dat) (fuel := 8) (na := 0) (nt := 33) (nx := 2) (Lh := [3, 9, 10, 11]) (Le := [3]) (gl := [⟨true, 3, 0, 1, 77, [W Z, W Z]⟩]) tn mix_ok noLam rfl (fun f (n, g, i, z, v, j, l, m, t, u, w) K => GG default (e46_0 g i z j l m t u) K (l46_0 g i z j l m t u f n v w)) (fun (n, g, i, z, v, j, l, m, t, u, w) => [.gr 1 2 n, .ro [W Z, W Z, W Z] g i, V Z z, V Z v]) (fun (n, g, i, z, v, j, l, m, t, u, w) => [.cells 25 [.str j, V Z l, .ro [W Z, W Z] m t, .ro [W Z, W Z, W Z] g u], .row 77 [W Z, W Z] n w]) (fun (_, _, _, _, _, _, _, _, _, _, _) K => gg_none) ?_ ?_
  · rintro f ⟨n, g, i, z, v, j, l, m, t, u, w⟩ K hG
    refine ro (fun R => (cnd (decide (v < z))
 (cnd (decide (0 ≤ v ∧ v < ↑g))
 (cnd (decide (0 ≤ Z.wrap ((↑n : Int) - 1) ∧ Z.wrap ((↑n : Int) - 1) < (↑n : Int)))
 (cnd (decide (((Z.wrap ((↑n : Int) - 1)).toNat) < n))
 (cnd (decide (n ≤ n))
 (cnd (decide ((n + 1) ≤ 1073741824))
 (R (XE.normal) [.gr 1 2 (n + 1), .ro [W Z, W Z, W Z] g i, V Z z, V Z (Z.wrap (v + 1))] [.cells 25 [.str j, V Z l, .ro [W Z, W Z] m t, .ro [W Z, W Z, W Z] g u], .row 77 [W Z, W Z] (n + 1) (w.app n (datS [V Z (Z.wrap ((w.ii ((Z.wrap ((↑n : Int) - 1)).toNat) 0) + (i.ii v.toNat 0))), V Z (i.ii v.toNat 1)] 2))])
       False)
      False)
     False)
    False)
   False)
 (R (XE.exit 0) [.gr 1 2 n] [.cells 25 [.str j, V Z l, .ro [W Z, W Z] m t, .ro [W Z, W Z, W Z] g u], .row 77 [W Z, W Z] n w]))) (fun R => by kernel_rfl) ?_
    exact ch hG (fun h0 => cg h0 fun h1 => cg h1 fun h2 => cg h2 fun h3 => cn (decide_eq_true (Nat.le_refl _)) (cg h3 fun h4 => ⟨(_, _, _, _, _, _, _, _, _, _, _), rfl, rfl, h4⟩)) (fun h0 => h0.2)
  · intro s k h
    unfold g46_0 at h
    split at h <;> try exact h.elim
    rename_i e1
    rw [needs_iff] at h
    have hq := h.1
    simp only [List.mem_cons, forall_eq_or_imp, decide_eq_true_eq, List.not_mem_nil, false_imp_iff, implies_true, and_true] at hq
    obtain ⟨rfl, rfl, hq⟩ := hq
    exact ⟨_, e1, _, (_, _, _, _, _, _, _, _, _, _, _), rfl, rfl, hq, h.2⟩
noncomputable def m46 (x : ByteArray) (y : Int) (o : Nat) (p : Dat) (b : Nat) (d : Dat) : Nat × Dat :=
  (((o46_0 b d (↑b : Int) x y o p d 1 0 (datS [V Z 0, V Z 0] 2)).getD default).1, ((o46_0 b d (↑b : Int) x y o p d 1 0 (datS [V Z 0, V Z 0] 2)).getD default).2.2)
noncomputable def n46 (x : ByteArray) (y : Int) (o : Nat) (p : Dat) (b : Nat) (d : Dat) : Bool :=
  (((o46_0 b d (↑b : Int) x y o p d 1 0 (datS [V Z 0, V Z 0] 2)).isSome) && ((decide ((0 + ((o46_0 b d (↑b : Int) x y o p d 1 0 (datS [V Z 0, V Z 0] 2)).getD default).1) ≤ ((o46_0 b d (↑b : Int) x y o p d 1 0 (datS [V Z 0, V Z 0] 2)).getD default).2.1)) && true))
noncomputable def q46 (r : Nat × Dat) : SV × List Blk × List Blk := (.ro [W Z, W Z] r.1 r.2, [], [])
noncomputable def g46 : GF := fun vs bs => match vs, bs with
  | [.agg [.str x, V Z y, .ro [W Z, W Z] o p, .ro [W Z, W Z, W Z] b d]], [] => some (rs 0 (q46 (m46 x y o p b d)) [n46 x y o p b d])
  | _, _ => none
noncomputable def c46 : Ctr := genC [.a [.k, .k, .ro [W Z, W Z], .ro [W Z, W Z, W Z]]] g46
theorem k46 : CtrOk Tryz.prog c46 46 := cx tn mix_ok 8 (fn := Tryz.f46) (c := (Tryz.f46.body.getD .skip)) (grs := []) (rh := .ro [W Z, W Z]) Tryz.func46 rfl (by kernel_rfl) (lam_of rfl (lc z46_0 ln)) fun vs bs q h hn => by
  unfold g46 at h
  split at h <;> cases h
  rename_i x y o p b d
  have hn := n1 hn
  exact ⟨_, rfl, ca (fun R => (cnd (decide (b = b))
 (cnd ((o46_0 b d (↑b : Int) x y o p d 1 0 (datS [V Z 0, V Z 0] 2)).isSome)
 (cnd (decide ((0 + ((o46_0 b d (↑b : Int) x y o p d 1 0 (datS [V Z 0, V Z 0] 2)).getD default).1) ≤ ((o46_0 b d (↑b : Int) x y o p d 1 0 (datS [V Z 0, V Z 0] 2)).getD default).2.1))
 (R (.ro [W Z, W Z] ((o46_0 b d (↑b : Int) x y o p d 1 0 (datS [V Z 0, V Z 0] 2)).getD default).1 ((o46_0 b d (↑b : Int) x y o p d 1 0 (datS [V Z 0, V Z 0] 2)).getD default).2.2) [] [])
    False)
   False)
  False)) (fun R => by kernel_rfl) (cn (decide_eq_true rfl) (cn (al hn) (cn (al (ar hn)) (lf rfl rfl))))⟩


/-! ### shotline/gas.bound -/
noncomputable def m89 (a b d : Int) : Int :=
  (cond (bif (m98 a b d) then false else true) 2 0)
noncomputable def q89 (r : Int) : SV × List Blk × List Blk := (V Z r, [], [])
noncomputable def g89 : GF := fun vs bs => match vs, bs with
  | [V Z a, V Z b, V Z d], [] => some (rs 0 (q89 (m89 a b d)) [])
  | _, _ => none
noncomputable def c89 : Ctr := genC [.k, .k, .k] g89
theorem k89 : CtrOk Tryz.prog c89 89 := cx (tc k98 tn) mix_ok 8 (fn := Tryz.f89) (c := (Tryz.f89.body.getD .skip)) (grs := []) (rh := .k) Tryz.func89 rfl (by kernel_rfl) noLam fun vs bs q h hn => by
  unfold g89 at h
  split at h <;> cases h
  rename_i a b d
  exact ⟨_, rfl, ca (fun R => (cnd (bif (m98 a b d) then false else true)
 (R (V Z 2) [] [])
 (R (V Z 0) [] []))) (fun R => by kernel_rfl) (co (fun h0 => lf (cT h0 rfl) rfl) (fun h0 => lf (cF h0 rfl) rfl))⟩
/-! ### shotline/profile.isError -/
noncomputable def m68 (a : Int) : Bool :=
  (m51 a 0 30000)
noncomputable def q68 (r : Bool) : SV × List Blk × List Blk := (.bool r, [], [])
noncomputable def g68 : GF := fun vs bs => match vs, bs with
  | [V Z a], [] => some (rs 0 (q68 (m68 a)) [])
  | _, _ => none
noncomputable def c68 : Ctr := genC [.k] g68
theorem k68 : CtrOk Tryz.prog c68 68 := cx (tc k51 tn) mix_ok 8 (fn := Tryz.f68) (c := (Tryz.f68.body.getD .skip)) (grs := []) (rh := .k) Tryz.func68 rfl (by kernel_rfl) noLam fun vs bs q h hn => by
  unfold g68 at h
  split at h <;> cases h
  rename_i a
  exact ⟨_, rfl, ca (fun R => (R (.bool (m51 a 0 30000)) [] [])) (fun R => by kernel_rfl) (lf rfl rfl)⟩
/-! ### shotline/profile.isName -/
noncomputable def l75_0 (b : ByteArray) (g : Int) : Nat → Int → Option (Bool × (Bool) × (Unit))
  | 0, _ => none
  | f + 1, a => (cond (decide (a < g)) (cond (decide (0 ≤ a ∧ a < (↑b.size : Int))) (cond (bif (bif (decide (97 ≤ (byteAt b a.toNat))) then false else true) then true else (decide (0 ≤ a ∧ a < (↑b.size : Int)))) (cond (bif (bif (bif (bif (decide (97 ≤ (byteAt b a.toNat))) then (decide ((byteAt b a.toNat) ≤ 122)) else false) then false else true) then false else true) then true else (decide (0 ≤ a ∧ a < (↑b.size : Int)))) (cond (bif (bif (bif (bif (bif (decide (97 ≤ (byteAt b a.toNat))) then (decide ((byteAt b a.toNat) ≤ 122)) else false) then false else true) then (decide (65 ≤ (byteAt b a.toNat))) else false) then false else true) then true else (decide (0 ≤ a ∧ a < (↑b.size : Int)))) (cond (bif (bif (bif (bif (bif (bif (decide (97 ≤ (byteAt b a.toNat))) then (decide ((byteAt b a.toNat) ≤ 122)) else false) then true else (bif (decide (65 ≤ (byteAt b a.toNat))) then (decide ((byteAt b a.toNat) ≤ 90)) else false)) then false else true) then (bif (decide (a = 0)) then false else true) else false) then false else true) then true else (decide (0 ≤ a ∧ a < (↑b.size : Int)))) (cond (bif (bif (bif (bif (bif (bif (bif (decide (97 ≤ (byteAt b a.toNat))) then (decide ((byteAt b a.toNat) ≤ 122)) else false) then true else (bif (decide (65 ≤ (byteAt b a.toNat))) then (decide ((byteAt b a.toNat) ≤ 90)) else false)) then false else true) then (bif (decide (a = 0)) then false else true) else false) then (bif (decide ((byteAt b a.toNat) = 45)) then false else true) else false) then false else true) then true else (decide (0 ≤ a ∧ a < (↑b.size : Int)))) (cond (bif (bif (bif (bif (bif (bif (bif (bif (decide (97 ≤ (byteAt b a.toNat))) then (decide ((byteAt b a.toNat) ≤ 122)) else false) then true else (bif (decide (65 ≤ (byteAt b a.toNat))) then (decide ((byteAt b a.toNat) ≤ 90)) else false)) then false else true) then (bif (decide (a = 0)) then false else true) else false) then (bif (decide ((byteAt b a.toNat) = 45)) then false else true) else false) then (bif (decide ((byteAt b a.toNat) < 48)) then false else true) else false) then false else true) then true else (decide (0 ≤ a ∧ a < (↑b.size : Int)))) (cond (bif (bif (bif (bif (decide (97 ≤ (byteAt b a.toNat))) then (decide ((byteAt b a.toNat) ≤ 122)) else false) then true else (bif (decide (65 ≤ (byteAt b a.toNat))) then (decide ((byteAt b a.toNat) ≤ 90)) else false)) then false else true) then (bif (decide (a = 0)) then true else (bif (bif (decide ((byteAt b a.toNat) = 45)) then false else true) then (bif (decide ((byteAt b a.toNat) < 48)) then true else (decide (57 < (byteAt b a.toNat)))) else false)) else false) (some (true, false, default)) (l75_0 b g f (Z.wrap (a + 1)))) none) none) none) none) none) none) none) (some (false, default, ())))
noncomputable abbrev o75_0 (b : ByteArray) (g a : Int) : Option (Bool × (Bool) × (Unit)) := l75_0 b g (b.size + g.toNat + a.toNat + 8) a
noncomputable def e75_0 (b : ByteArray) (g : Int) (r : Bool × (Bool) × (Unit)) (K : XR) : Prop := cnd r.1 (K (XE.ret) [.str b, .bool r.2.1] []) (K (XE.exit 0) [.str b, .any] [])
noncomputable def g75_0 : LSum := fun s k => match czv 0 64 [0, 6, 7] 0 [] s with
  | some ([.str b, V Z g, V Z a], []) => needs [(o75_0 b g a).isSome] (e75_0 b g ((o75_0 b g a).getD default) fun e vs bs => inBlk 0 k e (mkSt 0 64 [0, 2] vs 0 bs))
  | _ => False
theorem z75_0 : LOk Tryz.prog g75_0 (.block 0 (bodyAt (Tryz.f75.body.getD .skip) 0)) := by
  refine lb (ι := ByteArray × Int × Int) (fuel := 8) (na := 0) (nt := 64) (nx := 0) (Lh := [0, 6, 7]) (Le := [0, 2]) (gl := []) tn mix_ok noLam rfl (fun f (b, g, a) K => GG default (e75_0 b g) K (l75_0 b g f a)) (fun (b, g, a) => [.str b, V Z g, V Z a]) (fun (b, g, a) => []) (fun (_, _, _) K => gg_none) ?_ ?_
  · rintro f ⟨b, g, a⟩ K hG
    refine ro (fun R => (cnd (decide (a < g))
 (cnd (decide (0 ≤ a ∧ a < (↑b.size : Int)))
 (cnd (bif (bif (decide (97 ≤ (byteAt b a.toNat))) then false else true) then true else (decide (0 ≤ a ∧ a < (↑b.size : Int))))
 (cnd (bif (bif (bif (bif (decide (97 ≤ (byteAt b a.toNat))) then (decide ((byteAt b a.toNat) ≤ 122)) else false) then false else true) then false else true) then true else (decide (0 ≤ a ∧ a < (↑b.size : Int))))
 (cnd (bif (bif (bif (bif (bif (decide (97 ≤ (byteAt b a.toNat))) then (decide ((byteAt b a.toNat) ≤ 122)) else false) then false else true) then (decide (65 ≤ (byteAt b a.toNat))) else false) then false else true) then true else (decide (0 ≤ a ∧ a < (↑b.size : Int))))
 (cnd (bif (bif (bif (bif (bif (bif (decide (97 ≤ (byteAt b a.toNat))) then (decide ((byteAt b a.toNat) ≤ 122)) else false) then true else (bif (decide (65 ≤ (byteAt b a.toNat))) then (decide ((byteAt b a.toNat) ≤ 90)) else false)) then false else true) then (bif (decide (a = 0)) then false else true) else false) then false else true) then true else (decide (0 ≤ a ∧ a < (↑b.size : Int))))
 (cnd (bif (bif (bif (bif (bif (bif (bif (decide (97 ≤ (byteAt b a.toNat))) then (decide ((byteAt b a.toNat) ≤ 122)) else false) then true else (bif (decide (65 ≤ (byteAt b a.toNat))) then (decide ((byteAt b a.toNat) ≤ 90)) else false)) then false else true) then (bif (decide (a = 0)) then false else true) else false) then (bif (decide ((byteAt b a.toNat) = 45)) then false else true) else false) then false else true) then true else (decide (0 ≤ a ∧ a < (↑b.size : Int))))
 (cnd (bif (bif (bif (bif (bif (bif (bif (bif (decide (97 ≤ (byteAt b a.toNat))) then (decide ((byteAt b a.toNat) ≤ 122)) else false) then true else (bif (decide (65 ≤ (byteAt b a.toNat))) then (decide ((byteAt b a.toNat) ≤ 90)) else false)) then false else true) then (bif (decide (a = 0)) then false else true) else false) then (bif (decide ((byteAt b a.toNat) = 45)) then false else true) else false) then (bif (decide ((byteAt b a.toNat) < 48)) then false else true) else false) then false else true) then true else (decide (0 ≤ a ∧ a < (↑b.size : Int))))
 (cnd (bif (bif (bif (bif (decide (97 ≤ (byteAt b a.toNat))) then (decide ((byteAt b a.toNat) ≤ 122)) else false) then true else (bif (decide (65 ≤ (byteAt b a.toNat))) then (decide ((byteAt b a.toNat) ≤ 90)) else false)) then false else true) then (bif (decide (a = 0)) then true else (bif (bif (decide ((byteAt b a.toNat) = 45)) then false else true) then (bif (decide ((byteAt b a.toNat) < 48)) then true else (decide (57 < (byteAt b a.toNat)))) else false)) else false)
 (R (XE.ret) [.str b, .bool false] [])
 (R (XE.normal) [.str b, V Z g, V Z (Z.wrap (a + 1))] []))
         False)
        False)
       False)
      False)
     False)
    False)
   False)
 (R (XE.exit 0) [.str b, .any] []))) (fun R => by kernel_rfl) ?_
    exact ch hG (fun h0 => cg h0 fun h1 => cg h1 fun h2 => cg h2 fun h3 => cg h3 fun h4 => cg h4 fun h5 => cg h5 fun h6 => cg h6 fun h7 => ch h7 (fun h8 => h8.2) (fun h8 => ⟨(_, _, _), rfl, rfl, h8⟩)) (fun h0 => h0.2)
  · intro s k h
    unfold g75_0 at h
    split at h <;> try exact h.elim
    rename_i e1
    rw [needs_iff] at h
    exact ⟨_, e1, _, (_, _, _), rfl, rfl, h.1 _ (List.mem_singleton.2 rfl), h.2⟩
noncomputable def m75 (d : ByteArray) : Bool :=
  (cond ((o75_0 d (↑d.size : Int) 0).getD default).1 ((o75_0 d (↑d.size : Int) 0).getD default).2.1 (bif (bif (decide (d = ({ data := #[] } : ByteArray))) then false else true) then (decide ((↑d.size : Int) ≤ 12)) else false))
noncomputable def n75 (d : ByteArray) : Bool :=
  (((o75_0 d (↑d.size : Int) 0).isSome) && true)
noncomputable def q75 (r : Bool) : SV × List Blk × List Blk := (.bool r, [], [])
noncomputable def g75 : GF := fun vs bs => match vs, bs with
  | [.str d], [] => some (rs 0 (q75 (m75 d)) [n75 d])
  | _, _ => none
noncomputable def c75 : Ctr := genC [.k] g75
theorem k75 : CtrOk Tryz.prog c75 75 := cx tn mix_ok 8 (fn := Tryz.f75) (c := (Tryz.f75.body.getD .skip)) (grs := []) (rh := .k) Tryz.func75 rfl (by kernel_rfl) (lam_of rfl (lc z75_0 ln)) fun vs bs q h hn => by
  unfold g75 at h
  split at h <;> cases h
  rename_i d
  have hn := n1 hn
  exact ⟨_, rfl, ca (fun R => (cnd ((o75_0 d (↑d.size : Int) 0).isSome)
 (cnd ((o75_0 d (↑d.size : Int) 0).getD default).1
 (R (.bool ((o75_0 d (↑d.size : Int) 0).getD default).2.1) [] [])
 (R (.bool (bif (bif (decide (d = ({ data := #[] } : ByteArray))) then false else true) then (decide ((↑d.size : Int) ≤ 12)) else false)) [] []))
  False)) (fun R => by kernel_rfl) (cn (al hn) (co (fun h0 => lf (cT h0 rfl) rfl) (fun h0 => lf (cF h0 rfl) rfl)))⟩
/-! ### slices.IndexFunc[shotline/profile.track,shotline/api.DivePoint] -/
noncomputable def l59c60_0 (b : Nat) (a j : Dat) (i : Int) : Nat → Int → Option (Bool × (Int) × (Unit))
  | 0, _ => none
  | f + 1, d => (cond (decide (d < i)) (cond (decide (0 ≤ d ∧ d < ↑b)) (cond (m60 (a.ii d.toNat 0) (a.ii d.toNat 1) j) (some (true, d, default)) (l59c60_0 b a j i f (Z.wrap (d + 1)))) none) (some (false, default, ())))
noncomputable abbrev o59c60_0 (b : Nat) (a j : Dat) (i d : Int) : Option (Bool × (Int) × (Unit)) := l59c60_0 b a j i (b + i.toNat + d.toNat + 8) d
noncomputable def e59c60_0 (b : Nat) (a j : Dat) (i : Int) (r : Bool × (Int) × (Unit)) (K : XR) : Prop := cnd r.1 (K (XE.ret) [V Z r.2.1] []) (K (XE.exit 0) [.any] [])
noncomputable def g59c60_0 : LSum := fun s k => match czv 0 19 [0, 1, 7, 8] 0 [] s with
  | some ([.ro [W Z, W Z] b a, .fn 60 [.rp [W Z] j 0 0], V Z i, V Z d], []) => needs [(o59c60_0 b a j i d).isSome] (e59c60_0 b a j i ((o59c60_0 b a j i d).getD default) fun e vs bs => inBlk 0 k e (mkSt 0 19 [4] vs 0 bs))
  | _ => False
theorem z59c60_0 : LOk Tryz.prog g59c60_0 (.block 0 (bodyAt (Tryz.f59.body.getD .skip) 0)) := by
  refine lb (ι := Nat × Dat × Dat × Int × Int) (fuel := 8) (na := 0) (nt := 19) (nx := 0) (Lh := [0, 1, 7, 8]) (Le := [4]) (gl := []) (tc k60 tn) mix_ok noLam rfl (fun f (b, a, j, i, d) K => GG default (e59c60_0 b a j i) K (l59c60_0 b a j i f d)) (fun (b, a, j, i, d) => [.ro [W Z, W Z] b a, .fn 60 [.rp [W Z] j 0 0], V Z i, V Z d]) (fun (b, a, j, i, d) => []) (fun (_, _, _, _, _) K => gg_none) ?_ ?_
  · rintro f ⟨b, a, j, i, d⟩ K hG
    refine ro (fun R => (cnd (decide (d < i))
 (cnd (decide (0 ≤ d ∧ d < ↑b))
 (cnd (m60 (a.ii d.toNat 0) (a.ii d.toNat 1) j)
 (R (XE.ret) [V Z d] [])
 (R (XE.normal) [.ro [W Z, W Z] b a, .fn 60 [.rp [W Z] j 0 0], V Z i, V Z (Z.wrap (d + 1))] []))
   False)
 (R (XE.exit 0) [.any] []))) (fun R => by kernel_rfl) ?_
    exact ch hG (fun h0 => cg h0 fun h1 => ch h1 (fun h2 => h2.2) (fun h2 => ⟨(_, _, _, _, _), rfl, rfl, h2⟩)) (fun h0 => h0.2)
  · intro s k h
    unfold g59c60_0 at h
    split at h <;> try exact h.elim
    rename_i e1
    rw [needs_iff] at h
    exact ⟨_, e1, _, (_, _, _, _, _), rfl, rfl, h.1 _ (List.mem_singleton.2 rfl), h.2⟩
noncomputable def m59c60 (g : Nat) (l da1c0 : Dat) : Int :=
  (cond ((o59c60_0 g l da1c0 (↑g : Int) 0).getD default).1 ((o59c60_0 g l da1c0 (↑g : Int) 0).getD default).2.1 (-1))
noncomputable def n59c60 (g : Nat) (l da1c0 : Dat) : Bool :=
  (((o59c60_0 g l da1c0 (↑g : Int) 0).isSome) && true)
noncomputable def q59c60 (r : Int) : SV × List Blk × List Blk := (V Z r, [], [])
noncomputable def g59c60 : GF := fun vs bs => match vs, bs with
  | [.ro [W Z, W Z] g l, .fn 60 [.rp [W Z] da1c0 0 0]], [] => some (rs 0 (q59c60 (m59c60 g l da1c0)) [n59c60 g l da1c0])
  | _, _ => none
noncomputable def c59c60 : Ctr := genC [.ro [W Z, W Z], .f [.rp [W Z]]] g59c60
theorem k59c60 : CtrOk Tryz.prog c59c60 59 := cx (tc k60 tn) mix_ok 8 (fn := Tryz.f59) (c := (Tryz.f59.body.getD .skip)) (grs := []) (rh := .k) Tryz.func59 rfl (by kernel_rfl) (lam_of rfl (lc z59c60_0 ln)) fun vs bs q h hn => by
  unfold g59c60 at h
  split at h <;> cases h
  rename_i g l da1c0
  have hn := n1 hn
  exact ⟨_, rfl, ca (fun R => (cnd ((o59c60_0 g l da1c0 (↑g : Int) 0).isSome)
 (cnd ((o59c60_0 g l da1c0 (↑g : Int) 0).getD default).1
 (R (V Z ((o59c60_0 g l da1c0 (↑g : Int) 0).getD default).2.1) [] [])
 (R (V Z (-1)) [] []))
  False)) (fun R => by kernel_rfl) (cn (al hn) (co (fun h0 => lf (cT h0 rfl) rfl) (fun h0 => lf (cF h0 rfl) rfl)))⟩
/-! ### shotline/profile.CheckPoints -/
noncomputable def l67_1 (d : Nat) (i a : Dat) (j : Int) : Nat → Int → Option (Bool × (Int) × (Unit))
  | 0, _ => none
  | f + 1, b => (cond (decide (b < j)) (cond (decide (0 ≤ b ∧ b < ↑d)) (cond (bif (bif (m51 (a.ii b.toNat 0) 0 1000000) then false else true) then true else (bif (m51 (a.ii b.toNat 1) 0 30000) then false else true)) (some (true, 2, default)) (cond (bif (bif (decide ((0 : Int) < b)) then false else true) then true else (decide (0 ≤ Z.wrap (b - 1) ∧ Z.wrap (b - 1) < (↑d : Int)))) (cond (bif (decide ((0 : Int) < b)) then (decide ((a.ii b.toNat 0) ≤ (i.ii ((Z.wrap (b - 1)).toNat) 0))) else false) (some (true, 9, default)) (l67_1 d i a j f (Z.wrap (b + 1)))) none)) none) (some (false, default, ())))
noncomputable abbrev o67_1 (d : Nat) (i a : Dat) (j b : Int) : Option (Bool × (Int) × (Unit)) := l67_1 d i a j (d + j.toNat + b.toNat + 8) b
noncomputable def e67_1 (d : Nat) (i a : Dat) (j : Int) (r : Bool × (Int) × (Unit)) (K : XR) : Prop := cnd r.1 (K (XE.ret) [V Z r.2.1] []) (K (XE.exit 1) [.any] [])
noncomputable def g67_1 : LSum := fun s k => match czv 0 46 [0, 13, 14, 15] 0 [] s with
  | some ([.ro [W Z, W Z] d i, .ro [W Z, W Z] t13_0 a, V Z j, V Z b], []) => needs [decide (d = t13_0), (o67_1 d i a j b).isSome] (e67_1 d i a j ((o67_1 d i a j b).getD default) fun e vs bs => inBlk 1 k e (mkSt 0 46 [2] vs 0 bs))
  | _ => False
theorem z67_1 : LOk Tryz.prog g67_1 (.block 1 (bodyAt (Tryz.f67.body.getD .skip) 1)) := by
  refine lb (ι := Nat × Dat × Dat × Int × Int) (fuel := 8) (na := 0) (nt := 46) (nx := 0) (Lh := [0, 13, 14, 15]) (Le := [2]) (gl := []) (tc k51 tn) mix_ok noLam rfl (fun f (d, i, a, j, b) K => GG default (e67_1 d i a j) K (l67_1 d i a j f b)) (fun (d, i, a, j, b) => [.ro [W Z, W Z] d i, .ro [W Z, W Z] d a, V Z j, V Z b]) (fun (d, i, a, j, b) => []) (fun (_, _, _, _, _) K => gg_none) ?_ ?_
  · rintro f ⟨d, i, a, j, b⟩ K hG
    refine ro (fun R => (cnd (decide (b < j))
 (cnd (decide (0 ≤ b ∧ b < ↑d))
 (cnd (bif (bif (m51 (a.ii b.toNat 0) 0 1000000) then false else true) then true else (bif (m51 (a.ii b.toNat 1) 0 30000) then false else true))
 (R (XE.ret) [V Z 2] [])
 (cnd (bif (bif (decide ((0 : Int) < b)) then false else true) then true else (decide (0 ≤ Z.wrap (b - 1) ∧ Z.wrap (b - 1) < (↑d : Int))))
 (cnd (bif (decide ((0 : Int) < b)) then (decide ((a.ii b.toNat 0) ≤ (i.ii ((Z.wrap (b - 1)).toNat) 0))) else false)
 (R (XE.ret) [V Z 9] [])
 (R (XE.normal) [.ro [W Z, W Z] d i, .ro [W Z, W Z] d a, V Z j, V Z (Z.wrap (b + 1))] []))
     False))
   False)
 (R (XE.exit 1) [.any] []))) (fun R => by kernel_rfl) ?_
    exact ch hG (fun h0 => cg h0 fun h1 => ch h1 (fun h2 => h2.2) (fun h2 => cg h2 fun h3 => ch h3 (fun h4 => h4.2) (fun h4 => ⟨(_, _, _, _, _), rfl, rfl, h4⟩))) (fun h0 => h0.2)
  · intro s k h
    unfold g67_1 at h
    split at h <;> try exact h.elim
    rename_i e1
    rw [needs_iff] at h
    have hq := h.1
    simp only [List.mem_cons, forall_eq_or_imp, decide_eq_true_eq, List.not_mem_nil, false_imp_iff, implies_true, and_true] at hq
    obtain ⟨rfl, hq⟩ := hq
    exact ⟨_, e1, _, (_, _, _, _, _), rfl, rfl, hq, h.2⟩
noncomputable def m67 (g : Nat) (l : Dat) : Int :=
  (cond (decide ((↑g : Int) < 2)) 10 (cond (decide ((200 : Int) < (↑g : Int))) 8 (cond ((o67_1 g l l (↑g : Int) 0).getD default).1 ((o67_1 g l l (↑g : Int) 0).getD default).2.1 0)))
noncomputable def n67 (g : Nat) (l : Dat) : Bool :=
  (cond (decide ((↑g : Int) < 2)) true (cond (decide ((200 : Int) < (↑g : Int))) true (((o67_1 g l l (↑g : Int) 0).isSome) && true)))
noncomputable def q67 (r : Int) : SV × List Blk × List Blk := (V Z r, [], [])
noncomputable def g67 : GF := fun vs bs => match vs, bs with
  | [.ro [W Z, W Z] g l], [] => some (rs 0 (q67 (m67 g l)) [n67 g l])
  | _, _ => none
noncomputable def c67 : Ctr := genC [.ro [W Z, W Z]] g67
theorem k67 : CtrOk Tryz.prog c67 67 := cx (tc k51 tn) mix_ok 8 (fn := Tryz.f67) (c := (Tryz.f67.body.getD .skip)) (grs := []) (rh := .k) Tryz.func67 rfl (by kernel_rfl) (lam_of rfl (lc z67_1 ln)) fun vs bs q h hn => by
  unfold g67 at h
  split at h <;> cases h
  rename_i g l
  have hn := n1 hn
  exact ⟨_, rfl, ca (fun R => (cnd (decide ((↑g : Int) < 2))
 (R (V Z 10) [] [])
 (cnd (decide ((200 : Int) < (↑g : Int)))
 (R (V Z 8) [] [])
 (cnd (decide (g = g))
 (cnd ((o67_1 g l l (↑g : Int) 0).isSome)
 (cnd ((o67_1 g l l (↑g : Int) 0).getD default).1
 (R (V Z ((o67_1 g l l (↑g : Int) 0).getD default).2.1) [] [])
 (R (V Z 0) [] []))
     False)
    False)))) (fun R => by kernel_rfl) (co (fun h0 => lf (cT h0 rfl) rfl) (fun h0 => co (fun h1 => lf (cF h0 (cT h1 rfl)) rfl) (fun h1 => cn (decide_eq_true rfl) (cn (al (cf h1 (cf h0 hn))) (co (fun h2 => lf (cF h0 (cF h1 (cT h2 rfl))) rfl) (fun h2 => lf (cF h0 (cF h1 (cF h2 rfl))) rfl))))))⟩
/-! ### shotline/shotlinelaw02.Reef -/
noncomputable def m25  : ByteArray × Int × Dat × Dat :=
  (({ data := #[OfNat.ofNat 112] } : ByteArray), 1013, (datS [V Z 210, V Z 0, V Z 500, V Z 0] 2), (datS [V Z 60, V Z 1800, V Z 0, V Z 600, V Z 1800, V Z 0, V Z 120, V Z 600, V Z 0, V Z 300, V Z 600, V Z 1] 3))
noncomputable def q25 (r : ByteArray × Int × Dat × Dat) : SV × List Blk × List Blk := (.agg [.str r.1, V Z r.2.1, .ro [W Z, W Z] 2 r.2.2.1, .ro [W Z, W Z, W Z] 4 r.2.2.2], [], [])
noncomputable def g25 : GF := fun vs bs => match vs, bs with
  | [], [] => some (rs 0 (q25 (m25)) [])
  | _, _ => none
noncomputable def c25 : Ctr := genC [] g25
theorem k25 : CtrOk Tryz.prog c25 25 := cx tn mix_ok 8 (fn := Tryz.f25) (c := (Tryz.f25.body.getD .skip)) (grs := []) (rh := .t [.k, .k, .ro [W Z, W Z], .ro [W Z, W Z, W Z]]) Tryz.func25 rfl (by kernel_rfl) noLam fun vs bs q h hn => by
  unfold g25 at h
  split at h <;> cases h
  exact ⟨_, rfl, ca (fun R => (R (.agg [.str ({ data := #[OfNat.ofNat 112] } : ByteArray), V Z 1013, .ro [W Z, W Z] 2 (datS [V Z 210, V Z 0, V Z 500, V Z 0] 2), .ro [W Z, W Z, W Z] 4 (datS [V Z 60, V Z 1800, V Z 0, V Z 600, V Z 1800, V Z 0, V Z 120, V Z 600, V Z 0, V Z 300, V Z 600, V Z 1] 3)]) [] [])) (fun R => by kernel_rfl) (lf rfl rfl)⟩
/-! ### shotline/shotlinelaw02.Four -/
noncomputable def m28  : Dat :=
  (datS [V Z 0, V Z 0, V Z 10, V Z 100, V Z 20, V Z 190, V Z 30, V Z 300] 2)
noncomputable def q28 (r : Dat) : SV × List Blk × List Blk := (.ro [W Z, W Z] 4 r, [], [])
noncomputable def g28 : GF := fun vs bs => match vs, bs with
  | [], [] => some (rs 0 (q28 (m28)) [])
  | _, _ => none
noncomputable def c28 : Ctr := genC [] g28
theorem k28 : CtrOk Tryz.prog c28 28 := cx tn mix_ok 8 (fn := Tryz.f28) (c := (Tryz.f28.body.getD .skip)) (grs := []) (rh := .ro [W Z, W Z]) Tryz.func28 rfl (by kernel_rfl) noLam fun vs bs q h hn => by
  unfold g28 at h
  split at h <;> cases h
  exact ⟨_, rfl, ca (fun R => (R (.ro [W Z, W Z] 4 (datS [V Z 0, V Z 0, V Z 10, V Z 100, V Z 20, V Z 190, V Z 30, V Z 300] 2)) [] [])) (fun R => by kernel_rfl) (lf rfl rfl)⟩

/-! ### (shotline/profile.track).leg -/
noncomputable def m35 (a : Nat) (b : Dat) (d : Int) : Int :=
  (Z.wrap (1 + (m59c60 (((↑a : Int) - 1).toNat) (b.shift 1) (datC [V Z d]))))
noncomputable def n35 (a : Nat) (b : Dat) (d : Int) : Bool :=
  ((decide ((0 : Int) ≤ (1 : Int) ∧ (1 : Int) ≤ (↑a : Int) ∧ (↑a : Int) ≤ (↑a : Int))) && ((n59c60 (((↑a : Int) - 1).toNat) (b.shift 1) (datC [V Z d])) && true))
noncomputable def q35 (r : Int) : SV × List Blk × List Blk := (V Z r, [], [])
noncomputable def g35 : GF := fun vs bs => match vs, bs with
  | [.ro [W Z, W Z] a b, V Z d], [] => some (rs 0 (q35 (m35 a b d)) [n35 a b d])
  | _, _ => none
noncomputable def c35 : Ctr := genC [.ro [W Z, W Z], .k] g35
theorem k35 : CtrOk Tryz.prog c35 35 := cx (tc k59c60 (tc k60 tn)) mix_ok 8 (fn := Tryz.f35) (c := (Tryz.f35.body.getD .skip)) (grs := []) (rh := .k) Tryz.func35 rfl (by kernel_rfl) noLam fun vs bs q h hn => by
  unfold g35 at h
  split at h <;> cases h
  rename_i a b d
  have hn := n1 hn
  exact ⟨_, rfl, ca (fun R => (cnd (decide ((0 : Int) ≤ (1 : Int) ∧ (1 : Int) ≤ (↑a : Int) ∧ (↑a : Int) ≤ (↑a : Int)))
 (cnd (n59c60 (((↑a : Int) - 1).toNat) (b.shift 1) (datC [V Z d]))
 (R (V Z (Z.wrap (1 + (m59c60 (((↑a : Int) - 1).toNat) (b.shift 1) (datC [V Z d]))))) [] [])
   False)
  False)) (fun R => by kernel_rfl) (cn (al hn) (cn (al (ar hn)) (lf rfl rfl)))⟩
/-! ### shotline/gas.CheckGas -/
noncomputable def m76 (a b : Int) : Int :=
  (cond (bif (decide ((m88 2 (datS [V Z (m89 a 0 1000), V Z (m89 b 0 1000)] 1)) = 0)) then false else true) (m88 2 (datS [V Z (m89 a 0 1000), V Z (m89 b 0 1000)] 1)) (cond (decide ((1000 : Int) < (Z.wrap (a + b)))) 23 0))
noncomputable def n76 (a b : Int) : Bool :=
  ((n88 2 (datS [V Z (m89 a 0 1000), V Z (m89 b 0 1000)] 1)) && true)
noncomputable def q76 (r : Int) : SV × List Blk × List Blk := (V Z r, [], [])
noncomputable def g76 : GF := fun vs bs => match vs, bs with
  | [.agg [V Z a, V Z b]], [] => some (rs 0 (q76 (m76 a b)) [n76 a b])
  | _, _ => none
noncomputable def c76 : Ctr := genC [.k] g76
theorem k76 : CtrOk Tryz.prog c76 76 := cx (tc k88 (tc k89 tn)) mix_ok 8 (fn := Tryz.f76) (c := (Tryz.f76.body.getD .skip)) (grs := []) (rh := .k) Tryz.func76 rfl (by kernel_rfl) noLam fun vs bs q h hn => by
  unfold g76 at h
  split at h <;> cases h
  rename_i a b
  have hn := n1 hn
  exact ⟨_, rfl, ca (fun R => (cnd (n88 2 (datS [V Z (m89 a 0 1000), V Z (m89 b 0 1000)] 1))
 (cnd (bif (decide ((m88 2 (datS [V Z (m89 a 0 1000), V Z (m89 b 0 1000)] 1)) = 0)) then false else true)
 (R (V Z (m88 2 (datS [V Z (m89 a 0 1000), V Z (m89 b 0 1000)] 1))) [] [])
 (cnd (decide ((1000 : Int) < (Z.wrap (a + b))))
 (R (V Z 23) [] [])
 (R (V Z 0) [] [])))
  False)) (fun R => by kernel_rfl) (cn (al hn) (co (fun h0 => lf (cT h0 rfl) rfl) (fun h0 => co (fun h1 => lf (cF h0 (cT h1 rfl)) rfl) (fun h1 => lf (cF h0 (cF h1 rfl)) rfl))))⟩
/-! ### shotline/profile.checkThin -/
noncomputable def m50 (a : Nat) (b : Dat) (d : Int) : Int :=
  (cond (bif (decide ((m67 a b) = 0)) then false else true) (m67 a b) (cond (bif (m68 d) then false else true) 2 0))
noncomputable def n50 (a : Nat) (b : Dat) (d : Int) : Bool :=
  ((n67 a b) && true)
noncomputable def q50 (r : Int) : SV × List Blk × List Blk := (V Z r, [], [])
noncomputable def g50 : GF := fun vs bs => match vs, bs with
  | [.ro [W Z, W Z] a b, V Z d], [] => some (rs 0 (q50 (m50 a b d)) [n50 a b d])
  | _, _ => none
noncomputable def c50 : Ctr := genC [.ro [W Z, W Z], .k] g50
theorem k50 : CtrOk Tryz.prog c50 50 := cx (tc k68 (tc k67 tn)) mix_ok 8 (fn := Tryz.f50) (c := (Tryz.f50.body.getD .skip)) (grs := []) (rh := .k) Tryz.func50 rfl (by kernel_rfl) noLam fun vs bs q h hn => by
  unfold g50 at h
  split at h <;> cases h
  rename_i a b d
  have hn := n1 hn
  exact ⟨_, rfl, ca (fun R => (cnd (n67 a b)
 (cnd (bif (decide ((m67 a b) = 0)) then false else true)
 (R (V Z (m67 a b)) [] [])
 (cnd (bif (m68 d) then false else true)
 (R (V Z 2) [] [])
 (R (V Z 0) [] [])))
  False)) (fun R => by kernel_rfl) (cn (al hn) (co (fun h0 => lf (cT h0 rfl) rfl) (fun h0 => co (fun h1 => lf (cF h0 (cT h1 rfl)) rfl) (fun h1 => lf (cF h0 (cF h1 rfl)) rfl))))⟩

/-! ### (shotline/profile.track).at -/
noncomputable def m31 (b : Nat) (a : Dat) (d : Int) : Int × Int :=
  (cond (bif (decide ((m35 b a d) = 0)) then true else (decide (d = (a.ii 0 0)))) ((a.ii 0 1), 1) (cond (decide (d = (a.ii ((m35 b a d).toNat) 0))) ((a.ii ((m35 b a d).toNat) 1), 1) ((Z.wrap ((Z.wrap ((a.ii ((Z.wrap ((m35 b a d) - 1)).toNat) 1) * (Z.wrap ((a.ii ((m35 b a d).toNat) 0) - d)))) + (Z.wrap ((a.ii ((m35 b a d).toNat) 1) * (Z.wrap (d - (a.ii ((Z.wrap ((m35 b a d) - 1)).toNat) 0))))))), (Z.wrap ((a.ii ((m35 b a d).toNat) 0) - (a.ii ((Z.wrap ((m35 b a d) - 1)).toNat) 0))))))
noncomputable def n31 (b : Nat) (a : Dat) (d : Int) : Bool :=
  ((n35 b a d) && ((bif (bif (bif (decide ((m35 b a d) = 0)) then false else true) then false else true) then true else (decide ((0 : Int) ≤ (0 : Int) ∧ (0 : Int) < (↑b : Int)))) && (cond (bif (decide ((m35 b a d) = 0)) then true else (decide (d = (a.ii 0 0)))) ((decide ((0 : Int) ≤ (0 : Int) ∧ (0 : Int) < (↑b : Int))) && true) ((decide (0 ≤ Z.wrap (m35 b a d - 1) ∧ Z.wrap (m35 b a d - 1) < (↑b : Int))) && ((decide (0 ≤ m35 b a d ∧ m35 b a d < (↑b : Int))) && true)))))
noncomputable def q31 (r : Int × Int) : SV × List Blk × List Blk := (.agg [V Z r.1, V Z r.2], [], [])
noncomputable def g31 : GF := fun vs bs => match vs, bs with
  | [.ro [W Z, W Z] b a, V Z d], [] => some (rs 0 (q31 (m31 b a d)) [n31 b a d])
  | _, _ => none
noncomputable def c31 : Ctr := genC [.ro [W Z, W Z], .k] g31
theorem k31 : CtrOk Tryz.prog c31 31 := cx (tc k35 tn) mix_ok 8 (fn := Tryz.f31) (c := (Tryz.f31.body.getD .skip)) (grs := []) (rh := .k) Tryz.func31 rfl (by kernel_rfl) noLam fun vs bs q h hn => by
  unfold g31 at h
  split at h <;> cases h
  rename_i b a d
  have hn := n1 hn
  exact ⟨_, rfl, ca (fun R => (cnd (n35 b a d)
 (cnd (bif (bif (bif (decide ((m35 b a d) = 0)) then false else true) then false else true) then true else (decide ((0 : Int) ≤ (0 : Int) ∧ (0 : Int) < (↑b : Int))))
 (cnd (bif (decide ((m35 b a d) = 0)) then true else (decide (d = (a.ii 0 0))))
 (cnd (decide ((0 : Int) ≤ (0 : Int) ∧ (0 : Int) < (↑b : Int)))
 (R (.agg [V Z (a.ii 0 1), V Z 1]) [] [])
     False)
 (cnd (decide (0 ≤ Z.wrap (m35 b a d - 1) ∧ Z.wrap (m35 b a d - 1) < (↑b : Int)))
 (cnd (decide (0 ≤ m35 b a d ∧ m35 b a d < (↑b : Int)))
 (cnd (decide (d = (a.ii ((m35 b a d).toNat) 0)))
 (R (.agg [V Z (a.ii ((m35 b a d).toNat) 1), V Z 1]) [] [])
 (R (.agg [V Z (Z.wrap ((Z.wrap ((a.ii ((Z.wrap ((m35 b a d) - 1)).toNat) 1) * (Z.wrap ((a.ii ((m35 b a d).toNat) 0) - d)))) + (Z.wrap ((a.ii ((m35 b a d).toNat) 1) * (Z.wrap (d - (a.ii ((Z.wrap ((m35 b a d) - 1)).toNat) 0))))))), V Z (Z.wrap ((a.ii ((m35 b a d).toNat) 0) - (a.ii ((Z.wrap ((m35 b a d) - 1)).toNat) 0)))]) [] []))
      False)
     False))
   False)
  False)) (fun R => by kernel_rfl) (cn (al hn) (cn (al (ar hn)) (co (fun h0 => cn (al (ct h0 (ar (ar hn)))) (lf (cT h0 rfl) rfl)) (fun h0 => cn (al (cf h0 (ar (ar hn)))) (cn (al (ar (cf h0 (ar (ar hn))))) (co (fun h1 => lf (cF h0 (cT h1 rfl)) rfl) (fun h1 => lf (cF h0 (cF h1 rfl)) rfl)))))))⟩
/-! ### shotline/profile.CheckPlan -/
noncomputable def l63_1 (t : Nat) (o : Dat) (C : Int) (d : ByteArray) (g : Int) (j : Dat) (A : Nat) (l : Dat) : Nat → Int → Option (Bool × (Int × Int) × (Unit))
  | 0, _ => none
  | f + 1, z => (cond (decide (z < C)) (cond (decide (0 ≤ z ∧ z < ↑t)) (cond (n76 (o.ii z.toNat 0) (o.ii z.toNat 1)) (cond (bif (decide ((m76 (o.ii z.toNat 0) (o.ii z.toNat 1)) = 0)) then false else true) (some (true, (0, (m76 (o.ii z.toNat 0) (o.ii z.toNat 1))), default)) (l63_1 t o C d g j A l f (Z.wrap (z + 1)))) none) none) (some (false, default, ())))
noncomputable abbrev o63_1 (t : Nat) (o : Dat) (C : Int) (d : ByteArray) (g : Int) (j : Dat) (A : Nat) (l : Dat) (z : Int) : Option (Bool × (Int × Int) × (Unit)) := l63_1 t o C d g j A l (t + C.toNat + z.toNat + d.size + g.toNat + A + 8) z
noncomputable def e63_1 (t : Nat) (o : Dat) (C : Int) (d : ByteArray) (g : Int) (j : Dat) (A : Nat) (l : Dat) (r : Bool × (Int × Int) × (Unit)) (K : XR) : Prop := cnd r.1 (K (XE.ret) [.ptr 0 0, V Z r.2.1.1, V Z r.2.1.2] [.cells 25 [.str d, V Z g, .ro [W Z, W Z] t j, .ro [W Z, W Z, W Z] A l]]) (K (XE.exit 1) [.ptr 0 0, .any, .any] [.cells 25 [.str d, V Z g, .ro [W Z, W Z] t j, .ro [W Z, W Z, W Z] A l]])
noncomputable def g63_1 : LSum := fun s k => match czv 0 85 [1, 31, 32, 33] 1 [] s with
  | some ([.ptr 0 0, .ro [W Z, W Z] t o, V Z C, V Z z], [.cells 25 [.str d, V Z g, .ro [W Z, W Z] v j, .ro [W Z, W Z, W Z] A l]]) => needs [decide (t = v), (o63_1 t o C d g j A l z).isSome] (e63_1 t o C d g j A l ((o63_1 t o C d g j A l z).getD default) fun e vs bs => inBlk 1 k e (mkSt 0 85 [1, 2, 3] vs 1 bs))
  | _ => False
theorem z63_1 : LOk Tryz.prog g63_1 (.block 1 (bodyAt (Tryz.f63.body.getD .skip) 1)) := by
  refine lb (ι := Nat × Dat × Int × Int × ByteArray × Int × Dat × Nat × Dat) (fuel := 8) (na := 0) (nt := 85) (nx := 1) (Lh := [1, 31, 32, 33]) (Le := [1, 2, 3]) (gl := []) (tc k51 (tc k75 (tc k76 tn))) mix_ok noLam rfl (fun f (t, o, C, z, d, g, j, A, l) K => GG default (e63_1 t o C d g j A l) K (l63_1 t o C d g j A l f z)) (fun (t, o, C, z, d, g, j, A, l) => [.ptr 0 0, .ro [W Z, W Z] t o, V Z C, V Z z]) (fun (t, o, C, z, d, g, j, A, l) => [.cells 25 [.str d, V Z g, .ro [W Z, W Z] t j, .ro [W Z, W Z, W Z] A l]]) (fun (_, _, _, _, _, _, _, _, _) K => gg_none) ?_ ?_
  · rintro f ⟨t, o, C, z, d, g, j, A, l⟩ K hG
    refine ro (fun R => (cnd (decide (z < C))
 (cnd (decide (0 ≤ z ∧ z < ↑t))
 (cnd (n76 (o.ii z.toNat 0) (o.ii z.toNat 1))
 (cnd (bif (decide ((m76 (o.ii z.toNat 0) (o.ii z.toNat 1)) = 0)) then false else true)
 (R (XE.ret) [.ptr 0 0, V Z 0, V Z (m76 (o.ii z.toNat 0) (o.ii z.toNat 1))] [.cells 25 [.str d, V Z g, .ro [W Z, W Z] t j, .ro [W Z, W Z, W Z] A l]])
 (R (XE.normal) [.ptr 0 0, .ro [W Z, W Z] t o, V Z C, V Z (Z.wrap (z + 1))] [.cells 25 [.str d, V Z g, .ro [W Z, W Z] t j, .ro [W Z, W Z, W Z] A l]]))
    False)
   False)
 (R (XE.exit 1) [.ptr 0 0, .any, .any] [.cells 25 [.str d, V Z g, .ro [W Z, W Z] t j, .ro [W Z, W Z, W Z] A l]]))) (fun R => by kernel_rfl) ?_
    exact ch hG (fun h0 => cg h0 fun h1 => cg h1 fun h2 => ch h2 (fun h3 => h3.2) (fun h3 => ⟨(_, _, _, _, _, _, _, _, _), rfl, rfl, h3⟩)) (fun h0 => h0.2)
  · intro s k h
    unfold g63_1 at h
    split at h <;> try exact h.elim
    rename_i e1
    rw [needs_iff] at h
    have hq := h.1
    simp only [List.mem_cons, forall_eq_or_imp, decide_eq_true_eq, List.not_mem_nil, false_imp_iff, implies_true, and_true] at hq
    obtain ⟨rfl, hq⟩ := hq
    exact ⟨_, e1, _, (_, _, _, _, _, _, _, _, _), rfl, rfl, hq, h.2⟩
noncomputable def l63_3 (p : Nat) (u : Dat) (D : Int) (d : ByteArray) (g : Int) (v : Nat) (j l : Dat) : Nat → Int → Int → Option (Bool × (Int × Int) × (Unit))
  | 0, _, _ => none
  | f + 1, E, x => (cond (decide (x < D)) (cond (decide (0 ≤ x ∧ x < ↑p)) (cond (bif (bif (m51 (u.ii x.toNat 0) 1 1000000) then false else true) then true else (bif (m51 (u.ii x.toNat 1) 0 30000) then false else true)) (some (true, (x, 2), default)) (cond (bif (m51 (u.ii x.toNat 2) 0 (Z.wrap ((↑v : Int) - 1))) then false else true) (some (true, (x, 6), default)) (cond (decide ((1000000 : Int) < (Z.wrap (E + (u.ii x.toNat 0))))) (some (true, (x, 8), default)) (l63_3 p u D d g v j l f (Z.wrap (E + (u.ii x.toNat 0))) (Z.wrap (x + 1)))))) none) (some (false, default, ())))
noncomputable abbrev o63_3 (p : Nat) (u : Dat) (D : Int) (d : ByteArray) (g : Int) (v : Nat) (j l : Dat) (E x : Int) : Option (Bool × (Int × Int) × (Unit)) := l63_3 p u D d g v j l (E.toNat + p + D.toNat + x.toNat + d.size + g.toNat + v + 8) E x
noncomputable def e63_3 (p : Nat) (u : Dat) (D : Int) (d : ByteArray) (g : Int) (v : Nat) (j l : Dat) (r : Bool × (Int × Int) × (Unit)) (K : XR) : Prop := cnd r.1 (K (XE.ret) [V Z r.2.1.1, V Z r.2.1.2] [.cells 25 [.str d, V Z g, .ro [W Z, W Z] v j, .ro [W Z, W Z, W Z] p l]]) (K (XE.exit 3) [.any, .any] [.cells 25 [.str d, V Z g, .ro [W Z, W Z] v j, .ro [W Z, W Z, W Z] p l]])
noncomputable def g63_3 : LSum := fun s k => match czv 0 85 [1, 7, 48, 49, 50] 1 [] s with
  | some ([.ptr 0 0, V Z E, .ro [W Z, W Z, W Z] p u, V Z D, V Z x], [.cells 25 [.str d, V Z g, .ro [W Z, W Z] v j, .ro [W Z, W Z, W Z] A l]]) => needs [decide (p = A), (o63_3 p u D d g v j l E x).isSome] (e63_3 p u D d g v j l ((o63_3 p u D d g v j l E x).getD default) fun e vs bs => inBlk 3 k e (mkSt 0 85 [2, 3] vs 1 bs))
  | _ => False
theorem z63_3 : LOk Tryz.prog g63_3 (.block 3 (bodyAt (Tryz.f63.body.getD .skip) 3)) := by
  refine lb (ι := Int × Nat × Dat × Int × Int × ByteArray × Int × Nat × Dat × Dat) (fuel := 8) (na := 0) (nt := 85) (nx := 1) (Lh := [1, 7, 48, 49, 50]) (Le := [2, 3]) (gl := []) (tc k51 (tc k75 (tc k76 tn))) mix_ok (lam_of rfl (lc z63_1 ln)) rfl (fun f (E, p, u, D, x, d, g, v, j, l) K => GG default (e63_3 p u D d g v j l) K (l63_3 p u D d g v j l f E x)) (fun (E, p, u, D, x, d, g, v, j, l) => [.ptr 0 0, V Z E, .ro [W Z, W Z, W Z] p u, V Z D, V Z x]) (fun (E, p, u, D, x, d, g, v, j, l) => [.cells 25 [.str d, V Z g, .ro [W Z, W Z] v j, .ro [W Z, W Z, W Z] p l]]) (fun (_, _, _, _, _, _, _, _, _, _) K => gg_none) ?_ ?_
  · rintro f ⟨E, p, u, D, x, d, g, v, j, l⟩ K hG
    refine ro (fun R => (cnd (decide (x < D))
 (cnd (decide (0 ≤ x ∧ x < ↑p))
 (cnd (bif (bif (m51 (u.ii x.toNat 0) 1 1000000) then false else true) then true else (bif (m51 (u.ii x.toNat 1) 0 30000) then false else true))
 (R (XE.ret) [V Z x, V Z 2] [.cells 25 [.str d, V Z g, .ro [W Z, W Z] v j, .ro [W Z, W Z, W Z] p l]])
 (cnd (bif (m51 (u.ii x.toNat 2) 0 (Z.wrap ((↑v : Int) - 1))) then false else true)
 (R (XE.ret) [V Z x, V Z 6] [.cells 25 [.str d, V Z g, .ro [W Z, W Z] v j, .ro [W Z, W Z, W Z] p l]])
 (cnd (decide ((1000000 : Int) < (Z.wrap (E + (u.ii x.toNat 0)))))
 (R (XE.ret) [V Z x, V Z 8] [.cells 25 [.str d, V Z g, .ro [W Z, W Z] v j, .ro [W Z, W Z, W Z] p l]])
 (R (XE.normal) [.ptr 0 0, V Z (Z.wrap (E + (u.ii x.toNat 0))), .ro [W Z, W Z, W Z] p u, V Z D, V Z (Z.wrap (x + 1))] [.cells 25 [.str d, V Z g, .ro [W Z, W Z] v j, .ro [W Z, W Z, W Z] p l]]))))
   False)
 (R (XE.exit 3) [.any, .any] [.cells 25 [.str d, V Z g, .ro [W Z, W Z] v j, .ro [W Z, W Z, W Z] p l]]))) (fun R => by kernel_rfl) ?_
    exact ch hG (fun h0 => cg h0 fun h1 => ch h1 (fun h2 => h2.2) (fun h2 => ch h2 (fun h3 => h3.2) (fun h3 => ch h3 (fun h4 => h4.2) (fun h4 => ⟨(_, _, _, _, _, _, _, _, _, _), rfl, rfl, h4⟩)))) (fun h0 => h0.2)
  · intro s k h
    unfold g63_3 at h
    split at h <;> try exact h.elim
    rename_i e1
    rw [needs_iff] at h
    have hq := h.1
    simp only [List.mem_cons, forall_eq_or_imp, decide_eq_true_eq, List.not_mem_nil, false_imp_iff, implies_true, and_true] at hq
    obtain ⟨rfl, hq⟩ := hq
    exact ⟨_, e1, _, (_, _, _, _, _, _, _, _, _, _), rfl, rfl, hq, h.2⟩
noncomputable def m63 (w : ByteArray) (y : Int) (b : Nat) (m : Dat) (i : Nat) (n : Dat) : Int × Int :=
  (cond (bif (m75 w) then false else true) (0, 4) (cond (bif (m51 y 400 1100) then false else true) (0, 2) (cond (decide ((↑b : Int) = 0)) (0, 10) (cond (decide (8 < (↑b : Int))) (0, 8) (cond ((o63_1 b m (↑b : Int) w y m i n 0).getD default).1 (((o63_1 b m (↑b : Int) w y m i n 0).getD default).2.1.1, ((o63_1 b m (↑b : Int) w y m i n 0).getD default).2.1.2) (cond (decide ((60 : Int) < (↑i : Int))) (0, 8) (cond ((o63_3 i n (↑i : Int) w y b m n 0 0).getD default).1 (((o63_3 i n (↑i : Int) w y b m n 0 0).getD default).2.1.1, ((o63_3 i n (↑i : Int) w y b m n 0 0).getD default).2.1.2) (0, 0))))))))
noncomputable def n63 (w : ByteArray) (y : Int) (b : Nat) (m : Dat) (i : Nat) (n : Dat) : Bool :=
  ((n75 w) && (cond (bif (m75 w) then false else true) true (cond (bif (m51 y 400 1100) then false else true) true (cond (decide ((↑b : Int) = 0)) true (cond (decide (8 < (↑b : Int))) true (((o63_1 b m (↑b : Int) w y m i n 0).isSome) && (cond ((o63_1 b m (↑b : Int) w y m i n 0).getD default).1 true (cond (decide ((60 : Int) < (↑i : Int))) true (((o63_3 i n (↑i : Int) w y b m n 0 0).isSome) && true)))))))))
noncomputable def q63 (r : Int × Int) : SV × List Blk × List Blk := (.tup [V Z r.1, V Z r.2], [], [])
noncomputable def g63 : GF := fun vs bs => match vs, bs with
  | [.agg [.str w, V Z y, .ro [W Z, W Z] b m, .ro [W Z, W Z, W Z] i n]], [] => some (rs 0 (q63 (m63 w y b m i n)) [n63 w y b m i n])
  | _, _ => none
noncomputable def c63 : Ctr := genC [.a [.k, .k, .ro [W Z, W Z], .ro [W Z, W Z, W Z]]] g63
theorem k63 : CtrOk Tryz.prog c63 63 := cx (tc k51 (tc k75 (tc k76 tn))) mix_ok 8 (fn := Tryz.f63) (c := (Tryz.f63.body.getD .skip)) (grs := []) (rh := .k) Tryz.func63 rfl (by kernel_rfl) (lam_of rfl (lc z63_1 (lc z63_3 ln))) fun vs bs q h hn => by
  unfold g63 at h
  split at h <;> cases h
  rename_i w y b m i n
  have hn := n1 hn
  exact ⟨_, rfl, ca (fun R => (cnd (n75 w)
 (cnd (bif (m75 w) then false else true)
 (R (.tup [V Z 0, V Z 4]) [] [])
 (cnd (bif (m51 y 400 1100) then false else true)
 (R (.tup [V Z 0, V Z 2]) [] [])
 (cnd (decide ((↑b : Int) = 0))
 (R (.tup [V Z 0, V Z 10]) [] [])
 (cnd (decide (8 < (↑b : Int)))
 (R (.tup [V Z 0, V Z 8]) [] [])
 (cnd (decide (b = b))
 (cnd ((o63_1 b m (↑b : Int) w y m i n 0).isSome)
 (cnd ((o63_1 b m (↑b : Int) w y m i n 0).getD default).1
 (R (.tup [V Z ((o63_1 b m (↑b : Int) w y m i n 0).getD default).2.1.1, V Z ((o63_1 b m (↑b : Int) w y m i n 0).getD default).2.1.2]) [] [])
 (cnd (decide ((60 : Int) < (↑i : Int)))
 (R (.tup [V Z 0, V Z 8]) [] [])
 (cnd (decide (i = i))
 (cnd ((o63_3 i n (↑i : Int) w y b m n 0 0).isSome)
 (cnd ((o63_3 i n (↑i : Int) w y b m n 0 0).getD default).1
 (R (.tup [V Z ((o63_3 i n (↑i : Int) w y b m n 0 0).getD default).2.1.1, V Z ((o63_3 i n (↑i : Int) w y b m n 0 0).getD default).2.1.2]) [] [])
 (R (.tup [V Z 0, V Z 0]) [] []))
            False)
           False)))
        False)
       False)))))
  False)) (fun R => by kernel_rfl) (cn (al hn) (co (fun h0 => lf (cT h0 rfl) rfl) (fun h0 => co (fun h1 => lf (cF h0 (cT h1 rfl)) rfl) (fun h1 => co (fun h2 => lf (cF h0 (cF h1 (cT h2 rfl))) rfl) (fun h2 => co (fun h3 => lf (cF h0 (cF h1 (cF h2 (cT h3 rfl)))) rfl) (fun h3 => cn (decide_eq_true rfl) (cn (al (cf h3 (cf h2 (cf h1 (cf h0 (ar hn)))))) (co (fun h4 => lf (cF h0 (cF h1 (cF h2 (cF h3 (cT h4 rfl))))) rfl) (fun h4 => co (fun h5 => lf (cF h0 (cF h1 (cF h2 (cF h3 (cF h4 (cT h5 rfl)))))) rfl) (fun h5 => cn (decide_eq_true rfl) (cn (al (cf h5 (cf h4 (ar (cf h3 (cf h2 (cf h1 (cf h0 (ar hn))))))))) (co (fun h6 => lf (cF h0 (cF h1 (cF h2 (cF h3 (cF h4 (cF h5 (cT h6 rfl))))))) rfl) (fun h6 => lf (cF h0 (cF h1 (cF h2 (cF h3 (cF h4 (cF h5 (cF h6 rfl))))))) rfl)))))))))))))⟩


/-! ### shotline/profile.apart -/
noncomputable def m80 (b : Nat) (d : Dat) (e : Nat) (g : Dat) (a : Int) : Int × Int :=
  ((imax (Z.wrap ((Z.wrap ((m31 b d a).1 * (m31 e g a).2)) - (Z.wrap ((m31 e g a).1 * (m31 b d a).2)))) (Z.wrap (0 - (Z.wrap ((Z.wrap ((m31 b d a).1 * (m31 e g a).2)) - (Z.wrap ((m31 e g a).1 * (m31 b d a).2))))))), (Z.wrap ((m31 b d a).2 * (m31 e g a).2)))
noncomputable def n80 (b : Nat) (d : Dat) (e : Nat) (g : Dat) (a : Int) : Bool :=
  ((n31 b d a) && ((n31 e g a) && true))
noncomputable def q80 (r : Int × Int) : SV × List Blk × List Blk := (.agg [V Z r.1, V Z r.2], [], [])
noncomputable def g80 : GF := fun vs bs => match vs, bs with
  | [.ro [W Z, W Z] b d, .ro [W Z, W Z] e g, V Z a], [] => some (rs 0 (q80 (m80 b d e g a)) [n80 b d e g a])
  | _, _ => none
noncomputable def c80 : Ctr := genC [.ro [W Z, W Z], .ro [W Z, W Z], .k] g80
theorem k80 : CtrOk Tryz.prog c80 80 := cx (tc k31 tn) mix_ok 8 (fn := Tryz.f80) (c := (Tryz.f80.body.getD .skip)) (grs := []) (rh := .k) Tryz.func80 rfl (by kernel_rfl) noLam fun vs bs q h hn => by
  unfold g80 at h
  split at h <;> cases h
  rename_i b d e g a
  have hn := n1 hn
  exact ⟨_, rfl, ca (fun R => (cnd (n31 b d a)
 (cnd (n31 e g a)
 (R (.agg [V Z (imax (Z.wrap ((Z.wrap ((m31 b d a).1 * (m31 e g a).2)) - (Z.wrap ((m31 e g a).1 * (m31 b d a).2)))) (Z.wrap (0 - (Z.wrap ((Z.wrap ((m31 b d a).1 * (m31 e g a).2)) - (Z.wrap ((m31 e g a).1 * (m31 b d a).2))))))), V Z (Z.wrap ((m31 b d a).2 * (m31 e g a).2))]) [] [])
   False)
  False)) (fun R => by kernel_rfl) (cn (al hn) (cn (al (ar hn)) (lf rfl rfl)))⟩
/-! ### shotline/profile.check -/
noncomputable def l42_0 (d : Nat) (a : Dat) (i : Int) : Nat → Int → Option (Bool × (Int) × (Unit))
  | 0, _ => none
  | f + 1, b => (cond (decide (b < i)) (cond (decide (0 ≤ b ∧ b < ↑d)) (cond (n63 (a.ss b.toNat 0) (a.ii b.toNat 1) (a.sn b.toNat 2) (a.sub b.toNat 2) (a.sn b.toNat 3) (a.sub b.toNat 3)) (cond (bif (decide ((m63 (a.ss b.toNat 0) (a.ii b.toNat 1) (a.sn b.toNat 2) (a.sub b.toNat 2) (a.sn b.toNat 3) (a.sub b.toNat 3)).2 = 0)) then false else true) (some (true, (m63 (a.ss b.toNat 0) (a.ii b.toNat 1) (a.sn b.toNat 2) (a.sub b.toNat 2) (a.sn b.toNat 3) (a.sub b.toNat 3)).2, default)) (l42_0 d a i f (Z.wrap (b + 1)))) none) none) (some (false, default, ())))
noncomputable abbrev o42_0 (d : Nat) (a : Dat) (i b : Int) : Option (Bool × (Int) × (Unit)) := l42_0 d a i (d + i.toNat + b.toNat + 8) b
noncomputable def e42_0 (d : Nat) (a : Dat) (i : Int) (r : Bool × (Int) × (Unit)) (K : XR) : Prop := cnd r.1 (K (XE.ret) [V Z r.2.1] []) (K (XE.exit 0) [.any] [])
noncomputable def g42_0 : LSum := fun s k => match czv 0 22 [7, 8, 9] 0 [] s with
  | some ([.ro [.str, W Z, .sl [W Z, W Z], .sl [W Z, W Z, W Z]] d a, V Z i, V Z b], []) => needs [(o42_0 d a i b).isSome] (e42_0 d a i ((o42_0 d a i b).getD default) fun e vs bs => inBlk 0 k e (mkSt 0 22 [2] vs 0 bs))
  | _ => False
theorem z42_0 : LOk Tryz.prog g42_0 (.block 0 (bodyAt (Tryz.f42.body.getD .skip) 0)) := by
  refine lb (ι := Nat × Dat × Int × Int) (fuel := 8) (na := 0) (nt := 22) (nx := 0) (Lh := [7, 8, 9]) (Le := [2]) (gl := []) (tc k63 tn) mix_ok noLam rfl (fun f (d, a, i, b) K => GG default (e42_0 d a i) K (l42_0 d a i f b)) (fun (d, a, i, b) => [.ro [.str, W Z, .sl [W Z, W Z], .sl [W Z, W Z, W Z]] d a, V Z i, V Z b]) (fun (d, a, i, b) => []) (fun (_, _, _, _) K => gg_none) ?_ ?_
  · rintro f ⟨d, a, i, b⟩ K hG
    refine ro (fun R => (cnd (decide (b < i))
 (cnd (decide (0 ≤ b ∧ b < ↑d))
 (cnd (n63 (a.ss b.toNat 0) (a.ii b.toNat 1) (a.sn b.toNat 2) (a.sub b.toNat 2) (a.sn b.toNat 3) (a.sub b.toNat 3))
 (cnd (bif (decide ((m63 (a.ss b.toNat 0) (a.ii b.toNat 1) (a.sn b.toNat 2) (a.sub b.toNat 2) (a.sn b.toNat 3) (a.sub b.toNat 3)).2 = 0)) then false else true)
 (R (XE.ret) [V Z (m63 (a.ss b.toNat 0) (a.ii b.toNat 1) (a.sn b.toNat 2) (a.sub b.toNat 2) (a.sn b.toNat 3) (a.sub b.toNat 3)).2] [])
 (R (XE.normal) [.ro [.str, W Z, .sl [W Z, W Z], .sl [W Z, W Z, W Z]] d a, V Z i, V Z (Z.wrap (b + 1))] []))
    False)
   False)
 (R (XE.exit 0) [.any] []))) (fun R => by kernel_rfl) ?_
    exact ch hG (fun h0 => cg h0 fun h1 => cg h1 fun h2 => ch h2 (fun h3 => h3.2) (fun h3 => ⟨(_, _, _, _), rfl, rfl, h3⟩)) (fun h0 => h0.2)
  · intro s k h
    unfold g42_0 at h
    split at h <;> try exact h.elim
    rename_i e1
    rw [needs_iff] at h
    exact ⟨_, e1, _, (_, _, _, _), rfl, rfl, h.1 _ (List.mem_singleton.2 rfl), h.2⟩
noncomputable def m42 (g : Nat) (j : Dat) : Int :=
  (cond ((o42_0 g j (↑g : Int) 0).getD default).1 ((o42_0 g j (↑g : Int) 0).getD default).2.1 0)
noncomputable def n42 (g : Nat) (j : Dat) : Bool :=
  (((o42_0 g j (↑g : Int) 0).isSome) && true)
noncomputable def q42 (r : Int) : SV × List Blk × List Blk := (V Z r, [], [])
noncomputable def g42 : GF := fun vs bs => match vs, bs with
  | [.ro [.str, W Z, .sl [W Z, W Z], .sl [W Z, W Z, W Z]] g j], [] => some (rs 0 (q42 (m42 g j)) [n42 g j])
  | _, _ => none
noncomputable def c42 : Ctr := genC [.ro [.str, W Z, .sl [W Z, W Z], .sl [W Z, W Z, W Z]]] g42
theorem k42 : CtrOk Tryz.prog c42 42 := cx (tc k63 tn) mix_ok 8 (fn := Tryz.f42) (c := (Tryz.f42.body.getD .skip)) (grs := []) (rh := .k) Tryz.func42 rfl (by kernel_rfl) (lam_of rfl (lc z42_0 ln)) fun vs bs q h hn => by
  unfold g42 at h
  split at h <;> cases h
  rename_i g j
  have hn := n1 hn
  exact ⟨_, rfl, ca (fun R => (cnd ((o42_0 g j (↑g : Int) 0).isSome)
 (cnd ((o42_0 g j (↑g : Int) 0).getD default).1
 (R (V Z ((o42_0 g j (↑g : Int) 0).getD default).2.1) [] [])
 (R (V Z 0) [] []))
  False)) (fun R => by kernel_rfl) (cn (al hn) (co (fun h0 => lf (cT h0 rfl) rfl) (fun h0 => lf (cF h0 rfl) rfl)))⟩

/-! ### shotline/profile.PlanSeconds -/
noncomputable def m24 (i : ByteArray) (j : Int) (b : Nat) (d : Dat) (e : Nat) (g : Dat) : Int × Int :=
  (cond (bif (decide ((m42 1 (datS [SV.str i, V Z j, SV.ro [Kd.int Z, Kd.int Z] b d, SV.ro [Kd.int Z, Kd.int Z, Kd.int Z] e g] 4)) = 0)) then false else true) (0, (m42 1 (datS [SV.str i, V Z j, SV.ro [Kd.int Z, Kd.int Z] b d, SV.ro [Kd.int Z, Kd.int Z, Kd.int Z] e g] 4))) ((m47 (m46 i j b d e g).1 (m46 i j b d e g).2), 0))
noncomputable def n24 (i : ByteArray) (j : Int) (b : Nat) (d : Dat) (e : Nat) (g : Dat) : Bool :=
  ((n42 1 (datS [SV.str i, V Z j, SV.ro [Kd.int Z, Kd.int Z] b d, SV.ro [Kd.int Z, Kd.int Z, Kd.int Z] e g] 4)) && (cond (bif (decide ((m42 1 (datS [SV.str i, V Z j, SV.ro [Kd.int Z, Kd.int Z] b d, SV.ro [Kd.int Z, Kd.int Z, Kd.int Z] e g] 4)) = 0)) then false else true) true ((n46 i j b d e g) && ((n47 (m46 i j b d e g).1 (m46 i j b d e g).2) && true))))
noncomputable def q24 (r : Int × Int) : SV × List Blk × List Blk := (.tup [V Z r.1, V Z r.2], [], [])
noncomputable def g24 : GF := fun vs bs => match vs, bs with
  | [.agg [.str i, V Z j, .ro [W Z, W Z] b d, .ro [W Z, W Z, W Z] e g]], [] => some (rs 0 (q24 (m24 i j b d e g)) [n24 i j b d e g])
  | _, _ => none
noncomputable def c24 : Ctr := genC [.a [.k, .k, .ro [W Z, W Z], .ro [W Z, W Z, W Z]]] g24
theorem k24 : CtrOk Tryz.prog c24 24 := cx (tc k42 (tc k46 (tc k47 tn))) mix_ok 8 (fn := Tryz.f24) (c := (Tryz.f24.body.getD .skip)) (grs := []) (rh := .k) Tryz.func24 rfl (by kernel_rfl) noLam fun vs bs q h hn => by
  unfold g24 at h
  split at h <;> cases h
  rename_i i j b d e g
  have hn := n1 hn
  exact ⟨_, rfl, ca (fun R => (cnd (n42 1 (datS [SV.str i, V Z j, SV.ro [Kd.int Z, Kd.int Z] b d, SV.ro [Kd.int Z, Kd.int Z, Kd.int Z] e g] 4))
 (cnd (bif (decide ((m42 1 (datS [SV.str i, V Z j, SV.ro [Kd.int Z, Kd.int Z] b d, SV.ro [Kd.int Z, Kd.int Z, Kd.int Z] e g] 4)) = 0)) then false else true)
 (R (.tup [V Z 0, V Z (m42 1 (datS [SV.str i, V Z j, SV.ro [Kd.int Z, Kd.int Z] b d, SV.ro [Kd.int Z, Kd.int Z, Kd.int Z] e g] 4))]) [] [])
 (cnd (n46 i j b d e g)
 (cnd (n47 (m46 i j b d e g).1 (m46 i j b d e g).2)
 (R (.tup [V Z (m47 (m46 i j b d e g).1 (m46 i j b d e g).2), V Z 0]) [] [])
     False)
    False))
  False)) (fun R => by kernel_rfl) (cn (al hn) (co (fun h0 => lf (cT h0 rfl) rfl) (fun h0 => cn (al (cf h0 (ar hn))) (cn (al (ar (cf h0 (ar hn)))) (lf (cF h0 rfl) rfl)))))⟩
/-! ### (shotline/profile.track).allowed$1 -/
noncomputable def m78 (a d : Int) (e b : Dat) : Bool :=
  (m79 (e.ii 0 0) 1 (m80 (b.sn 0 0) (b.sub 0 0) 2 (datS [V Z a, V Z d, V Z (Z.wrap (a + 1)), V Z 0] 2) a).1 (m80 (b.sn 0 0) (b.sub 0 0) 2 (datS [V Z a, V Z d, V Z (Z.wrap (a + 1)), V Z 0] 2) a).2)
noncomputable def n78 (a d : Int) (e b : Dat) : Bool :=
  ((n80 (b.sn 0 0) (b.sub 0 0) 2 (datS [V Z a, V Z d, V Z (Z.wrap (a + 1)), V Z 0] 2) a) && true)
noncomputable def q78 (r : Bool) : SV × List Blk × List Blk := (.bool r, [], [])
noncomputable def g78 : GF := fun vs bs => match vs, bs with
  | [.agg [V Z a, V Z d], .rp [W Z] e 0 0, .rp [.sl [W Z, W Z]] b 0 0], [] => some (rs 0 (q78 (m78 a d e b)) [n78 a d e b])
  | _, _ => none
noncomputable def c78 : Ctr := genC [.k, .rp [W Z], .rp [.sl [W Z, W Z]]] g78
theorem k78 : CtrOk Tryz.prog c78 78 := cx (tc k79 (tc k80 tn)) mix_ok 8 (fn := Tryz.f78) (c := (Tryz.f78.body.getD .skip)) (grs := []) (rh := .k) Tryz.func78 rfl (by kernel_rfl) noLam fun vs bs q h hn => by
  unfold g78 at h
  split at h <;> cases h
  rename_i a d e b
  have hn := n1 hn
  exact ⟨_, rfl, ca (fun R => (cnd (n80 (b.sn 0 0) (b.sub 0 0) 2 (datS [V Z a, V Z d, V Z (Z.wrap (a + 1)), V Z 0] 2) a)
 (R (.bool (m79 (e.ii 0 0) 1 (m80 (b.sn 0 0) (b.sub 0 0) 2 (datS [V Z a, V Z d, V Z (Z.wrap (a + 1)), V Z 0] 2) a).1 (m80 (b.sn 0 0) (b.sub 0 0) 2 (datS [V Z a, V Z d, V Z (Z.wrap (a + 1)), V Z 0] 2) a).2)) [] [])
  False)) (fun R => by kernel_rfl) (cn (al hn) (lf rfl rfl))⟩


/-! ### slices.IndexFunc[shotline/profile.track,shotline/api.DivePoint] -/
noncomputable def l59c78_0 (g : Nat) (a b d : Dat) (l : Int) : Nat → Int → Option (Bool × (Int) × (Unit))
  | 0, _ => none
  | f + 1, i => (cond (decide (i < l)) (cond (decide (0 ≤ i ∧ i < ↑g)) (cond (n78 (a.ii i.toNat 0) (a.ii i.toNat 1) b d) (cond (m78 (a.ii i.toNat 0) (a.ii i.toNat 1) b d) (some (true, i, default)) (l59c78_0 g a b d l f (Z.wrap (i + 1)))) none) none) (some (false, default, ())))
noncomputable abbrev o59c78_0 (g : Nat) (a b d : Dat) (l i : Int) : Option (Bool × (Int) × (Unit)) := l59c78_0 g a b d l (g + l.toNat + i.toNat + 8) i
noncomputable def e59c78_0 (g : Nat) (a b d : Dat) (l : Int) (r : Bool × (Int) × (Unit)) (K : XR) : Prop := cnd r.1 (K (XE.ret) [V Z r.2.1] []) (K (XE.exit 0) [.any] [])
noncomputable def g59c78_0 : LSum := fun s k => match czv 0 19 [0, 1, 7, 8] 0 [] s with
  | some ([.ro [W Z, W Z] g a, .fn 78 [.rp [W Z] b 0 0, .rp [.sl [W Z, W Z]] d 0 0], V Z l, V Z i], []) => needs [(o59c78_0 g a b d l i).isSome] (e59c78_0 g a b d l ((o59c78_0 g a b d l i).getD default) fun e vs bs => inBlk 0 k e (mkSt 0 19 [4] vs 0 bs))
  | _ => False
theorem z59c78_0 : LOk Tryz.prog g59c78_0 (.block 0 (bodyAt (Tryz.f59.body.getD .skip) 0)) := by
  refine lb (ι := Nat × Dat × Dat × Dat × Int × Int) (fuel := 8) (na := 0) (nt := 19) (nx := 0) (Lh := [0, 1, 7, 8]) (Le := [4]) (gl := []) (tc k78 tn) mix_ok noLam rfl (fun f (g, a, b, d, l, i) K => GG default (e59c78_0 g a b d l) K (l59c78_0 g a b d l f i)) (fun (g, a, b, d, l, i) => [.ro [W Z, W Z] g a, .fn 78 [.rp [W Z] b 0 0, .rp [.sl [W Z, W Z]] d 0 0], V Z l, V Z i]) (fun (g, a, b, d, l, i) => []) (fun (_, _, _, _, _, _) K => gg_none) ?_ ?_
  · rintro f ⟨g, a, b, d, l, i⟩ K hG
    refine ro (fun R => (cnd (decide (i < l))
 (cnd (decide (0 ≤ i ∧ i < ↑g))
 (cnd (n78 (a.ii i.toNat 0) (a.ii i.toNat 1) b d)
 (cnd (m78 (a.ii i.toNat 0) (a.ii i.toNat 1) b d)
 (R (XE.ret) [V Z i] [])
 (R (XE.normal) [.ro [W Z, W Z] g a, .fn 78 [.rp [W Z] b 0 0, .rp [.sl [W Z, W Z]] d 0 0], V Z l, V Z (Z.wrap (i + 1))] []))
    False)
   False)
 (R (XE.exit 0) [.any] []))) (fun R => by kernel_rfl) ?_
    exact ch hG (fun h0 => cg h0 fun h1 => cg h1 fun h2 => ch h2 (fun h3 => h3.2) (fun h3 => ⟨(_, _, _, _, _, _), rfl, rfl, h3⟩)) (fun h0 => h0.2)
  · intro s k h
    unfold g59c78_0 at h
    split at h <;> try exact h.elim
    rename_i e1
    rw [needs_iff] at h
    exact ⟨_, e1, _, (_, _, _, _, _, _), rfl, rfl, h.1 _ (List.mem_singleton.2 rfl), h.2⟩
noncomputable def m59c78 (j : Nat) (m da1c0 da1c1 : Dat) : Int :=
  (cond ((o59c78_0 j m da1c0 da1c1 (↑j : Int) 0).getD default).1 ((o59c78_0 j m da1c0 da1c1 (↑j : Int) 0).getD default).2.1 (-1))
noncomputable def n59c78 (j : Nat) (m da1c0 da1c1 : Dat) : Bool :=
  (((o59c78_0 j m da1c0 da1c1 (↑j : Int) 0).isSome) && true)
noncomputable def q59c78 (r : Int) : SV × List Blk × List Blk := (V Z r, [], [])
noncomputable def g59c78 : GF := fun vs bs => match vs, bs with
  | [.ro [W Z, W Z] j m, .fn 78 [.rp [W Z] da1c0 0 0, .rp [.sl [W Z, W Z]] da1c1 0 0]], [] => some (rs 0 (q59c78 (m59c78 j m da1c0 da1c1)) [n59c78 j m da1c0 da1c1])
  | _, _ => none
noncomputable def c59c78 : Ctr := genC [.ro [W Z, W Z], .f [.rp [W Z], .rp [.sl [W Z, W Z]]]] g59c78
theorem k59c78 : CtrOk Tryz.prog c59c78 59 := cx (tc k78 tn) mix_ok 8 (fn := Tryz.f59) (c := (Tryz.f59.body.getD .skip)) (grs := []) (rh := .k) Tryz.func59 rfl (by kernel_rfl) (lam_of rfl (lc z59c78_0 ln)) fun vs bs q h hn => by
  unfold g59c78 at h
  split at h <;> cases h
  rename_i j m da1c0 da1c1
  have hn := n1 hn
  exact ⟨_, rfl, ca (fun R => (cnd ((o59c78_0 j m da1c0 da1c1 (↑j : Int) 0).isSome)
 (cnd ((o59c78_0 j m da1c0 da1c1 (↑j : Int) 0).getD default).1
 (R (V Z ((o59c78_0 j m da1c0 da1c1 (↑j : Int) 0).getD default).2.1) [] [])
 (R (V Z (-1)) [] []))
  False)) (fun R => by kernel_rfl) (cn (al hn) (co (fun h0 => lf (cT h0 rfl) rfl) (fun h0 => lf (cF h0 rfl) rfl)))⟩


/-! ### slices.ContainsFunc[shotline/profile.track,shotline/api.DivePoint] -/
noncomputable def m77c78 (a : Nat) (b da1c0 da1c1 : Dat) : Bool :=
  (decide (0 ≤ (m59c78 a b da1c0 da1c1)))
noncomputable def n77c78 (a : Nat) (b da1c0 da1c1 : Dat) : Bool :=
  ((n59c78 a b da1c0 da1c1) && true)
noncomputable def q77c78 (r : Bool) : SV × List Blk × List Blk := (.bool r, [], [])
noncomputable def g77c78 : GF := fun vs bs => match vs, bs with
  | [.ro [W Z, W Z] a b, .fn 78 [.rp [W Z] da1c0 0 0, .rp [.sl [W Z, W Z]] da1c1 0 0]], [] => some (rs 0 (q77c78 (m77c78 a b da1c0 da1c1)) [n77c78 a b da1c0 da1c1])
  | _, _ => none
noncomputable def c77c78 : Ctr := genC [.ro [W Z, W Z], .f [.rp [W Z], .rp [.sl [W Z, W Z]]]] g77c78
theorem k77c78 : CtrOk Tryz.prog c77c78 77 := cx (tc k78 (tc k59c78 tn)) mix_ok 8 (fn := Tryz.f77) (c := (Tryz.f77.body.getD .skip)) (grs := []) (rh := .k) Tryz.func77 rfl (by kernel_rfl) noLam fun vs bs q h hn => by
  unfold g77c78 at h
  split at h <;> cases h
  rename_i a b da1c0 da1c1
  have hn := n1 hn
  exact ⟨_, rfl, ca (fun R => (cnd (n59c78 a b da1c0 da1c1)
 (R (.bool (decide (0 ≤ (m59c78 a b da1c0 da1c1)))) [] [])
  False)) (fun R => by kernel_rfl) (cn (al hn) (lf rfl rfl))⟩

/-! ### (shotline/profile.track).allowed -/
noncomputable def m70 (e : Nat) (a : Dat) (b d g : Int) : Bool :=
  (bif (m77c78 ((d - (Z.wrap (b + 1))).toNat) (a.shift ((Z.wrap (b + 1)).toNat)) (datC [V Z g]) (datC [SV.ro [Kd.int Z, Kd.int Z] 2 (datS [V Z (a.ii b.toNat 0), V Z (a.ii b.toNat 1), V Z (a.ii d.toNat 0), V Z (a.ii d.toNat 1)] 2)])) then false else true)
noncomputable def n70 (e : Nat) (a : Dat) (b d g : Int) : Bool :=
  ((decide (0 ≤ b ∧ b < ↑e)) && ((decide (0 ≤ d ∧ d < ↑e)) && ((decide (0 ≤ Z.wrap (b + 1) ∧ Z.wrap (b + 1) ≤ d ∧ d ≤ (↑e : Int))) && ((n77c78 ((d - (Z.wrap (b + 1))).toNat) (a.shift ((Z.wrap (b + 1)).toNat)) (datC [V Z g]) (datC [SV.ro [Kd.int Z, Kd.int Z] 2 (datS [V Z (a.ii b.toNat 0), V Z (a.ii b.toNat 1), V Z (a.ii d.toNat 0), V Z (a.ii d.toNat 1)] 2)])) && true))))
noncomputable def q70 (r : Bool) : SV × List Blk × List Blk := (.bool r, [], [])
noncomputable def g70 : GF := fun vs bs => match vs, bs with
  | [.ro [W Z, W Z] e a, V Z b, V Z d, V Z g], [] => some (rs 0 (q70 (m70 e a b d g)) [n70 e a b d g])
  | _, _ => none
noncomputable def c70 : Ctr := genC [.ro [W Z, W Z], .k, .k, .k] g70
theorem k70 : CtrOk Tryz.prog c70 70 := cx (tc k77c78 (tc k78 tn)) mix_ok 8 (fn := Tryz.f70) (c := (Tryz.f70.body.getD .skip)) (grs := []) (rh := .k) Tryz.func70 rfl (by kernel_rfl) noLam fun vs bs q h hn => by
  unfold g70 at h
  split at h <;> cases h
  rename_i e a b d g
  have hn := n1 hn
  exact ⟨_, rfl, ca (fun R => (cnd (decide (0 ≤ b ∧ b < ↑e))
 (cnd (decide (0 ≤ d ∧ d < ↑e))
 (cnd (decide (0 ≤ Z.wrap (b + 1) ∧ Z.wrap (b + 1) ≤ d ∧ d ≤ (↑e : Int)))
 (cnd (n77c78 ((d - (Z.wrap (b + 1))).toNat) (a.shift ((Z.wrap (b + 1)).toNat)) (datC [V Z g]) (datC [SV.ro [Kd.int Z, Kd.int Z] 2 (datS [V Z (a.ii b.toNat 0), V Z (a.ii b.toNat 1), V Z (a.ii d.toNat 0), V Z (a.ii d.toNat 1)] 2)]))
 (R (.bool (bif (m77c78 ((d - (Z.wrap (b + 1))).toNat) (a.shift ((Z.wrap (b + 1)).toNat)) (datC [V Z g]) (datC [SV.ro [Kd.int Z, Kd.int Z] 2 (datS [V Z (a.ii b.toNat 0), V Z (a.ii b.toNat 1), V Z (a.ii d.toNat 0), V Z (a.ii d.toNat 1)] 2)])) then false else true)) [] [])
     False)
    False)
   False)
  False)) (fun R => by kernel_rfl) (cn (al hn) (cn (al (ar hn)) (cn (al (ar (ar hn))) (cn (al (ar (ar (ar hn)))) (lf rfl rfl)))))⟩

/-! ### (shotline/profile.track).steps -/
noncomputable def m52 (a : Nat) (b : Dat) (d : Int) : Dat × Dat :=
  ((datC [SV.ro [Kd.int Z, Kd.int Z] a b]), (datC [V Z d]))
noncomputable def q52 (r : Dat × Dat) : SV × List Blk × List Blk := (.fn 69 [.rp [.sl [W Z, W Z]] r.1 0 0, .rp [W Z] r.2 0 0], [], [])
noncomputable def g52 : GF := fun vs bs => match vs, bs with
  | [.ro [W Z, W Z] a b, V Z d], [] => some (rs 0 (q52 (m52 a b d)) [])
  | _, _ => none
noncomputable def c52 : Ctr := genC [.ro [W Z, W Z], .k] g52
theorem k52 : CtrOk Tryz.prog c52 52 := cx tn mix_ok 8 (fn := Tryz.f52) (c := (Tryz.f52.body.getD .skip)) (grs := []) (rh := .f [.rp [.sl [W Z, W Z]], .rp [W Z]]) Tryz.func52 rfl (by kernel_rfl) noLam fun vs bs q h hn => by
  unfold g52 at h
  split at h <;> cases h
  rename_i a b d
  exact ⟨_, rfl, ca (fun R => (R (.fn 69 [.rp [.sl [W Z, W Z]] (datC [SV.ro [Kd.int Z, Kd.int Z] a b]) 0 0, .rp [W Z] (datC [V Z d]) 0 0]) [] [])) (fun R => by kernel_rfl) (lf rfl rfl)⟩
/-! ### (shotline/profile.track).steps$1 -/
noncomputable def l69_2 (b d : Dat) (a i : Int) (l N : Nat) (Y : Dat) : Nat → Nat → Int → Option (Nat)
  | 0, _, _ => none
  | f + 1, k, g => (cond (decide (g < i)) (cond (n70 (b.sn 0 0) (b.sub 0 0) g a (d.ii 0 0)) (cond (m70 (b.sn 0 0) (b.sub 0 0) g a (d.ii 0 0)) (cond (decide (k < N)) (cond (decide (g = (Y.ii k 0))) (cond (decide (a = (Y.ii k 1))) (l69_2 b d a i l N Y f (k + 1) (Z.wrap (g + 1))) none) none) none) (l69_2 b d a i l N Y f (k) (Z.wrap (g + 1)))) none) (some (k)))
noncomputable abbrev o69_2 (b d : Dat) (a i : Int) (l N : Nat) (Y : Dat) (k : Nat) (g : Int) : Option (Nat) := l69_2 b d a i l N Y (a.toNat + i.toNat + g.toNat + 8) k g
noncomputable def e69_2 (b d : Dat) (a i : Int) (l N : Nat) (Y : Dat) (r : Nat) (K : XRY) : Prop := K (XE.exit 2) r [.val (Value.func (Fn.yield l) #[] #[]), .rp [.sl [W Z, W Z]] b 0 0, .rp [W Z] d 0 0, V Z a] []
noncomputable def g69_2 (l N : Nat) (Y : Dat) : SumY := fun k s κ => match k, czv 0 29 [0, 1, 2, 4, 12, 13] 0 [] s with
  | some k, some ([.val vq, .rp [.sl [W Z, W Z]] b 0 0, .rp [W Z] d 0 0, V Z a, V Z i, V Z g], []) => needs [(o69_2 b d a i l N Y k g).isSome, isYl vq l] (e69_2 b d a i l N Y ((o69_2 b d a i l N Y k g).getD default) fun e k vs bs => inBlkY 2 κ e (some k) (mkSt 0 29 [0, 1, 2, 4] vs 0 bs))
  | _, _ => False
theorem y69_2 (b d : Dat) (a i g : Int) (l N : Nat) (Y : Dat) (k : Nat) (R : XRY) : execY Tryz.prog [(70, c70)] (fun _ => none) l N (fun k => [V Z (Y.ii k 0), V Z (Y.ii k 1)]) (lamY []) 8 (unloop (bodyAt (Tryz.f69.body.getD .skip) 2)) (some k) (mkSt 0 29 [0, 1, 2, 4, 12, 13] [.val (Value.func (Fn.yield l) #[] #[]), .rp [.sl [W Z, W Z]] b 0 0, .rp [W Z] d 0 0, V Z a, V Z i, V Z g] 0 []) (canonKY 0 29 [0, 1, 2, 4, 12, 13] [0, 1, 2, 4] 0 [] R) =
 (cnd (decide (g < i))
 (cnd (n70 (b.sn 0 0) (b.sub 0 0) g a (d.ii 0 0))
 (cnd (m70 (b.sn 0 0) (b.sub 0 0) g a (d.ii 0 0))
 (cnd (decide (l = l))
 (cnd (decide (k < N))
 (cnd (decide (g = (Y.ii k 0)))
 (cnd (decide (a = (Y.ii k 1)))
        ((R (XE.normal) (k + 1) [.val (Value.func (Fn.yield l) #[] #[]), .rp [.sl [W Z, W Z]] b 0 0, .rp [W Z] d 0 0, V Z a, V Z i, V Z (Z.wrap (g + 1))] []) ∧
         True)
        False)
       False)
      False)
     False)
 (R (XE.normal) (k) [.val (Value.func (Fn.yield l) #[] #[]), .rp [.sl [W Z, W Z]] b 0 0, .rp [W Z] d 0 0, V Z a, V Z i, V Z (Z.wrap (g + 1))] []))
   False)
 (R (XE.exit 2) (k) [.val (Value.func (Fn.yield l) #[] #[]), .rp [.sl [W Z, W Z]] b 0 0, .rp [W Z] d 0 0, V Z a] [])) := by kernel_rfl
theorem z69_2 {C : YC Tryz.prog} {N : Nat} {Y : Dat} (hN : C.N = N) (hy : C.y = fun k => [V Z (Y.ii k 0), V Z (Y.ii k 1)]) : LOkJ C (g69_2 C.l N Y) (.block 2 (bodyAt (Tryz.f69.body.getD .skip) 2)) := by
  refine loopY_blk (ι := Dat × Dat × Int × Int × Nat × Int) (L := [(70, c70)]) (Λ := (fun _ => none)) (ΛY := (lamY [])) (fuel := 8) (na := 0) (nt := 29) (nx := 0) (Lh := [0, 1, 2, 4, 12, 13]) (Le := [0, 1, 2, 4]) (gl := []) (tc k70 tn) mix_ok noLam noLamY rfl (fun f x K => GG default (e69_2 x.1 x.2.1 x.2.2.1 x.2.2.2.1 C.l N Y) K (l69_2 x.1 x.2.1 x.2.2.1 x.2.2.2.1 C.l N Y f x.2.2.2.2.1 x.2.2.2.2.2)) (fun x => x.2.2.2.2.1) (fun x => [.val (Value.func (Fn.yield C.l) #[] #[]), .rp [.sl [W Z, W Z]] x.1 0 0, .rp [W Z] x.2.1 0 0, V Z x.2.2.1, V Z x.2.2.2.1, V Z x.2.2.2.2.2]) (fun x => []) (fun x K => gg_none) ?_ ?_
  · rintro f ⟨b, d, a, i, k, g⟩ K hG
    rw [hN, hy]
    refine propOf (y69_2 b d a i g C.l N Y k _) ?_
    exact ch hG (fun h0 => cg h0 fun h1 => ch h1 (fun h2 => cn (decide_eq_true rfl) (cg h2 fun h3 => cg h3 fun h4 => cg h4 fun h5 => ⟨⟨(b, d, a, i, (k + 1), (Z.wrap (g + 1))), rfl, rfl, rfl, h5⟩, trivial⟩)) (fun h2 => ⟨(b, d, a, i, (k), (Z.wrap (g + 1))), rfl, rfl, rfl, h2⟩)) (fun h0 => h0.2)
  · intro k s κ h
    unfold g69_2 at h
    split at h <;> try exact h.elim
    rename_i e1
    rw [needs_iff] at h
    have hl := h.1 _ (List.mem_cons_of_mem _ (List.mem_singleton.2 rfl))
    obtain rfl := isYl_eq hl
    exact ⟨_, (_, _, _, _, _, _), rfl, e1, h.1 _ (List.mem_cons_self ..), h.2⟩
noncomputable def l69_0 (b d : Dat) (l N : Nat) (Y : Dat) : Nat → Nat → Int → Option (Nat)
  | 0, _, _ => none
  | f + 1, k, a => (cond (decide (a < (↑(b.sn 0 0) : Int))) (cond ((o69_2 b d a a l N Y k 0).isSome) (l69_0 b d l N Y f ((o69_2 b d a a l N Y k 0).getD 0) (Z.wrap (a + 1))) none) (some (k)))
noncomputable abbrev o69_0 (b d : Dat) (l N : Nat) (Y : Dat) (k : Nat) (a : Int) : Option (Nat) := l69_0 b d l N Y (a.toNat + 8 + b.sn 0 0) k a
noncomputable def e69_0 (b d : Dat) (l N : Nat) (Y : Dat) (r : Nat) (K : XRY) : Prop := K (XE.exit 0) r [] []
noncomputable def g69_0 (l N : Nat) (Y : Dat) : SumY := fun k s κ => match k, czv 0 29 [0, 1, 2, 4] 0 [] s with
  | some k, some ([.val vq, .rp [.sl [W Z, W Z]] b 0 0, .rp [W Z] d 0 0, V Z a], []) => needs [(o69_0 b d l N Y k a).isSome, isYl vq l] (e69_0 b d l N Y ((o69_0 b d l N Y k a).getD default) fun e k vs bs => inBlkY 0 κ e (some k) (mkSt 0 29 [] vs 0 bs))
  | _, _ => False
theorem y69_0 (b d : Dat) (a : Int) (l N : Nat) (Y : Dat) (k : Nat) (R : XRY) : execY Tryz.prog [(70, c70)] (fun _ => none) l N (fun k => [V Z (Y.ii k 0), V Z (Y.ii k 1)]) (lamY [(2, (g69_2 l N Y))]) 8 (unloop (bodyAt (Tryz.f69.body.getD .skip) 0)) (some k) (mkSt 0 29 [0, 1, 2, 4] [.val (Value.func (Fn.yield l) #[] #[]), .rp [.sl [W Z, W Z]] b 0 0, .rp [W Z] d 0 0, V Z a] 0 []) (canonKY 0 29 [0, 1, 2, 4] [] 0 [] R) =
 (cnd (decide (a < (↑(b.sn 0 0) : Int)))
 (cnd ((o69_2 b d a a l N Y k 0).isSome)
 (cnd (decide (l = l))
 (R (XE.normal) ((o69_2 b d a a l N Y k 0).getD 0) [.val (Value.func (Fn.yield l) #[] #[]), .rp [.sl [W Z, W Z]] b 0 0, .rp [W Z] d 0 0, V Z (Z.wrap (a + 1))] [])
    False)
   False)
 (R (XE.exit 0) (k) [] [])) := by kernel_rfl
theorem z69_0 {C : YC Tryz.prog} {N : Nat} {Y : Dat} (hN : C.N = N) (hy : C.y = fun k => [V Z (Y.ii k 0), V Z (Y.ii k 1)]) : LOkJ C (g69_0 C.l N Y) (.block 0 (bodyAt (Tryz.f69.body.getD .skip) 0)) := by
  refine loopY_blk (ι := Dat × Dat × Nat × Int) (L := [(70, c70)]) (Λ := (fun _ => none)) (ΛY := (lamY [(2, (g69_2 C.l N Y))])) (fuel := 8) (na := 0) (nt := 29) (nx := 0) (Lh := [0, 1, 2, 4]) (Le := []) (gl := []) (tc k70 tn) mix_ok noLam (lamY_of rfl (lamsY_cons (z69_2 hN hy) lamsY_nil)) rfl (fun f x K => GG default (e69_0 x.1 x.2.1 C.l N Y) K (l69_0 x.1 x.2.1 C.l N Y f x.2.2.1 x.2.2.2)) (fun x => x.2.2.1) (fun x => [.val (Value.func (Fn.yield C.l) #[] #[]), .rp [.sl [W Z, W Z]] x.1 0 0, .rp [W Z] x.2.1 0 0, V Z x.2.2.2]) (fun x => []) (fun x K => gg_none) ?_ ?_
  · rintro f ⟨b, d, k, a⟩ K hG
    rw [hN, hy]
    refine propOf (y69_0 b d a C.l N Y k _) ?_
    exact ch hG (fun h0 => cg h0 fun h1 => cn (decide_eq_true rfl) (⟨(b, d, ((o69_2 b d a a C.l N Y k 0).getD 0), (Z.wrap (a + 1))), rfl, rfl, rfl, h1⟩)) (fun h0 => h0.2)
  · intro k s κ h
    unfold g69_0 at h
    split at h <;> try exact h.elim
    rename_i e1
    rw [needs_iff] at h
    have hl := h.1 _ (List.mem_cons_of_mem _ (List.mem_singleton.2 rfl))
    obtain rfl := isYl_eq hl
    exact ⟨_, (_, _, _, _), rfl, e1, h.1 _ (List.mem_cons_self ..), h.2⟩
theorem x69 (j m : Dat) (l N : Nat) (Y : Dat) (R : XE → Option Nat → Prop) : execY Tryz.prog [(70, c70)] (fun _ => none) l N (fun k => [V Z (Y.ii k 0), V Z (Y.ii k 1)]) (lamY [(2, (g69_2 l N Y)), (0, (g69_0 l N Y))]) 8 (Tryz.f69.body.getD .skip) (some 0) (initS Tryz.f69.ntmps ([.val (.func (.yield l) #[] #[]), .rp [.sl [W Z, W Z]] j 0 0, .rp [W Z] m 0 0]) 0 (memOf [])) (fun e k s => R e k) =
 (cnd ((o69_0 j m l N Y 0 1).isSome)
 (cnd (decide (l = l))
 (R (XE.normal) (.some ((o69_0 j m l N Y 0 1).getD 0)))
   False)
  False) := by kernel_rfl
noncomputable def n69 (j m : Dat) (l N : Nat) (Y : Dat) : Bool :=
  (((o69_0 j m l N Y 0 1).isSome) && (decide ((o69_0 j m l N Y 0 1).getD 0 = N)))
theorem it69 (j m : Dat) (N : Nat) (Y : Dat) (hn : ∀ l, n69 j m l N Y = true) : SIter Tryz.prog 69 [.rp [.sl [W Z, W Z]] j 0 0, .rp [W Z] m 0 0] [] N (fun k => [V Z (Y.ii k 0), V Z (Y.ii k 1)]) := iter_of (tc k70 tn) mix_ok 8 (fn := Tryz.f69) (c := (Tryz.f69.body.getD .skip)) (Λ := (fun _ => none)) (ΛY := fun l => (lamY [(2, (g69_2 l N Y)), (0, (g69_0 l N Y))])) Tryz.func69 rfl noLam rfl (fun k _ => rfl) (fun C hN hy => (lamY_of rfl (lamsY_cons (z69_2 hN hy) (lamsY_cons (z69_0 hN hy) lamsY_nil)))) fun l => by
  refine propOf (x69 j m l N Y fun e k => match e with | .exit _ => False | _ => k = some N) ?_
  exact cn (al (hn l)) (cn (decide_eq_true rfl) (congrArg some (of_decide_eq_true (ar (hn l)))))


/-! ### shotline/shotlinelaw02.Few -/
theorem x6 (i : ByteArray) (j : Int) (d : Nat) (e : Dat) (b : Nat) (g : Dat) (R : SV → List Blk → List Blk → Prop) : exec Tryz.prog [] (fun _ => none) 8 (Tryz.f6.body.getD .skip) (initS Tryz.f6.ntmps [.agg [.str i, V Z j, .ro [W Z, W Z] d e, .ro [W Z, W Z, W Z] b g]] 0 (memOf [])) (retK Tryz.prog Tryz.f6.results.toList (outK 0 (List.range 0) [] (.k) fun v U N => R v U N)) =
 (R (.bool (bif (bif (decide ((↑i.size : Int) ≤ 20)) then (decide ((↑d : Int) ≤ 10)) else false) then (bif (decide ((↑b : Int) ≤ 10)) then true else (bif (decide ((60 : Int) < (↑b : Int))) then (decide ((↑b : Int) ≤ 62)) else false)) else false)) [] []) := by kernel_rfl
noncomputable def m6 (i : ByteArray) (j : Int) (d : Nat) (e : Dat) (b : Nat) (g : Dat) : Bool :=
  (bif (bif (decide ((↑i.size : Int) ≤ 20)) then (decide ((↑d : Int) ≤ 10)) else false) then (bif (decide ((↑b : Int) ≤ 10)) then true else (bif (decide ((60 : Int) < (↑b : Int))) then (decide ((↑b : Int) ≤ 62)) else false)) else false)
noncomputable def q6 (r : Bool) : SV × List Blk × List Blk := (.bool r, [], [])
noncomputable def g6 : GF := fun vs bs => match vs, bs with
  | [.agg [.str i, V Z j, .ro [W Z, W Z] d e, .ro [W Z, W Z, W Z] b g]], [] => some (rs 0 (q6 (m6 i j d e b g)) [])
  | _, _ => none
noncomputable def c6 : Ctr := genC [.a [.k, .k, .ro [W Z, W Z], .ro [W Z, W Z, W Z]]] g6
theorem p6 (i : ByteArray) (j : Int) (d : Nat) (e : Dat) (b : Nat) (g : Dat) : exec Tryz.prog [] (fun _ => none) 8 (Tryz.f6.body.getD .skip) (initS Tryz.f6.ntmps [.agg [.str i, V Z j, .ro [W Z, W Z] d e, .ro [W Z, W Z, W Z] b g]] 0 (memOf [])) (retK Tryz.prog Tryz.f6.results.toList (outK 0 (List.range 0) [] (.k) fun v U N => (v, U, N) = (q6 (m6 i j d e b g)))) :=
  propOf (x6 i j d e b g _) (lf rfl rfl)
theorem k6 : CtrOk Tryz.prog c6 6 := cx tn mix_ok 8 (fn := Tryz.f6) (c := (Tryz.f6.body.getD .skip)) (grs := []) (rh := .k) Tryz.func6 rfl (by kernel_rfl) noLam fun vs bs q h _ => by
  unfold g6 at h
  split at h <;> cases h
  exact ⟨_, rfl, p6 _ _ _ _ _ _⟩

/-! ### shotline/shotlinebase.CopyLegs -/
noncomputable def m34 (a : Nat) (b : Dat) : Nat × Dat :=
  ((0 + a), ((datS [] 3).app 0 b))
noncomputable def n34 (a : Nat) (b : Dat) : Bool :=
  ((decide ((0 + a) ≤ 1073741824)) && ((decide ((0 + (0 + a)) ≤ (0 + a))) && true))
noncomputable def q34 (r : Nat × Dat) : SV × List Blk × List Blk := (.ro [W Z, W Z, W Z] r.1 r.2, [], [])
noncomputable def g34 : GF := fun vs bs => match vs, bs with
  | [.ro [W Z, W Z, W Z] a b], [] => some (rs 0 (q34 (m34 a b)) [n34 a b])
  | _, _ => none
noncomputable def c34 : Ctr := genC [.ro [W Z, W Z, W Z]] g34
theorem k34 : CtrOk Tryz.prog c34 34 := cx tn mix_ok 8 (fn := Tryz.f34) (c := (Tryz.f34.body.getD .skip)) (grs := []) (rh := .ro [W Z, W Z, W Z]) Tryz.func34 rfl (by kernel_rfl) noLam fun vs bs q h hn => by
  unfold g34 at h
  split at h <;> cases h
  rename_i a b
  have hn := n1 hn
  exact ⟨_, rfl, ca (fun R => (cnd (decide ((0 + a) ≤ 1073741824))
 (cnd (decide ((0 + (0 + a)) ≤ (0 + a)))
 (R (.ro [W Z, W Z, W Z] (0 + a) ((datS [] 3).app 0 b)) [] [])
   False)
  False)) (fun R => by kernel_rfl) (cn (al hn) (cn (al (ar hn)) (lf rfl rfl)))⟩

/-! ### shotline/shotlinebase.CopyGases -/
noncomputable def m33 (a : Nat) (b : Dat) : Nat × Dat :=
  ((0 + a), ((datS [] 2).app 0 b))
noncomputable def n33 (a : Nat) (b : Dat) : Bool :=
  ((decide ((0 + a) ≤ 1073741824)) && ((decide ((0 + (0 + a)) ≤ (0 + a))) && true))
noncomputable def q33 (r : Nat × Dat) : SV × List Blk × List Blk := (.ro [W Z, W Z] r.1 r.2, [], [])
noncomputable def g33 : GF := fun vs bs => match vs, bs with
  | [.ro [W Z, W Z] a b], [] => some (rs 0 (q33 (m33 a b)) [n33 a b])
  | _, _ => none
noncomputable def c33 : Ctr := genC [.ro [W Z, W Z]] g33
theorem k33 : CtrOk Tryz.prog c33 33 := cx tn mix_ok 8 (fn := Tryz.f33) (c := (Tryz.f33.body.getD .skip)) (grs := []) (rh := .ro [W Z, W Z]) Tryz.func33 rfl (by kernel_rfl) noLam fun vs bs q h hn => by
  unfold g33 at h
  split at h <;> cases h
  rename_i a b
  have hn := n1 hn
  exact ⟨_, rfl, ca (fun R => (cnd (decide ((0 + a) ≤ 1073741824))
 (cnd (decide ((0 + (0 + a)) ≤ (0 + a)))
 (R (.ro [W Z, W Z] (0 + a) ((datS [] 2).app 0 b)) [] [])
   False)
  False)) (fun R => by kernel_rfl) (cn (al hn) (cn (al (ar hn)) (lf rfl rfl)))⟩

/-! ### shotline/shotlinebase.CopyPlan -/
noncomputable def m8 (i : ByteArray) (j : Int) (b : Nat) (d : Dat) (e : Nat) (g : Dat) : ByteArray × Int × Nat × Dat × Nat × Dat :=
  (i, j, (m33 b d).1, (m33 b d).2, (m34 e g).1, (m34 e g).2)
noncomputable def n8 (i : ByteArray) (j : Int) (b : Nat) (d : Dat) (e : Nat) (g : Dat) : Bool :=
  ((n33 b d) && ((n34 e g) && true))
noncomputable def q8 (r : ByteArray × Int × Nat × Dat × Nat × Dat) : SV × List Blk × List Blk := (.agg [.str r.1, V Z r.2.1, .ro [W Z, W Z] r.2.2.1 r.2.2.2.1, .ro [W Z, W Z, W Z] r.2.2.2.2.1 r.2.2.2.2.2], [], [])
noncomputable def g8 : GF := fun vs bs => match vs, bs with
  | [.agg [.str i, V Z j, .ro [W Z, W Z] b d, .ro [W Z, W Z, W Z] e g]], [] => some (rs 0 (q8 (m8 i j b d e g)) [n8 i j b d e g])
  | _, _ => none
noncomputable def c8 : Ctr := genC [.a [.k, .k, .ro [W Z, W Z], .ro [W Z, W Z, W Z]]] g8
theorem k8 : CtrOk Tryz.prog c8 8 := cx (tc k34 (tc k33 tn)) mix_ok 8 (fn := Tryz.f8) (c := (Tryz.f8.body.getD .skip)) (grs := []) (rh := .t [.k, .k, .ro [W Z, W Z], .ro [W Z, W Z, W Z]]) Tryz.func8 rfl (by kernel_rfl) noLam fun vs bs q h hn => by
  unfold g8 at h
  split at h <;> cases h
  rename_i i j b d e g
  have hn := n1 hn
  exact ⟨_, rfl, ca (fun R => (cnd (n33 b d)
 (cnd (n34 e g)
 (R (.agg [.str i, V Z j, .ro [W Z, W Z] (m33 b d).1 (m33 b d).2, .ro [W Z, W Z, W Z] (m34 e g).1 (m34 e g).2]) [] [])
   False)
  False)) (fun R => by kernel_rfl) (cn (al hn) (cn (al (ar hn)) (lf rfl rfl)))⟩

/-! ### shotline/shotlinebase.IsName -/
noncomputable def l38_0 (b : ByteArray) : Nat → Int → Option (Bool × (Bool) × (Unit))
  | 0, _ => none
  | f + 1, a => (cond (decide (a < (↑b.size : Int))) (cond (decide (0 ≤ a ∧ a < (↑b.size : Int))) (cond (bif (bif (bif (bif (decide (97 ≤ (byteAt b a.toNat))) then (decide ((byteAt b a.toNat) ≤ 122)) else false) then true else (bif (decide (65 ≤ (byteAt b a.toNat))) then (decide ((byteAt b a.toNat) ≤ 90)) else false)) then false else true) then (bif (decide (a = 0)) then true else (bif (bif (decide ((byteAt b a.toNat) = 45)) then false else true) then (bif (decide ((byteAt b a.toNat) < 48)) then true else (decide (57 < (byteAt b a.toNat)))) else false)) else false) (some (true, false, default)) (l38_0 b f (Z.wrap (a + 1)))) none) (some (false, default, ())))
noncomputable abbrev o38_0 (b : ByteArray) (a : Int) : Option (Bool × (Bool) × (Unit)) := l38_0 b (b.size + a.toNat + 8) a
noncomputable def e38_0 (b : ByteArray) (r : Bool × (Bool) × (Unit)) (K : XR) : Prop := cnd r.1 (K (XE.ret) [.bool r.2.1] []) (K (XE.exit 0) [.any] [])
noncomputable def g38_0 : LSum := fun s k => match czv 0 55 [0, 3] 0 [] s with
  | some ([.str b, V Z a], []) => needs [(o38_0 b a).isSome] (e38_0 b ((o38_0 b a).getD default) fun e vs bs => inBlk 0 k e (mkSt 0 55 [2] vs 0 bs))
  | _ => False
theorem z38_0 : LOk Tryz.prog g38_0 (.block 0 (bodyAt (Tryz.f38.body.getD .skip) 0)) := by
  refine lb (ι := ByteArray × Int) (fuel := 8) (na := 0) (nt := 55) (nx := 0) (Lh := [0, 3]) (Le := [2]) (gl := []) tn mix_ok noLam rfl (fun f (b, a) K => GG default (e38_0 b) K (l38_0 b f a)) (fun (b, a) => [.str b, V Z a]) (fun (b, a) => []) (fun (_, _) K => gg_none) ?_ ?_
  · rintro f ⟨b, a⟩ K hG
    refine ro (fun R => (cnd (decide (a < (↑b.size : Int)))
 (cnd (decide (0 ≤ a ∧ a < (↑b.size : Int)))
 (cnd (bif (bif (bif (bif (decide (97 ≤ (byteAt b a.toNat))) then (decide ((byteAt b a.toNat) ≤ 122)) else false) then true else (bif (decide (65 ≤ (byteAt b a.toNat))) then (decide ((byteAt b a.toNat) ≤ 90)) else false)) then false else true) then (bif (decide (a = 0)) then true else (bif (bif (decide ((byteAt b a.toNat) = 45)) then false else true) then (bif (decide ((byteAt b a.toNat) < 48)) then true else (decide (57 < (byteAt b a.toNat)))) else false)) else false)
 (R (XE.ret) [.bool false] [])
 (R (XE.normal) [.str b, V Z (Z.wrap (a + 1))] []))
   False)
 (R (XE.exit 0) [.any] []))) (fun R => by kernel_rfl) ?_
    exact ch hG (fun h0 => cg h0 fun h1 => ch h1 (fun h2 => h2.2) (fun h2 => ⟨(_, _), rfl, rfl, h2⟩)) (fun h0 => h0.2)
  · intro s k h
    unfold g38_0 at h
    split at h <;> try exact h.elim
    rename_i e1
    rw [needs_iff] at h
    exact ⟨_, e1, _, (_, _), rfl, rfl, h.1 _ (List.mem_singleton.2 rfl), h.2⟩
noncomputable def m38 (d : ByteArray) : Bool :=
  (cond (bif (decide ((↑d.size : Int) < 1)) then true else (decide (12 < (↑d.size : Int)))) false (cond ((o38_0 d 0).getD default).1 ((o38_0 d 0).getD default).2.1 true))
noncomputable def n38 (d : ByteArray) : Bool :=
  (cond (bif (decide ((↑d.size : Int) < 1)) then true else (decide (12 < (↑d.size : Int)))) true (((o38_0 d 0).isSome) && true))
noncomputable def q38 (r : Bool) : SV × List Blk × List Blk := (.bool r, [], [])
noncomputable def g38 : GF := fun vs bs => match vs, bs with
  | [.str d], [] => some (rs 0 (q38 (m38 d)) [n38 d])
  | _, _ => none
noncomputable def c38 : Ctr := genC [.k] g38
theorem k38 : CtrOk Tryz.prog c38 38 := cx tn mix_ok 8 (fn := Tryz.f38) (c := (Tryz.f38.body.getD .skip)) (grs := []) (rh := .k) Tryz.func38 rfl (by kernel_rfl) (lam_of rfl (lc z38_0 ln)) fun vs bs q h hn => by
  unfold g38 at h
  split at h <;> cases h
  rename_i d
  have hn := n1 hn
  exact ⟨_, rfl, ca (fun R => (cnd (bif (decide ((↑d.size : Int) < 1)) then true else (decide (12 < (↑d.size : Int))))
 (R (.bool false) [] [])
 (cnd ((o38_0 d 0).isSome)
 (cnd ((o38_0 d 0).getD default).1
 (R (.bool ((o38_0 d 0).getD default).2.1) [] [])
 (R (.bool true) [] []))
   False))) (fun R => by kernel_rfl) (co (fun h0 => lf (cT h0 rfl) rfl) (fun h0 => cn (al (cf h0 hn)) (co (fun h1 => lf (cF h0 (cT h1 rfl)) rfl) (fun h1 => lf (cF h0 (cF h1 rfl)) rfl))))⟩

/-! ### shotline/shotlineref01.CheckGas -/
noncomputable def m39 (a b : Int) : Int :=
  (cond (bif (bif (m12 a 0 1000) then false else true) then true else (bif (m12 b 0 1000) then false else true)) 2 (cond (decide ((1000 : Int) < (Z.wrap (a + b)))) 23 0))
noncomputable def q39 (r : Int) : SV × List Blk × List Blk := (V Z r, [], [])
noncomputable def g39 : GF := fun vs bs => match vs, bs with
  | [.agg [V Z a, V Z b]], [] => some (rs 0 (q39 (m39 a b)) [])
  | _, _ => none
noncomputable def c39 : Ctr := genC [.k] g39
theorem k39 : CtrOk Tryz.prog c39 39 := cx (tc k12 tn) mix_ok 8 (fn := Tryz.f39) (c := (Tryz.f39.body.getD .skip)) (grs := []) (rh := .k) Tryz.func39 rfl (by kernel_rfl) noLam fun vs bs q h hn => by
  unfold g39 at h
  split at h <;> cases h
  rename_i a b
  exact ⟨_, rfl, ca (fun R => (cnd (bif (bif (m12 a 0 1000) then false else true) then true else (bif (m12 b 0 1000) then false else true))
 (R (V Z 2) [] [])
 (cnd (decide ((1000 : Int) < (Z.wrap (a + b))))
 (R (V Z 23) [] [])
 (R (V Z 0) [] [])))) (fun R => by kernel_rfl) (co (fun h0 => lf (cT h0 rfl) rfl) (fun h0 => co (fun h1 => lf (cF h0 (cT h1 rfl)) rfl) (fun h1 => lf (cF h0 (cF h1 rfl)) rfl)))⟩

/-! ### shotline/profile.MeanDepth -/
noncomputable def l26_0 (p : Nat) (t : Dat) (o : Nat) (n : Dat) (E : Int) (u : ByteArray) (v : Int) (w : Nat) (A : Dat) (x : Nat) (C : Dat) (y z : Int) (D : Dat) : Nat → Int → Int → Option (Int)
  | 0, _, _ => none
  | f + 1, F, m => (cond (decide (m < E)) (cond (decide (0 ≤ m ∧ m < ↑o)) (cond (decide (0 ≤ m ∧ m < ↑p)) (cond (decide (0 ≤ m ∧ m < ↑p)) (l26_0 p t o n E u v w A x C y z D f (Z.wrap (F + (Z.wrap ((Z.wrap ((t.ii m.toNat 1) + (n.ii m.toNat 1))) * (Z.wrap ((n.ii m.toNat 0) - (t.ii m.toNat 0))))))) (Z.wrap (m + 1))) none) none) none) (some F))
noncomputable abbrev o26_0 (p : Nat) (t : Dat) (o : Nat) (n : Dat) (E : Int) (u : ByteArray) (v : Int) (w : Nat) (A : Dat) (x : Nat) (C : Dat) (y z : Int) (D : Dat) (F m : Int) : Option (Int) := l26_0 p t o n E u v w A x C y z D (p + F.toNat + o + E.toNat + m.toNat + u.size + v.toNat + w + x + y.toNat + z.toNat + 8) F m
noncomputable def e26_0 (p : Nat) (t : Dat) (o : Nat) (n : Dat) (E : Int) (u : ByteArray) (v : Int) (w : Nat) (A : Dat) (x : Nat) (C : Dat) (y z : Int) (D : Dat) (r : Int) (K : XR) : Prop := K (XE.exit 0) [.ptr 1 0, .ro [W Z, W Z] p t, V Z r] [.cells 25 [.str u, V Z v, .ro [W Z, W Z] w A, .ro [W Z, W Z, W Z] x C], .cells 29 [V Z y, V Z z], .row 25 [.str, W Z, .sl [W Z, W Z], .sl [W Z, W Z, W Z]] 1 D]
noncomputable def g26_0 : LSum := fun s k => match czv 0 56 [2, 5, 6, 23, 24, 25] 3 [] s with
  | some ([.ptr 1 0, .ro [W Z, W Z] p t, V Z F, .ro [W Z, W Z] o n, V Z E, V Z m], [.cells 25 [.str u, V Z v, .ro [W Z, W Z] w A, .ro [W Z, W Z, W Z] x C], .cells 29 [V Z y, V Z z], .row 25 [.str, W Z, .sl [W Z, W Z], .sl [W Z, W Z, W Z]] 1 D]) => needs [(o26_0 p t o n E u v w A x C y z D F m).isSome] (e26_0 p t o n E u v w A x C y z D ((o26_0 p t o n E u v w A x C y z D F m).getD default) fun e vs bs => inBlk 0 k e (mkSt 0 56 [2, 5, 6] vs 3 bs))
  | _ => False
theorem z26_0 : LOk Tryz.prog g26_0 (.block 0 (bodyAt (Tryz.f26.body.getD .skip) 0)) := by
  refine lb (ι := Nat × Dat × Int × Nat × Dat × Int × Int × ByteArray × Int × Nat × Dat × Nat × Dat × Int × Int × Dat) (fuel := 8) (na := 0) (nt := 56) (nx := 3) (Lh := [2, 5, 6, 23, 24, 25]) (Le := [2, 5, 6]) (gl := []) (tc k32 (tc k42 (tc k46 (tc k47 tn)))) mix_ok noLam rfl (fun f (p, t, F, o, n, E, m, u, v, w, A, x, C, y, z, D) K => GG default (e26_0 p t o n E u v w A x C y z D) K (l26_0 p t o n E u v w A x C y z D f F m)) (fun (p, t, F, o, n, E, m, u, v, w, A, x, C, y, z, D) => [.ptr 1 0, .ro [W Z, W Z] p t, V Z F, .ro [W Z, W Z] o n, V Z E, V Z m]) (fun (p, t, F, o, n, E, m, u, v, w, A, x, C, y, z, D) => [.cells 25 [.str u, V Z v, .ro [W Z, W Z] w A, .ro [W Z, W Z, W Z] x C], .cells 29 [V Z y, V Z z], .row 25 [.str, W Z, .sl [W Z, W Z], .sl [W Z, W Z, W Z]] 1 D]) (fun (_, _, _, _, _, _, _, _, _, _, _, _, _, _, _, _) K => gg_none) ?_ ?_
  · rintro f ⟨p, t, F, o, n, E, m, u, v, w, A, x, C, y, z, D⟩ K hG
    refine ro (fun R => (cnd (decide (m < E))
 (cnd (decide (0 ≤ m ∧ m < ↑o))
 (cnd (decide (0 ≤ m ∧ m < ↑p))
 (cnd (decide (0 ≤ m ∧ m < ↑p))
 (R (XE.normal) [.ptr 1 0, .ro [W Z, W Z] p t, V Z (Z.wrap (F + (Z.wrap ((Z.wrap ((t.ii m.toNat 1) + (n.ii m.toNat 1))) * (Z.wrap ((n.ii m.toNat 0) - (t.ii m.toNat 0))))))), .ro [W Z, W Z] o n, V Z E, V Z (Z.wrap (m + 1))] [.cells 25 [.str u, V Z v, .ro [W Z, W Z] w A, .ro [W Z, W Z, W Z] x C], .cells 29 [V Z y, V Z z], .row 25 [.str, W Z, .sl [W Z, W Z], .sl [W Z, W Z, W Z]] 1 D])
     False)
    False)
   False)
 (R (XE.exit 0) [.ptr 1 0, .ro [W Z, W Z] p t, V Z F] [.cells 25 [.str u, V Z v, .ro [W Z, W Z] w A, .ro [W Z, W Z, W Z] x C], .cells 29 [V Z y, V Z z], .row 25 [.str, W Z, .sl [W Z, W Z], .sl [W Z, W Z, W Z]] 1 D]))) (fun R => by kernel_rfl) ?_
    exact ch hG (fun h0 => cg h0 fun h1 => cg h1 fun h2 => cg h2 fun h3 => ⟨(_, _, _, _, _, _, _, _, _, _, _, _, _, _, _, _), rfl, rfl, h3⟩) (fun h0 => h0.2)
  · intro s k h
    unfold g26_0 at h
    split at h <;> try exact h.elim
    rename_i e1
    rw [needs_iff] at h
    exact ⟨_, e1, _, (_, _, _, _, _, _, _, _, _, _, _, _, _, _, _, _), rfl, rfl, h.1 _ (List.mem_singleton.2 rfl), h.2⟩
noncomputable def m26 (j : ByteArray) (l : Int) (b : Nat) (d : Dat) (g : Nat) (i : Dat) : Int × Int × Int :=
  (cond (bif (decide ((m42 1 (datS [SV.str j, V Z l, SV.ro [Kd.int Z, Kd.int Z] b d, SV.ro [Kd.int Z, Kd.int Z, Kd.int Z] g i] 4)) = 0)) then false else true) (0, 0, (m42 1 (datS [SV.str j, V Z l, SV.ro [Kd.int Z, Kd.int Z] b d, SV.ro [Kd.int Z, Kd.int Z, Kd.int Z] g i] 4))) (cond (decide ((m47 (m46 j l b d g i).1 (m46 j l b d g i).2) = 0)) (0, 0, 0) ((m32 ((o26_0 (m46 j l b d g i).1 (m46 j l b d g i).2 (((↑((m46 j l b d g i).1) : Int) - 1).toNat) ((m46 j l b d g i).2.shift 1) (↑(((↑((m46 j l b d g i).1) : Int) - 1).toNat) : Int) j l b d g i 0 0 (datS [SV.str j, V Z l, SV.ro [Kd.int Z, Kd.int Z] b d, SV.ro [Kd.int Z, Kd.int Z, Kd.int Z] g i] 4) 0 0).getD 0) (Z.wrap (2 * (m47 (m46 j l b d g i).1 (m46 j l b d g i).2)))).1, (m32 ((o26_0 (m46 j l b d g i).1 (m46 j l b d g i).2 (((↑((m46 j l b d g i).1) : Int) - 1).toNat) ((m46 j l b d g i).2.shift 1) (↑(((↑((m46 j l b d g i).1) : Int) - 1).toNat) : Int) j l b d g i 0 0 (datS [SV.str j, V Z l, SV.ro [Kd.int Z, Kd.int Z] b d, SV.ro [Kd.int Z, Kd.int Z, Kd.int Z] g i] 4) 0 0).getD 0) (Z.wrap (2 * (m47 (m46 j l b d g i).1 (m46 j l b d g i).2)))).2, 0)))
noncomputable def n26 (j : ByteArray) (l : Int) (b : Nat) (d : Dat) (g : Nat) (i : Dat) : Bool :=
  ((n42 1 (datS [SV.str j, V Z l, SV.ro [Kd.int Z, Kd.int Z] b d, SV.ro [Kd.int Z, Kd.int Z, Kd.int Z] g i] 4)) && (cond (bif (decide ((m42 1 (datS [SV.str j, V Z l, SV.ro [Kd.int Z, Kd.int Z] b d, SV.ro [Kd.int Z, Kd.int Z, Kd.int Z] g i] 4)) = 0)) then false else true) true ((n46 j l b d g i) && ((n47 (m46 j l b d g i).1 (m46 j l b d g i).2) && (cond (decide ((m47 (m46 j l b d g i).1 (m46 j l b d g i).2) = 0)) true ((decide ((0 : Int) ≤ (1 : Int) ∧ (1 : Int) ≤ (↑(m46 j l b d g i).1 : Int) ∧ (↑(m46 j l b d g i).1 : Int) ≤ (↑(m46 j l b d g i).1 : Int))) && (((o26_0 (m46 j l b d g i).1 (m46 j l b d g i).2 (((↑((m46 j l b d g i).1) : Int) - 1).toNat) ((m46 j l b d g i).2.shift 1) (↑(((↑((m46 j l b d g i).1) : Int) - 1).toNat) : Int) j l b d g i 0 0 (datS [SV.str j, V Z l, SV.ro [Kd.int Z, Kd.int Z] b d, SV.ro [Kd.int Z, Kd.int Z, Kd.int Z] g i] 4) 0 0).isSome) && ((n47 (m46 j l b d g i).1 (m46 j l b d g i).2) && ((n32 ((o26_0 (m46 j l b d g i).1 (m46 j l b d g i).2 (((↑((m46 j l b d g i).1) : Int) - 1).toNat) ((m46 j l b d g i).2.shift 1) (↑(((↑((m46 j l b d g i).1) : Int) - 1).toNat) : Int) j l b d g i 0 0 (datS [SV.str j, V Z l, SV.ro [Kd.int Z, Kd.int Z] b d, SV.ro [Kd.int Z, Kd.int Z, Kd.int Z] g i] 4) 0 0).getD 0) (Z.wrap (2 * (m47 (m46 j l b d g i).1 (m46 j l b d g i).2)))) && true)))))))))
noncomputable def q26 (r : Int × Int × Int) : SV × List Blk × List Blk := (.tup [.agg [V Z r.1, V Z r.2.1], V Z r.2.2], [], [])
noncomputable def g26 : GF := fun vs bs => match vs, bs with
  | [.agg [.str j, V Z l, .ro [W Z, W Z] b d, .ro [W Z, W Z, W Z] g i]], [] => some (rs 0 (q26 (m26 j l b d g i)) [n26 j l b d g i])
  | _, _ => none
noncomputable def c26 : Ctr := genC [.a [.k, .k, .ro [W Z, W Z], .ro [W Z, W Z, W Z]]] g26
theorem k26 : CtrOk Tryz.prog c26 26 := cx (tc k32 (tc k42 (tc k46 (tc k47 tn)))) mix_ok 8 (fn := Tryz.f26) (c := (Tryz.f26.body.getD .skip)) (grs := []) (rh := .k) Tryz.func26 rfl (by kernel_rfl) (lam_of rfl (lc z26_0 ln)) fun vs bs q h hn => by
  unfold g26 at h
  split at h <;> cases h
  rename_i j l b d g i
  have hn := n1 hn
  exact ⟨_, rfl, ca (fun R => (cnd (n42 1 (datS [SV.str j, V Z l, SV.ro [Kd.int Z, Kd.int Z] b d, SV.ro [Kd.int Z, Kd.int Z, Kd.int Z] g i] 4))
 (cnd (bif (decide ((m42 1 (datS [SV.str j, V Z l, SV.ro [Kd.int Z, Kd.int Z] b d, SV.ro [Kd.int Z, Kd.int Z, Kd.int Z] g i] 4)) = 0)) then false else true)
 (R (.tup [.agg [V Z 0, V Z 0], V Z (m42 1 (datS [SV.str j, V Z l, SV.ro [Kd.int Z, Kd.int Z] b d, SV.ro [Kd.int Z, Kd.int Z, Kd.int Z] g i] 4))]) [] [])
 (cnd (n46 j l b d g i)
 (cnd (n47 (m46 j l b d g i).1 (m46 j l b d g i).2)
 (cnd (decide ((m47 (m46 j l b d g i).1 (m46 j l b d g i).2) = 0))
 (R (.tup [.agg [V Z 0, V Z 0], V Z 0]) [] [])
 (cnd (decide ((0 : Int) ≤ (1 : Int) ∧ (1 : Int) ≤ (↑(m46 j l b d g i).1 : Int) ∧ (↑(m46 j l b d g i).1 : Int) ≤ (↑(m46 j l b d g i).1 : Int)))
 (cnd ((o26_0 (m46 j l b d g i).1 (m46 j l b d g i).2 (((↑((m46 j l b d g i).1) : Int) - 1).toNat) ((m46 j l b d g i).2.shift 1) (↑(((↑((m46 j l b d g i).1) : Int) - 1).toNat) : Int) j l b d g i 0 0 (datS [SV.str j, V Z l, SV.ro [Kd.int Z, Kd.int Z] b d, SV.ro [Kd.int Z, Kd.int Z, Kd.int Z] g i] 4) 0 0).isSome)
 (cnd (n47 (m46 j l b d g i).1 (m46 j l b d g i).2)
 (cnd (n32 ((o26_0 (m46 j l b d g i).1 (m46 j l b d g i).2 (((↑((m46 j l b d g i).1) : Int) - 1).toNat) ((m46 j l b d g i).2.shift 1) (↑(((↑((m46 j l b d g i).1) : Int) - 1).toNat) : Int) j l b d g i 0 0 (datS [SV.str j, V Z l, SV.ro [Kd.int Z, Kd.int Z] b d, SV.ro [Kd.int Z, Kd.int Z, Kd.int Z] g i] 4) 0 0).getD 0) (Z.wrap (2 * (m47 (m46 j l b d g i).1 (m46 j l b d g i).2))))
 (R (.tup [.agg [V Z (m32 ((o26_0 (m46 j l b d g i).1 (m46 j l b d g i).2 (((↑((m46 j l b d g i).1) : Int) - 1).toNat) ((m46 j l b d g i).2.shift 1) (↑(((↑((m46 j l b d g i).1) : Int) - 1).toNat) : Int) j l b d g i 0 0 (datS [SV.str j, V Z l, SV.ro [Kd.int Z, Kd.int Z] b d, SV.ro [Kd.int Z, Kd.int Z, Kd.int Z] g i] 4) 0 0).getD 0) (Z.wrap (2 * (m47 (m46 j l b d g i).1 (m46 j l b d g i).2)))).1, V Z (m32 ((o26_0 (m46 j l b d g i).1 (m46 j l b d g i).2 (((↑((m46 j l b d g i).1) : Int) - 1).toNat) ((m46 j l b d g i).2.shift 1) (↑(((↑((m46 j l b d g i).1) : Int) - 1).toNat) : Int) j l b d g i 0 0 (datS [SV.str j, V Z l, SV.ro [Kd.int Z, Kd.int Z] b d, SV.ro [Kd.int Z, Kd.int Z, Kd.int Z] g i] 4) 0 0).getD 0) (Z.wrap (2 * (m47 (m46 j l b d g i).1 (m46 j l b d g i).2)))).2], V Z 0]) [] [])
          False)
         False)
        False)
       False))
     False)
    False))
  False)) (fun R => by kernel_rfl) (cn (al hn) (co (fun h0 => lf (cT h0 rfl) rfl) (fun h0 => cn (al (cf h0 (ar hn))) (cn (al (ar (cf h0 (ar hn)))) (co (fun h1 => lf (cF h0 (cT h1 rfl)) rfl) (fun h1 => cn (al (cf h1 (ar (ar (cf h0 (ar hn)))))) (cn (al (ar (cf h1 (ar (ar (cf h0 (ar hn))))))) (cn (al (ar (ar (cf h1 (ar (ar (cf h0 (ar hn)))))))) (cn (al (ar (ar (ar (cf h1 (ar (ar (cf h0 (ar hn))))))))) (lf (cF h0 (cF h1 rfl)) rfl))))))))))⟩

/-! ### shotline/shotlineref02.At -/
noncomputable def l40_0 (b : Nat) (a : Dat) (j : Int) : Nat → Int → Option (Bool × (Int × Int) × (Unit))
  | 0, _ => none
  | f + 1, d => (cond (decide (d < (↑b : Int))) (cond (decide (0 ≤ d ∧ d < ↑b)) (cond (decide (j ≤ (a.ii d.toNat 0))) (cond (decide (0 ≤ Z.wrap (d - 1) ∧ Z.wrap (d - 1) < (↑b : Int))) (cond (decide (0 ≤ d ∧ d < ↑b)) (some (true, ((Z.wrap ((Z.wrap ((a.ii ((Z.wrap (d - 1)).toNat) 1) * (Z.wrap ((a.ii d.toNat 0) - (a.ii ((Z.wrap (d - 1)).toNat) 0))))) + (Z.wrap ((Z.wrap ((a.ii d.toNat 1) - (a.ii ((Z.wrap (d - 1)).toNat) 1))) * (Z.wrap (j - (a.ii ((Z.wrap (d - 1)).toNat) 0))))))), (Z.wrap ((a.ii d.toNat 0) - (a.ii ((Z.wrap (d - 1)).toNat) 0)))), default)) none) none) (l40_0 b a j f (Z.wrap (d + 1)))) none) (some (false, default, ())))
noncomputable abbrev o40_0 (b : Nat) (a : Dat) (j d : Int) : Option (Bool × (Int × Int) × (Unit)) := l40_0 b a j (b + j.toNat + d.toNat + 8) d
noncomputable def e40_0 (b : Nat) (a : Dat) (j : Int) (r : Bool × (Int × Int) × (Unit)) (K : XR) : Prop := cnd r.1 (K (XE.ret) [.ro [W Z, W Z] b a, V Z r.2.1.1, V Z r.2.1.2] []) (K (XE.exit 0) [.ro [W Z, W Z] b a, .any, .any] [])
noncomputable def g40_0 : LSum := fun s k => match czv 0 59 [0, 1, 6] 0 [] s with
  | some ([.ro [W Z, W Z] b a, V Z j, V Z d], []) => needs [(o40_0 b a j d).isSome] (e40_0 b a j ((o40_0 b a j d).getD default) fun e vs bs => inBlk 0 k e (mkSt 0 59 [0, 4, 5] vs 0 bs))
  | _ => False
theorem z40_0 : LOk Tryz.prog g40_0 (.block 0 (bodyAt (Tryz.f40.body.getD .skip) 0)) := by
  refine lb (ι := Nat × Dat × Int × Int) (fuel := 8) (na := 0) (nt := 59) (nx := 0) (Lh := [0, 1, 6]) (Le := [0, 4, 5]) (gl := []) tn mix_ok noLam rfl (fun f (b, a, j, d) K => GG default (e40_0 b a j) K (l40_0 b a j f d)) (fun (b, a, j, d) => [.ro [W Z, W Z] b a, V Z j, V Z d]) (fun (b, a, j, d) => []) (fun (_, _, _, _) K => gg_none) ?_ ?_
  · rintro f ⟨b, a, j, d⟩ K hG
    refine ro (fun R => (cnd (decide (d < (↑b : Int)))
 (cnd (decide (0 ≤ d ∧ d < ↑b))
 (cnd (decide (j ≤ (a.ii d.toNat 0)))
 (cnd (decide (0 ≤ Z.wrap (d - 1) ∧ Z.wrap (d - 1) < (↑b : Int)))
 (cnd (decide (0 ≤ d ∧ d < ↑b))
 (R (XE.ret) [.ro [W Z, W Z] b a, V Z (Z.wrap ((Z.wrap ((a.ii ((Z.wrap (d - 1)).toNat) 1) * (Z.wrap ((a.ii d.toNat 0) - (a.ii ((Z.wrap (d - 1)).toNat) 0))))) + (Z.wrap ((Z.wrap ((a.ii d.toNat 1) - (a.ii ((Z.wrap (d - 1)).toNat) 1))) * (Z.wrap (j - (a.ii ((Z.wrap (d - 1)).toNat) 0))))))), V Z (Z.wrap ((a.ii d.toNat 0) - (a.ii ((Z.wrap (d - 1)).toNat) 0)))] [])
      False)
     False)
 (R (XE.normal) [.ro [W Z, W Z] b a, V Z j, V Z (Z.wrap (d + 1))] []))
   False)
 (R (XE.exit 0) [.ro [W Z, W Z] b a, .any, .any] []))) (fun R => by kernel_rfl) ?_
    exact ch hG (fun h0 => cg h0 fun h1 => ch h1 (fun h2 => cg h2 fun h3 => cg h3 fun h4 => h4.2) (fun h2 => ⟨(_, _, _, _), rfl, rfl, h2⟩)) (fun h0 => h0.2)
  · intro s k h
    unfold g40_0 at h
    split at h <;> try exact h.elim
    rename_i e1
    rw [needs_iff] at h
    exact ⟨_, e1, _, (_, _, _, _), rfl, rfl, h.1 _ (List.mem_singleton.2 rfl), h.2⟩
noncomputable def m40 (g : Nat) (i : Dat) (l : Int) : Int × Int :=
  (cond ((o40_0 g i l 1).getD default).1 (((o40_0 g i l 1).getD default).2.1.1, ((o40_0 g i l 1).getD default).2.1.2) ((i.ii 0 1), 1))
noncomputable def n40 (g : Nat) (i : Dat) (l : Int) : Bool :=
  (((o40_0 g i l 1).isSome) && (cond ((o40_0 g i l 1).getD default).1 true ((decide ((0 : Int) ≤ (0 : Int) ∧ (0 : Int) < (↑g : Int))) && true)))
noncomputable def q40 (r : Int × Int) : SV × List Blk × List Blk := (.tup [V Z r.1, V Z r.2], [], [])
noncomputable def g40 : GF := fun vs bs => match vs, bs with
  | [.ro [W Z, W Z] g i, V Z l], [] => some (rs 0 (q40 (m40 g i l)) [n40 g i l])
  | _, _ => none
noncomputable def c40 : Ctr := genC [.ro [W Z, W Z], .k] g40
theorem k40 : CtrOk Tryz.prog c40 40 := cx tn mix_ok 8 (fn := Tryz.f40) (c := (Tryz.f40.body.getD .skip)) (grs := []) (rh := .k) Tryz.func40 rfl (by kernel_rfl) (lam_of rfl (lc z40_0 ln)) fun vs bs q h hn => by
  unfold g40 at h
  split at h <;> cases h
  rename_i g i l
  have hn := n1 hn
  exact ⟨_, rfl, ca (fun R => (cnd ((o40_0 g i l 1).isSome)
 (cnd ((o40_0 g i l 1).getD default).1
 (R (.tup [V Z ((o40_0 g i l 1).getD default).2.1.1, V Z ((o40_0 g i l 1).getD default).2.1.2]) [] [])
 (cnd (decide ((0 : Int) ≤ (0 : Int) ∧ (0 : Int) < (↑g : Int)))
 (R (.tup [V Z (i.ii 0 1), V Z 1]) [] [])
    False))
  False)) (fun R => by kernel_rfl) (cn (al hn) (co (fun h0 => lf (cT h0 rfl) rfl) (fun h0 => cn (al (cf h0 (ar hn))) (lf (cF h0 rfl) rfl))))⟩

/-! ### shotline/shotlineref02.Seconds -/
noncomputable def l13_0 (g : ByteArray) (i : Int) (j : Nat) (l : Dat) (b : Nat) (d : Dat) : Nat → Int → Int → Option (Int)
  | 0, _, _ => none
  | f + 1, w, t => (cond (decide (t < (↑b : Int))) (cond (decide (0 ≤ t ∧ t < ↑b)) (l13_0 g i j l b d f (Z.wrap (w + (d.ii t.toNat 0))) (Z.wrap (t + 1))) none) (some w))
noncomputable abbrev o13_0 (g : ByteArray) (i : Int) (j : Nat) (l : Dat) (b : Nat) (d : Dat) (w t : Int) : Option (Int) := l13_0 g i j l b d (w.toNat + t.toNat + g.size + i.toNat + j + b + 8) w t
noncomputable def e13_0 (g : ByteArray) (i : Int) (j : Nat) (l : Dat) (b : Nat) (d : Dat) (r : Int) (K : XR) : Prop := K (XE.exit 0) [V Z r] [.cells 25 [.str g, V Z i, .ro [W Z, W Z] j l, .ro [W Z, W Z, W Z] b d]]
noncomputable def g13_0 : LSum := fun s k => match czv 0 21 [1, 3, 4] 1 [] s with
  | some ([.ptr 0 0, V Z w, V Z t], [.cells 25 [.str g, V Z i, .ro [W Z, W Z] j l, .ro [W Z, W Z, W Z] b d]]) => needs [(o13_0 g i j l b d w t).isSome] (e13_0 g i j l b d ((o13_0 g i j l b d w t).getD default) fun e vs bs => inBlk 0 k e (mkSt 0 21 [3] vs 1 bs))
  | _ => False
theorem z13_0 : LOk Tryz.prog g13_0 (.block 0 (bodyAt (Tryz.f13.body.getD .skip) 0)) := by
  refine lb (ι := Int × Int × ByteArray × Int × Nat × Dat × Nat × Dat) (fuel := 8) (na := 0) (nt := 21) (nx := 1) (Lh := [1, 3, 4]) (Le := [3]) (gl := []) tn mix_ok noLam rfl (fun f (w, t, g, i, j, l, b, d) K => GG default (e13_0 g i j l b d) K (l13_0 g i j l b d f w t)) (fun (w, t, g, i, j, l, b, d) => [.ptr 0 0, V Z w, V Z t]) (fun (w, t, g, i, j, l, b, d) => [.cells 25 [.str g, V Z i, .ro [W Z, W Z] j l, .ro [W Z, W Z, W Z] b d]]) (fun (_, _, _, _, _, _, _, _) K => gg_none) ?_ ?_
  · rintro f ⟨w, t, g, i, j, l, b, d⟩ K hG
    refine ro (fun R => (cnd (decide (t < (↑b : Int)))
 (cnd (decide (0 ≤ t ∧ t < ↑b))
 (R (XE.normal) [.ptr 0 0, V Z (Z.wrap (w + (d.ii t.toNat 0))), V Z (Z.wrap (t + 1))] [.cells 25 [.str g, V Z i, .ro [W Z, W Z] j l, .ro [W Z, W Z, W Z] b d]])
   False)
 (R (XE.exit 0) [V Z w] [.cells 25 [.str g, V Z i, .ro [W Z, W Z] j l, .ro [W Z, W Z, W Z] b d]]))) (fun R => by kernel_rfl) ?_
    exact ch hG (fun h0 => cg h0 fun h1 => ⟨(_, _, _, _, _, _, _, _), rfl, rfl, h1⟩) (fun h0 => h0.2)
  · intro s k h
    unfold g13_0 at h
    split at h <;> try exact h.elim
    rename_i e1
    rw [needs_iff] at h
    exact ⟨_, e1, _, (_, _, _, _, _, _, _, _), rfl, rfl, h.1 _ (List.mem_singleton.2 rfl), h.2⟩
noncomputable def m13 (u : ByteArray) (v : Int) (m : Nat) (n : Dat) (o : Nat) (p : Dat) : Int :=
  ((o13_0 u v m n o p 0 0).getD 0)
noncomputable def n13 (u : ByteArray) (v : Int) (m : Nat) (n : Dat) (o : Nat) (p : Dat) : Bool :=
  (((o13_0 u v m n o p 0 0).isSome) && true)
noncomputable def q13 (r : Int) : SV × List Blk × List Blk := (V Z r, [], [])
noncomputable def g13 : GF := fun vs bs => match vs, bs with
  | [.agg [.str u, V Z v, .ro [W Z, W Z] m n, .ro [W Z, W Z, W Z] o p]], [] => some (rs 0 (q13 (m13 u v m n o p)) [n13 u v m n o p])
  | _, _ => none
noncomputable def c13 : Ctr := genC [.a [.k, .k, .ro [W Z, W Z], .ro [W Z, W Z, W Z]]] g13
theorem k13 : CtrOk Tryz.prog c13 13 := cx tn mix_ok 8 (fn := Tryz.f13) (c := (Tryz.f13.body.getD .skip)) (grs := []) (rh := .k) Tryz.func13 rfl (by kernel_rfl) (lam_of rfl (lc z13_0 ln)) fun vs bs q h hn => by
  unfold g13 at h
  split at h <;> cases h
  rename_i u v m n o p
  have hn := n1 hn
  exact ⟨_, rfl, ca (fun R => (cnd ((o13_0 u v m n o p 0 0).isSome)
 (R (V Z ((o13_0 u v m n o p 0 0).getD 0)) [] [])
  False)) (fun R => by kernel_rfl) (cn (al hn) (lf rfl rfl))⟩

/-! ### shotline/shotlineref02.CheckPlan -/
noncomputable def l11_0 (j : ByteArray) (l : Int) (d : Nat) (g : Dat) (i : Nat) (b : Dat) : Nat → Int → Option (Bool × (Int × Int) × (Unit))
  | 0, _ => none
  | f + 1, w => (cond (decide (w < (↑d : Int))) (cond (decide (0 ≤ w ∧ w < ↑d)) (cond (bif (decide ((m39 (g.ii w.toNat 0) (g.ii w.toNat 1)) = 0)) then false else true) (some (true, (0, (m39 (g.ii w.toNat 0) (g.ii w.toNat 1))), default)) (l11_0 j l d g i b f (Z.wrap (w + 1)))) none) (some (false, default, ())))
noncomputable abbrev o11_0 (j : ByteArray) (l : Int) (d : Nat) (g : Dat) (i : Nat) (b : Dat) (w : Int) : Option (Bool × (Int × Int) × (Unit)) := l11_0 j l d g i b (w.toNat + j.size + l.toNat + d + i + 8) w
noncomputable def e11_0 (j : ByteArray) (l : Int) (d : Nat) (g : Dat) (i : Nat) (b : Dat) (r : Bool × (Int × Int) × (Unit)) (K : XR) : Prop := cnd r.1 (K (XE.ret) [.ptr 0 0, V Z r.2.1.1, V Z r.2.1.2] [.cells 25 [.str j, V Z l, .ro [W Z, W Z] d g, .ro [W Z, W Z, W Z] i b]]) (K (XE.exit 0) [.ptr 0 0, .any, .any] [.cells 25 [.str j, V Z l, .ro [W Z, W Z] d g, .ro [W Z, W Z, W Z] i b]])
noncomputable def g11_0 : LSum := fun s k => match czv 0 84 [1, 4] 1 [] s with
  | some ([.ptr 0 0, V Z w], [.cells 25 [.str j, V Z l, .ro [W Z, W Z] d g, .ro [W Z, W Z, W Z] i b]]) => needs [(o11_0 j l d g i b w).isSome] (e11_0 j l d g i b ((o11_0 j l d g i b w).getD default) fun e vs bs => inBlk 0 k e (mkSt 0 84 [1, 2, 3] vs 1 bs))
  | _ => False
theorem z11_0 : LOk Tryz.prog g11_0 (.block 0 (bodyAt (Tryz.f11.body.getD .skip) 0)) := by
  refine lb (ι := Int × ByteArray × Int × Nat × Dat × Nat × Dat) (fuel := 8) (na := 0) (nt := 84) (nx := 1) (Lh := [1, 4]) (Le := [1, 2, 3]) (gl := []) (tc k12 (tc k38 (tc k39 tn))) mix_ok noLam rfl (fun f (w, j, l, d, g, i, b) K => GG default (e11_0 j l d g i b) K (l11_0 j l d g i b f w)) (fun (w, j, l, d, g, i, b) => [.ptr 0 0, V Z w]) (fun (w, j, l, d, g, i, b) => [.cells 25 [.str j, V Z l, .ro [W Z, W Z] d g, .ro [W Z, W Z, W Z] i b]]) (fun (_, _, _, _, _, _, _) K => gg_none) ?_ ?_
  · rintro f ⟨w, j, l, d, g, i, b⟩ K hG
    refine ro (fun R => (cnd (decide (w < (↑d : Int)))
 (cnd (decide (0 ≤ w ∧ w < ↑d))
 (cnd (bif (decide ((m39 (g.ii w.toNat 0) (g.ii w.toNat 1)) = 0)) then false else true)
 (R (XE.ret) [.ptr 0 0, V Z 0, V Z (m39 (g.ii w.toNat 0) (g.ii w.toNat 1))] [.cells 25 [.str j, V Z l, .ro [W Z, W Z] d g, .ro [W Z, W Z, W Z] i b]])
 (R (XE.normal) [.ptr 0 0, V Z (Z.wrap (w + 1))] [.cells 25 [.str j, V Z l, .ro [W Z, W Z] d g, .ro [W Z, W Z, W Z] i b]]))
   False)
 (R (XE.exit 0) [.ptr 0 0, .any, .any] [.cells 25 [.str j, V Z l, .ro [W Z, W Z] d g, .ro [W Z, W Z, W Z] i b]]))) (fun R => by kernel_rfl) ?_
    exact ch hG (fun h0 => cg h0 fun h1 => ch h1 (fun h2 => h2.2) (fun h2 => ⟨(_, _, _, _, _, _, _), rfl, rfl, h2⟩)) (fun h0 => h0.2)
  · intro s k h
    unfold g11_0 at h
    split at h <;> try exact h.elim
    rename_i e1
    rw [needs_iff] at h
    exact ⟨_, e1, _, (_, _, _, _, _, _, _), rfl, rfl, h.1 _ (List.mem_singleton.2 rfl), h.2⟩
noncomputable def l11_2 (j : ByteArray) (l : Int) (d : Nat) (g : Dat) (i : Nat) (b : Dat) : Nat → Int → Int → Option (Bool × (Int × Int) × (Unit))
  | 0, _, _ => none
  | f + 1, x, v => (cond (decide (v < (↑i : Int))) (cond (decide (0 ≤ v ∧ v < ↑i)) (cond (bif (bif (m12 (b.ii v.toNat 0) 1 1000000) then false else true) then true else (bif (m12 (b.ii v.toNat 1) 0 30000) then false else true)) (some (true, (v, 2), default)) (cond (bif (m12 (b.ii v.toNat 2) 0 (Z.wrap ((↑d : Int) - 1))) then false else true) (some (true, (v, 6), default)) (cond (decide ((1000000 : Int) < (Z.wrap (x + (b.ii v.toNat 0))))) (some (true, (v, 8), default)) (l11_2 j l d g i b f (Z.wrap (x + (b.ii v.toNat 0))) (Z.wrap (v + 1)))))) none) (some (false, default, ())))
noncomputable abbrev o11_2 (j : ByteArray) (l : Int) (d : Nat) (g : Dat) (i : Nat) (b : Dat) (x v : Int) : Option (Bool × (Int × Int) × (Unit)) := l11_2 j l d g i b (x.toNat + v.toNat + j.size + l.toNat + d + i + 8) x v
noncomputable def e11_2 (j : ByteArray) (l : Int) (d : Nat) (g : Dat) (i : Nat) (b : Dat) (r : Bool × (Int × Int) × (Unit)) (K : XR) : Prop := cnd r.1 (K (XE.ret) [V Z r.2.1.1, V Z r.2.1.2] [.cells 25 [.str j, V Z l, .ro [W Z, W Z] d g, .ro [W Z, W Z, W Z] i b]]) (K (XE.exit 2) [.any, .any] [.cells 25 [.str j, V Z l, .ro [W Z, W Z] d g, .ro [W Z, W Z, W Z] i b]])
noncomputable def g11_2 : LSum := fun s k => match czv 0 84 [1, 6, 7] 1 [] s with
  | some ([.ptr 0 0, V Z x, V Z v], [.cells 25 [.str j, V Z l, .ro [W Z, W Z] d g, .ro [W Z, W Z, W Z] i b]]) => needs [(o11_2 j l d g i b x v).isSome] (e11_2 j l d g i b ((o11_2 j l d g i b x v).getD default) fun e vs bs => inBlk 2 k e (mkSt 0 84 [2, 3] vs 1 bs))
  | _ => False
theorem z11_2 : LOk Tryz.prog g11_2 (.block 2 (bodyAt (Tryz.f11.body.getD .skip) 2)) := by
  refine lb (ι := Int × Int × ByteArray × Int × Nat × Dat × Nat × Dat) (fuel := 8) (na := 0) (nt := 84) (nx := 1) (Lh := [1, 6, 7]) (Le := [2, 3]) (gl := []) (tc k12 (tc k38 (tc k39 tn))) mix_ok (lam_of rfl (lc z11_0 ln)) rfl (fun f (x, v, j, l, d, g, i, b) K => GG default (e11_2 j l d g i b) K (l11_2 j l d g i b f x v)) (fun (x, v, j, l, d, g, i, b) => [.ptr 0 0, V Z x, V Z v]) (fun (x, v, j, l, d, g, i, b) => [.cells 25 [.str j, V Z l, .ro [W Z, W Z] d g, .ro [W Z, W Z, W Z] i b]]) (fun (_, _, _, _, _, _, _, _) K => gg_none) ?_ ?_
  · rintro f ⟨x, v, j, l, d, g, i, b⟩ K hG
    refine ro (fun R => (cnd (decide (v < (↑i : Int)))
 (cnd (decide (0 ≤ v ∧ v < ↑i))
 (cnd (bif (bif (m12 (b.ii v.toNat 0) 1 1000000) then false else true) then true else (bif (m12 (b.ii v.toNat 1) 0 30000) then false else true))
 (R (XE.ret) [V Z v, V Z 2] [.cells 25 [.str j, V Z l, .ro [W Z, W Z] d g, .ro [W Z, W Z, W Z] i b]])
 (cnd (bif (m12 (b.ii v.toNat 2) 0 (Z.wrap ((↑d : Int) - 1))) then false else true)
 (R (XE.ret) [V Z v, V Z 6] [.cells 25 [.str j, V Z l, .ro [W Z, W Z] d g, .ro [W Z, W Z, W Z] i b]])
 (cnd (decide ((1000000 : Int) < (Z.wrap (x + (b.ii v.toNat 0)))))
 (R (XE.ret) [V Z v, V Z 8] [.cells 25 [.str j, V Z l, .ro [W Z, W Z] d g, .ro [W Z, W Z, W Z] i b]])
 (R (XE.normal) [.ptr 0 0, V Z (Z.wrap (x + (b.ii v.toNat 0))), V Z (Z.wrap (v + 1))] [.cells 25 [.str j, V Z l, .ro [W Z, W Z] d g, .ro [W Z, W Z, W Z] i b]]))))
   False)
 (R (XE.exit 2) [.any, .any] [.cells 25 [.str j, V Z l, .ro [W Z, W Z] d g, .ro [W Z, W Z, W Z] i b]]))) (fun R => by kernel_rfl) ?_
    exact ch hG (fun h0 => cg h0 fun h1 => ch h1 (fun h2 => h2.2) (fun h2 => ch h2 (fun h3 => h3.2) (fun h3 => ch h3 (fun h4 => h4.2) (fun h4 => ⟨(_, _, _, _, _, _, _, _), rfl, rfl, h4⟩)))) (fun h0 => h0.2)
  · intro s k h
    unfold g11_2 at h
    split at h <;> try exact h.elim
    rename_i e1
    rw [needs_iff] at h
    exact ⟨_, e1, _, (_, _, _, _, _, _, _, _), rfl, rfl, h.1 _ (List.mem_singleton.2 rfl), h.2⟩
noncomputable def m11 (t : ByteArray) (u : Int) (m : Nat) (o : Dat) (n : Nat) (p : Dat) : Int × Int :=
  (cond (bif (m38 t) then false else true) (0, 4) (cond (bif (m12 u 400 1100) then false else true) (0, 2) (cond (decide ((↑m : Int) = 0)) (0, 10) (cond (decide (8 < (↑m : Int))) (0, 8) (cond ((o11_0 t u m o n p 0).getD default).1 (((o11_0 t u m o n p 0).getD default).2.1.1, ((o11_0 t u m o n p 0).getD default).2.1.2) (cond (decide ((60 : Int) < (↑n : Int))) (0, 8) (cond ((o11_2 t u m o n p 0 0).getD default).1 (((o11_2 t u m o n p 0 0).getD default).2.1.1, ((o11_2 t u m o n p 0 0).getD default).2.1.2) (0, 0))))))))
noncomputable def n11 (t : ByteArray) (u : Int) (m : Nat) (o : Dat) (n : Nat) (p : Dat) : Bool :=
  ((n38 t) && (cond (bif (m38 t) then false else true) true (cond (bif (m12 u 400 1100) then false else true) true (cond (decide ((↑m : Int) = 0)) true (cond (decide (8 < (↑m : Int))) true (((o11_0 t u m o n p 0).isSome) && (cond ((o11_0 t u m o n p 0).getD default).1 true (cond (decide ((60 : Int) < (↑n : Int))) true (((o11_2 t u m o n p 0 0).isSome) && true)))))))))
noncomputable def q11 (r : Int × Int) : SV × List Blk × List Blk := (.tup [V Z r.1, V Z r.2], [], [])
noncomputable def g11 : GF := fun vs bs => match vs, bs with
  | [.agg [.str t, V Z u, .ro [W Z, W Z] m o, .ro [W Z, W Z, W Z] n p]], [] => some (rs 0 (q11 (m11 t u m o n p)) [n11 t u m o n p])
  | _, _ => none
noncomputable def c11 : Ctr := genC [.a [.k, .k, .ro [W Z, W Z], .ro [W Z, W Z, W Z]]] g11
theorem k11 : CtrOk Tryz.prog c11 11 := cx (tc k12 (tc k38 (tc k39 tn))) mix_ok 8 (fn := Tryz.f11) (c := (Tryz.f11.body.getD .skip)) (grs := []) (rh := .k) Tryz.func11 rfl (by kernel_rfl) (lam_of rfl (lc z11_0 (lc z11_2 ln))) fun vs bs q h hn => by
  unfold g11 at h
  split at h <;> cases h
  rename_i t u m o n p
  have hn := n1 hn
  exact ⟨_, rfl, ca (fun R => (cnd (n38 t)
 (cnd (bif (m38 t) then false else true)
 (R (.tup [V Z 0, V Z 4]) [] [])
 (cnd (bif (m12 u 400 1100) then false else true)
 (R (.tup [V Z 0, V Z 2]) [] [])
 (cnd (decide ((↑m : Int) = 0))
 (R (.tup [V Z 0, V Z 10]) [] [])
 (cnd (decide (8 < (↑m : Int)))
 (R (.tup [V Z 0, V Z 8]) [] [])
 (cnd ((o11_0 t u m o n p 0).isSome)
 (cnd ((o11_0 t u m o n p 0).getD default).1
 (R (.tup [V Z ((o11_0 t u m o n p 0).getD default).2.1.1, V Z ((o11_0 t u m o n p 0).getD default).2.1.2]) [] [])
 (cnd (decide ((60 : Int) < (↑n : Int)))
 (R (.tup [V Z 0, V Z 8]) [] [])
 (cnd ((o11_2 t u m o n p 0 0).isSome)
 (cnd ((o11_2 t u m o n p 0 0).getD default).1
 (R (.tup [V Z ((o11_2 t u m o n p 0 0).getD default).2.1.1, V Z ((o11_2 t u m o n p 0 0).getD default).2.1.2]) [] [])
 (R (.tup [V Z 0, V Z 0]) [] []))
          False)))
       False)))))
  False)) (fun R => by kernel_rfl) (cn (al hn) (co (fun h0 => lf (cT h0 rfl) rfl) (fun h0 => co (fun h1 => lf (cF h0 (cT h1 rfl)) rfl) (fun h1 => co (fun h2 => lf (cF h0 (cF h1 (cT h2 rfl))) rfl) (fun h2 => co (fun h3 => lf (cF h0 (cF h1 (cF h2 (cT h3 rfl)))) rfl) (fun h3 => cn (al (cf h3 (cf h2 (cf h1 (cf h0 (ar hn)))))) (co (fun h4 => lf (cF h0 (cF h1 (cF h2 (cF h3 (cT h4 rfl))))) rfl) (fun h4 => co (fun h5 => lf (cF h0 (cF h1 (cF h2 (cF h3 (cF h4 (cT h5 rfl)))))) rfl) (fun h5 => cn (al (cf h5 (cf h4 (ar (cf h3 (cf h2 (cf h1 (cf h0 (ar hn))))))))) (co (fun h6 => lf (cF h0 (cF h1 (cF h2 (cF h3 (cF h4 (cF h5 (cT h6 rfl))))))) rfl) (fun h6 => lf (cF h0 (cF h1 (cF h2 (cF h3 (cF h4 (cF h5 (cF h6 rfl))))))) rfl)))))))))))⟩

/-! ### shotline/shotlineref02.Points -/
noncomputable def l16_0 (g : ByteArray) (i : Int) (j : Nat) (p : Dat) (b : Nat) (d : Dat) : Nat → Nat → Int → Dat → Option (Nat × Nat × Dat)
  | 0, _, _, _ => none
  | f + 1, v, t, u => (cond (decide (t < (↑b : Int))) (cond (decide (0 ≤ t ∧ t < ↑v)) (cond (decide (t.toNat < v)) (cond (decide (0 ≤ t ∧ t < ↑b)) (cond (decide (0 ≤ t ∧ t < ↑b)) (cond (decide ((v + 1) ≤ 1073741824)) (l16_0 g i j p b d f (v + 1) (Z.wrap (t + 1)) (u.app v (datS [V Z (Z.wrap ((u.ii t.toNat 0) + (d.ii t.toNat 0))), V Z (d.ii t.toNat 1)] 2))) none) none) none) none) none) (some (v, v, u)))
noncomputable abbrev o16_0 (g : ByteArray) (i : Int) (j : Nat) (p : Dat) (b : Nat) (d : Dat) (v : Nat) (t : Int) (u : Dat) : Option (Nat × Nat × Dat) := l16_0 g i j p b d (v + t.toNat + g.size + i.toNat + j + b + 8) v t u
noncomputable def e16_0 (g : ByteArray) (i : Int) (j : Nat) (p : Dat) (b : Nat) (d : Dat) (r : Nat × Nat × Dat) (K : XR) : Prop := K (XE.exit 0) [.gr 1 2 r.1] [.cells 25 [.str g, V Z i, .ro [W Z, W Z] j p, .ro [W Z, W Z, W Z] b d], .row 77 [W Z, W Z] r.2.1 r.2.2]
noncomputable def g16_0 : LSum := fun s k => match czv 0 37 [1, 3, 4] 2 [⟨true, 3, 0, 1, 77, [W Z, W Z]⟩] s with
  | some ([.ptr 0 0, .gr 1 2 v, V Z t], [.cells 25 [.str g, V Z i, .ro [W Z, W Z] j p, .ro [W Z, W Z, W Z] b d], .row 77 [W Z, W Z] b1_0 u]) => needs [decide (v = b1_0), (o16_0 g i j p b d v t u).isSome] (e16_0 g i j p b d ((o16_0 g i j p b d v t u).getD default) fun e vs bs => inBlk 0 k e (mkSt 0 37 [3] vs 2 bs))
  | _ => False
theorem z16_0 : LOk Tryz.prog g16_0 (.block 0 (bodyAt (Tryz.f16.body.getD .skip) 0)) := by
  refine lb (ι := Nat × Int × ByteArray × Int × Nat × Dat × Nat × Dat × Dat) (fuel := 8) (na := 0) (nt := 37) (nx := 2) (Lh := [1, 3, 4]) (Le := [3]) (gl := [⟨true, 3, 0, 1, 77, [W Z, W Z]⟩]) tn mix_ok noLam rfl (fun f (v, t, g, i, j, p, b, d, u) K => GG default (e16_0 g i j p b d) K (l16_0 g i j p b d f v t u)) (fun (v, t, g, i, j, p, b, d, u) => [.ptr 0 0, .gr 1 2 v, V Z t]) (fun (v, t, g, i, j, p, b, d, u) => [.cells 25 [.str g, V Z i, .ro [W Z, W Z] j p, .ro [W Z, W Z, W Z] b d], .row 77 [W Z, W Z] v u]) (fun (_, _, _, _, _, _, _, _, _) K => gg_none) ?_ ?_
  · rintro f ⟨v, t, g, i, j, p, b, d, u⟩ K hG
    refine ro (fun R => (cnd (decide (t < (↑b : Int)))
 (cnd (decide (0 ≤ t ∧ t < ↑v))
 (cnd (decide (t.toNat < v))
 (cnd (decide (0 ≤ t ∧ t < ↑b))
 (cnd (decide (0 ≤ t ∧ t < ↑b))
 (cnd (decide (v ≤ v))
 (cnd (decide ((v + 1) ≤ 1073741824))
 (R (XE.normal) [.ptr 0 0, .gr 1 2 (v + 1), V Z (Z.wrap (t + 1))] [.cells 25 [.str g, V Z i, .ro [W Z, W Z] j p, .ro [W Z, W Z, W Z] b d], .row 77 [W Z, W Z] (v + 1) (u.app v (datS [V Z (Z.wrap ((u.ii t.toNat 0) + (d.ii t.toNat 0))), V Z (d.ii t.toNat 1)] 2))])
        False)
       False)
      False)
     False)
    False)
   False)
 (R (XE.exit 0) [.gr 1 2 v] [.cells 25 [.str g, V Z i, .ro [W Z, W Z] j p, .ro [W Z, W Z, W Z] b d], .row 77 [W Z, W Z] v u]))) (fun R => by kernel_rfl) ?_
    exact ch hG (fun h0 => cg h0 fun h1 => cg h1 fun h2 => cg h2 fun h3 => cg h3 fun h4 => cn (decide_eq_true (Nat.le_refl _)) (cg h4 fun h5 => ⟨(_, _, _, _, _, _, _, _, _), rfl, rfl, h5⟩)) (fun h0 => h0.2)
  · intro s k h
    unfold g16_0 at h
    split at h <;> try exact h.elim
    rename_i e1
    rw [needs_iff] at h
    have hq := h.1
    simp only [List.mem_cons, forall_eq_or_imp, decide_eq_true_eq, List.not_mem_nil, false_imp_iff, implies_true, and_true] at hq
    obtain ⟨rfl, hq⟩ := hq
    exact ⟨_, e1, _, (_, _, _, _, _, _, _, _, _), rfl, rfl, hq, h.2⟩
noncomputable def m16 (w : ByteArray) (x : Int) (l : Nat) (m : Dat) (n : Nat) (o : Dat) : Nat × Dat :=
  (((o16_0 w x l m n o 1 0 (datS [V Z 0, V Z 0] 2)).getD default).1, ((o16_0 w x l m n o 1 0 (datS [V Z 0, V Z 0] 2)).getD default).2.2)
noncomputable def n16 (w : ByteArray) (x : Int) (l : Nat) (m : Dat) (n : Nat) (o : Dat) : Bool :=
  (((o16_0 w x l m n o 1 0 (datS [V Z 0, V Z 0] 2)).isSome) && ((decide ((0 + ((o16_0 w x l m n o 1 0 (datS [V Z 0, V Z 0] 2)).getD default).1) ≤ ((o16_0 w x l m n o 1 0 (datS [V Z 0, V Z 0] 2)).getD default).2.1)) && true))
noncomputable def q16 (r : Nat × Dat) : SV × List Blk × List Blk := (.ro [W Z, W Z] r.1 r.2, [], [])
noncomputable def g16 : GF := fun vs bs => match vs, bs with
  | [.agg [.str w, V Z x, .ro [W Z, W Z] l m, .ro [W Z, W Z, W Z] n o]], [] => some (rs 0 (q16 (m16 w x l m n o)) [n16 w x l m n o])
  | _, _ => none
noncomputable def c16 : Ctr := genC [.a [.k, .k, .ro [W Z, W Z], .ro [W Z, W Z, W Z]]] g16
theorem k16 : CtrOk Tryz.prog c16 16 := cx tn mix_ok 8 (fn := Tryz.f16) (c := (Tryz.f16.body.getD .skip)) (grs := []) (rh := .ro [W Z, W Z]) Tryz.func16 rfl (by kernel_rfl) (lam_of rfl (lc z16_0 ln)) fun vs bs q h hn => by
  unfold g16 at h
  split at h <;> cases h
  rename_i w x l m n o
  have hn := n1 hn
  exact ⟨_, rfl, ca (fun R => (cnd ((o16_0 w x l m n o 1 0 (datS [V Z 0, V Z 0] 2)).isSome)
 (cnd (decide ((0 + ((o16_0 w x l m n o 1 0 (datS [V Z 0, V Z 0] 2)).getD default).1) ≤ ((o16_0 w x l m n o 1 0 (datS [V Z 0, V Z 0] 2)).getD default).2.1))
 (R (.ro [W Z, W Z] ((o16_0 w x l m n o 1 0 (datS [V Z 0, V Z 0] 2)).getD default).1 ((o16_0 w x l m n o 1 0 (datS [V Z 0, V Z 0] 2)).getD default).2.2) [] [])
   False)
  False)) (fun R => by kernel_rfl) (cn (al hn) (cn (al (ar hn)) (lf rfl rfl)))⟩

/-! ### (shotline/profile.ratio).same -/
noncomputable def m48 (a b d e : Int) : Bool :=
  (decide ((Z.wrap (a * e)) = (Z.wrap (d * b))))
noncomputable def q48 (r : Bool) : SV × List Blk × List Blk := (.bool r, [], [])
noncomputable def g48 : GF := fun vs bs => match vs, bs with
  | [.agg [V Z a, V Z b], .agg [V Z d, V Z e]], [] => some (rs 0 (q48 (m48 a b d e)) [])
  | _, _ => none
noncomputable def c48 : Ctr := genC [.k, .k] g48
theorem k48 : CtrOk Tryz.prog c48 48 := cx tn mix_ok 8 (fn := Tryz.f48) (c := (Tryz.f48.body.getD .skip)) (grs := []) (rh := .k) Tryz.func48 rfl (by kernel_rfl) noLam fun vs bs q h hn => by
  unfold g48 at h
  split at h <;> cases h
  rename_i a b d e
  exact ⟨_, rfl, ca (fun R => (R (.bool (decide ((Z.wrap (a * e)) = (Z.wrap (d * b))))) [] [])) (fun R => by kernel_rfl) (lf rfl rfl)⟩

/-! ### slices.Equal[[]shotline/api.Gas,shotline/api.Gas] -/
noncomputable def l44_0 (g : Nat) (b : Dat) (i : Nat) (d : Dat) (l : Int) : Nat → Int → Option (Bool × (Bool) × (Unit))
  | 0, _ => none
  | f + 1, a => (cond (decide (a < l)) (cond (decide (0 ≤ a ∧ a < ↑g)) (cond (decide (0 ≤ a ∧ a < ↑i)) (cond (bif (bif (decide ((b.ii a.toNat 0) = (d.ii a.toNat 0))) then (bif (decide ((b.ii a.toNat 1) = (d.ii a.toNat 1))) then true else false) else false) then false else true) (some (true, false, default)) (l44_0 g b i d l f (Z.wrap (a + 1)))) none) none) (some (false, default, ())))
noncomputable abbrev o44_0 (g : Nat) (b : Dat) (i : Nat) (d : Dat) (l a : Int) : Option (Bool × (Bool) × (Unit)) := l44_0 g b i d l (g + i + l.toNat + a.toNat + 8) a
noncomputable def e44_0 (g : Nat) (b : Dat) (i : Nat) (d : Dat) (l : Int) (r : Bool × (Bool) × (Unit)) (K : XR) : Prop := cnd r.1 (K (XE.ret) [.bool r.2.1] []) (K (XE.exit 0) [.any] [])
noncomputable def g44_0 : LSum := fun s k => match czv 0 26 [0, 1, 12, 13] 0 [] s with
  | some ([.ro [W Z, W Z] g b, .ro [W Z, W Z] i d, V Z l, V Z a], []) => needs [(o44_0 g b i d l a).isSome] (e44_0 g b i d l ((o44_0 g b i d l a).getD default) fun e vs bs => inBlk 0 k e (mkSt 0 26 [4] vs 0 bs))
  | _ => False
theorem z44_0 : LOk Tryz.prog g44_0 (.block 0 (bodyAt (Tryz.f44.body.getD .skip) 0)) := by
  refine lb (ι := Nat × Dat × Nat × Dat × Int × Int) (fuel := 8) (na := 0) (nt := 26) (nx := 0) (Lh := [0, 1, 12, 13]) (Le := [4]) (gl := []) tn mix_ok noLam rfl (fun f (g, b, i, d, l, a) K => GG default (e44_0 g b i d l) K (l44_0 g b i d l f a)) (fun (g, b, i, d, l, a) => [.ro [W Z, W Z] g b, .ro [W Z, W Z] i d, V Z l, V Z a]) (fun (g, b, i, d, l, a) => []) (fun (_, _, _, _, _, _) K => gg_none) ?_ ?_
  · rintro f ⟨g, b, i, d, l, a⟩ K hG
    refine ro (fun R => (cnd (decide (a < l))
 (cnd (decide (0 ≤ a ∧ a < ↑g))
 (cnd (decide (0 ≤ a ∧ a < ↑i))
 (cnd (bif (bif (decide ((b.ii a.toNat 0) = (d.ii a.toNat 0))) then (bif (decide ((b.ii a.toNat 1) = (d.ii a.toNat 1))) then true else false) else false) then false else true)
 (R (XE.ret) [.bool false] [])
 (R (XE.normal) [.ro [W Z, W Z] g b, .ro [W Z, W Z] i d, V Z l, V Z (Z.wrap (a + 1))] []))
    False)
   False)
 (R (XE.exit 0) [.any] []))) (fun R => by kernel_rfl) ?_
    exact ch hG (fun h0 => cg h0 fun h1 => cg h1 fun h2 => ch h2 (fun h3 => h3.2) (fun h3 => ⟨(_, _, _, _, _, _), rfl, rfl, h3⟩)) (fun h0 => h0.2)
  · intro s k h
    unfold g44_0 at h
    split at h <;> try exact h.elim
    rename_i e1
    rw [needs_iff] at h
    exact ⟨_, e1, _, (_, _, _, _, _, _), rfl, rfl, h.1 _ (List.mem_singleton.2 rfl), h.2⟩
noncomputable def m44 (j : Nat) (n : Dat) (m : Nat) (o : Dat) : Bool :=
  (cond (bif (decide ((↑j : Int) = (↑m : Int))) then false else true) false (cond ((o44_0 j n m o (↑j : Int) 0).getD default).1 ((o44_0 j n m o (↑j : Int) 0).getD default).2.1 true))
noncomputable def n44 (j : Nat) (n : Dat) (m : Nat) (o : Dat) : Bool :=
  (cond (bif (decide ((↑j : Int) = (↑m : Int))) then false else true) true (((o44_0 j n m o (↑j : Int) 0).isSome) && true))
noncomputable def q44 (r : Bool) : SV × List Blk × List Blk := (.bool r, [], [])
noncomputable def g44 : GF := fun vs bs => match vs, bs with
  | [.ro [W Z, W Z] j n, .ro [W Z, W Z] m o], [] => some (rs 0 (q44 (m44 j n m o)) [n44 j n m o])
  | _, _ => none
noncomputable def c44 : Ctr := genC [.ro [W Z, W Z], .ro [W Z, W Z]] g44
theorem k44 : CtrOk Tryz.prog c44 44 := cx tn mix_ok 8 (fn := Tryz.f44) (c := (Tryz.f44.body.getD .skip)) (grs := []) (rh := .k) Tryz.func44 rfl (by kernel_rfl) (lam_of rfl (lc z44_0 ln)) fun vs bs q h hn => by
  unfold g44 at h
  split at h <;> cases h
  rename_i j n m o
  have hn := n1 hn
  exact ⟨_, rfl, ca (fun R => (cnd (bif (decide ((↑j : Int) = (↑m : Int))) then false else true)
 (R (.bool false) [] [])
 (cnd ((o44_0 j n m o (↑j : Int) 0).isSome)
 (cnd ((o44_0 j n m o (↑j : Int) 0).getD default).1
 (R (.bool ((o44_0 j n m o (↑j : Int) 0).getD default).2.1) [] [])
 (R (.bool true) [] []))
   False))) (fun R => by kernel_rfl) (co (fun h0 => lf (cT h0 rfl) rfl) (fun h0 => cn (al (cf h0 hn)) (co (fun h1 => lf (cF h0 (cT h1 rfl)) rfl) (fun h1 => lf (cF h0 (cF h1 rfl)) rfl))))⟩

/-! ### slices.Equal[[]shotline/api.DiveLeg,shotline/api.DiveLeg] -/
noncomputable def l45_0 (g : Nat) (b : Dat) (i : Nat) (d : Dat) (l : Int) : Nat → Int → Option (Bool × (Bool) × (Unit))
  | 0, _ => none
  | f + 1, a => (cond (decide (a < l)) (cond (decide (0 ≤ a ∧ a < ↑g)) (cond (decide (0 ≤ a ∧ a < ↑i)) (cond (bif (bif (decide ((b.ii a.toNat 0) = (d.ii a.toNat 0))) then (bif (decide ((b.ii a.toNat 1) = (d.ii a.toNat 1))) then (bif (decide ((b.ii a.toNat 2) = (d.ii a.toNat 2))) then true else false) else false) else false) then false else true) (some (true, false, default)) (l45_0 g b i d l f (Z.wrap (a + 1)))) none) none) (some (false, default, ())))
noncomputable abbrev o45_0 (g : Nat) (b : Dat) (i : Nat) (d : Dat) (l a : Int) : Option (Bool × (Bool) × (Unit)) := l45_0 g b i d l (g + i + l.toNat + a.toNat + 8) a
noncomputable def e45_0 (g : Nat) (b : Dat) (i : Nat) (d : Dat) (l : Int) (r : Bool × (Bool) × (Unit)) (K : XR) : Prop := cnd r.1 (K (XE.ret) [.bool r.2.1] []) (K (XE.exit 0) [.any] [])
noncomputable def g45_0 : LSum := fun s k => match czv 0 26 [0, 1, 12, 13] 0 [] s with
  | some ([.ro [W Z, W Z, W Z] g b, .ro [W Z, W Z, W Z] i d, V Z l, V Z a], []) => needs [(o45_0 g b i d l a).isSome] (e45_0 g b i d l ((o45_0 g b i d l a).getD default) fun e vs bs => inBlk 0 k e (mkSt 0 26 [4] vs 0 bs))
  | _ => False
theorem z45_0 : LOk Tryz.prog g45_0 (.block 0 (bodyAt (Tryz.f45.body.getD .skip) 0)) := by
  refine lb (ι := Nat × Dat × Nat × Dat × Int × Int) (fuel := 8) (na := 0) (nt := 26) (nx := 0) (Lh := [0, 1, 12, 13]) (Le := [4]) (gl := []) tn mix_ok noLam rfl (fun f (g, b, i, d, l, a) K => GG default (e45_0 g b i d l) K (l45_0 g b i d l f a)) (fun (g, b, i, d, l, a) => [.ro [W Z, W Z, W Z] g b, .ro [W Z, W Z, W Z] i d, V Z l, V Z a]) (fun (g, b, i, d, l, a) => []) (fun (_, _, _, _, _, _) K => gg_none) ?_ ?_
  · rintro f ⟨g, b, i, d, l, a⟩ K hG
    refine ro (fun R => (cnd (decide (a < l))
 (cnd (decide (0 ≤ a ∧ a < ↑g))
 (cnd (decide (0 ≤ a ∧ a < ↑i))
 (cnd (bif (bif (decide ((b.ii a.toNat 0) = (d.ii a.toNat 0))) then (bif (decide ((b.ii a.toNat 1) = (d.ii a.toNat 1))) then (bif (decide ((b.ii a.toNat 2) = (d.ii a.toNat 2))) then true else false) else false) else false) then false else true)
 (R (XE.ret) [.bool false] [])
 (R (XE.normal) [.ro [W Z, W Z, W Z] g b, .ro [W Z, W Z, W Z] i d, V Z l, V Z (Z.wrap (a + 1))] []))
    False)
   False)
 (R (XE.exit 0) [.any] []))) (fun R => by kernel_rfl) ?_
    exact ch hG (fun h0 => cg h0 fun h1 => cg h1 fun h2 => ch h2 (fun h3 => h3.2) (fun h3 => ⟨(_, _, _, _, _, _), rfl, rfl, h3⟩)) (fun h0 => h0.2)
  · intro s k h
    unfold g45_0 at h
    split at h <;> try exact h.elim
    rename_i e1
    rw [needs_iff] at h
    exact ⟨_, e1, _, (_, _, _, _, _, _), rfl, rfl, h.1 _ (List.mem_singleton.2 rfl), h.2⟩
noncomputable def m45 (j : Nat) (n : Dat) (m : Nat) (o : Dat) : Bool :=
  (cond (bif (decide ((↑j : Int) = (↑m : Int))) then false else true) false (cond ((o45_0 j n m o (↑j : Int) 0).getD default).1 ((o45_0 j n m o (↑j : Int) 0).getD default).2.1 true))
noncomputable def n45 (j : Nat) (n : Dat) (m : Nat) (o : Dat) : Bool :=
  (cond (bif (decide ((↑j : Int) = (↑m : Int))) then false else true) true (((o45_0 j n m o (↑j : Int) 0).isSome) && true))
noncomputable def q45 (r : Bool) : SV × List Blk × List Blk := (.bool r, [], [])
noncomputable def g45 : GF := fun vs bs => match vs, bs with
  | [.ro [W Z, W Z, W Z] j n, .ro [W Z, W Z, W Z] m o], [] => some (rs 0 (q45 (m45 j n m o)) [n45 j n m o])
  | _, _ => none
noncomputable def c45 : Ctr := genC [.ro [W Z, W Z, W Z], .ro [W Z, W Z, W Z]] g45
theorem k45 : CtrOk Tryz.prog c45 45 := cx tn mix_ok 8 (fn := Tryz.f45) (c := (Tryz.f45.body.getD .skip)) (grs := []) (rh := .k) Tryz.func45 rfl (by kernel_rfl) (lam_of rfl (lc z45_0 ln)) fun vs bs q h hn => by
  unfold g45 at h
  split at h <;> cases h
  rename_i j n m o
  have hn := n1 hn
  exact ⟨_, rfl, ca (fun R => (cnd (bif (decide ((↑j : Int) = (↑m : Int))) then false else true)
 (R (.bool false) [] [])
 (cnd ((o45_0 j n m o (↑j : Int) 0).isSome)
 (cnd ((o45_0 j n m o (↑j : Int) 0).getD default).1
 (R (.bool ((o45_0 j n m o (↑j : Int) 0).getD default).2.1) [] [])
 (R (.bool true) [] []))
   False))) (fun R => by kernel_rfl) (co (fun h0 => lf (cT h0 rfl) rfl) (fun h0 => cn (al (cf h0 hn)) (co (fun h1 => lf (cF h0 (cT h1 rfl)) rfl) (fun h1 => lf (cF h0 (cF h1 rfl)) rfl))))⟩

/-! ### slices.Index[[]shotline/api.Gas,shotline/api.Gas] -/
noncomputable def l64_0 (g : Nat) (d : Dat) (n a b : Int) : Nat → Int → Option (Bool × (Int) × (Unit))
  | 0, _ => none
  | f + 1, i => (cond (decide (i < n)) (cond (decide (0 ≤ i ∧ i < ↑g)) (cond (bif (decide (a = (d.ii i.toNat 0))) then (bif (decide (b = (d.ii i.toNat 1))) then true else false) else false) (some (true, i, default)) (l64_0 g d n a b f (Z.wrap (i + 1)))) none) (some (false, default, ())))
noncomputable abbrev o64_0 (g : Nat) (d : Dat) (n a b i : Int) : Option (Bool × (Int) × (Unit)) := l64_0 g d n a b (g + n.toNat + i.toNat + a.toNat + b.toNat + 8) i
noncomputable def e64_0 (g : Nat) (d : Dat) (n a b : Int) (r : Bool × (Int) × (Unit)) (K : XR) : Prop := cnd r.1 (K (XE.ret) [V Z r.2.1] [.cells 75 [V Z a, V Z b]]) (K (XE.exit 0) [.any] [.cells 75 [V Z a, V Z b]])
noncomputable def g64_0 : LSum := fun s k => match czv 0 19 [0, 3, 7, 8] 1 [] s with
  | some ([.ro [W Z, W Z] g d, .ptr 0 0, V Z n, V Z i], [.cells 75 [V Z a, V Z b]]) => needs [(o64_0 g d n a b i).isSome] (e64_0 g d n a b ((o64_0 g d n a b i).getD default) fun e vs bs => inBlk 0 k e (mkSt 0 19 [4] vs 1 bs))
  | _ => False
theorem z64_0 : LOk Tryz.prog g64_0 (.block 0 (bodyAt (Tryz.f64.body.getD .skip) 0)) := by
  refine lb (ι := Nat × Dat × Int × Int × Int × Int) (fuel := 8) (na := 0) (nt := 19) (nx := 1) (Lh := [0, 3, 7, 8]) (Le := [4]) (gl := []) tn mix_ok noLam rfl (fun f (g, d, n, i, a, b) K => GG default (e64_0 g d n a b) K (l64_0 g d n a b f i)) (fun (g, d, n, i, a, b) => [.ro [W Z, W Z] g d, .ptr 0 0, V Z n, V Z i]) (fun (g, d, n, i, a, b) => [.cells 75 [V Z a, V Z b]]) (fun (_, _, _, _, _, _) K => gg_none) ?_ ?_
  · rintro f ⟨g, d, n, i, a, b⟩ K hG
    refine ro (fun R => (cnd (decide (i < n))
 (cnd (decide (0 ≤ i ∧ i < ↑g))
 (cnd (bif (decide (a = (d.ii i.toNat 0))) then (bif (decide (b = (d.ii i.toNat 1))) then true else false) else false)
 (R (XE.ret) [V Z i] [.cells 75 [V Z a, V Z b]])
 (R (XE.normal) [.ro [W Z, W Z] g d, .ptr 0 0, V Z n, V Z (Z.wrap (i + 1))] [.cells 75 [V Z a, V Z b]]))
   False)
 (R (XE.exit 0) [.any] [.cells 75 [V Z a, V Z b]]))) (fun R => by kernel_rfl) ?_
    exact ch hG (fun h0 => cg h0 fun h1 => ch h1 (fun h2 => h2.2) (fun h2 => ⟨(_, _, _, _, _, _), rfl, rfl, h2⟩)) (fun h0 => h0.2)
  · intro s k h
    unfold g64_0 at h
    split at h <;> try exact h.elim
    rename_i e1
    rw [needs_iff] at h
    exact ⟨_, e1, _, (_, _, _, _, _, _), rfl, rfl, h.1 _ (List.mem_singleton.2 rfl), h.2⟩
noncomputable def m64 (j : Nat) (o : Dat) (l m : Int) : Int :=
  (cond ((o64_0 j o (↑j : Int) l m 0).getD default).1 ((o64_0 j o (↑j : Int) l m 0).getD default).2.1 (-1))
noncomputable def n64 (j : Nat) (o : Dat) (l m : Int) : Bool :=
  (((o64_0 j o (↑j : Int) l m 0).isSome) && true)
noncomputable def q64 (r : Int) : SV × List Blk × List Blk := (V Z r, [], [])
noncomputable def g64 : GF := fun vs bs => match vs, bs with
  | [.ro [W Z, W Z] j o, .agg [V Z l, V Z m]], [] => some (rs 0 (q64 (m64 j o l m)) [n64 j o l m])
  | _, _ => none
noncomputable def c64 : Ctr := genC [.ro [W Z, W Z], .k] g64
theorem k64 : CtrOk Tryz.prog c64 64 := cx tn mix_ok 8 (fn := Tryz.f64) (c := (Tryz.f64.body.getD .skip)) (grs := []) (rh := .k) Tryz.func64 rfl (by kernel_rfl) (lam_of rfl (lc z64_0 ln)) fun vs bs q h hn => by
  unfold g64 at h
  split at h <;> cases h
  rename_i j o l m
  have hn := n1 hn
  exact ⟨_, rfl, ca (fun R => (cnd ((o64_0 j o (↑j : Int) l m 0).isSome)
 (cnd ((o64_0 j o (↑j : Int) l m 0).getD default).1
 (R (V Z ((o64_0 j o (↑j : Int) l m 0).getD default).2.1) [] [])
 (R (V Z (-1)) [] []))
  False)) (fun R => by kernel_rfl) (cn (al hn) (co (fun h0 => lf (cT h0 rfl) rfl) (fun h0 => lf (cF h0 rfl) rfl)))⟩

/-! ### shotline/shotlinebase.Plans -/
noncomputable def l19_0 (o : ByteArray) (p : Int) (b : Nat) (j : Dat) (d : Nat) (g : Dat) (t : ByteArray) (u : Int) (l : Nat) (m : Dat) (n : Nat) (i : Dat) : Nat → Int → Option (Bool × (Bool) × (Unit))
  | 0, _ => none
  | f + 1, J => (cond (decide (J < (↑b : Int))) (cond (decide (0 ≤ J ∧ J < ↑b)) (cond (decide (0 ≤ J ∧ J < ↑l)) (cond (bif (bif (decide ((j.ii J.toNat 0) = (m.ii J.toNat 0))) then (bif (decide ((j.ii J.toNat 1) = (m.ii J.toNat 1))) then true else false) else false) then false else true) (some (true, false, default)) (l19_0 o p b j d g t u l m n i f (Z.wrap (J + 1)))) none) none) (some (false, default, ())))
noncomputable abbrev o19_0 (o : ByteArray) (p : Int) (b : Nat) (j : Dat) (d : Nat) (g : Dat) (t : ByteArray) (u : Int) (l : Nat) (m : Dat) (n : Nat) (i : Dat) (J : Int) : Option (Bool × (Bool) × (Unit)) := l19_0 o p b j d g t u l m n i (J.toNat + o.size + p.toNat + b + d + t.size + u.toNat + l + n + 8) J
noncomputable def e19_0 (o : ByteArray) (p : Int) (b : Nat) (j : Dat) (d : Nat) (g : Dat) (t : ByteArray) (u : Int) (l : Nat) (m : Dat) (n : Nat) (i : Dat) (r : Bool × (Bool) × (Unit)) (K : XR) : Prop := cnd r.1 (K (XE.ret) [.ptr 0 0, .ptr 1 0, .bool r.2.1] [.cells 25 [.str o, V Z p, .ro [W Z, W Z] b j, .ro [W Z, W Z, W Z] d g], .cells 25 [.str t, V Z u, .ro [W Z, W Z] l m, .ro [W Z, W Z, W Z] n i]]) (K (XE.exit 0) [.ptr 0 0, .ptr 1 0, .any] [.cells 25 [.str o, V Z p, .ro [W Z, W Z] b j, .ro [W Z, W Z, W Z] d g], .cells 25 [.str t, V Z u, .ro [W Z, W Z] l m, .ro [W Z, W Z, W Z] n i]])
noncomputable def g19_0 : LSum := fun s k => match czv 0 73 [2, 3, 5] 2 [] s with
  | some ([.ptr 0 0, .ptr 1 0, V Z J], [.cells 25 [.str o, V Z p, .ro [W Z, W Z] b j, .ro [W Z, W Z, W Z] d g], .cells 25 [.str t, V Z u, .ro [W Z, W Z] l m, .ro [W Z, W Z, W Z] n i]]) => needs [(o19_0 o p b j d g t u l m n i J).isSome] (e19_0 o p b j d g t u l m n i ((o19_0 o p b j d g t u l m n i J).getD default) fun e vs bs => inBlk 0 k e (mkSt 0 73 [2, 3, 4] vs 2 bs))
  | _ => False
theorem z19_0 : LOk Tryz.prog g19_0 (.block 0 (bodyAt (Tryz.f19.body.getD .skip) 0)) := by
  refine lb (ι := Int × ByteArray × Int × Nat × Dat × Nat × Dat × ByteArray × Int × Nat × Dat × Nat × Dat) (fuel := 8) (na := 0) (nt := 73) (nx := 2) (Lh := [2, 3, 5]) (Le := [2, 3, 4]) (gl := []) tn mix_ok noLam rfl (fun f (J, o, p, b, j, d, g, t, u, l, m, n, i) K => GG default (e19_0 o p b j d g t u l m n i) K (l19_0 o p b j d g t u l m n i f J)) (fun (J, o, p, b, j, d, g, t, u, l, m, n, i) => [.ptr 0 0, .ptr 1 0, V Z J]) (fun (J, o, p, b, j, d, g, t, u, l, m, n, i) => [.cells 25 [.str o, V Z p, .ro [W Z, W Z] b j, .ro [W Z, W Z, W Z] d g], .cells 25 [.str t, V Z u, .ro [W Z, W Z] l m, .ro [W Z, W Z, W Z] n i]]) (fun (_, _, _, _, _, _, _, _, _, _, _, _, _) K => gg_none) ?_ ?_
  · rintro f ⟨J, o, p, b, j, d, g, t, u, l, m, n, i⟩ K hG
    refine ro (fun R => (cnd (decide (J < (↑b : Int)))
 (cnd (decide (0 ≤ J ∧ J < ↑b))
 (cnd (decide (0 ≤ J ∧ J < ↑l))
 (cnd (bif (bif (decide ((j.ii J.toNat 0) = (m.ii J.toNat 0))) then (bif (decide ((j.ii J.toNat 1) = (m.ii J.toNat 1))) then true else false) else false) then false else true)
 (R (XE.ret) [.ptr 0 0, .ptr 1 0, .bool false] [.cells 25 [.str o, V Z p, .ro [W Z, W Z] b j, .ro [W Z, W Z, W Z] d g], .cells 25 [.str t, V Z u, .ro [W Z, W Z] l m, .ro [W Z, W Z, W Z] n i]])
 (R (XE.normal) [.ptr 0 0, .ptr 1 0, V Z (Z.wrap (J + 1))] [.cells 25 [.str o, V Z p, .ro [W Z, W Z] b j, .ro [W Z, W Z, W Z] d g], .cells 25 [.str t, V Z u, .ro [W Z, W Z] l m, .ro [W Z, W Z, W Z] n i]]))
    False)
   False)
 (R (XE.exit 0) [.ptr 0 0, .ptr 1 0, .any] [.cells 25 [.str o, V Z p, .ro [W Z, W Z] b j, .ro [W Z, W Z, W Z] d g], .cells 25 [.str t, V Z u, .ro [W Z, W Z] l m, .ro [W Z, W Z, W Z] n i]]))) (fun R => by kernel_rfl) ?_
    exact ch hG (fun h0 => cg h0 fun h1 => cg h1 fun h2 => ch h2 (fun h3 => h3.2) (fun h3 => ⟨(_, _, _, _, _, _, _, _, _, _, _, _, _), rfl, rfl, h3⟩)) (fun h0 => h0.2)
  · intro s k h
    unfold g19_0 at h
    split at h <;> try exact h.elim
    rename_i e1
    rw [needs_iff] at h
    exact ⟨_, e1, _, (_, _, _, _, _, _, _, _, _, _, _, _, _), rfl, rfl, h.1 _ (List.mem_singleton.2 rfl), h.2⟩
noncomputable def l19_2 (o : ByteArray) (p : Int) (b : Nat) (j : Dat) (d : Nat) (g : Dat) (t : ByteArray) (u : Int) (l : Nat) (m : Dat) (n : Nat) (i : Dat) : Nat → Int → Option (Bool × (Bool) × (Unit))
  | 0, _ => none
  | f + 1, I => (cond (decide (I < (↑d : Int))) (cond (decide (0 ≤ I ∧ I < ↑d)) (cond (decide (0 ≤ I ∧ I < ↑n)) (cond (bif (bif (decide ((g.ii I.toNat 0) = (i.ii I.toNat 0))) then (bif (decide ((g.ii I.toNat 1) = (i.ii I.toNat 1))) then (bif (decide ((g.ii I.toNat 2) = (i.ii I.toNat 2))) then true else false) else false) else false) then false else true) (some (true, false, default)) (l19_2 o p b j d g t u l m n i f (Z.wrap (I + 1)))) none) none) (some (false, default, ())))
noncomputable abbrev o19_2 (o : ByteArray) (p : Int) (b : Nat) (j : Dat) (d : Nat) (g : Dat) (t : ByteArray) (u : Int) (l : Nat) (m : Dat) (n : Nat) (i : Dat) (I : Int) : Option (Bool × (Bool) × (Unit)) := l19_2 o p b j d g t u l m n i (I.toNat + o.size + p.toNat + b + d + t.size + u.toNat + l + n + 8) I
noncomputable def e19_2 (o : ByteArray) (p : Int) (b : Nat) (j : Dat) (d : Nat) (g : Dat) (t : ByteArray) (u : Int) (l : Nat) (m : Dat) (n : Nat) (i : Dat) (r : Bool × (Bool) × (Unit)) (K : XR) : Prop := cnd r.1 (K (XE.ret) [.bool r.2.1] [.cells 25 [.str o, V Z p, .ro [W Z, W Z] b j, .ro [W Z, W Z, W Z] d g], .cells 25 [.str t, V Z u, .ro [W Z, W Z] l m, .ro [W Z, W Z, W Z] n i]]) (K (XE.exit 2) [.any] [.cells 25 [.str o, V Z p, .ro [W Z, W Z] b j, .ro [W Z, W Z, W Z] d g], .cells 25 [.str t, V Z u, .ro [W Z, W Z] l m, .ro [W Z, W Z, W Z] n i]])
noncomputable def g19_2 : LSum := fun s k => match czv 0 73 [2, 3, 6] 2 [] s with
  | some ([.ptr 0 0, .ptr 1 0, V Z I], [.cells 25 [.str o, V Z p, .ro [W Z, W Z] b j, .ro [W Z, W Z, W Z] d g], .cells 25 [.str t, V Z u, .ro [W Z, W Z] l m, .ro [W Z, W Z, W Z] n i]]) => needs [(o19_2 o p b j d g t u l m n i I).isSome] (e19_2 o p b j d g t u l m n i ((o19_2 o p b j d g t u l m n i I).getD default) fun e vs bs => inBlk 2 k e (mkSt 0 73 [4] vs 2 bs))
  | _ => False
theorem z19_2 : LOk Tryz.prog g19_2 (.block 2 (bodyAt (Tryz.f19.body.getD .skip) 2)) := by
  refine lb (ι := Int × ByteArray × Int × Nat × Dat × Nat × Dat × ByteArray × Int × Nat × Dat × Nat × Dat) (fuel := 8) (na := 0) (nt := 73) (nx := 2) (Lh := [2, 3, 6]) (Le := [4]) (gl := []) tn mix_ok (lam_of rfl (lc z19_0 ln)) rfl (fun f (I, o, p, b, j, d, g, t, u, l, m, n, i) K => GG default (e19_2 o p b j d g t u l m n i) K (l19_2 o p b j d g t u l m n i f I)) (fun (I, o, p, b, j, d, g, t, u, l, m, n, i) => [.ptr 0 0, .ptr 1 0, V Z I]) (fun (I, o, p, b, j, d, g, t, u, l, m, n, i) => [.cells 25 [.str o, V Z p, .ro [W Z, W Z] b j, .ro [W Z, W Z, W Z] d g], .cells 25 [.str t, V Z u, .ro [W Z, W Z] l m, .ro [W Z, W Z, W Z] n i]]) (fun (_, _, _, _, _, _, _, _, _, _, _, _, _) K => gg_none) ?_ ?_
  · rintro f ⟨I, o, p, b, j, d, g, t, u, l, m, n, i⟩ K hG
    refine ro (fun R => (cnd (decide (I < (↑d : Int)))
 (cnd (decide (0 ≤ I ∧ I < ↑d))
 (cnd (decide (0 ≤ I ∧ I < ↑n))
 (cnd (bif (bif (decide ((g.ii I.toNat 0) = (i.ii I.toNat 0))) then (bif (decide ((g.ii I.toNat 1) = (i.ii I.toNat 1))) then (bif (decide ((g.ii I.toNat 2) = (i.ii I.toNat 2))) then true else false) else false) else false) then false else true)
 (R (XE.ret) [.bool false] [.cells 25 [.str o, V Z p, .ro [W Z, W Z] b j, .ro [W Z, W Z, W Z] d g], .cells 25 [.str t, V Z u, .ro [W Z, W Z] l m, .ro [W Z, W Z, W Z] n i]])
 (R (XE.normal) [.ptr 0 0, .ptr 1 0, V Z (Z.wrap (I + 1))] [.cells 25 [.str o, V Z p, .ro [W Z, W Z] b j, .ro [W Z, W Z, W Z] d g], .cells 25 [.str t, V Z u, .ro [W Z, W Z] l m, .ro [W Z, W Z, W Z] n i]]))
    False)
   False)
 (R (XE.exit 2) [.any] [.cells 25 [.str o, V Z p, .ro [W Z, W Z] b j, .ro [W Z, W Z, W Z] d g], .cells 25 [.str t, V Z u, .ro [W Z, W Z] l m, .ro [W Z, W Z, W Z] n i]]))) (fun R => by kernel_rfl) ?_
    exact ch hG (fun h0 => cg h0 fun h1 => cg h1 fun h2 => ch h2 (fun h3 => h3.2) (fun h3 => ⟨(_, _, _, _, _, _, _, _, _, _, _, _, _), rfl, rfl, h3⟩)) (fun h0 => h0.2)
  · intro s k h
    unfold g19_2 at h
    split at h <;> try exact h.elim
    rename_i e1
    rw [needs_iff] at h
    exact ⟨_, e1, _, (_, _, _, _, _, _, _, _, _, _, _, _, _), rfl, rfl, h.1 _ (List.mem_singleton.2 rfl), h.2⟩
noncomputable def m19 (E : ByteArray) (F : Int) (v : Nat) (z : Dat) (w : Nat) (A : Dat) (G : ByteArray) (H : Int) (x : Nat) (C : Dat) (y : Nat) (D : Dat) : Bool :=
  (cond (bif (bif (bif (bif (decide (E = G)) then false else true) then true else (bif (decide (F = H)) then false else true)) then true else (bif (decide ((↑v : Int) = (↑x : Int))) then false else true)) then true else (bif (decide ((↑w : Int) = (↑y : Int))) then false else true)) false (cond ((o19_0 E F v z w A G H x C y D 0).getD default).1 ((o19_0 E F v z w A G H x C y D 0).getD default).2.1 (cond ((o19_2 E F v z w A G H x C y D 0).getD default).1 ((o19_2 E F v z w A G H x C y D 0).getD default).2.1 true)))
noncomputable def n19 (E : ByteArray) (F : Int) (v : Nat) (z : Dat) (w : Nat) (A : Dat) (G : ByteArray) (H : Int) (x : Nat) (C : Dat) (y : Nat) (D : Dat) : Bool :=
  (cond (bif (bif (bif (bif (decide (E = G)) then false else true) then true else (bif (decide (F = H)) then false else true)) then true else (bif (decide ((↑v : Int) = (↑x : Int))) then false else true)) then true else (bif (decide ((↑w : Int) = (↑y : Int))) then false else true)) true (((o19_0 E F v z w A G H x C y D 0).isSome) && (cond ((o19_0 E F v z w A G H x C y D 0).getD default).1 true (((o19_2 E F v z w A G H x C y D 0).isSome) && true))))
noncomputable def q19 (r : Bool) : SV × List Blk × List Blk := (.bool r, [], [])
noncomputable def g19 : GF := fun vs bs => match vs, bs with
  | [.agg [.str E, V Z F, .ro [W Z, W Z] v z, .ro [W Z, W Z, W Z] w A], .agg [.str G, V Z H, .ro [W Z, W Z] x C, .ro [W Z, W Z, W Z] y D]], [] => some (rs 0 (q19 (m19 E F v z w A G H x C y D)) [n19 E F v z w A G H x C y D])
  | _, _ => none
noncomputable def c19 : Ctr := genC [.a [.k, .k, .ro [W Z, W Z], .ro [W Z, W Z, W Z]], .a [.k, .k, .ro [W Z, W Z], .ro [W Z, W Z, W Z]]] g19
theorem k19 : CtrOk Tryz.prog c19 19 := cx tn mix_ok 8 (fn := Tryz.f19) (c := (Tryz.f19.body.getD .skip)) (grs := []) (rh := .k) Tryz.func19 rfl (by kernel_rfl) (lam_of rfl (lc z19_0 (lc z19_2 ln))) fun vs bs q h hn => by
  unfold g19 at h
  split at h <;> cases h
  rename_i E F v z w A G H x C y D
  have hn := n1 hn
  exact ⟨_, rfl, ca (fun R => (cnd (bif (bif (bif (bif (decide (E = G)) then false else true) then true else (bif (decide (F = H)) then false else true)) then true else (bif (decide ((↑v : Int) = (↑x : Int))) then false else true)) then true else (bif (decide ((↑w : Int) = (↑y : Int))) then false else true))
 (R (.bool false) [] [])
 (cnd ((o19_0 E F v z w A G H x C y D 0).isSome)
 (cnd ((o19_0 E F v z w A G H x C y D 0).getD default).1
 (R (.bool ((o19_0 E F v z w A G H x C y D 0).getD default).2.1) [] [])
 (cnd ((o19_2 E F v z w A G H x C y D 0).isSome)
 (cnd ((o19_2 E F v z w A G H x C y D 0).getD default).1
 (R (.bool ((o19_2 E F v z w A G H x C y D 0).getD default).2.1) [] [])
 (R (.bool true) [] []))
     False))
   False))) (fun R => by kernel_rfl) (co (fun h0 => lf (cT h0 rfl) rfl) (fun h0 => cn (al (cf h0 hn)) (co (fun h1 => lf (cF h0 (cT h1 rfl)) rfl) (fun h1 => cn (al (cf h1 (ar (cf h0 hn)))) (co (fun h2 => lf (cF h0 (cF h1 (cT h2 rfl))) rfl) (fun h2 => lf (cF h0 (cF h1 (cF h2 rfl))) rfl))))))⟩

/-! ### shotline/profile.straight -/
noncomputable def m65 (d e a b g i : Int) : Bool :=
  (decide ((Z.wrap ((Z.wrap (b - e)) * (Z.wrap (g - a)))) = (Z.wrap ((Z.wrap (i - b)) * (Z.wrap (a - d))))))
noncomputable def q65 (r : Bool) : SV × List Blk × List Blk := (.bool r, [], [])
noncomputable def g65 : GF := fun vs bs => match vs, bs with
  | [.agg [V Z d, V Z e], .agg [V Z a, V Z b], .agg [V Z g, V Z i]], [] => some (rs 0 (q65 (m65 d e a b g i)) [])
  | _, _ => none
noncomputable def c65 : Ctr := genC [.k, .k, .k] g65
theorem k65 : CtrOk Tryz.prog c65 65 := cx tn mix_ok 8 (fn := Tryz.f65) (c := (Tryz.f65.body.getD .skip)) (grs := []) (rh := .k) Tryz.func65 rfl (by kernel_rfl) noLam fun vs bs q h hn => by
  unfold g65 at h
  split at h <;> cases h
  rename_i d e a b g i
  exact ⟨_, rfl, ca (fun R => (R (.bool (decide ((Z.wrap ((Z.wrap (b - e)) * (Z.wrap (g - a)))) = (Z.wrap ((Z.wrap (i - b)) * (Z.wrap (a - d))))))) [] [])) (fun R => by kernel_rfl) (lf rfl rfl)⟩

/-! ### shotline/profile.followed -/
noncomputable def m30 (i : ByteArray) (j : Int) (b : Nat) (d : Dat) (e : Nat) (g : Dat) (l : Int) : Nat × Dat × Int :=
  (cond (bif (decide ((m42 1 (datS [SV.str i, V Z j, SV.ro [Kd.int Z, Kd.int Z] b d, SV.ro [Kd.int Z, Kd.int Z, Kd.int Z] e g] 4)) = 0)) then false else true) (0, noDat, (m42 1 (datS [SV.str i, V Z j, SV.ro [Kd.int Z, Kd.int Z] b d, SV.ro [Kd.int Z, Kd.int Z, Kd.int Z] e g] 4))) (cond (bif (m51 l 0 (m47 (m46 i j b d e g).1 (m46 i j b d e g).2)) then false else true) (0, noDat, 2) ((m46 i j b d e g).1, (m46 i j b d e g).2, 0)))
noncomputable def n30 (i : ByteArray) (j : Int) (b : Nat) (d : Dat) (e : Nat) (g : Dat) (l : Int) : Bool :=
  ((n42 1 (datS [SV.str i, V Z j, SV.ro [Kd.int Z, Kd.int Z] b d, SV.ro [Kd.int Z, Kd.int Z, Kd.int Z] e g] 4)) && (cond (bif (decide ((m42 1 (datS [SV.str i, V Z j, SV.ro [Kd.int Z, Kd.int Z] b d, SV.ro [Kd.int Z, Kd.int Z, Kd.int Z] e g] 4)) = 0)) then false else true) true ((n46 i j b d e g) && ((n47 (m46 i j b d e g).1 (m46 i j b d e g).2) && true))))
noncomputable def q30 (r : Nat × Dat × Int) : SV × List Blk × List Blk := (.tup [.ro [W Z, W Z] r.1 r.2.1, V Z r.2.2], [], [])
noncomputable def g30 : GF := fun vs bs => match vs, bs with
  | [.agg [.str i, V Z j, .ro [W Z, W Z] b d, .ro [W Z, W Z, W Z] e g], V Z l], [] => some (rs 0 (q30 (m30 i j b d e g l)) [n30 i j b d e g l])
  | _, _ => none
noncomputable def c30 : Ctr := genC [.a [.k, .k, .ro [W Z, W Z], .ro [W Z, W Z, W Z]], .k] g30
theorem k30 : CtrOk Tryz.prog c30 30 := cx (tc k51 (tc k42 (tc k46 (tc k47 tn)))) mix_ok 8 (fn := Tryz.f30) (c := (Tryz.f30.body.getD .skip)) (grs := []) (rh := .t [.ro [W Z, W Z], .k]) Tryz.func30 rfl (by kernel_rfl) noLam fun vs bs q h hn => by
  unfold g30 at h
  split at h <;> cases h
  rename_i i j b d e g l
  have hn := n1 hn
  exact ⟨_, rfl, ca (fun R => (cnd (n42 1 (datS [SV.str i, V Z j, SV.ro [Kd.int Z, Kd.int Z] b d, SV.ro [Kd.int Z, Kd.int Z, Kd.int Z] e g] 4))
 (cnd (bif (decide ((m42 1 (datS [SV.str i, V Z j, SV.ro [Kd.int Z, Kd.int Z] b d, SV.ro [Kd.int Z, Kd.int Z, Kd.int Z] e g] 4)) = 0)) then false else true)
 (R (.tup [.ro [W Z, W Z] 0 noDat, V Z (m42 1 (datS [SV.str i, V Z j, SV.ro [Kd.int Z, Kd.int Z] b d, SV.ro [Kd.int Z, Kd.int Z, Kd.int Z] e g] 4))]) [] [])
 (cnd (n46 i j b d e g)
 (cnd (n47 (m46 i j b d e g).1 (m46 i j b d e g).2)
 (cnd (bif (m51 l 0 (m47 (m46 i j b d e g).1 (m46 i j b d e g).2)) then false else true)
 (R (.tup [.ro [W Z, W Z] 0 noDat, V Z 2]) [] [])
 (R (.tup [.ro [W Z, W Z] (m46 i j b d e g).1 (m46 i j b d e g).2, V Z 0]) [] []))
     False)
    False))
  False)) (fun R => by kernel_rfl) (cn (al hn) (co (fun h0 => lf (cT h0 rfl) rfl) (fun h0 => cn (al (cf h0 (ar hn))) (cn (al (ar (cf h0 (ar hn)))) (co (fun h1 => lf (cF h0 (cT h1 rfl)) rfl) (fun h1 => lf (cF h0 (cF h1 rfl)) rfl))))))⟩

end Go.Proofs.YtchhhoamnagbfaaGreatDoor
