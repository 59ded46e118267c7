/-
  Contracts of functions: models, equations by the kernel, contracts. Conditions: none.
-/
import Derived.Test.YtchhhoamnagbfaaTSyY
import Derived.Test.YtchhhoamnagbfaaTSyKo
import Derived.Test.YtchhhoamnagbfaaTSyIns
import Derived.Test.YtchhhoamnagbfaaTBase
import Derived.Test.YtchhhoamnagbfaaTPLoop
import Derived.KernelRfl
namespace Go.Proofs.Ytchhhoamnagbfaa
open Go Go.Sy
set_option linter.unusedVariables false
set_option linter.unusedSimpArgs false
set_option maxRecDepth 100000
set_option maxHeartbeats 2000000
attribute [local irreducible] Go.IntKind.wrap Int.tdiv Int.tmod Int.fdiv
open Go.Sy renaming tabOk_cons → tc, tabOk_nil → tn, cnd_need → cn, leaf_of → lf, cnd_gg → cg, cnd_gg2 → ch, cond_f → cf, cond_t → ct, cnd_of → co, callOf → ca, roundOf → ro, cnd_not → nn, lams_cons → lc, lams_nil → ln, condT → cT, condF → cF, need1 → n1, resOf → rs, and_l → al, and_r → ar, or_gg → og, ctr_of → cx, loop_blk → lb
open Go.IntKind renaming i64 → Z
open Go.Sy.SV renaming int → V
open Go.Sy.Kd renaming int → W
/-! ### shotline/shotlinebase.Within -/
noncomputable def m6 (a b d : Int) : Bool :=
  (bif (decide (b ≤ a)) then (decide (a ≤ d)) else false)
noncomputable def q6 (r : Bool) : SV × List Blk × List Blk := (.bool r, [], [])
noncomputable def g6 : GF := fun vs bs => match vs, bs with
  | [V Z a, V Z b, V Z d], [] => some (rs 0 (q6 (m6 a b d)) [])
  | _, _ => none
noncomputable def c6 : Ctr := genC [.k, .k, .k] g6
theorem k6 : CtrOk Try.prog c6 6 := cx tn mix_ok 8 (fn := Try.f6) (c := (Try.f6.body.getD .skip)) (grs := []) (rh := .k) Try.func6 rfl (by kernel_rfl) noLam fun vs bs q h hn => by
  unfold g6 at h
  split at h <;> cases h
  rename_i a b d
  exact ⟨_, rfl, ca (fun R => (R (.bool (bif (decide (b ≤ a)) then (decide (a ≤ d)) else false)) [] [])) (fun R => by kernel_rfl) (lf rfl rfl)⟩
/-! ### shotline/shotlinebase.Mod -/
noncomputable def m11 (b a : Int) : Int :=
  (cond (decide ((b.tmod a) < 0)) (Z.wrap ((b.tmod a) + a)) (b.tmod a))
noncomputable def n11 (b a : Int) : Bool :=
  ((bif (decide (a = 0)) then false else true) && true)
noncomputable def q11 (r : Int) : SV × List Blk × List Blk := (V Z r, [], [])
noncomputable def g11 : GF := fun vs bs => match vs, bs with
  | [V Z b, V Z a], [] => some (rs 0 (q11 (m11 b a)) [n11 b a])
  | _, _ => none
noncomputable def c11 : Ctr := genC [.k, .k] g11
theorem k11 : CtrOk Try.prog c11 11 := cx tn mix_ok 8 (fn := Try.f11) (c := (Try.f11.body.getD .skip)) (grs := []) (rh := .k) Try.func11 rfl (by kernel_rfl) noLam fun vs bs q h hn => by
  unfold g11 at h
  split at h <;> cases h
  rename_i b a
  have hn := n1 hn
  exact ⟨_, rfl, ca (fun R => (cnd (bif (decide (a = 0)) then false else true)
 (cnd (decide ((b.tmod a) < 0))
 (R (V Z (Z.wrap ((b.tmod a) + a))) [] [])
 (R (V Z (b.tmod a)) [] []))
  False)) (fun R => by kernel_rfl) (cn (al hn) (co (fun h0 => lf (cT h0 rfl) rfl) (fun h0 => lf (cF h0 rfl) rfl)))⟩
/-! ### shotline/profile.within -/
noncomputable def m25 (a b d : Int) : Bool :=
  (bif (decide (b ≤ a)) then (decide (a ≤ d)) else false)
noncomputable def q25 (r : Bool) : SV × List Blk × List Blk := (.bool r, [], [])
noncomputable def g25 : GF := fun vs bs => match vs, bs with
  | [V Z a, V Z b, V Z d], [] => some (rs 0 (q25 (m25 a b d)) [])
  | _, _ => none
noncomputable def c25 : Ctr := genC [.k, .k, .k] g25
theorem k25 : CtrOk Try.prog c25 25 := cx tn mix_ok 8 (fn := Try.f25) (c := (Try.f25.body.getD .skip)) (grs := []) (rh := .k) Try.func25 rfl (by kernel_rfl) noLam fun vs bs q h hn => by
  unfold g25 at h
  split at h <;> cases h
  rename_i a b d
  exact ⟨_, rfl, ca (fun R => (R (.bool (bif (decide (b ≤ a)) then (decide (a ≤ d)) else false)) [] [])) (fun R => by kernel_rfl) (lf rfl rfl)⟩
/-! ### shotline/gas.within -/
noncomputable def m48 (a b d : Int) : Bool :=
  (bif (decide (b ≤ a)) then (decide (a ≤ d)) else false)
noncomputable def q48 (r : Bool) : SV × List Blk × List Blk := (.bool r, [], [])
noncomputable def g48 : GF := fun vs bs => match vs, bs with
  | [V Z a, V Z b, V Z d], [] => some (rs 0 (q48 (m48 a b d)) [])
  | _, _ => none
noncomputable def c48 : Ctr := genC [.k, .k, .k] g48
theorem k48 : CtrOk Try.prog c48 48 := cx tn mix_ok 8 (fn := Try.f48) (c := (Try.f48.body.getD .skip)) (grs := []) (rh := .k) Try.func48 rfl (by kernel_rfl) noLam fun vs bs q h hn => by
  unfold g48 at h
  split at h <;> cases h
  rename_i a b d
  exact ⟨_, rfl, ca (fun R => (R (.bool (bif (decide (b ≤ a)) then (decide (a ≤ d)) else false)) [] [])) (fun R => by kernel_rfl) (lf rfl rfl)⟩
/-! ### (shotline/profile.ratio).less -/
noncomputable def m22 (a b d e : Int) : Bool :=
  (decide ((Z.wrap (a * e)) < (Z.wrap (d * b))))
noncomputable def q22 (r : Bool) : SV × List Blk × List Blk := (.bool r, [], [])
noncomputable def g22 : GF := fun vs bs => match vs, bs with
  | [.agg [V Z a, V Z b], .agg [V Z d, V Z e]], [] => some (rs 0 (q22 (m22 a b d e)) [])
  | _, _ => none
noncomputable def c22 : Ctr := genC [.k, .k] g22
theorem k22 : CtrOk Try.prog c22 22 := cx tn mix_ok 8 (fn := Try.f22) (c := (Try.f22.body.getD .skip)) (grs := []) (rh := .k) Try.func22 rfl (by kernel_rfl) noLam fun vs bs q h hn => by
  unfold g22 at h
  split at h <;> cases h
  rename_i a b d e
  exact ⟨_, rfl, ca (fun R => (R (.bool (decide ((Z.wrap (a * e)) < (Z.wrap (d * b))))) [] [])) (fun R => by kernel_rfl) (lf rfl rfl)⟩
/-! ### (shotline/profile.ratio).rounded -/
noncomputable def m27 (b a : Int) : Int × Int :=
  ((Z.wrap (b.tdiv a)), (Z.wrap ((Z.wrap ((Z.wrap (b + a)) - 1)).tdiv a)))
noncomputable def n27 (b a : Int) : Bool :=
  ((bif (decide (a = 0)) then false else true) && ((bif (decide (a = 0)) then false else true) && true))
noncomputable def q27 (r : Int × Int) : SV × List Blk × List Blk := (.agg [V Z r.1, V Z r.2], [], [])
noncomputable def g27 : GF := fun vs bs => match vs, bs with
  | [.agg [V Z b, V Z a]], [] => some (rs 0 (q27 (m27 b a)) [n27 b a])
  | _, _ => none
noncomputable def c27 : Ctr := genC [.k] g27
theorem k27 : CtrOk Try.prog c27 27 := cx tn mix_ok 8 (fn := Try.f27) (c := (Try.f27.body.getD .skip)) (grs := []) (rh := .k) Try.func27 rfl (by kernel_rfl) noLam fun vs bs q h hn => by
  unfold g27 at h
  split at h <;> cases h
  rename_i b a
  have hn := n1 hn
  exact ⟨_, rfl, ca (fun R => (cnd (bif (decide (a = 0)) then false else true)
 (cnd (bif (decide (a = 0)) then false else true)
 (R (.agg [V Z (Z.wrap (b.tdiv a)), V Z (Z.wrap ((Z.wrap ((Z.wrap (b + a)) - 1)).tdiv a))]) [] [])
   False)
  False)) (fun R => by kernel_rfl) (cn (al hn) (cn (al (ar hn)) (lf rfl rfl)))⟩
/-! ### (shotline/profile.track).end -/
noncomputable def m30 (a : Nat) (b : Dat) : Int :=
  (b.ii ((Z.wrap ((↑a : Int) - 1)).toNat) 0)
noncomputable def n30 (a : Nat) (b : Dat) : Bool :=
  ((decide (0 ≤ Z.wrap ((↑a : Int) - 1) ∧ Z.wrap ((↑a : Int) - 1) < (↑a : Int))) && true)
noncomputable def q30 (r : Int) : SV × List Blk × List Blk := (V Z r, [], [])
noncomputable def g30 : GF := fun vs bs => match vs, bs with
  | [.ro [W Z, W Z] a b], [] => some (rs 0 (q30 (m30 a b)) [n30 a b])
  | _, _ => none
noncomputable def c30 : Ctr := genC [.ro [W Z, W Z]] g30
theorem k30 : CtrOk Try.prog c30 30 := cx tn mix_ok 8 (fn := Try.f30) (c := (Try.f30.body.getD .skip)) (grs := []) (rh := .k) Try.func30 rfl (by kernel_rfl) noLam fun vs bs q h hn => by
  unfold g30 at h
  split at h <;> cases h
  rename_i a b
  have hn := n1 hn
  exact ⟨_, rfl, ca (fun R => (cnd (decide (0 ≤ Z.wrap ((↑a : Int) - 1) ∧ Z.wrap ((↑a : Int) - 1) < (↑a : Int)))
 (R (V Z (b.ii ((Z.wrap ((↑a : Int) - 1)).toNat) 0)) [] [])
  False)) (fun R => by kernel_rfl) (cn (al hn) (lf rfl rfl))⟩
/-! ### (shotline/profile.track).leg$1 -/
noncomputable def m42 (a d : Int) (b : Dat) : Bool :=
  (decide ((b.ii 0 0) ≤ a))
noncomputable def q42 (r : Bool) : SV × List Blk × List Blk := (.bool r, [], [])
noncomputable def g42 : GF := fun vs bs => match vs, bs with
  | [.agg [V Z a, V Z d], .rp [W Z] b 0 0], [] => some (rs 0 (q42 (m42 a d b)) [])
  | _, _ => none
noncomputable def c42 : Ctr := genC [.k, .rp [W Z]] g42
theorem k42 : CtrOk Try.prog c42 42 := cx tn mix_ok 8 (fn := Try.f42) (c := (Try.f42.body.getD .skip)) (grs := []) (rh := .k) Try.func42 rfl (by kernel_rfl) noLam fun vs bs q h hn => by
  unfold g42 at h
  split at h <;> cases h
  rename_i a d b
  exact ⟨_, rfl, ca (fun R => (R (.bool (decide ((b.ii 0 0) ≤ a))) [] [])) (fun R => by kernel_rfl) (lf rfl rfl)⟩
/-! ### shotline/gas.first -/
noncomputable def l46_0 (b : Nat) (a : Dat) (i : Int) : Nat → Int → Option (Bool × (Int) × (Unit))
  | 0, _ => none
  | f + 1, g => (cond (decide (g < i)) (cond (decide (0 ≤ g ∧ g < ↑b)) (cond (bif (decide ((a.ii g.toNat 0) = 0)) then false else true) (some (true, (a.ii g.toNat 0), default)) (l46_0 b a i f (Z.wrap (g + 1)))) none) (some (false, default, ())))
noncomputable abbrev o46_0 (b : Nat) (a : Dat) (i g : Int) : Option (Bool × (Int) × (Unit)) := l46_0 b a i (b + i.toNat + g.toNat + 8) g
noncomputable def e46_0 (b : Nat) (a : Dat) (i : Int) (r : Bool × (Int) × (Unit)) (K : XR) : Prop := cnd r.1 (K (XE.ret) [V Z r.2.1] []) (K (XE.exit 0) [.any] [])
noncomputable def g46_0 : LSum := fun s k => match czv 0 15 [5, 6, 7] 0 [] s with
  | some ([.ro [W Z] b a, V Z i, V Z g], []) => needs [(o46_0 b a i g).isSome] (e46_0 b a i ((o46_0 b a i g).getD default) fun e vs bs => inBlk 0 k e (mkSt 0 15 [2] vs 0 bs))
  | _ => False
theorem z46_0 : LOk Try.prog g46_0 (.block 0 (bodyAt (Try.f46.body.getD .skip) 0)) := by
  refine lb (ι := Nat × Dat × Int × Int) (fuel := 8) (na := 0) (nt := 15) (nx := 0) (Lh := [5, 6, 7]) (Le := [2]) (gl := []) tn mix_ok noLam rfl (fun f (b, a, i, g) K => GG default (e46_0 b a i) K (l46_0 b a i f g)) (fun (b, a, i, g) => [.ro [W Z] b a, V Z i, V Z g]) (fun (b, a, i, g) => []) (fun (_, _, _, _) K => gg_none) ?_ ?_
  · rintro f ⟨b, a, i, g⟩ K hG
    refine ro (fun R => (cnd (decide (g < i))
 (cnd (decide (0 ≤ g ∧ g < ↑b))
 (cnd (bif (decide ((a.ii g.toNat 0) = 0)) then false else true)
 (R (XE.ret) [V Z (a.ii g.toNat 0)] [])
 (R (XE.normal) [.ro [W Z] b a, V Z i, V Z (Z.wrap (g + 1))] []))
   False)
 (R (XE.exit 0) [.any] []))) (fun R => by kernel_rfl) ?_
    exact ch hG (fun h0 => cg h0 fun h1 => ch h1 (fun h2 => h2.2) (fun h2 => ⟨(_, _, _, _), rfl, rfl, h2⟩)) (fun h0 => h0.2)
  · intro s k h
    unfold g46_0 at h
    split at h <;> try exact h.elim
    rename_i e1
    rw [needs_iff] at h
    exact ⟨_, e1, _, (_, _, _, _), rfl, rfl, h.1 _ (List.mem_singleton.2 rfl), h.2⟩
noncomputable def m46 (d : Nat) (j : Dat) : Int :=
  (cond ((o46_0 d j (↑d : Int) 0).getD default).1 ((o46_0 d j (↑d : Int) 0).getD default).2.1 0)
noncomputable def n46 (d : Nat) (j : Dat) : Bool :=
  (((o46_0 d j (↑d : Int) 0).isSome) && true)
noncomputable def q46 (r : Int) : SV × List Blk × List Blk := (V Z r, [], [])
noncomputable def g46 : GF := fun vs bs => match vs, bs with
  | [.ro [W Z] d j], [] => some (rs 0 (q46 (m46 d j)) [n46 d j])
  | _, _ => none
noncomputable def c46 : Ctr := genC [.ro [W Z]] g46
theorem k46 : CtrOk Try.prog c46 46 := cx tn mix_ok 8 (fn := Try.f46) (c := (Try.f46.body.getD .skip)) (grs := []) (rh := .k) Try.func46 rfl (by kernel_rfl) (lam_of rfl (lc z46_0 ln)) fun vs bs q h hn => by
  unfold g46 at h
  split at h <;> cases h
  rename_i d j
  have hn := n1 hn
  exact ⟨_, rfl, ca (fun R => (cnd ((o46_0 d j (↑d : Int) 0).isSome)
 (cnd ((o46_0 d j (↑d : Int) 0).getD default).1
 (R (V Z ((o46_0 d j (↑d : Int) 0).getD default).2.1) [] [])
 (R (V Z 0) [] []))
  False)) (fun R => by kernel_rfl) (cn (al hn) (co (fun h0 => lf (cT h0 rfl) rfl) (fun h0 => lf (cF h0 rfl) rfl)))⟩
/-! ### shotline/profile.trackOf -/
noncomputable def l29_0 (g : Nat) (i : Dat) (z : Int) (j : ByteArray) (l : Int) (m : Nat) (t u : Dat) : Nat → Nat → Int → Dat → Option (Nat × Nat × Dat)
  | 0, _, _, _ => none
  | f + 1, n, v, w => (cond (decide (v < z)) (cond (decide (0 ≤ v ∧ v < ↑g)) (cond (decide (0 ≤ Z.wrap ((↑n : Int) - 1) ∧ Z.wrap ((↑n : Int) - 1) < (↑n : Int))) (cond (decide (((Z.wrap ((↑n : Int) - 1)).toNat) < n)) (cond (decide ((n + 1) ≤ 1073741824)) (l29_0 g i z j l m t u f (n + 1) (Z.wrap (v + 1)) (w.app n (datS [V Z (Z.wrap ((w.ii ((Z.wrap ((↑n : Int) - 1)).toNat) 0) + (i.ii v.toNat 0))), V Z (i.ii v.toNat 1)] 2))) none) none) none) none) (some (n, n, w)))
noncomputable abbrev o29_0 (g : Nat) (i : Dat) (z : Int) (j : ByteArray) (l : Int) (m : Nat) (t u : Dat) (n : Nat) (v : Int) (w : Dat) : Option (Nat × Nat × Dat) := l29_0 g i z j l m t u (n + g + z.toNat + v.toNat + j.size + l.toNat + m + 8) n v w
noncomputable def e29_0 (g : Nat) (i : Dat) (z : Int) (j : ByteArray) (l : Int) (m : Nat) (t u : Dat) (r : Nat × Nat × Dat) (K : XR) : Prop := K (XE.exit 0) [.gr 1 2 r.1] [.cells 48 [.str j, V Z l, .ro [W Z, W Z] m t, .ro [W Z, W Z, W Z] g u], .row 39 [W Z, W Z] r.2.1 r.2.2]
noncomputable def g29_0 : LSum := fun s k => match czv 0 33 [3, 9, 10, 11] 2 [⟨true, 3, 0, 1, 39, [W Z, W Z]⟩] s with
  | some ([.gr 1 2 n, .ro [W Z, W Z, W Z] g i, V Z z, V Z v], [.cells 48 [.str j, V Z l, .ro [W Z, W Z] m t, .ro [W Z, W Z, W Z] b0_4 u], .row 39 [W Z, W Z] b1_0 w]) => needs [decide (g = b0_4), decide (n = b1_0), (o29_0 g i z j l m t u n v w).isSome] (e29_0 g i z j l m t u ((o29_0 g i z j l m t u n v w).getD default) fun e vs bs => inBlk 0 k e (mkSt 0 33 [3] vs 2 bs))
  | _ => False
theorem z29_0 : LOk Try.prog g29_0 (.block 0 (bodyAt (Try.f29.body.getD .skip) 0)) := by
  refine lb (ι := Nat × Nat × Dat × Int × Int × ByteArray × Int × Nat × Dat × Dat × Dat) (fuel := 8) (na := 0) (nt := 33) (nx := 2) (Lh := [3, 9, 10, 11]) (Le := [3]) (gl := [⟨true, 3, 0, 1, 39, [W Z, W Z]⟩]) tn mix_ok noLam rfl (fun f (n, g, i, z, v, j, l, m, t, u, w) K => GG default (e29_0 g i z j l m t u) K (l29_0 g i z j l m t u f n v w)) (fun (n, g, i, z, v, j, l, m, t, u, w) => [.gr 1 2 n, .ro [W Z, W Z, W Z] g i, V Z z, V Z v]) (fun (n, g, i, z, v, j, l, m, t, u, w) => [.cells 48 [.str j, V Z l, .ro [W Z, W Z] m t, .ro [W Z, W Z, W Z] g u], .row 39 [W Z, W Z] n w]) (fun (_, _, _, _, _, _, _, _, _, _, _) K => gg_none) ?_ ?_
  · rintro f ⟨n, g, i, z, v, j, l, m, t, u, w⟩ K hG
    refine ro (fun R => (cnd (decide (v < z))
 (cnd (decide (0 ≤ v ∧ v < ↑g))
 (cnd (decide (0 ≤ Z.wrap ((↑n : Int) - 1) ∧ Z.wrap ((↑n : Int) - 1) < (↑n : Int)))
 (cnd (decide (((Z.wrap ((↑n : Int) - 1)).toNat) < n))
 (cnd (decide (n ≤ n))
 (cnd (decide ((n + 1) ≤ 1073741824))
 (R (XE.normal) [.gr 1 2 (n + 1), .ro [W Z, W Z, W Z] g i, V Z z, V Z (Z.wrap (v + 1))] [.cells 48 [.str j, V Z l, .ro [W Z, W Z] m t, .ro [W Z, W Z, W Z] g u], .row 39 [W Z, W Z] (n + 1) (w.app n (datS [V Z (Z.wrap ((w.ii ((Z.wrap ((↑n : Int) - 1)).toNat) 0) + (i.ii v.toNat 0))), V Z (i.ii v.toNat 1)] 2))])
       False)
      False)
     False)
    False)
   False)
 (R (XE.exit 0) [.gr 1 2 n] [.cells 48 [.str j, V Z l, .ro [W Z, W Z] m t, .ro [W Z, W Z, W Z] g u], .row 39 [W Z, W Z] n w]))) (fun R => by kernel_rfl) ?_
    exact ch hG (fun h0 => cg h0 fun h1 => cg h1 fun h2 => cg h2 fun h3 => cn (decide_eq_true (Nat.le_refl _)) (cg h3 fun h4 => ⟨(_, _, _, _, _, _, _, _, _, _, _), rfl, rfl, h4⟩)) (fun h0 => h0.2)
  · intro s k h
    unfold g29_0 at h
    split at h <;> try exact h.elim
    rename_i e1
    rw [needs_iff] at h
    have hq := h.1
    simp only [List.mem_cons, forall_eq_or_imp, decide_eq_true_eq, List.not_mem_nil, false_imp_iff, implies_true, and_true] at hq
    obtain ⟨rfl, rfl, hq⟩ := hq
    exact ⟨_, e1, _, (_, _, _, _, _, _, _, _, _, _, _), rfl, rfl, hq, h.2⟩
noncomputable def m29 (x : ByteArray) (y : Int) (o : Nat) (p : Dat) (b : Nat) (d : Dat) : Nat × Dat :=
  (((o29_0 b d (↑b : Int) x y o p d 1 0 (datS [V Z 0, V Z 0] 2)).getD default).1, ((o29_0 b d (↑b : Int) x y o p d 1 0 (datS [V Z 0, V Z 0] 2)).getD default).2.2)
noncomputable def n29 (x : ByteArray) (y : Int) (o : Nat) (p : Dat) (b : Nat) (d : Dat) : Bool :=
  (((o29_0 b d (↑b : Int) x y o p d 1 0 (datS [V Z 0, V Z 0] 2)).isSome) && ((decide ((0 + ((o29_0 b d (↑b : Int) x y o p d 1 0 (datS [V Z 0, V Z 0] 2)).getD default).1) ≤ ((o29_0 b d (↑b : Int) x y o p d 1 0 (datS [V Z 0, V Z 0] 2)).getD default).2.1)) && true))
noncomputable def q29 (r : Nat × Dat) : SV × List Blk × List Blk := (.ro [W Z, W Z] r.1 r.2, [], [])
noncomputable def g29 : GF := fun vs bs => match vs, bs with
  | [.agg [.str x, V Z y, .ro [W Z, W Z] o p, .ro [W Z, W Z, W Z] b d]], [] => some (rs 0 (q29 (m29 x y o p b d)) [n29 x y o p b d])
  | _, _ => none
noncomputable def c29 : Ctr := genC [.a [.k, .k, .ro [W Z, W Z], .ro [W Z, W Z, W Z]]] g29
theorem k29 : CtrOk Try.prog c29 29 := cx tn mix_ok 8 (fn := Try.f29) (c := (Try.f29.body.getD .skip)) (grs := []) (rh := .ro [W Z, W Z]) Try.func29 rfl (by kernel_rfl) (lam_of rfl (lc z29_0 ln)) fun vs bs q h hn => by
  unfold g29 at h
  split at h <;> cases h
  rename_i x y o p b d
  have hn := n1 hn
  exact ⟨_, rfl, ca (fun R => (cnd (decide (b = b))
 (cnd ((o29_0 b d (↑b : Int) x y o p d 1 0 (datS [V Z 0, V Z 0] 2)).isSome)
 (cnd (decide ((0 + ((o29_0 b d (↑b : Int) x y o p d 1 0 (datS [V Z 0, V Z 0] 2)).getD default).1) ≤ ((o29_0 b d (↑b : Int) x y o p d 1 0 (datS [V Z 0, V Z 0] 2)).getD default).2.1))
 (R (.ro [W Z, W Z] ((o29_0 b d (↑b : Int) x y o p d 1 0 (datS [V Z 0, V Z 0] 2)).getD default).1 ((o29_0 b d (↑b : Int) x y o p d 1 0 (datS [V Z 0, V Z 0] 2)).getD default).2.2) [] [])
    False)
   False)
  False)) (fun R => by kernel_rfl) (cn (decide_eq_true rfl) (cn (al hn) (cn (al (ar hn)) (lf rfl rfl))))⟩
/-! ### shotline/gas.bound -/
noncomputable def m47 (a b d : Int) : Int :=
  (cond (bif (m48 a b d) then false else true) 2 0)
noncomputable def q47 (r : Int) : SV × List Blk × List Blk := (V Z r, [], [])
noncomputable def g47 : GF := fun vs bs => match vs, bs with
  | [V Z a, V Z b, V Z d], [] => some (rs 0 (q47 (m47 a b d)) [])
  | _, _ => none
noncomputable def c47 : Ctr := genC [.k, .k, .k] g47
theorem k47 : CtrOk Try.prog c47 47 := cx (tc k48 tn) mix_ok 8 (fn := Try.f47) (c := (Try.f47.body.getD .skip)) (grs := []) (rh := .k) Try.func47 rfl (by kernel_rfl) noLam fun vs bs q h hn => by
  unfold g47 at h
  split at h <;> cases h
  rename_i a b d
  exact ⟨_, rfl, ca (fun R => (cnd (bif (m48 a b d) then false else true)
 (R (V Z 2) [] [])
 (R (V Z 0) [] []))) (fun R => by kernel_rfl) (co (fun h0 => lf (cT h0 rfl) rfl) (fun h0 => lf (cF h0 rfl) rfl))⟩
/-! ### shotline/profile.isError -/
noncomputable def m20 (a : Int) : Bool :=
  (m25 a 0 30000)
noncomputable def q20 (r : Bool) : SV × List Blk × List Blk := (.bool r, [], [])
noncomputable def g20 : GF := fun vs bs => match vs, bs with
  | [V Z a], [] => some (rs 0 (q20 (m20 a)) [])
  | _, _ => none
noncomputable def c20 : Ctr := genC [.k] g20
theorem k20 : CtrOk Try.prog c20 20 := cx (tc k25 tn) mix_ok 8 (fn := Try.f20) (c := (Try.f20.body.getD .skip)) (grs := []) (rh := .k) Try.func20 rfl (by kernel_rfl) noLam fun vs bs q h hn => by
  unfold g20 at h
  split at h <;> cases h
  rename_i a
  exact ⟨_, rfl, ca (fun R => (R (.bool (m25 a 0 30000)) [] [])) (fun R => by kernel_rfl) (lf rfl rfl)⟩
/-! ### shotline/profile.isName -/
noncomputable def l43_0 (b : ByteArray) (g : Int) : Nat → Int → Option (Bool × (Bool) × (Unit))
  | 0, _ => none
  | f + 1, a => (cond (decide (a < g)) (cond (decide (0 ≤ a ∧ a < (↑b.size : Int))) (cond (bif (bif (decide (97 ≤ (byteAt b a.toNat))) then false else true) then true else (decide (0 ≤ a ∧ a < (↑b.size : Int)))) (cond (bif (bif (bif (bif (decide (97 ≤ (byteAt b a.toNat))) then (decide ((byteAt b a.toNat) ≤ 122)) else false) then false else true) then false else true) then true else (decide (0 ≤ a ∧ a < (↑b.size : Int)))) (cond (bif (bif (bif (bif (bif (decide (97 ≤ (byteAt b a.toNat))) then (decide ((byteAt b a.toNat) ≤ 122)) else false) then false else true) then (decide (65 ≤ (byteAt b a.toNat))) else false) then false else true) then true else (decide (0 ≤ a ∧ a < (↑b.size : Int)))) (cond (bif (bif (bif (bif (bif (bif (decide (97 ≤ (byteAt b a.toNat))) then (decide ((byteAt b a.toNat) ≤ 122)) else false) then true else (bif (decide (65 ≤ (byteAt b a.toNat))) then (decide ((byteAt b a.toNat) ≤ 90)) else false)) then false else true) then (bif (decide (a = 0)) then false else true) else false) then false else true) then true else (decide (0 ≤ a ∧ a < (↑b.size : Int)))) (cond (bif (bif (bif (bif (bif (bif (bif (decide (97 ≤ (byteAt b a.toNat))) then (decide ((byteAt b a.toNat) ≤ 122)) else false) then true else (bif (decide (65 ≤ (byteAt b a.toNat))) then (decide ((byteAt b a.toNat) ≤ 90)) else false)) then false else true) then (bif (decide (a = 0)) then false else true) else false) then (bif (decide ((byteAt b a.toNat) = 45)) then false else true) else false) then false else true) then true else (decide (0 ≤ a ∧ a < (↑b.size : Int)))) (cond (bif (bif (bif (bif (bif (bif (bif (bif (decide (97 ≤ (byteAt b a.toNat))) then (decide ((byteAt b a.toNat) ≤ 122)) else false) then true else (bif (decide (65 ≤ (byteAt b a.toNat))) then (decide ((byteAt b a.toNat) ≤ 90)) else false)) then false else true) then (bif (decide (a = 0)) then false else true) else false) then (bif (decide ((byteAt b a.toNat) = 45)) then false else true) else false) then (bif (decide ((byteAt b a.toNat) < 48)) then false else true) else false) then false else true) then true else (decide (0 ≤ a ∧ a < (↑b.size : Int)))) (cond (bif (bif (bif (bif (decide (97 ≤ (byteAt b a.toNat))) then (decide ((byteAt b a.toNat) ≤ 122)) else false) then true else (bif (decide (65 ≤ (byteAt b a.toNat))) then (decide ((byteAt b a.toNat) ≤ 90)) else false)) then false else true) then (bif (decide (a = 0)) then true else (bif (bif (decide ((byteAt b a.toNat) = 45)) then false else true) then (bif (decide ((byteAt b a.toNat) < 48)) then true else (decide (57 < (byteAt b a.toNat)))) else false)) else false) (some (true, false, default)) (l43_0 b g f (Z.wrap (a + 1)))) none) none) none) none) none) none) none) (some (false, default, ())))
noncomputable abbrev o43_0 (b : ByteArray) (g a : Int) : Option (Bool × (Bool) × (Unit)) := l43_0 b g (b.size + g.toNat + a.toNat + 8) a
noncomputable def e43_0 (b : ByteArray) (g : Int) (r : Bool × (Bool) × (Unit)) (K : XR) : Prop := cnd r.1 (K (XE.ret) [.str b, .bool r.2.1] []) (K (XE.exit 0) [.str b, .any] [])
noncomputable def g43_0 : LSum := fun s k => match czv 0 64 [0, 6, 7] 0 [] s with
  | some ([.str b, V Z g, V Z a], []) => needs [(o43_0 b g a).isSome] (e43_0 b g ((o43_0 b g a).getD default) fun e vs bs => inBlk 0 k e (mkSt 0 64 [0, 2] vs 0 bs))
  | _ => False
theorem z43_0 : LOk Try.prog g43_0 (.block 0 (bodyAt (Try.f43.body.getD .skip) 0)) := by
  refine lb (ι := ByteArray × Int × Int) (fuel := 8) (na := 0) (nt := 64) (nx := 0) (Lh := [0, 6, 7]) (Le := [0, 2]) (gl := []) tn mix_ok noLam rfl (fun f (b, g, a) K => GG default (e43_0 b g) K (l43_0 b g f a)) (fun (b, g, a) => [.str b, V Z g, V Z a]) (fun (b, g, a) => []) (fun (_, _, _) K => gg_none) ?_ ?_
  · rintro f ⟨b, g, a⟩ K hG
    refine ro (fun R => (cnd (decide (a < g))
 (cnd (decide (0 ≤ a ∧ a < (↑b.size : Int)))
 (cnd (bif (bif (decide (97 ≤ (byteAt b a.toNat))) then false else true) then true else (decide (0 ≤ a ∧ a < (↑b.size : Int))))
 (cnd (bif (bif (bif (bif (decide (97 ≤ (byteAt b a.toNat))) then (decide ((byteAt b a.toNat) ≤ 122)) else false) then false else true) then false else true) then true else (decide (0 ≤ a ∧ a < (↑b.size : Int))))
 (cnd (bif (bif (bif (bif (bif (decide (97 ≤ (byteAt b a.toNat))) then (decide ((byteAt b a.toNat) ≤ 122)) else false) then false else true) then (decide (65 ≤ (byteAt b a.toNat))) else false) then false else true) then true else (decide (0 ≤ a ∧ a < (↑b.size : Int))))
 (cnd (bif (bif (bif (bif (bif (bif (decide (97 ≤ (byteAt b a.toNat))) then (decide ((byteAt b a.toNat) ≤ 122)) else false) then true else (bif (decide (65 ≤ (byteAt b a.toNat))) then (decide ((byteAt b a.toNat) ≤ 90)) else false)) then false else true) then (bif (decide (a = 0)) then false else true) else false) then false else true) then true else (decide (0 ≤ a ∧ a < (↑b.size : Int))))
 (cnd (bif (bif (bif (bif (bif (bif (bif (decide (97 ≤ (byteAt b a.toNat))) then (decide ((byteAt b a.toNat) ≤ 122)) else false) then true else (bif (decide (65 ≤ (byteAt b a.toNat))) then (decide ((byteAt b a.toNat) ≤ 90)) else false)) then false else true) then (bif (decide (a = 0)) then false else true) else false) then (bif (decide ((byteAt b a.toNat) = 45)) then false else true) else false) then false else true) then true else (decide (0 ≤ a ∧ a < (↑b.size : Int))))
 (cnd (bif (bif (bif (bif (bif (bif (bif (bif (decide (97 ≤ (byteAt b a.toNat))) then (decide ((byteAt b a.toNat) ≤ 122)) else false) then true else (bif (decide (65 ≤ (byteAt b a.toNat))) then (decide ((byteAt b a.toNat) ≤ 90)) else false)) then false else true) then (bif (decide (a = 0)) then false else true) else false) then (bif (decide ((byteAt b a.toNat) = 45)) then false else true) else false) then (bif (decide ((byteAt b a.toNat) < 48)) then false else true) else false) then false else true) then true else (decide (0 ≤ a ∧ a < (↑b.size : Int))))
 (cnd (bif (bif (bif (bif (decide (97 ≤ (byteAt b a.toNat))) then (decide ((byteAt b a.toNat) ≤ 122)) else false) then true else (bif (decide (65 ≤ (byteAt b a.toNat))) then (decide ((byteAt b a.toNat) ≤ 90)) else false)) then false else true) then (bif (decide (a = 0)) then true else (bif (bif (decide ((byteAt b a.toNat) = 45)) then false else true) then (bif (decide ((byteAt b a.toNat) < 48)) then true else (decide (57 < (byteAt b a.toNat)))) else false)) else false)
 (R (XE.ret) [.str b, .bool false] [])
 (R (XE.normal) [.str b, V Z g, V Z (Z.wrap (a + 1))] []))
         False)
        False)
       False)
      False)
     False)
    False)
   False)
 (R (XE.exit 0) [.str b, .any] []))) (fun R => by kernel_rfl) ?_
    exact ch hG (fun h0 => cg h0 fun h1 => cg h1 fun h2 => cg h2 fun h3 => cg h3 fun h4 => cg h4 fun h5 => cg h5 fun h6 => cg h6 fun h7 => ch h7 (fun h8 => h8.2) (fun h8 => ⟨(_, _, _), rfl, rfl, h8⟩)) (fun h0 => h0.2)
  · intro s k h
    unfold g43_0 at h
    split at h <;> try exact h.elim
    rename_i e1
    rw [needs_iff] at h
    exact ⟨_, e1, _, (_, _, _), rfl, rfl, h.1 _ (List.mem_singleton.2 rfl), h.2⟩
noncomputable def m43 (d : ByteArray) : Bool :=
  (cond ((o43_0 d (↑d.size : Int) 0).getD default).1 ((o43_0 d (↑d.size : Int) 0).getD default).2.1 (bif (bif (decide (d = ({ data := #[] } : ByteArray))) then false else true) then (decide ((↑d.size : Int) ≤ 12)) else false))
noncomputable def n43 (d : ByteArray) : Bool :=
  (((o43_0 d (↑d.size : Int) 0).isSome) && true)
noncomputable def q43 (r : Bool) : SV × List Blk × List Blk := (.bool r, [], [])
noncomputable def g43 : GF := fun vs bs => match vs, bs with
  | [.str d], [] => some (rs 0 (q43 (m43 d)) [n43 d])
  | _, _ => none
noncomputable def c43 : Ctr := genC [.k] g43
theorem k43 : CtrOk Try.prog c43 43 := cx tn mix_ok 8 (fn := Try.f43) (c := (Try.f43.body.getD .skip)) (grs := []) (rh := .k) Try.func43 rfl (by kernel_rfl) (lam_of rfl (lc z43_0 ln)) fun vs bs q h hn => by
  unfold g43 at h
  split at h <;> cases h
  rename_i d
  have hn := n1 hn
  exact ⟨_, rfl, ca (fun R => (cnd ((o43_0 d (↑d.size : Int) 0).isSome)
 (cnd ((o43_0 d (↑d.size : Int) 0).getD default).1
 (R (.bool ((o43_0 d (↑d.size : Int) 0).getD default).2.1) [] [])
 (R (.bool (bif (bif (decide (d = ({ data := #[] } : ByteArray))) then false else true) then (decide ((↑d.size : Int) ≤ 12)) else false)) [] []))
  False)) (fun R => by kernel_rfl) (cn (al hn) (co (fun h0 => lf (cT h0 rfl) rfl) (fun h0 => lf (cF h0 rfl) rfl)))⟩
/-! ### slices.IndexFunc[shotline/profile.track,shotline/api.DivePoint] -/
noncomputable def l41c42_0 (b : Nat) (a j : Dat) (i : Int) : Nat → Int → Option (Bool × (Int) × (Unit))
  | 0, _ => none
  | f + 1, d => (cond (decide (d < i)) (cond (decide (0 ≤ d ∧ d < ↑b)) (cond (m42 (a.ii d.toNat 0) (a.ii d.toNat 1) j) (some (true, d, default)) (l41c42_0 b a j i f (Z.wrap (d + 1)))) none) (some (false, default, ())))
noncomputable abbrev o41c42_0 (b : Nat) (a j : Dat) (i d : Int) : Option (Bool × (Int) × (Unit)) := l41c42_0 b a j i (b + i.toNat + d.toNat + 8) d
noncomputable def e41c42_0 (b : Nat) (a j : Dat) (i : Int) (r : Bool × (Int) × (Unit)) (K : XR) : Prop := cnd r.1 (K (XE.ret) [V Z r.2.1] []) (K (XE.exit 0) [.any] [])
noncomputable def g41c42_0 : LSum := fun s k => match czv 0 19 [0, 1, 7, 8] 0 [] s with
  | some ([.ro [W Z, W Z] b a, .fn 42 [.rp [W Z] j 0 0], V Z i, V Z d], []) => needs [(o41c42_0 b a j i d).isSome] (e41c42_0 b a j i ((o41c42_0 b a j i d).getD default) fun e vs bs => inBlk 0 k e (mkSt 0 19 [4] vs 0 bs))
  | _ => False
theorem z41c42_0 : LOk Try.prog g41c42_0 (.block 0 (bodyAt (Try.f41.body.getD .skip) 0)) := by
  refine lb (ι := Nat × Dat × Dat × Int × Int) (fuel := 8) (na := 0) (nt := 19) (nx := 0) (Lh := [0, 1, 7, 8]) (Le := [4]) (gl := []) (tc k42 tn) mix_ok noLam rfl (fun f (b, a, j, i, d) K => GG default (e41c42_0 b a j i) K (l41c42_0 b a j i f d)) (fun (b, a, j, i, d) => [.ro [W Z, W Z] b a, .fn 42 [.rp [W Z] j 0 0], V Z i, V Z d]) (fun (b, a, j, i, d) => []) (fun (_, _, _, _, _) K => gg_none) ?_ ?_
  · rintro f ⟨b, a, j, i, d⟩ K hG
    refine ro (fun R => (cnd (decide (d < i))
 (cnd (decide (0 ≤ d ∧ d < ↑b))
 (cnd (m42 (a.ii d.toNat 0) (a.ii d.toNat 1) j)
 (R (XE.ret) [V Z d] [])
 (R (XE.normal) [.ro [W Z, W Z] b a, .fn 42 [.rp [W Z] j 0 0], V Z i, V Z (Z.wrap (d + 1))] []))
   False)
 (R (XE.exit 0) [.any] []))) (fun R => by kernel_rfl) ?_
    exact ch hG (fun h0 => cg h0 fun h1 => ch h1 (fun h2 => h2.2) (fun h2 => ⟨(_, _, _, _, _), rfl, rfl, h2⟩)) (fun h0 => h0.2)
  · intro s k h
    unfold g41c42_0 at h
    split at h <;> try exact h.elim
    rename_i e1
    rw [needs_iff] at h
    exact ⟨_, e1, _, (_, _, _, _, _), rfl, rfl, h.1 _ (List.mem_singleton.2 rfl), h.2⟩
noncomputable def m41c42 (g : Nat) (l da1c0 : Dat) : Int :=
  (cond ((o41c42_0 g l da1c0 (↑g : Int) 0).getD default).1 ((o41c42_0 g l da1c0 (↑g : Int) 0).getD default).2.1 (-1))
noncomputable def n41c42 (g : Nat) (l da1c0 : Dat) : Bool :=
  (((o41c42_0 g l da1c0 (↑g : Int) 0).isSome) && true)
noncomputable def q41c42 (r : Int) : SV × List Blk × List Blk := (V Z r, [], [])
noncomputable def g41c42 : GF := fun vs bs => match vs, bs with
  | [.ro [W Z, W Z] g l, .fn 42 [.rp [W Z] da1c0 0 0]], [] => some (rs 0 (q41c42 (m41c42 g l da1c0)) [n41c42 g l da1c0])
  | _, _ => none
noncomputable def c41c42 : Ctr := genC [.ro [W Z, W Z], .f [.rp [W Z]]] g41c42
theorem k41c42 : CtrOk Try.prog c41c42 41 := cx (tc k42 tn) mix_ok 8 (fn := Try.f41) (c := (Try.f41.body.getD .skip)) (grs := []) (rh := .k) Try.func41 rfl (by kernel_rfl) (lam_of rfl (lc z41c42_0 ln)) fun vs bs q h hn => by
  unfold g41c42 at h
  split at h <;> cases h
  rename_i g l da1c0
  have hn := n1 hn
  exact ⟨_, rfl, ca (fun R => (cnd ((o41c42_0 g l da1c0 (↑g : Int) 0).isSome)
 (cnd ((o41c42_0 g l da1c0 (↑g : Int) 0).getD default).1
 (R (V Z ((o41c42_0 g l da1c0 (↑g : Int) 0).getD default).2.1) [] [])
 (R (V Z (-1)) [] []))
  False)) (fun R => by kernel_rfl) (cn (al hn) (co (fun h0 => lf (cT h0 rfl) rfl) (fun h0 => lf (cF h0 rfl) rfl)))⟩
/-! ### shotline/profile.CheckPoints -/
noncomputable def l24_1 (d : Nat) (i a : Dat) (j : Int) : Nat → Int → Option (Bool × (Int) × (Unit))
  | 0, _ => none
  | f + 1, b => (cond (decide (b < j)) (cond (decide (0 ≤ b ∧ b < ↑d)) (cond (bif (bif (m25 (a.ii b.toNat 0) 0 1000000) then false else true) then true else (bif (m25 (a.ii b.toNat 1) 0 30000) then false else true)) (some (true, 2, default)) (cond (bif (bif (decide ((0 : Int) < b)) then false else true) then true else (decide (0 ≤ Z.wrap (b - 1) ∧ Z.wrap (b - 1) < (↑d : Int)))) (cond (bif (decide ((0 : Int) < b)) then (decide ((a.ii b.toNat 0) ≤ (i.ii ((Z.wrap (b - 1)).toNat) 0))) else false) (some (true, 9, default)) (l24_1 d i a j f (Z.wrap (b + 1)))) none)) none) (some (false, default, ())))
noncomputable abbrev o24_1 (d : Nat) (i a : Dat) (j b : Int) : Option (Bool × (Int) × (Unit)) := l24_1 d i a j (d + j.toNat + b.toNat + 8) b
noncomputable def e24_1 (d : Nat) (i a : Dat) (j : Int) (r : Bool × (Int) × (Unit)) (K : XR) : Prop := cnd r.1 (K (XE.ret) [V Z r.2.1] []) (K (XE.exit 1) [.any] [])
noncomputable def g24_1 : LSum := fun s k => match czv 0 46 [0, 13, 14, 15] 0 [] s with
  | some ([.ro [W Z, W Z] d i, .ro [W Z, W Z] t13_0 a, V Z j, V Z b], []) => needs [decide (d = t13_0), (o24_1 d i a j b).isSome] (e24_1 d i a j ((o24_1 d i a j b).getD default) fun e vs bs => inBlk 1 k e (mkSt 0 46 [2] vs 0 bs))
  | _ => False
theorem z24_1 : LOk Try.prog g24_1 (.block 1 (bodyAt (Try.f24.body.getD .skip) 1)) := by
  refine lb (ι := Nat × Dat × Dat × Int × Int) (fuel := 8) (na := 0) (nt := 46) (nx := 0) (Lh := [0, 13, 14, 15]) (Le := [2]) (gl := []) (tc k25 tn) mix_ok noLam rfl (fun f (d, i, a, j, b) K => GG default (e24_1 d i a j) K (l24_1 d i a j f b)) (fun (d, i, a, j, b) => [.ro [W Z, W Z] d i, .ro [W Z, W Z] d a, V Z j, V Z b]) (fun (d, i, a, j, b) => []) (fun (_, _, _, _, _) K => gg_none) ?_ ?_
  · rintro f ⟨d, i, a, j, b⟩ K hG
    refine ro (fun R => (cnd (decide (b < j))
 (cnd (decide (0 ≤ b ∧ b < ↑d))
 (cnd (bif (bif (m25 (a.ii b.toNat 0) 0 1000000) then false else true) then true else (bif (m25 (a.ii b.toNat 1) 0 30000) then false else true))
 (R (XE.ret) [V Z 2] [])
 (cnd (bif (bif (decide ((0 : Int) < b)) then false else true) then true else (decide (0 ≤ Z.wrap (b - 1) ∧ Z.wrap (b - 1) < (↑d : Int))))
 (cnd (bif (decide ((0 : Int) < b)) then (decide ((a.ii b.toNat 0) ≤ (i.ii ((Z.wrap (b - 1)).toNat) 0))) else false)
 (R (XE.ret) [V Z 9] [])
 (R (XE.normal) [.ro [W Z, W Z] d i, .ro [W Z, W Z] d a, V Z j, V Z (Z.wrap (b + 1))] []))
     False))
   False)
 (R (XE.exit 1) [.any] []))) (fun R => by kernel_rfl) ?_
    exact ch hG (fun h0 => cg h0 fun h1 => ch h1 (fun h2 => h2.2) (fun h2 => cg h2 fun h3 => ch h3 (fun h4 => h4.2) (fun h4 => ⟨(_, _, _, _, _), rfl, rfl, h4⟩))) (fun h0 => h0.2)
  · intro s k h
    unfold g24_1 at h
    split at h <;> try exact h.elim
    rename_i e1
    rw [needs_iff] at h
    have hq := h.1
    simp only [List.mem_cons, forall_eq_or_imp, decide_eq_true_eq, List.not_mem_nil, false_imp_iff, implies_true, and_true] at hq
    obtain ⟨rfl, hq⟩ := hq
    exact ⟨_, e1, _, (_, _, _, _, _), rfl, rfl, hq, h.2⟩
noncomputable def m24 (g : Nat) (l : Dat) : Int :=
  (cond (decide ((↑g : Int) < 2)) 10 (cond (decide ((200 : Int) < (↑g : Int))) 8 (cond ((o24_1 g l l (↑g : Int) 0).getD default).1 ((o24_1 g l l (↑g : Int) 0).getD default).2.1 0)))
noncomputable def n24 (g : Nat) (l : Dat) : Bool :=
  (cond (decide ((↑g : Int) < 2)) true (cond (decide ((200 : Int) < (↑g : Int))) true (((o24_1 g l l (↑g : Int) 0).isSome) && true)))
noncomputable def q24 (r : Int) : SV × List Blk × List Blk := (V Z r, [], [])
noncomputable def g24 : GF := fun vs bs => match vs, bs with
  | [.ro [W Z, W Z] g l], [] => some (rs 0 (q24 (m24 g l)) [n24 g l])
  | _, _ => none
noncomputable def c24 : Ctr := genC [.ro [W Z, W Z]] g24
theorem k24 : CtrOk Try.prog c24 24 := cx (tc k25 tn) mix_ok 8 (fn := Try.f24) (c := (Try.f24.body.getD .skip)) (grs := []) (rh := .k) Try.func24 rfl (by kernel_rfl) (lam_of rfl (lc z24_1 ln)) fun vs bs q h hn => by
  unfold g24 at h
  split at h <;> cases h
  rename_i g l
  have hn := n1 hn
  exact ⟨_, rfl, ca (fun R => (cnd (decide ((↑g : Int) < 2))
 (R (V Z 10) [] [])
 (cnd (decide ((200 : Int) < (↑g : Int)))
 (R (V Z 8) [] [])
 (cnd (decide (g = g))
 (cnd ((o24_1 g l l (↑g : Int) 0).isSome)
 (cnd ((o24_1 g l l (↑g : Int) 0).getD default).1
 (R (V Z ((o24_1 g l l (↑g : Int) 0).getD default).2.1) [] [])
 (R (V Z 0) [] []))
     False)
    False)))) (fun R => by kernel_rfl) (co (fun h0 => lf (cT h0 rfl) rfl) (fun h0 => co (fun h1 => lf (cF h0 (cT h1 rfl)) rfl) (fun h1 => cn (decide_eq_true rfl) (cn (al (cf h1 (cf h0 hn))) (co (fun h2 => lf (cF h0 (cF h1 (cT h2 rfl))) rfl) (fun h2 => lf (cF h0 (cF h1 (cF h2 rfl))) rfl))))))⟩
/-! ### shotline/shotlineref02.CheckPoints -/
noncomputable def l5_0 (a : Nat) (b : Dat) : Nat → Int → Option (Bool × (Int) × (Unit))
  | 0, _ => none
  | f + 1, d => (cond (decide (d < (↑a : Int))) (cond (decide (0 ≤ d ∧ d < ↑a)) (cond (bif (bif (bif (bif (m6 (b.ii d.toNat 0) 0 1000000) then false else true) then false else true) then false else true) then true else (decide (0 ≤ d ∧ d < ↑a))) (cond (bif (bif (m6 (b.ii d.toNat 0) 0 1000000) then false else true) then true else (bif (m6 (b.ii d.toNat 1) 0 30000) then false else true)) (some (true, 2, default)) (cond (bif (bif (decide ((0 : Int) < d)) then false else true) then true else (decide (0 ≤ d ∧ d < ↑a))) (cond (bif (bif (decide ((0 : Int) < d)) then false else true) then true else (decide (0 ≤ Z.wrap (d - 1) ∧ Z.wrap (d - 1) < (↑a : Int)))) (cond (bif (decide ((0 : Int) < d)) then (decide ((b.ii d.toNat 0) ≤ (b.ii ((Z.wrap (d - 1)).toNat) 0))) else false) (some (true, 9, default)) (l5_0 a b f (Z.wrap (d + 1)))) none) none)) none) none) (some (false, default, ())))
noncomputable abbrev o5_0 (a : Nat) (b : Dat) (d : Int) : Option (Bool × (Int) × (Unit)) := l5_0 a b (a + d.toNat + 8) d
noncomputable def e5_0 (a : Nat) (b : Dat) (r : Bool × (Int) × (Unit)) (K : XR) : Prop := cnd r.1 (K (XE.ret) [V Z r.2.1] []) (K (XE.exit 0) [.any] [])
noncomputable def g5_0 : LSum := fun s k => match czv 0 48 [0, 3] 0 [] s with
  | some ([.ro [W Z, W Z] a b, V Z d], []) => needs [(o5_0 a b d).isSome] (e5_0 a b ((o5_0 a b d).getD default) fun e vs bs => inBlk 0 k e (mkSt 0 48 [2] vs 0 bs))
  | _ => False
theorem z5_0 : LOk Try.prog g5_0 (.block 0 (bodyAt (Try.f5.body.getD .skip) 0)) := by
  refine lb (ι := Nat × Dat × Int) (fuel := 8) (na := 0) (nt := 48) (nx := 0) (Lh := [0, 3]) (Le := [2]) (gl := []) (tc k6 tn) mix_ok noLam rfl (fun f (a, b, d) K => GG default (e5_0 a b) K (l5_0 a b f d)) (fun (a, b, d) => [.ro [W Z, W Z] a b, V Z d]) (fun (a, b, d) => []) (fun (_, _, _) K => gg_none) ?_ ?_
  · rintro f ⟨a, b, d⟩ K hG
    refine ro (fun R => (cnd (decide (d < (↑a : Int)))
 (cnd (decide (0 ≤ d ∧ d < ↑a))
 (cnd (bif (bif (bif (bif (m6 (b.ii d.toNat 0) 0 1000000) then false else true) then false else true) then false else true) then true else (decide (0 ≤ d ∧ d < ↑a)))
 (cnd (bif (bif (m6 (b.ii d.toNat 0) 0 1000000) then false else true) then true else (bif (m6 (b.ii d.toNat 1) 0 30000) then false else true))
 (R (XE.ret) [V Z 2] [])
 (cnd (bif (bif (decide ((0 : Int) < d)) then false else true) then true else (decide (0 ≤ d ∧ d < ↑a)))
 (cnd (bif (bif (decide ((0 : Int) < d)) then false else true) then true else (decide (0 ≤ Z.wrap (d - 1) ∧ Z.wrap (d - 1) < (↑a : Int))))
 (cnd (bif (decide ((0 : Int) < d)) then (decide ((b.ii d.toNat 0) ≤ (b.ii ((Z.wrap (d - 1)).toNat) 0))) else false)
 (R (XE.ret) [V Z 9] [])
 (R (XE.normal) [.ro [W Z, W Z] a b, V Z (Z.wrap (d + 1))] []))
       False)
      False))
    False)
   False)
 (R (XE.exit 0) [.any] []))) (fun R => by kernel_rfl) ?_
    exact ch hG (fun h0 => cg h0 fun h1 => cg h1 fun h2 => ch h2 (fun h3 => h3.2) (fun h3 => cg h3 fun h4 => cg h4 fun h5 => ch h5 (fun h6 => h6.2) (fun h6 => ⟨(_, _, _), rfl, rfl, h6⟩))) (fun h0 => h0.2)
  · intro s k h
    unfold g5_0 at h
    split at h <;> try exact h.elim
    rename_i e1
    rw [needs_iff] at h
    exact ⟨_, e1, _, (_, _, _), rfl, rfl, h.1 _ (List.mem_singleton.2 rfl), h.2⟩
noncomputable def m5 (g : Nat) (i : Dat) : Int :=
  (cond (decide ((↑g : Int) < 2)) 10 (cond (decide ((200 : Int) < (↑g : Int))) 8 (cond ((o5_0 g i 0).getD default).1 ((o5_0 g i 0).getD default).2.1 0)))
noncomputable def n5 (g : Nat) (i : Dat) : Bool :=
  (cond (decide ((↑g : Int) < 2)) true (cond (decide ((200 : Int) < (↑g : Int))) true (((o5_0 g i 0).isSome) && true)))
noncomputable def q5 (r : Int) : SV × List Blk × List Blk := (V Z r, [], [])
noncomputable def g5 : GF := fun vs bs => match vs, bs with
  | [.ro [W Z, W Z] g i], [] => some (rs 0 (q5 (m5 g i)) [n5 g i])
  | _, _ => none
noncomputable def c5 : Ctr := genC [.ro [W Z, W Z]] g5
theorem k5 : CtrOk Try.prog c5 5 := cx (tc k6 tn) mix_ok 8 (fn := Try.f5) (c := (Try.f5.body.getD .skip)) (grs := []) (rh := .k) Try.func5 rfl (by kernel_rfl) (lam_of rfl (lc z5_0 ln)) fun vs bs q h hn => by
  unfold g5 at h
  split at h <;> cases h
  rename_i g i
  have hn := n1 hn
  exact ⟨_, rfl, ca (fun R => (cnd (decide ((↑g : Int) < 2))
 (R (V Z 10) [] [])
 (cnd (decide ((200 : Int) < (↑g : Int)))
 (R (V Z 8) [] [])
 (cnd ((o5_0 g i 0).isSome)
 (cnd ((o5_0 g i 0).getD default).1
 (R (V Z ((o5_0 g i 0).getD default).2.1) [] [])
 (R (V Z 0) [] []))
    False)))) (fun R => by kernel_rfl) (co (fun h0 => lf (cT h0 rfl) rfl) (fun h0 => co (fun h1 => lf (cF h0 (cT h1 rfl)) rfl) (fun h1 => cn (al (cf h1 (cf h0 hn))) (co (fun h2 => lf (cF h0 (cF h1 (cT h2 rfl))) rfl) (fun h2 => lf (cF h0 (cF h1 (cF h2 rfl))) rfl)))))⟩
/-! ### shotline/shotlinelaw02.Reef -/
noncomputable def m13  : ByteArray × Int × Dat × Dat :=
  (({ data := #[OfNat.ofNat 112] } : ByteArray), 1013, (datS [V Z 210, V Z 0, V Z 500, V Z 0] 2), (datS [V Z 60, V Z 1800, V Z 0, V Z 600, V Z 1800, V Z 0, V Z 120, V Z 600, V Z 0, V Z 300, V Z 600, V Z 1] 3))
noncomputable def q13 (r : ByteArray × Int × Dat × Dat) : SV × List Blk × List Blk := (.agg [.str r.1, V Z r.2.1, .ro [W Z, W Z] 2 r.2.2.1, .ro [W Z, W Z, W Z] 4 r.2.2.2], [], [])
noncomputable def g13 : GF := fun vs bs => match vs, bs with
  | [], [] => some (rs 0 (q13 (m13)) [])
  | _, _ => none
noncomputable def c13 : Ctr := genC [] g13
theorem k13 : CtrOk Try.prog c13 13 := cx tn mix_ok 8 (fn := Try.f13) (c := (Try.f13.body.getD .skip)) (grs := []) (rh := .t [.k, .k, .ro [W Z, W Z], .ro [W Z, W Z, W Z]]) Try.func13 rfl (by kernel_rfl) noLam fun vs bs q h hn => by
  unfold g13 at h
  split at h <;> cases h
  exact ⟨_, rfl, ca (fun R => (R (.agg [.str ({ data := #[OfNat.ofNat 112] } : ByteArray), V Z 1013, .ro [W Z, W Z] 2 (datS [V Z 210, V Z 0, V Z 500, V Z 0] 2), .ro [W Z, W Z, W Z] 4 (datS [V Z 60, V Z 1800, V Z 0, V Z 600, V Z 1800, V Z 0, V Z 120, V Z 600, V Z 0, V Z 300, V Z 600, V Z 1] 3)]) [] [])) (fun R => by kernel_rfl) (lf rfl rfl)⟩
/-! ### shotline/shotlinelaw02.Four -/
noncomputable def m15  : Dat :=
  (datS [V Z 0, V Z 0, V Z 10, V Z 100, V Z 20, V Z 190, V Z 30, V Z 300] 2)
noncomputable def q15 (r : Dat) : SV × List Blk × List Blk := (.ro [W Z, W Z] 4 r, [], [])
noncomputable def g15 : GF := fun vs bs => match vs, bs with
  | [], [] => some (rs 0 (q15 (m15)) [])
  | _, _ => none
noncomputable def c15 : Ctr := genC [] g15
theorem k15 : CtrOk Try.prog c15 15 := cx tn mix_ok 8 (fn := Try.f15) (c := (Try.f15.body.getD .skip)) (grs := []) (rh := .ro [W Z, W Z]) Try.func15 rfl (by kernel_rfl) noLam fun vs bs q h hn => by
  unfold g15 at h
  split at h <;> cases h
  exact ⟨_, rfl, ca (fun R => (R (.ro [W Z, W Z] 4 (datS [V Z 0, V Z 0, V Z 10, V Z 100, V Z 20, V Z 190, V Z 30, V Z 300] 2)) [] [])) (fun R => by kernel_rfl) (lf rfl rfl)⟩
/-! ### shotline/profile.clash -/
noncomputable def m21 (d : Nat) (a : Dat) (e : Nat) (b : Dat) : Bool :=
  (bif (bif (decide ((a.ii 0 0) = (b.ii 0 0))) then false else true) then true else (bif (decide ((m30 d a) = (m30 e b))) then false else true))
noncomputable def n21 (d : Nat) (a : Dat) (e : Nat) (b : Dat) : Bool :=
  ((decide ((0 : Int) ≤ (0 : Int) ∧ (0 : Int) < (↑d : Int))) && ((decide ((0 : Int) ≤ (0 : Int) ∧ (0 : Int) < (↑e : Int))) && ((bif (bif (bif (bif (decide ((a.ii 0 0) = (b.ii 0 0))) then false else true) then false else true) then false else true) then true else (n30 d a)) && ((bif (bif (bif (bif (decide ((a.ii 0 0) = (b.ii 0 0))) then false else true) then false else true) then false else true) then true else (n30 e b)) && true))))
noncomputable def q21 (r : Bool) : SV × List Blk × List Blk := (.bool r, [], [])
noncomputable def g21 : GF := fun vs bs => match vs, bs with
  | [.ro [W Z, W Z] d a, .ro [W Z, W Z] e b], [] => some (rs 0 (q21 (m21 d a e b)) [n21 d a e b])
  | _, _ => none
noncomputable def c21 : Ctr := genC [.ro [W Z, W Z], .ro [W Z, W Z]] g21
theorem k21 : CtrOk Try.prog c21 21 := cx (tc k30 tn) mix_ok 8 (fn := Try.f21) (c := (Try.f21.body.getD .skip)) (grs := []) (rh := .k) Try.func21 rfl (by kernel_rfl) noLam fun vs bs q h hn => by
  unfold g21 at h
  split at h <;> cases h
  rename_i d a e b
  have hn := n1 hn
  exact ⟨_, rfl, ca (fun R => (cnd (decide ((0 : Int) ≤ (0 : Int) ∧ (0 : Int) < (↑d : Int)))
 (cnd (decide ((0 : Int) ≤ (0 : Int) ∧ (0 : Int) < (↑e : Int)))
 (cnd (bif (bif (bif (bif (decide ((a.ii 0 0) = (b.ii 0 0))) then false else true) then false else true) then false else true) then true else (n30 d a))
 (cnd (bif (bif (bif (bif (decide ((a.ii 0 0) = (b.ii 0 0))) then false else true) then false else true) then false else true) then true else (n30 e b))
 (R (.bool (bif (bif (decide ((a.ii 0 0) = (b.ii 0 0))) then false else true) then true else (bif (decide ((m30 d a) = (m30 e b))) then false else true))) [] [])
     False)
    False)
   False)
  False)) (fun R => by kernel_rfl) (cn (al hn) (cn (al (ar hn)) (cn (al (ar (ar hn))) (cn (al (ar (ar (ar hn)))) (lf rfl rfl)))))⟩
/-! ### shotline/shotlinetop.picked -/
noncomputable def l8_0 (d : Nat) (g : Dat) (b : Nat) (a : Dat) : Nat → Nat → Int → Dat → Option (Bool × (Bool × Nat × Nat × Dat) × (Nat × Nat × Dat))
  | 0, _, _, _ => none
  | f + 1, l, j, i => (cond (decide (j < (↑b : Int))) (cond (decide (0 ≤ j ∧ j < ↑b)) (cond (bif (m6 (a.ii j.toNat 0) 0 (Z.wrap ((↑d : Int) - 1))) then false else true) (some (true, (false, l, l, i), default)) (cond (decide (0 ≤ j ∧ j < ↑b)) (cond (decide ((0 : Int) ≤ a.ii j.toNat (0 : Nat) ∧ a.ii j.toNat (0 : Nat) < (↑d : Int))) (cond (decide ((l + 1) ≤ 1073741824)) (l8_0 d g b a f (l + 1) (Z.wrap (j + 1)) (i.app l (datS [V Z (g.ii ((a.ii j.toNat 0).toNat) 0), V Z (g.ii ((a.ii j.toNat 0).toNat) 1)] 2))) none) none) none)) none) (some (false, default, (l, l, i))))
noncomputable abbrev o8_0 (d : Nat) (g : Dat) (b : Nat) (a : Dat) (l : Nat) (j : Int) (i : Dat) : Option (Bool × (Bool × Nat × Nat × Dat) × (Nat × Nat × Dat)) := l8_0 d g b a (d + b + l + j.toNat + 8) l j i
noncomputable def e8_0 (d : Nat) (g : Dat) (b : Nat) (a : Dat) (r : Bool × (Bool × Nat × Nat × Dat) × (Nat × Nat × Dat)) (K : XR) : Prop := cnd r.1 (K (XE.ret) [.nsl, .bool r.2.1.1, .gr 0 2 r.2.1.2.1] [.row 39 [W Z, W Z] r.2.1.2.2.1 r.2.1.2.2.2]) (K (XE.exit 0) [.any, .any, .gr 0 2 r.2.2.1] [.row 39 [W Z, W Z] r.2.2.2.1 r.2.2.2.2])
noncomputable def g8_0 : LSum := fun s k => match czv 0 34 [0, 1, 6, 7] 1 [⟨true, 6, 0, 0, 39, [W Z, W Z]⟩] s with
  | some ([.ro [W Z, W Z] d g, .ro [W Z] b a, .gr 0 2 l, V Z j], [.row 39 [W Z, W Z] b0_0 i]) => needs [decide (l = b0_0), (o8_0 d g b a l j i).isSome] (e8_0 d g b a ((o8_0 d g b a l j i).getD default) fun e vs bs => inBlk 0 k e (mkSt 0 34 [4, 5, 6] vs 1 bs))
  | _ => False
theorem z8_0 : LOk Try.prog g8_0 (.block 0 (bodyAt (Try.f8.body.getD .skip) 0)) := by
  refine lb (ι := Nat × Dat × Nat × Dat × Nat × Int × Dat) (fuel := 8) (na := 0) (nt := 34) (nx := 1) (Lh := [0, 1, 6, 7]) (Le := [4, 5, 6]) (gl := [⟨true, 6, 0, 0, 39, [W Z, W Z]⟩]) (tc k6 tn) mix_ok noLam rfl (fun f (d, g, b, a, l, j, i) K => GG default (e8_0 d g b a) K (l8_0 d g b a f l j i)) (fun (d, g, b, a, l, j, i) => [.ro [W Z, W Z] d g, .ro [W Z] b a, .gr 0 2 l, V Z j]) (fun (d, g, b, a, l, j, i) => [.row 39 [W Z, W Z] l i]) (fun (_, _, _, _, _, _, _) K => gg_none) ?_ ?_
  · rintro f ⟨d, g, b, a, l, j, i⟩ K hG
    refine ro (fun R => (cnd (decide (j < (↑b : Int)))
 (cnd (decide (0 ≤ j ∧ j < ↑b))
 (cnd (bif (m6 (a.ii j.toNat 0) 0 (Z.wrap ((↑d : Int) - 1))) then false else true)
 (R (XE.ret) [.nsl, .bool false, .gr 0 2 l] [.row 39 [W Z, W Z] l i])
 (cnd (decide (0 ≤ j ∧ j < ↑b))
 (cnd (decide ((0 : Int) ≤ a.ii j.toNat (0 : Nat) ∧ a.ii j.toNat (0 : Nat) < (↑d : Int)))
 (cnd (decide (l ≤ l))
 (cnd (decide ((l + 1) ≤ 1073741824))
 (R (XE.normal) [.ro [W Z, W Z] d g, .ro [W Z] b a, .gr 0 2 (l + 1), V Z (Z.wrap (j + 1))] [.row 39 [W Z, W Z] (l + 1) (i.app l (datS [V Z (g.ii ((a.ii j.toNat 0).toNat) 0), V Z (g.ii ((a.ii j.toNat 0).toNat) 1)] 2))])
        False)
       False)
      False)
     False))
   False)
 (R (XE.exit 0) [.any, .any, .gr 0 2 l] [.row 39 [W Z, W Z] l i]))) (fun R => by kernel_rfl) ?_
    exact ch hG (fun h0 => cg h0 fun h1 => ch h1 (fun h2 => h2.2) (fun h2 => cg h2 fun h3 => cg h3 fun h4 => cn (decide_eq_true (Nat.le_refl _)) (cg h4 fun h5 => ⟨(_, _, _, _, _, _, _), rfl, rfl, h5⟩))) (fun h0 => h0.2)
  · intro s k h
    unfold g8_0 at h
    split at h <;> try exact h.elim
    rename_i e1
    rw [needs_iff] at h
    have hq := h.1
    simp only [List.mem_cons, forall_eq_or_imp, decide_eq_true_eq, List.not_mem_nil, false_imp_iff, implies_true, and_true] at hq
    obtain ⟨rfl, hq⟩ := hq
    exact ⟨_, e1, _, (_, _, _, _, _, _, _), rfl, rfl, hq, h.2⟩
noncomputable def m8 (m : Nat) (n : Dat) (o : Nat) (p : Dat) : Nat × Dat × Bool :=
  (cond ((o8_0 m n o p 0 0 noDat).getD default).1 (0, noDat, ((o8_0 m n o p 0 0 noDat).getD default).2.1.1) (((o8_0 m n o p 0 0 noDat).getD default).2.2.1, ((o8_0 m n o p 0 0 noDat).getD default).2.2.2.2, true))
noncomputable def n8 (m : Nat) (n : Dat) (o : Nat) (p : Dat) : Bool :=
  (((o8_0 m n o p 0 0 noDat).isSome) && (cond ((o8_0 m n o p 0 0 noDat).getD default).1 true ((decide ((0 + ((o8_0 m n o p 0 0 noDat).getD default).2.2.1) ≤ ((o8_0 m n o p 0 0 noDat).getD default).2.2.2.1)) && true)))
noncomputable def q8 (r : Nat × Dat × Bool) : SV × List Blk × List Blk := (.tup [.ro [W Z, W Z] r.1 r.2.1, .bool r.2.2], [], [])
noncomputable def g8 : GF := fun vs bs => match vs, bs with
  | [.ro [W Z, W Z] m n, .ro [W Z] o p], [] => some (rs 0 (q8 (m8 m n o p)) [n8 m n o p])
  | _, _ => none
noncomputable def c8 : Ctr := genC [.ro [W Z, W Z], .ro [W Z]] g8
theorem k8 : CtrOk Try.prog c8 8 := cx (tc k6 tn) mix_ok 8 (fn := Try.f8) (c := (Try.f8.body.getD .skip)) (grs := []) (rh := .t [.ro [W Z, W Z], .k]) Try.func8 rfl (by kernel_rfl) (lam_of rfl (lc z8_0 ln)) fun vs bs q h hn => by
  unfold g8 at h
  split at h <;> cases h
  rename_i m n o p
  have hn := n1 hn
  exact ⟨_, rfl, ca (fun R => (cnd ((o8_0 m n o p 0 0 noDat).isSome)
 (cnd ((o8_0 m n o p 0 0 noDat).getD default).1
 (R (.tup [.ro [W Z, W Z] 0 noDat, .bool ((o8_0 m n o p 0 0 noDat).getD default).2.1.1]) [] [])
 (cnd (decide ((0 + ((o8_0 m n o p 0 0 noDat).getD default).2.2.1) ≤ ((o8_0 m n o p 0 0 noDat).getD default).2.2.2.1))
 (R (.tup [.ro [W Z, W Z] ((o8_0 m n o p 0 0 noDat).getD default).2.2.1 ((o8_0 m n o p 0 0 noDat).getD default).2.2.2.2, .bool true]) [] [])
    False))
  False)) (fun R => by kernel_rfl) (cn (al hn) (co (fun h0 => lf (cT h0 rfl) rfl) (fun h0 => cn (al (cf h0 (ar hn))) (lf (cF h0 rfl) rfl))))⟩
/-! ### (shotline/profile.track).leg -/
noncomputable def m36 (a : Nat) (b : Dat) (d : Int) : Int :=
  (Z.wrap (1 + (m41c42 (((↑a : Int) - 1).toNat) (b.shift 1) (datC [V Z d]))))
noncomputable def n36 (a : Nat) (b : Dat) (d : Int) : Bool :=
  ((decide ((0 : Int) ≤ (1 : Int) ∧ (1 : Int) ≤ (↑a : Int) ∧ (↑a : Int) ≤ (↑a : Int))) && ((n41c42 (((↑a : Int) - 1).toNat) (b.shift 1) (datC [V Z d])) && true))
noncomputable def q36 (r : Int) : SV × List Blk × List Blk := (V Z r, [], [])
noncomputable def g36 : GF := fun vs bs => match vs, bs with
  | [.ro [W Z, W Z] a b, V Z d], [] => some (rs 0 (q36 (m36 a b d)) [n36 a b d])
  | _, _ => none
noncomputable def c36 : Ctr := genC [.ro [W Z, W Z], .k] g36
theorem k36 : CtrOk Try.prog c36 36 := cx (tc k41c42 (tc k42 tn)) mix_ok 8 (fn := Try.f36) (c := (Try.f36.body.getD .skip)) (grs := []) (rh := .k) Try.func36 rfl (by kernel_rfl) noLam fun vs bs q h hn => by
  unfold g36 at h
  split at h <;> cases h
  rename_i a b d
  have hn := n1 hn
  exact ⟨_, rfl, ca (fun R => (cnd (decide ((0 : Int) ≤ (1 : Int) ∧ (1 : Int) ≤ (↑a : Int) ∧ (↑a : Int) ≤ (↑a : Int)))
 (cnd (n41c42 (((↑a : Int) - 1).toNat) (b.shift 1) (datC [V Z d]))
 (R (V Z (Z.wrap (1 + (m41c42 (((↑a : Int) - 1).toNat) (b.shift 1) (datC [V Z d]))))) [] [])
   False)
  False)) (fun R => by kernel_rfl) (cn (al hn) (cn (al (ar hn)) (lf rfl rfl)))⟩
/-! ### shotline/gas.CheckGas -/
noncomputable def m44 (a b : Int) : Int :=
  (cond (bif (decide ((m46 2 (datS [V Z (m47 a 0 1000), V Z (m47 b 0 1000)] 1)) = 0)) then false else true) (m46 2 (datS [V Z (m47 a 0 1000), V Z (m47 b 0 1000)] 1)) (cond (decide ((1000 : Int) < (Z.wrap (a + b)))) 23 0))
noncomputable def n44 (a b : Int) : Bool :=
  ((n46 2 (datS [V Z (m47 a 0 1000), V Z (m47 b 0 1000)] 1)) && true)
noncomputable def q44 (r : Int) : SV × List Blk × List Blk := (V Z r, [], [])
noncomputable def g44 : GF := fun vs bs => match vs, bs with
  | [.agg [V Z a, V Z b]], [] => some (rs 0 (q44 (m44 a b)) [n44 a b])
  | _, _ => none
noncomputable def c44 : Ctr := genC [.k] g44
theorem k44 : CtrOk Try.prog c44 44 := cx (tc k46 (tc k47 tn)) mix_ok 8 (fn := Try.f44) (c := (Try.f44.body.getD .skip)) (grs := []) (rh := .k) Try.func44 rfl (by kernel_rfl) noLam fun vs bs q h hn => by
  unfold g44 at h
  split at h <;> cases h
  rename_i a b
  have hn := n1 hn
  exact ⟨_, rfl, ca (fun R => (cnd (n46 2 (datS [V Z (m47 a 0 1000), V Z (m47 b 0 1000)] 1))
 (cnd (bif (decide ((m46 2 (datS [V Z (m47 a 0 1000), V Z (m47 b 0 1000)] 1)) = 0)) then false else true)
 (R (V Z (m46 2 (datS [V Z (m47 a 0 1000), V Z (m47 b 0 1000)] 1))) [] [])
 (cnd (decide ((1000 : Int) < (Z.wrap (a + b))))
 (R (V Z 23) [] [])
 (R (V Z 0) [] [])))
  False)) (fun R => by kernel_rfl) (cn (al hn) (co (fun h0 => lf (cT h0 rfl) rfl) (fun h0 => co (fun h1 => lf (cF h0 (cT h1 rfl)) rfl) (fun h1 => lf (cF h0 (cF h1 rfl)) rfl))))⟩
/-! ### shotline/profile.checkThin -/
noncomputable def m16 (a : Nat) (b : Dat) (d : Int) : Int :=
  (cond (bif (decide ((m24 a b) = 0)) then false else true) (m24 a b) (cond (bif (m20 d) then false else true) 2 0))
noncomputable def n16 (a : Nat) (b : Dat) (d : Int) : Bool :=
  ((n24 a b) && true)
noncomputable def q16 (r : Int) : SV × List Blk × List Blk := (V Z r, [], [])
noncomputable def g16 : GF := fun vs bs => match vs, bs with
  | [.ro [W Z, W Z] a b, V Z d], [] => some (rs 0 (q16 (m16 a b d)) [n16 a b d])
  | _, _ => none
noncomputable def c16 : Ctr := genC [.ro [W Z, W Z], .k] g16
theorem k16 : CtrOk Try.prog c16 16 := cx (tc k20 (tc k24 tn)) mix_ok 8 (fn := Try.f16) (c := (Try.f16.body.getD .skip)) (grs := []) (rh := .k) Try.func16 rfl (by kernel_rfl) noLam fun vs bs q h hn => by
  unfold g16 at h
  split at h <;> cases h
  rename_i a b d
  have hn := n1 hn
  exact ⟨_, rfl, ca (fun R => (cnd (n24 a b)
 (cnd (bif (decide ((m24 a b) = 0)) then false else true)
 (R (V Z (m24 a b)) [] [])
 (cnd (bif (m20 d) then false else true)
 (R (V Z 2) [] [])
 (R (V Z 0) [] [])))
  False)) (fun R => by kernel_rfl) (cn (al hn) (co (fun h0 => lf (cT h0 rfl) rfl) (fun h0 => co (fun h1 => lf (cF h0 (cT h1 rfl)) rfl) (fun h1 => lf (cF h0 (cF h1 rfl)) rfl))))⟩
/-! ### shotline/profile.checkBoth -/
noncomputable def m19 (a : Nat) (b : Dat) (d : Nat) (e : Dat) : Int :=
  (cond (bif (decide ((m24 a b) = 0)) then false else true) (m24 a b) (m24 d e))
noncomputable def n19 (a : Nat) (b : Dat) (d : Nat) (e : Dat) : Bool :=
  ((n24 a b) && (cond (bif (decide ((m24 a b) = 0)) then false else true) true ((n24 d e) && true)))
noncomputable def q19 (r : Int) : SV × List Blk × List Blk := (V Z r, [], [])
noncomputable def g19 : GF := fun vs bs => match vs, bs with
  | [.ro [W Z, W Z] a b, .ro [W Z, W Z] d e], [] => some (rs 0 (q19 (m19 a b d e)) [n19 a b d e])
  | _, _ => none
noncomputable def c19 : Ctr := genC [.ro [W Z, W Z], .ro [W Z, W Z]] g19
theorem k19 : CtrOk Try.prog c19 19 := cx (tc k24 tn) mix_ok 8 (fn := Try.f19) (c := (Try.f19.body.getD .skip)) (grs := []) (rh := .k) Try.func19 rfl (by kernel_rfl) noLam fun vs bs q h hn => by
  unfold g19 at h
  split at h <;> cases h
  rename_i a b d e
  have hn := n1 hn
  exact ⟨_, rfl, ca (fun R => (cnd (n24 a b)
 (cnd (bif (decide ((m24 a b) = 0)) then false else true)
 (R (V Z (m24 a b)) [] [])
 (cnd (n24 d e)
 (R (V Z (m24 d e)) [] [])
    False))
  False)) (fun R => by kernel_rfl) (cn (al hn) (co (fun h0 => lf (cT h0 rfl) rfl) (fun h0 => cn (al (cf h0 (ar hn))) (lf (cF h0 rfl) rfl))))⟩
/-! ### (shotline/profile.track).at -/
noncomputable def m26 (b : Nat) (a : Dat) (d : Int) : Int × Int :=
  (cond (bif (decide ((m36 b a d) = 0)) then true else (decide (d = (a.ii 0 0)))) ((a.ii 0 1), 1) (cond (decide (d = (a.ii ((m36 b a d).toNat) 0))) ((a.ii ((m36 b a d).toNat) 1), 1) ((Z.wrap ((Z.wrap ((a.ii ((Z.wrap ((m36 b a d) - 1)).toNat) 1) * (Z.wrap ((a.ii ((m36 b a d).toNat) 0) - d)))) + (Z.wrap ((a.ii ((m36 b a d).toNat) 1) * (Z.wrap (d - (a.ii ((Z.wrap ((m36 b a d) - 1)).toNat) 0))))))), (Z.wrap ((a.ii ((m36 b a d).toNat) 0) - (a.ii ((Z.wrap ((m36 b a d) - 1)).toNat) 0))))))
noncomputable def n26 (b : Nat) (a : Dat) (d : Int) : Bool :=
  ((n36 b a d) && ((bif (bif (bif (decide ((m36 b a d) = 0)) then false else true) then false else true) then true else (decide ((0 : Int) ≤ (0 : Int) ∧ (0 : Int) < (↑b : Int)))) && (cond (bif (decide ((m36 b a d) = 0)) then true else (decide (d = (a.ii 0 0)))) ((decide ((0 : Int) ≤ (0 : Int) ∧ (0 : Int) < (↑b : Int))) && true) ((decide (0 ≤ Z.wrap (m36 b a d - 1) ∧ Z.wrap (m36 b a d - 1) < (↑b : Int))) && ((decide (0 ≤ m36 b a d ∧ m36 b a d < (↑b : Int))) && true)))))
noncomputable def q26 (r : Int × Int) : SV × List Blk × List Blk := (.agg [V Z r.1, V Z r.2], [], [])
noncomputable def g26 : GF := fun vs bs => match vs, bs with
  | [.ro [W Z, W Z] b a, V Z d], [] => some (rs 0 (q26 (m26 b a d)) [n26 b a d])
  | _, _ => none
noncomputable def c26 : Ctr := genC [.ro [W Z, W Z], .k] g26
theorem k26 : CtrOk Try.prog c26 26 := cx (tc k36 tn) mix_ok 8 (fn := Try.f26) (c := (Try.f26.body.getD .skip)) (grs := []) (rh := .k) Try.func26 rfl (by kernel_rfl) noLam fun vs bs q h hn => by
  unfold g26 at h
  split at h <;> cases h
  rename_i b a d
  have hn := n1 hn
  exact ⟨_, rfl, ca (fun R => (cnd (n36 b a d)
 (cnd (bif (bif (bif (decide ((m36 b a d) = 0)) then false else true) then false else true) then true else (decide ((0 : Int) ≤ (0 : Int) ∧ (0 : Int) < (↑b : Int))))
 (cnd (bif (decide ((m36 b a d) = 0)) then true else (decide (d = (a.ii 0 0))))
 (cnd (decide ((0 : Int) ≤ (0 : Int) ∧ (0 : Int) < (↑b : Int)))
 (R (.agg [V Z (a.ii 0 1), V Z 1]) [] [])
     False)
 (cnd (decide (0 ≤ Z.wrap (m36 b a d - 1) ∧ Z.wrap (m36 b a d - 1) < (↑b : Int)))
 (cnd (decide (0 ≤ m36 b a d ∧ m36 b a d < (↑b : Int)))
 (cnd (decide (d = (a.ii ((m36 b a d).toNat) 0)))
 (R (.agg [V Z (a.ii ((m36 b a d).toNat) 1), V Z 1]) [] [])
 (R (.agg [V Z (Z.wrap ((Z.wrap ((a.ii ((Z.wrap ((m36 b a d) - 1)).toNat) 1) * (Z.wrap ((a.ii ((m36 b a d).toNat) 0) - d)))) + (Z.wrap ((a.ii ((m36 b a d).toNat) 1) * (Z.wrap (d - (a.ii ((Z.wrap ((m36 b a d) - 1)).toNat) 0))))))), V Z (Z.wrap ((a.ii ((m36 b a d).toNat) 0) - (a.ii ((Z.wrap ((m36 b a d) - 1)).toNat) 0)))]) [] []))
      False)
     False))
   False)
  False)) (fun R => by kernel_rfl) (cn (al hn) (cn (al (ar hn)) (co (fun h0 => cn (al (ct h0 (ar (ar hn)))) (lf (cT h0 rfl) rfl)) (fun h0 => cn (al (cf h0 (ar (ar hn)))) (cn (al (ar (cf h0 (ar (ar hn))))) (co (fun h1 => lf (cF h0 (cT h1 rfl)) rfl) (fun h1 => lf (cF h0 (cF h1 rfl)) rfl)))))))⟩
/-! ### shotline/profile.CheckPlan -/
noncomputable def l37_1 (t : Nat) (o : Dat) (C : Int) (d : ByteArray) (g : Int) (j : Dat) (A : Nat) (l : Dat) : Nat → Int → Option (Bool × (Int × Int) × (Unit))
  | 0, _ => none
  | f + 1, z => (cond (decide (z < C)) (cond (decide (0 ≤ z ∧ z < ↑t)) (cond (n44 (o.ii z.toNat 0) (o.ii z.toNat 1)) (cond (bif (decide ((m44 (o.ii z.toNat 0) (o.ii z.toNat 1)) = 0)) then false else true) (some (true, (0, (m44 (o.ii z.toNat 0) (o.ii z.toNat 1))), default)) (l37_1 t o C d g j A l f (Z.wrap (z + 1)))) none) none) (some (false, default, ())))
noncomputable abbrev o37_1 (t : Nat) (o : Dat) (C : Int) (d : ByteArray) (g : Int) (j : Dat) (A : Nat) (l : Dat) (z : Int) : Option (Bool × (Int × Int) × (Unit)) := l37_1 t o C d g j A l (t + C.toNat + z.toNat + d.size + g.toNat + A + 8) z
noncomputable def e37_1 (t : Nat) (o : Dat) (C : Int) (d : ByteArray) (g : Int) (j : Dat) (A : Nat) (l : Dat) (r : Bool × (Int × Int) × (Unit)) (K : XR) : Prop := cnd r.1 (K (XE.ret) [.ptr 0 0, V Z r.2.1.1, V Z r.2.1.2] [.cells 48 [.str d, V Z g, .ro [W Z, W Z] t j, .ro [W Z, W Z, W Z] A l]]) (K (XE.exit 1) [.ptr 0 0, .any, .any] [.cells 48 [.str d, V Z g, .ro [W Z, W Z] t j, .ro [W Z, W Z, W Z] A l]])
noncomputable def g37_1 : LSum := fun s k => match czv 0 85 [1, 31, 32, 33] 1 [] s with
  | some ([.ptr 0 0, .ro [W Z, W Z] t o, V Z C, V Z z], [.cells 48 [.str d, V Z g, .ro [W Z, W Z] v j, .ro [W Z, W Z, W Z] A l]]) => needs [decide (t = v), (o37_1 t o C d g j A l z).isSome] (e37_1 t o C d g j A l ((o37_1 t o C d g j A l z).getD default) fun e vs bs => inBlk 1 k e (mkSt 0 85 [1, 2, 3] vs 1 bs))
  | _ => False
theorem z37_1 : LOk Try.prog g37_1 (.block 1 (bodyAt (Try.f37.body.getD .skip) 1)) := by
  refine lb (ι := Nat × Dat × Int × Int × ByteArray × Int × Dat × Nat × Dat) (fuel := 8) (na := 0) (nt := 85) (nx := 1) (Lh := [1, 31, 32, 33]) (Le := [1, 2, 3]) (gl := []) (tc k25 (tc k43 (tc k44 tn))) mix_ok noLam rfl (fun f (t, o, C, z, d, g, j, A, l) K => GG default (e37_1 t o C d g j A l) K (l37_1 t o C d g j A l f z)) (fun (t, o, C, z, d, g, j, A, l) => [.ptr 0 0, .ro [W Z, W Z] t o, V Z C, V Z z]) (fun (t, o, C, z, d, g, j, A, l) => [.cells 48 [.str d, V Z g, .ro [W Z, W Z] t j, .ro [W Z, W Z, W Z] A l]]) (fun (_, _, _, _, _, _, _, _, _) K => gg_none) ?_ ?_
  · rintro f ⟨t, o, C, z, d, g, j, A, l⟩ K hG
    refine ro (fun R => (cnd (decide (z < C))
 (cnd (decide (0 ≤ z ∧ z < ↑t))
 (cnd (n44 (o.ii z.toNat 0) (o.ii z.toNat 1))
 (cnd (bif (decide ((m44 (o.ii z.toNat 0) (o.ii z.toNat 1)) = 0)) then false else true)
 (R (XE.ret) [.ptr 0 0, V Z 0, V Z (m44 (o.ii z.toNat 0) (o.ii z.toNat 1))] [.cells 48 [.str d, V Z g, .ro [W Z, W Z] t j, .ro [W Z, W Z, W Z] A l]])
 (R (XE.normal) [.ptr 0 0, .ro [W Z, W Z] t o, V Z C, V Z (Z.wrap (z + 1))] [.cells 48 [.str d, V Z g, .ro [W Z, W Z] t j, .ro [W Z, W Z, W Z] A l]]))
    False)
   False)
 (R (XE.exit 1) [.ptr 0 0, .any, .any] [.cells 48 [.str d, V Z g, .ro [W Z, W Z] t j, .ro [W Z, W Z, W Z] A l]]))) (fun R => by kernel_rfl) ?_
    exact ch hG (fun h0 => cg h0 fun h1 => cg h1 fun h2 => ch h2 (fun h3 => h3.2) (fun h3 => ⟨(_, _, _, _, _, _, _, _, _), rfl, rfl, h3⟩)) (fun h0 => h0.2)
  · intro s k h
    unfold g37_1 at h
    split at h <;> try exact h.elim
    rename_i e1
    rw [needs_iff] at h
    have hq := h.1
    simp only [List.mem_cons, forall_eq_or_imp, decide_eq_true_eq, List.not_mem_nil, false_imp_iff, implies_true, and_true] at hq
    obtain ⟨rfl, hq⟩ := hq
    exact ⟨_, e1, _, (_, _, _, _, _, _, _, _, _), rfl, rfl, hq, h.2⟩
noncomputable def l37_3 (p : Nat) (u : Dat) (D : Int) (d : ByteArray) (g : Int) (v : Nat) (j l : Dat) : Nat → Int → Int → Option (Bool × (Int × Int) × (Unit))
  | 0, _, _ => none
  | f + 1, E, x => (cond (decide (x < D)) (cond (decide (0 ≤ x ∧ x < ↑p)) (cond (bif (bif (m25 (u.ii x.toNat 0) 1 1000000) then false else true) then true else (bif (m25 (u.ii x.toNat 1) 0 30000) then false else true)) (some (true, (x, 2), default)) (cond (bif (m25 (u.ii x.toNat 2) 0 (Z.wrap ((↑v : Int) - 1))) then false else true) (some (true, (x, 6), default)) (cond (decide ((1000000 : Int) < (Z.wrap (E + (u.ii x.toNat 0))))) (some (true, (x, 8), default)) (l37_3 p u D d g v j l f (Z.wrap (E + (u.ii x.toNat 0))) (Z.wrap (x + 1)))))) none) (some (false, default, ())))
noncomputable abbrev o37_3 (p : Nat) (u : Dat) (D : Int) (d : ByteArray) (g : Int) (v : Nat) (j l : Dat) (E x : Int) : Option (Bool × (Int × Int) × (Unit)) := l37_3 p u D d g v j l (E.toNat + p + D.toNat + x.toNat + d.size + g.toNat + v + 8) E x
noncomputable def e37_3 (p : Nat) (u : Dat) (D : Int) (d : ByteArray) (g : Int) (v : Nat) (j l : Dat) (r : Bool × (Int × Int) × (Unit)) (K : XR) : Prop := cnd r.1 (K (XE.ret) [V Z r.2.1.1, V Z r.2.1.2] [.cells 48 [.str d, V Z g, .ro [W Z, W Z] v j, .ro [W Z, W Z, W Z] p l]]) (K (XE.exit 3) [.any, .any] [.cells 48 [.str d, V Z g, .ro [W Z, W Z] v j, .ro [W Z, W Z, W Z] p l]])
noncomputable def g37_3 : LSum := fun s k => match czv 0 85 [1, 7, 48, 49, 50] 1 [] s with
  | some ([.ptr 0 0, V Z E, .ro [W Z, W Z, W Z] p u, V Z D, V Z x], [.cells 48 [.str d, V Z g, .ro [W Z, W Z] v j, .ro [W Z, W Z, W Z] A l]]) => needs [decide (p = A), (o37_3 p u D d g v j l E x).isSome] (e37_3 p u D d g v j l ((o37_3 p u D d g v j l E x).getD default) fun e vs bs => inBlk 3 k e (mkSt 0 85 [2, 3] vs 1 bs))
  | _ => False
theorem z37_3 : LOk Try.prog g37_3 (.block 3 (bodyAt (Try.f37.body.getD .skip) 3)) := by
  refine lb (ι := Int × Nat × Dat × Int × Int × ByteArray × Int × Nat × Dat × Dat) (fuel := 8) (na := 0) (nt := 85) (nx := 1) (Lh := [1, 7, 48, 49, 50]) (Le := [2, 3]) (gl := []) (tc k25 (tc k43 (tc k44 tn))) mix_ok (lam_of rfl (lc z37_1 ln)) rfl (fun f (E, p, u, D, x, d, g, v, j, l) K => GG default (e37_3 p u D d g v j l) K (l37_3 p u D d g v j l f E x)) (fun (E, p, u, D, x, d, g, v, j, l) => [.ptr 0 0, V Z E, .ro [W Z, W Z, W Z] p u, V Z D, V Z x]) (fun (E, p, u, D, x, d, g, v, j, l) => [.cells 48 [.str d, V Z g, .ro [W Z, W Z] v j, .ro [W Z, W Z, W Z] p l]]) (fun (_, _, _, _, _, _, _, _, _, _) K => gg_none) ?_ ?_
  · rintro f ⟨E, p, u, D, x, d, g, v, j, l⟩ K hG
    refine ro (fun R => (cnd (decide (x < D))
 (cnd (decide (0 ≤ x ∧ x < ↑p))
 (cnd (bif (bif (m25 (u.ii x.toNat 0) 1 1000000) then false else true) then true else (bif (m25 (u.ii x.toNat 1) 0 30000) then false else true))
 (R (XE.ret) [V Z x, V Z 2] [.cells 48 [.str d, V Z g, .ro [W Z, W Z] v j, .ro [W Z, W Z, W Z] p l]])
 (cnd (bif (m25 (u.ii x.toNat 2) 0 (Z.wrap ((↑v : Int) - 1))) then false else true)
 (R (XE.ret) [V Z x, V Z 6] [.cells 48 [.str d, V Z g, .ro [W Z, W Z] v j, .ro [W Z, W Z, W Z] p l]])
 (cnd (decide ((1000000 : Int) < (Z.wrap (E + (u.ii x.toNat 0)))))
 (R (XE.ret) [V Z x, V Z 8] [.cells 48 [.str d, V Z g, .ro [W Z, W Z] v j, .ro [W Z, W Z, W Z] p l]])
 (R (XE.normal) [.ptr 0 0, V Z (Z.wrap (E + (u.ii x.toNat 0))), .ro [W Z, W Z, W Z] p u, V Z D, V Z (Z.wrap (x + 1))] [.cells 48 [.str d, V Z g, .ro [W Z, W Z] v j, .ro [W Z, W Z, W Z] p l]]))))
   False)
 (R (XE.exit 3) [.any, .any] [.cells 48 [.str d, V Z g, .ro [W Z, W Z] v j, .ro [W Z, W Z, W Z] p l]]))) (fun R => by kernel_rfl) ?_
    exact ch hG (fun h0 => cg h0 fun h1 => ch h1 (fun h2 => h2.2) (fun h2 => ch h2 (fun h3 => h3.2) (fun h3 => ch h3 (fun h4 => h4.2) (fun h4 => ⟨(_, _, _, _, _, _, _, _, _, _), rfl, rfl, h4⟩)))) (fun h0 => h0.2)
  · intro s k h
    unfold g37_3 at h
    split at h <;> try exact h.elim
    rename_i e1
    rw [needs_iff] at h
    have hq := h.1
    simp only [List.mem_cons, forall_eq_or_imp, decide_eq_true_eq, List.not_mem_nil, false_imp_iff, implies_true, and_true] at hq
    obtain ⟨rfl, hq⟩ := hq
    exact ⟨_, e1, _, (_, _, _, _, _, _, _, _, _, _), rfl, rfl, hq, h.2⟩
noncomputable def m37 (w : ByteArray) (y : Int) (b : Nat) (m : Dat) (i : Nat) (n : Dat) : Int × Int :=
  (cond (bif (m43 w) then false else true) (0, 4) (cond (bif (m25 y 400 1100) then false else true) (0, 2) (cond (decide ((↑b : Int) = 0)) (0, 10) (cond (decide (8 < (↑b : Int))) (0, 8) (cond ((o37_1 b m (↑b : Int) w y m i n 0).getD default).1 (((o37_1 b m (↑b : Int) w y m i n 0).getD default).2.1.1, ((o37_1 b m (↑b : Int) w y m i n 0).getD default).2.1.2) (cond (decide ((60 : Int) < (↑i : Int))) (0, 8) (cond ((o37_3 i n (↑i : Int) w y b m n 0 0).getD default).1 (((o37_3 i n (↑i : Int) w y b m n 0 0).getD default).2.1.1, ((o37_3 i n (↑i : Int) w y b m n 0 0).getD default).2.1.2) (0, 0))))))))
noncomputable def n37 (w : ByteArray) (y : Int) (b : Nat) (m : Dat) (i : Nat) (n : Dat) : Bool :=
  ((n43 w) && (cond (bif (m43 w) then false else true) true (cond (bif (m25 y 400 1100) then false else true) true (cond (decide ((↑b : Int) = 0)) true (cond (decide (8 < (↑b : Int))) true (((o37_1 b m (↑b : Int) w y m i n 0).isSome) && (cond ((o37_1 b m (↑b : Int) w y m i n 0).getD default).1 true (cond (decide ((60 : Int) < (↑i : Int))) true (((o37_3 i n (↑i : Int) w y b m n 0 0).isSome) && true)))))))))
noncomputable def q37 (r : Int × Int) : SV × List Blk × List Blk := (.tup [V Z r.1, V Z r.2], [], [])
noncomputable def g37 : GF := fun vs bs => match vs, bs with
  | [.agg [.str w, V Z y, .ro [W Z, W Z] b m, .ro [W Z, W Z, W Z] i n]], [] => some (rs 0 (q37 (m37 w y b m i n)) [n37 w y b m i n])
  | _, _ => none
noncomputable def c37 : Ctr := genC [.a [.k, .k, .ro [W Z, W Z], .ro [W Z, W Z, W Z]]] g37
theorem k37 : CtrOk Try.prog c37 37 := cx (tc k25 (tc k43 (tc k44 tn))) mix_ok 8 (fn := Try.f37) (c := (Try.f37.body.getD .skip)) (grs := []) (rh := .k) Try.func37 rfl (by kernel_rfl) (lam_of rfl (lc z37_1 (lc z37_3 ln))) fun vs bs q h hn => by
  unfold g37 at h
  split at h <;> cases h
  rename_i w y b m i n
  have hn := n1 hn
  exact ⟨_, rfl, ca (fun R => (cnd (n43 w)
 (cnd (bif (m43 w) then false else true)
 (R (.tup [V Z 0, V Z 4]) [] [])
 (cnd (bif (m25 y 400 1100) then false else true)
 (R (.tup [V Z 0, V Z 2]) [] [])
 (cnd (decide ((↑b : Int) = 0))
 (R (.tup [V Z 0, V Z 10]) [] [])
 (cnd (decide (8 < (↑b : Int)))
 (R (.tup [V Z 0, V Z 8]) [] [])
 (cnd (decide (b = b))
 (cnd ((o37_1 b m (↑b : Int) w y m i n 0).isSome)
 (cnd ((o37_1 b m (↑b : Int) w y m i n 0).getD default).1
 (R (.tup [V Z ((o37_1 b m (↑b : Int) w y m i n 0).getD default).2.1.1, V Z ((o37_1 b m (↑b : Int) w y m i n 0).getD default).2.1.2]) [] [])
 (cnd (decide ((60 : Int) < (↑i : Int)))
 (R (.tup [V Z 0, V Z 8]) [] [])
 (cnd (decide (i = i))
 (cnd ((o37_3 i n (↑i : Int) w y b m n 0 0).isSome)
 (cnd ((o37_3 i n (↑i : Int) w y b m n 0 0).getD default).1
 (R (.tup [V Z ((o37_3 i n (↑i : Int) w y b m n 0 0).getD default).2.1.1, V Z ((o37_3 i n (↑i : Int) w y b m n 0 0).getD default).2.1.2]) [] [])
 (R (.tup [V Z 0, V Z 0]) [] []))
            False)
           False)))
        False)
       False)))))
  False)) (fun R => by kernel_rfl) (cn (al hn) (co (fun h0 => lf (cT h0 rfl) rfl) (fun h0 => co (fun h1 => lf (cF h0 (cT h1 rfl)) rfl) (fun h1 => co (fun h2 => lf (cF h0 (cF h1 (cT h2 rfl))) rfl) (fun h2 => co (fun h3 => lf (cF h0 (cF h1 (cF h2 (cT h3 rfl)))) rfl) (fun h3 => cn (decide_eq_true rfl) (cn (al (cf h3 (cf h2 (cf h1 (cf h0 (ar hn)))))) (co (fun h4 => lf (cF h0 (cF h1 (cF h2 (cF h3 (cT h4 rfl))))) rfl) (fun h4 => co (fun h5 => lf (cF h0 (cF h1 (cF h2 (cF h3 (cF h4 (cT h5 rfl)))))) rfl) (fun h5 => cn (decide_eq_true rfl) (cn (al (cf h5 (cf h4 (ar (cf h3 (cf h2 (cf h1 (cf h0 (ar hn))))))))) (co (fun h6 => lf (cF h0 (cF h1 (cF h2 (cF h3 (cF h4 (cF h5 (cT h6 rfl))))))) rfl) (fun h6 => lf (cF h0 (cF h1 (cF h2 (cF h3 (cF h4 (cF h5 (cF h6 rfl))))))) rfl)))))))))))))⟩
/-! ### shotline/profile.apart -/
noncomputable def m35 (b : Nat) (d : Dat) (e : Nat) (g : Dat) (a : Int) : Int × Int :=
  ((imax (Z.wrap ((Z.wrap ((m26 b d a).1 * (m26 e g a).2)) - (Z.wrap ((m26 e g a).1 * (m26 b d a).2)))) (Z.wrap (0 - (Z.wrap ((Z.wrap ((m26 b d a).1 * (m26 e g a).2)) - (Z.wrap ((m26 e g a).1 * (m26 b d a).2))))))), (Z.wrap ((m26 b d a).2 * (m26 e g a).2)))
noncomputable def n35 (b : Nat) (d : Dat) (e : Nat) (g : Dat) (a : Int) : Bool :=
  ((n26 b d a) && ((n26 e g a) && true))
noncomputable def q35 (r : Int × Int) : SV × List Blk × List Blk := (.agg [V Z r.1, V Z r.2], [], [])
noncomputable def g35 : GF := fun vs bs => match vs, bs with
  | [.ro [W Z, W Z] b d, .ro [W Z, W Z] e g, V Z a], [] => some (rs 0 (q35 (m35 b d e g a)) [n35 b d e g a])
  | _, _ => none
noncomputable def c35 : Ctr := genC [.ro [W Z, W Z], .ro [W Z, W Z], .k] g35
theorem k35 : CtrOk Try.prog c35 35 := cx (tc k26 tn) mix_ok 8 (fn := Try.f35) (c := (Try.f35.body.getD .skip)) (grs := []) (rh := .k) Try.func35 rfl (by kernel_rfl) noLam fun vs bs q h hn => by
  unfold g35 at h
  split at h <;> cases h
  rename_i b d e g a
  have hn := n1 hn
  exact ⟨_, rfl, ca (fun R => (cnd (n26 b d a)
 (cnd (n26 e g a)
 (R (.agg [V Z (imax (Z.wrap ((Z.wrap ((m26 b d a).1 * (m26 e g a).2)) - (Z.wrap ((m26 e g a).1 * (m26 b d a).2)))) (Z.wrap (0 - (Z.wrap ((Z.wrap ((m26 b d a).1 * (m26 e g a).2)) - (Z.wrap ((m26 e g a).1 * (m26 b d a).2))))))), V Z (Z.wrap ((m26 b d a).2 * (m26 e g a).2))]) [] [])
   False)
  False)) (fun R => by kernel_rfl) (cn (al hn) (cn (al (ar hn)) (lf rfl rfl)))⟩
/-! ### shotline/profile.check -/
noncomputable def l28_0 (d : Nat) (a : Dat) (i : Int) : Nat → Int → Option (Bool × (Int) × (Unit))
  | 0, _ => none
  | f + 1, b => (cond (decide (b < i)) (cond (decide (0 ≤ b ∧ b < ↑d)) (cond (n37 (a.ss b.toNat 0) (a.ii b.toNat 1) (a.sn b.toNat 2) (a.sub b.toNat 2) (a.sn b.toNat 3) (a.sub b.toNat 3)) (cond (bif (decide ((m37 (a.ss b.toNat 0) (a.ii b.toNat 1) (a.sn b.toNat 2) (a.sub b.toNat 2) (a.sn b.toNat 3) (a.sub b.toNat 3)).2 = 0)) then false else true) (some (true, (m37 (a.ss b.toNat 0) (a.ii b.toNat 1) (a.sn b.toNat 2) (a.sub b.toNat 2) (a.sn b.toNat 3) (a.sub b.toNat 3)).2, default)) (l28_0 d a i f (Z.wrap (b + 1)))) none) none) (some (false, default, ())))
noncomputable abbrev o28_0 (d : Nat) (a : Dat) (i b : Int) : Option (Bool × (Int) × (Unit)) := l28_0 d a i (d + i.toNat + b.toNat + 8) b
noncomputable def e28_0 (d : Nat) (a : Dat) (i : Int) (r : Bool × (Int) × (Unit)) (K : XR) : Prop := cnd r.1 (K (XE.ret) [V Z r.2.1] []) (K (XE.exit 0) [.any] [])
noncomputable def g28_0 : LSum := fun s k => match czv 0 22 [7, 8, 9] 0 [] s with
  | some ([.ro [.str, W Z, .sl [W Z, W Z], .sl [W Z, W Z, W Z]] d a, V Z i, V Z b], []) => needs [(o28_0 d a i b).isSome] (e28_0 d a i ((o28_0 d a i b).getD default) fun e vs bs => inBlk 0 k e (mkSt 0 22 [2] vs 0 bs))
  | _ => False
theorem z28_0 : LOk Try.prog g28_0 (.block 0 (bodyAt (Try.f28.body.getD .skip) 0)) := by
  refine lb (ι := Nat × Dat × Int × Int) (fuel := 8) (na := 0) (nt := 22) (nx := 0) (Lh := [7, 8, 9]) (Le := [2]) (gl := []) (tc k37 tn) mix_ok noLam rfl (fun f (d, a, i, b) K => GG default (e28_0 d a i) K (l28_0 d a i f b)) (fun (d, a, i, b) => [.ro [.str, W Z, .sl [W Z, W Z], .sl [W Z, W Z, W Z]] d a, V Z i, V Z b]) (fun (d, a, i, b) => []) (fun (_, _, _, _) K => gg_none) ?_ ?_
  · rintro f ⟨d, a, i, b⟩ K hG
    refine ro (fun R => (cnd (decide (b < i))
 (cnd (decide (0 ≤ b ∧ b < ↑d))
 (cnd (n37 (a.ss b.toNat 0) (a.ii b.toNat 1) (a.sn b.toNat 2) (a.sub b.toNat 2) (a.sn b.toNat 3) (a.sub b.toNat 3))
 (cnd (bif (decide ((m37 (a.ss b.toNat 0) (a.ii b.toNat 1) (a.sn b.toNat 2) (a.sub b.toNat 2) (a.sn b.toNat 3) (a.sub b.toNat 3)).2 = 0)) then false else true)
 (R (XE.ret) [V Z (m37 (a.ss b.toNat 0) (a.ii b.toNat 1) (a.sn b.toNat 2) (a.sub b.toNat 2) (a.sn b.toNat 3) (a.sub b.toNat 3)).2] [])
 (R (XE.normal) [.ro [.str, W Z, .sl [W Z, W Z], .sl [W Z, W Z, W Z]] d a, V Z i, V Z (Z.wrap (b + 1))] []))
    False)
   False)
 (R (XE.exit 0) [.any] []))) (fun R => by kernel_rfl) ?_
    exact ch hG (fun h0 => cg h0 fun h1 => cg h1 fun h2 => ch h2 (fun h3 => h3.2) (fun h3 => ⟨(_, _, _, _), rfl, rfl, h3⟩)) (fun h0 => h0.2)
  · intro s k h
    unfold g28_0 at h
    split at h <;> try exact h.elim
    rename_i e1
    rw [needs_iff] at h
    exact ⟨_, e1, _, (_, _, _, _), rfl, rfl, h.1 _ (List.mem_singleton.2 rfl), h.2⟩
noncomputable def m28 (g : Nat) (j : Dat) : Int :=
  (cond ((o28_0 g j (↑g : Int) 0).getD default).1 ((o28_0 g j (↑g : Int) 0).getD default).2.1 0)
noncomputable def n28 (g : Nat) (j : Dat) : Bool :=
  (((o28_0 g j (↑g : Int) 0).isSome) && true)
noncomputable def q28 (r : Int) : SV × List Blk × List Blk := (V Z r, [], [])
noncomputable def g28 : GF := fun vs bs => match vs, bs with
  | [.ro [.str, W Z, .sl [W Z, W Z], .sl [W Z, W Z, W Z]] g j], [] => some (rs 0 (q28 (m28 g j)) [n28 g j])
  | _, _ => none
noncomputable def c28 : Ctr := genC [.ro [.str, W Z, .sl [W Z, W Z], .sl [W Z, W Z, W Z]]] g28
theorem k28 : CtrOk Try.prog c28 28 := cx (tc k37 tn) mix_ok 8 (fn := Try.f28) (c := (Try.f28.body.getD .skip)) (grs := []) (rh := .k) Try.func28 rfl (by kernel_rfl) (lam_of rfl (lc z28_0 ln)) fun vs bs q h hn => by
  unfold g28 at h
  split at h <;> cases h
  rename_i g j
  have hn := n1 hn
  exact ⟨_, rfl, ca (fun R => (cnd ((o28_0 g j (↑g : Int) 0).isSome)
 (cnd ((o28_0 g j (↑g : Int) 0).getD default).1
 (R (V Z ((o28_0 g j (↑g : Int) 0).getD default).2.1) [] [])
 (R (V Z 0) [] []))
  False)) (fun R => by kernel_rfl) (cn (al hn) (co (fun h0 => lf (cT h0 rfl) rfl) (fun h0 => lf (cF h0 rfl) rfl)))⟩
/-! ### shotline/profile.DepthOf -/
noncomputable def m10 (a : Nat) (b : Dat) (d : Int) : Int × Int × Int :=
  (cond (bif (decide ((m24 a b) = 0)) then false else true) (0, 0, (m24 a b)) (cond (bif (m25 d (b.ii 0 0) (b.ii ((Z.wrap ((↑a : Int) - 1)).toNat) 0)) then false else true) (0, 0, 2) ((m27 (m26 a b d).1 (m26 a b d).2).1, (m27 (m26 a b d).1 (m26 a b d).2).2, 0)))
noncomputable def n10 (a : Nat) (b : Dat) (d : Int) : Bool :=
  ((n24 a b) && (cond (bif (decide ((m24 a b) = 0)) then false else true) true ((decide ((0 : Int) ≤ (0 : Int) ∧ (0 : Int) < (↑a : Int))) && ((decide (0 ≤ Z.wrap ((↑a : Int) - 1) ∧ Z.wrap ((↑a : Int) - 1) < (↑a : Int))) && (cond (bif (m25 d (b.ii 0 0) (b.ii ((Z.wrap ((↑a : Int) - 1)).toNat) 0)) then false else true) true ((n26 a b d) && ((n27 (m26 a b d).1 (m26 a b d).2) && true)))))))
noncomputable def q10 (r : Int × Int × Int) : SV × List Blk × List Blk := (.tup [.agg [V Z r.1, V Z r.2.1], V Z r.2.2], [], [])
noncomputable def g10 : GF := fun vs bs => match vs, bs with
  | [.ro [W Z, W Z] a b, V Z d], [] => some (rs 0 (q10 (m10 a b d)) [n10 a b d])
  | _, _ => none
noncomputable def c10 : Ctr := genC [.ro [W Z, W Z], .k] g10
theorem k10 : CtrOk Try.prog c10 10 := cx (tc k24 (tc k25 (tc k26 (tc k27 tn)))) mix_ok 8 (fn := Try.f10) (c := (Try.f10.body.getD .skip)) (grs := []) (rh := .k) Try.func10 rfl (by kernel_rfl) noLam fun vs bs q h hn => by
  unfold g10 at h
  split at h <;> cases h
  rename_i a b d
  have hn := n1 hn
  exact ⟨_, rfl, ca (fun R => (cnd (n24 a b)
 (cnd (bif (decide ((m24 a b) = 0)) then false else true)
 (R (.tup [.agg [V Z 0, V Z 0], V Z (m24 a b)]) [] [])
 (cnd (decide ((0 : Int) ≤ (0 : Int) ∧ (0 : Int) < (↑a : Int)))
 (cnd (decide (0 ≤ Z.wrap ((↑a : Int) - 1) ∧ Z.wrap ((↑a : Int) - 1) < (↑a : Int)))
 (cnd (bif (m25 d (b.ii 0 0) (b.ii ((Z.wrap ((↑a : Int) - 1)).toNat) 0)) then false else true)
 (R (.tup [.agg [V Z 0, V Z 0], V Z 2]) [] [])
 (cnd (n26 a b d)
 (cnd (n27 (m26 a b d).1 (m26 a b d).2)
 (R (.tup [.agg [V Z (m27 (m26 a b d).1 (m26 a b d).2).1, V Z (m27 (m26 a b d).1 (m26 a b d).2).2], V Z 0]) [] [])
        False)
       False))
     False)
    False))
  False)) (fun R => by kernel_rfl) (cn (al hn) (co (fun h0 => lf (cT h0 rfl) rfl) (fun h0 => cn (al (cf h0 (ar hn))) (cn (al (ar (cf h0 (ar hn)))) (co (fun h1 => lf (cF h0 (cT h1 rfl)) rfl) (fun h1 => cn (al (cf h1 (ar (ar (cf h0 (ar hn)))))) (cn (al (ar (cf h1 (ar (ar (cf h0 (ar hn))))))) (lf (cF h0 (cF h1 rfl)) rfl))))))))⟩
/-! ### shotline/profile.PlanSeconds -/
noncomputable def m12 (i : ByteArray) (j : Int) (b : Nat) (d : Dat) (e : Nat) (g : Dat) : Int × Int :=
  (cond (bif (decide ((m28 1 (datS [SV.str i, V Z j, SV.ro [Kd.int Z, Kd.int Z] b d, SV.ro [Kd.int Z, Kd.int Z, Kd.int Z] e g] 4)) = 0)) then false else true) (0, (m28 1 (datS [SV.str i, V Z j, SV.ro [Kd.int Z, Kd.int Z] b d, SV.ro [Kd.int Z, Kd.int Z, Kd.int Z] e g] 4))) ((m30 (m29 i j b d e g).1 (m29 i j b d e g).2), 0))
noncomputable def n12 (i : ByteArray) (j : Int) (b : Nat) (d : Dat) (e : Nat) (g : Dat) : Bool :=
  ((n28 1 (datS [SV.str i, V Z j, SV.ro [Kd.int Z, Kd.int Z] b d, SV.ro [Kd.int Z, Kd.int Z, Kd.int Z] e g] 4)) && (cond (bif (decide ((m28 1 (datS [SV.str i, V Z j, SV.ro [Kd.int Z, Kd.int Z] b d, SV.ro [Kd.int Z, Kd.int Z, Kd.int Z] e g] 4)) = 0)) then false else true) true ((n29 i j b d e g) && ((n30 (m29 i j b d e g).1 (m29 i j b d e g).2) && true))))
noncomputable def q12 (r : Int × Int) : SV × List Blk × List Blk := (.tup [V Z r.1, V Z r.2], [], [])
noncomputable def g12 : GF := fun vs bs => match vs, bs with
  | [.agg [.str i, V Z j, .ro [W Z, W Z] b d, .ro [W Z, W Z, W Z] e g]], [] => some (rs 0 (q12 (m12 i j b d e g)) [n12 i j b d e g])
  | _, _ => none
noncomputable def c12 : Ctr := genC [.a [.k, .k, .ro [W Z, W Z], .ro [W Z, W Z, W Z]]] g12
theorem k12 : CtrOk Try.prog c12 12 := cx (tc k28 (tc k29 (tc k30 tn))) mix_ok 8 (fn := Try.f12) (c := (Try.f12.body.getD .skip)) (grs := []) (rh := .k) Try.func12 rfl (by kernel_rfl) noLam fun vs bs q h hn => by
  unfold g12 at h
  split at h <;> cases h
  rename_i i j b d e g
  have hn := n1 hn
  exact ⟨_, rfl, ca (fun R => (cnd (n28 1 (datS [SV.str i, V Z j, SV.ro [Kd.int Z, Kd.int Z] b d, SV.ro [Kd.int Z, Kd.int Z, Kd.int Z] e g] 4))
 (cnd (bif (decide ((m28 1 (datS [SV.str i, V Z j, SV.ro [Kd.int Z, Kd.int Z] b d, SV.ro [Kd.int Z, Kd.int Z, Kd.int Z] e g] 4)) = 0)) then false else true)
 (R (.tup [V Z 0, V Z (m28 1 (datS [SV.str i, V Z j, SV.ro [Kd.int Z, Kd.int Z] b d, SV.ro [Kd.int Z, Kd.int Z, Kd.int Z] e g] 4))]) [] [])
 (cnd (n29 i j b d e g)
 (cnd (n30 (m29 i j b d e g).1 (m29 i j b d e g).2)
 (R (.tup [V Z (m30 (m29 i j b d e g).1 (m29 i j b d e g).2), V Z 0]) [] [])
     False)
    False))
  False)) (fun R => by kernel_rfl) (cn (al hn) (co (fun h0 => lf (cT h0 rfl) rfl) (fun h0 => cn (al (cf h0 (ar hn))) (cn (al (ar (cf h0 (ar hn)))) (lf (cF h0 rfl) rfl)))))⟩
/-! ### (shotline/profile.track).allowed$1 -/
noncomputable def m39 (a d : Int) (e b : Dat) : Bool :=
  (m22 (e.ii 0 0) 1 (m35 (b.sn 0 0) (b.sub 0 0) 2 (datS [V Z a, V Z d, V Z (Z.wrap (a + 1)), V Z 0] 2) a).1 (m35 (b.sn 0 0) (b.sub 0 0) 2 (datS [V Z a, V Z d, V Z (Z.wrap (a + 1)), V Z 0] 2) a).2)
noncomputable def n39 (a d : Int) (e b : Dat) : Bool :=
  ((n35 (b.sn 0 0) (b.sub 0 0) 2 (datS [V Z a, V Z d, V Z (Z.wrap (a + 1)), V Z 0] 2) a) && true)
noncomputable def q39 (r : Bool) : SV × List Blk × List Blk := (.bool r, [], [])
noncomputable def g39 : GF := fun vs bs => match vs, bs with
  | [.agg [V Z a, V Z d], .rp [W Z] e 0 0, .rp [.sl [W Z, W Z]] b 0 0], [] => some (rs 0 (q39 (m39 a d e b)) [n39 a d e b])
  | _, _ => none
noncomputable def c39 : Ctr := genC [.k, .rp [W Z], .rp [.sl [W Z, W Z]]] g39
theorem k39 : CtrOk Try.prog c39 39 := cx (tc k22 (tc k35 tn)) mix_ok 8 (fn := Try.f39) (c := (Try.f39.body.getD .skip)) (grs := []) (rh := .k) Try.func39 rfl (by kernel_rfl) noLam fun vs bs q h hn => by
  unfold g39 at h
  split at h <;> cases h
  rename_i a d e b
  have hn := n1 hn
  exact ⟨_, rfl, ca (fun R => (cnd (n35 (b.sn 0 0) (b.sub 0 0) 2 (datS [V Z a, V Z d, V Z (Z.wrap (a + 1)), V Z 0] 2) a)
 (R (.bool (m22 (e.ii 0 0) 1 (m35 (b.sn 0 0) (b.sub 0 0) 2 (datS [V Z a, V Z d, V Z (Z.wrap (a + 1)), V Z 0] 2) a).1 (m35 (b.sn 0 0) (b.sub 0 0) 2 (datS [V Z a, V Z d, V Z (Z.wrap (a + 1)), V Z 0] 2) a).2)) [] [])
  False)) (fun R => by kernel_rfl) (cn (al hn) (lf rfl rfl))⟩
/-! ### slices.IndexFunc[shotline/profile.track,shotline/api.DivePoint] -/
noncomputable def l41c39_0 (g : Nat) (a b d : Dat) (l : Int) : Nat → Int → Option (Bool × (Int) × (Unit))
  | 0, _ => none
  | f + 1, i => (cond (decide (i < l)) (cond (decide (0 ≤ i ∧ i < ↑g)) (cond (n39 (a.ii i.toNat 0) (a.ii i.toNat 1) b d) (cond (m39 (a.ii i.toNat 0) (a.ii i.toNat 1) b d) (some (true, i, default)) (l41c39_0 g a b d l f (Z.wrap (i + 1)))) none) none) (some (false, default, ())))
noncomputable abbrev o41c39_0 (g : Nat) (a b d : Dat) (l i : Int) : Option (Bool × (Int) × (Unit)) := l41c39_0 g a b d l (g + l.toNat + i.toNat + 8) i
noncomputable def e41c39_0 (g : Nat) (a b d : Dat) (l : Int) (r : Bool × (Int) × (Unit)) (K : XR) : Prop := cnd r.1 (K (XE.ret) [V Z r.2.1] []) (K (XE.exit 0) [.any] [])
noncomputable def g41c39_0 : LSum := fun s k => match czv 0 19 [0, 1, 7, 8] 0 [] s with
  | some ([.ro [W Z, W Z] g a, .fn 39 [.rp [W Z] b 0 0, .rp [.sl [W Z, W Z]] d 0 0], V Z l, V Z i], []) => needs [(o41c39_0 g a b d l i).isSome] (e41c39_0 g a b d l ((o41c39_0 g a b d l i).getD default) fun e vs bs => inBlk 0 k e (mkSt 0 19 [4] vs 0 bs))
  | _ => False
theorem z41c39_0 : LOk Try.prog g41c39_0 (.block 0 (bodyAt (Try.f41.body.getD .skip) 0)) := by
  refine lb (ι := Nat × Dat × Dat × Dat × Int × Int) (fuel := 8) (na := 0) (nt := 19) (nx := 0) (Lh := [0, 1, 7, 8]) (Le := [4]) (gl := []) (tc k39 tn) mix_ok noLam rfl (fun f (g, a, b, d, l, i) K => GG default (e41c39_0 g a b d l) K (l41c39_0 g a b d l f i)) (fun (g, a, b, d, l, i) => [.ro [W Z, W Z] g a, .fn 39 [.rp [W Z] b 0 0, .rp [.sl [W Z, W Z]] d 0 0], V Z l, V Z i]) (fun (g, a, b, d, l, i) => []) (fun (_, _, _, _, _, _) K => gg_none) ?_ ?_
  · rintro f ⟨g, a, b, d, l, i⟩ K hG
    refine ro (fun R => (cnd (decide (i < l))
 (cnd (decide (0 ≤ i ∧ i < ↑g))
 (cnd (n39 (a.ii i.toNat 0) (a.ii i.toNat 1) b d)
 (cnd (m39 (a.ii i.toNat 0) (a.ii i.toNat 1) b d)
 (R (XE.ret) [V Z i] [])
 (R (XE.normal) [.ro [W Z, W Z] g a, .fn 39 [.rp [W Z] b 0 0, .rp [.sl [W Z, W Z]] d 0 0], V Z l, V Z (Z.wrap (i + 1))] []))
    False)
   False)
 (R (XE.exit 0) [.any] []))) (fun R => by kernel_rfl) ?_
    exact ch hG (fun h0 => cg h0 fun h1 => cg h1 fun h2 => ch h2 (fun h3 => h3.2) (fun h3 => ⟨(_, _, _, _, _, _), rfl, rfl, h3⟩)) (fun h0 => h0.2)
  · intro s k h
    unfold g41c39_0 at h
    split at h <;> try exact h.elim
    rename_i e1
    rw [needs_iff] at h
    exact ⟨_, e1, _, (_, _, _, _, _, _), rfl, rfl, h.1 _ (List.mem_singleton.2 rfl), h.2⟩
noncomputable def m41c39 (j : Nat) (m da1c0 da1c1 : Dat) : Int :=
  (cond ((o41c39_0 j m da1c0 da1c1 (↑j : Int) 0).getD default).1 ((o41c39_0 j m da1c0 da1c1 (↑j : Int) 0).getD default).2.1 (-1))
noncomputable def n41c39 (j : Nat) (m da1c0 da1c1 : Dat) : Bool :=
  (((o41c39_0 j m da1c0 da1c1 (↑j : Int) 0).isSome) && true)
noncomputable def q41c39 (r : Int) : SV × List Blk × List Blk := (V Z r, [], [])
noncomputable def g41c39 : GF := fun vs bs => match vs, bs with
  | [.ro [W Z, W Z] j m, .fn 39 [.rp [W Z] da1c0 0 0, .rp [.sl [W Z, W Z]] da1c1 0 0]], [] => some (rs 0 (q41c39 (m41c39 j m da1c0 da1c1)) [n41c39 j m da1c0 da1c1])
  | _, _ => none
noncomputable def c41c39 : Ctr := genC [.ro [W Z, W Z], .f [.rp [W Z], .rp [.sl [W Z, W Z]]]] g41c39
theorem k41c39 : CtrOk Try.prog c41c39 41 := cx (tc k39 tn) mix_ok 8 (fn := Try.f41) (c := (Try.f41.body.getD .skip)) (grs := []) (rh := .k) Try.func41 rfl (by kernel_rfl) (lam_of rfl (lc z41c39_0 ln)) fun vs bs q h hn => by
  unfold g41c39 at h
  split at h <;> cases h
  rename_i j m da1c0 da1c1
  have hn := n1 hn
  exact ⟨_, rfl, ca (fun R => (cnd ((o41c39_0 j m da1c0 da1c1 (↑j : Int) 0).isSome)
 (cnd ((o41c39_0 j m da1c0 da1c1 (↑j : Int) 0).getD default).1
 (R (V Z ((o41c39_0 j m da1c0 da1c1 (↑j : Int) 0).getD default).2.1) [] [])
 (R (V Z (-1)) [] []))
  False)) (fun R => by kernel_rfl) (cn (al hn) (co (fun h0 => lf (cT h0 rfl) rfl) (fun h0 => lf (cF h0 rfl) rfl)))⟩
/-! ### slices.ContainsFunc[shotline/profile.track,shotline/api.DivePoint] -/
noncomputable def m38c39 (a : Nat) (b da1c0 da1c1 : Dat) : Bool :=
  (decide (0 ≤ (m41c39 a b da1c0 da1c1)))
noncomputable def n38c39 (a : Nat) (b da1c0 da1c1 : Dat) : Bool :=
  ((n41c39 a b da1c0 da1c1) && true)
noncomputable def q38c39 (r : Bool) : SV × List Blk × List Blk := (.bool r, [], [])
noncomputable def g38c39 : GF := fun vs bs => match vs, bs with
  | [.ro [W Z, W Z] a b, .fn 39 [.rp [W Z] da1c0 0 0, .rp [.sl [W Z, W Z]] da1c1 0 0]], [] => some (rs 0 (q38c39 (m38c39 a b da1c0 da1c1)) [n38c39 a b da1c0 da1c1])
  | _, _ => none
noncomputable def c38c39 : Ctr := genC [.ro [W Z, W Z], .f [.rp [W Z], .rp [.sl [W Z, W Z]]]] g38c39
theorem k38c39 : CtrOk Try.prog c38c39 38 := cx (tc k39 (tc k41c39 tn)) mix_ok 8 (fn := Try.f38) (c := (Try.f38.body.getD .skip)) (grs := []) (rh := .k) Try.func38 rfl (by kernel_rfl) noLam fun vs bs q h hn => by
  unfold g38c39 at h
  split at h <;> cases h
  rename_i a b da1c0 da1c1
  have hn := n1 hn
  exact ⟨_, rfl, ca (fun R => (cnd (n41c39 a b da1c0 da1c1)
 (R (.bool (decide (0 ≤ (m41c39 a b da1c0 da1c1)))) [] [])
  False)) (fun R => by kernel_rfl) (cn (al hn) (lf rfl rfl))⟩
/-! ### shotline/profile.distance -/
noncomputable def l23_2 (j : Nat) (m : Dat) (l : Nat) (n : Dat) (o : Nat) (u : Dat) (p : Nat) (v : Dat) (C : Int) (t : Nat) (i : Dat) (D x y : Int) : Nat → Int → Int → Int → Option (Int × Int)
  | 0, _, _, _ => none
  | f + 1, w, z, A => (cond (decide (w < D)) (cond (decide (0 ≤ w ∧ w < ↑t)) (cond (n35 j m l n (i.ii w.toNat 0)) (cond (m22 z A (m35 j m l n (i.ii w.toNat 0)).1 (m35 j m l n (i.ii w.toNat 0)).2) (l23_2 j m l n o u p v C t i D x y f (Z.wrap (w + 1)) (m35 j m l n (i.ii w.toNat 0)).1 (m35 j m l n (i.ii w.toNat 0)).2) (l23_2 j m l n o u p v C t i D x y f (Z.wrap (w + 1)) z A)) none) none) (some (z, A)))
noncomputable abbrev o23_2 (j : Nat) (m : Dat) (l : Nat) (n : Dat) (o : Nat) (u : Dat) (p : Nat) (v : Dat) (C : Int) (t : Nat) (i : Dat) (D x y w z A : Int) : Option (Int × Int) := l23_2 j m l n o u p v C t i D x y (j + l + o + p + C.toNat + t + D.toNat + w.toNat + x.toNat + y.toNat + z.toNat + A.toNat + 8) w z A
noncomputable def e23_2 (j : Nat) (m : Dat) (l : Nat) (n : Dat) (o : Nat) (u : Dat) (p : Nat) (v : Dat) (C : Int) (t : Nat) (i : Dat) (D x y : Int) (r : Int × Int) (K : XR) : Prop := K (XE.exit 2) [.ro [W Z, W Z] j m, .ro [W Z, W Z] l n, .ptr 0 0, .ptr 1 0, .agg [.ro [W Z, W Z] o u, .ro [W Z, W Z] p v], V Z C] [.cells 61 [V Z x, V Z y], .cells 61 [V Z r.1, V Z r.2]]
noncomputable def g23_2 : LSum := fun s k => match czv 0 36 [0, 1, 4, 5, 14, 15, 18, 19, 20] 2 [] s with
  | some ([.ro [W Z, W Z] j m, .ro [W Z, W Z] l n, .ptr 0 0, .ptr 1 0, .agg [.ro [W Z, W Z] o u, .ro [W Z, W Z] p v], V Z C, .ro [W Z, W Z] t i, V Z D, V Z w], [.cells 61 [V Z x, V Z y], .cells 61 [V Z z, V Z A]]) => needs [(o23_2 j m l n o u p v C t i D x y w z A).isSome] (e23_2 j m l n o u p v C t i D x y ((o23_2 j m l n o u p v C t i D x y w z A).getD default) fun e vs bs => inBlk 2 k e (mkSt 0 36 [0, 1, 4, 5, 14, 15] vs 2 bs))
  | _ => False
theorem z23_2 : LOk Try.prog g23_2 (.block 2 (bodyAt (Try.f23.body.getD .skip) 2)) := by
  refine lb (ι := Nat × Dat × Nat × Dat × Nat × Dat × Nat × Dat × Int × Nat × Dat × Int × Int × Int × Int × Int × Int) (fuel := 8) (na := 0) (nt := 36) (nx := 2) (Lh := [0, 1, 4, 5, 14, 15, 18, 19, 20]) (Le := [0, 1, 4, 5, 14, 15]) (gl := []) (tc k22 (tc k35 tn)) mix_ok noLam rfl (fun f (j, m, l, n, o, u, p, v, C, t, i, D, w, x, y, z, A) K => GG default (e23_2 j m l n o u p v C t i D x y) K (l23_2 j m l n o u p v C t i D x y f w z A)) (fun (j, m, l, n, o, u, p, v, C, t, i, D, w, x, y, z, A) => [.ro [W Z, W Z] j m, .ro [W Z, W Z] l n, .ptr 0 0, .ptr 1 0, .agg [.ro [W Z, W Z] o u, .ro [W Z, W Z] p v], V Z C, .ro [W Z, W Z] t i, V Z D, V Z w]) (fun (j, m, l, n, o, u, p, v, C, t, i, D, w, x, y, z, A) => [.cells 61 [V Z x, V Z y], .cells 61 [V Z z, V Z A]]) (fun (_, _, _, _, _, _, _, _, _, _, _, _, _, _, _, _, _) K => gg_none) ?_ ?_
  · rintro f ⟨j, m, l, n, o, u, p, v, C, t, i, D, w, x, y, z, A⟩ K hG
    refine ro (fun R => (cnd (decide (w < D))
 (cnd (decide (0 ≤ w ∧ w < ↑t))
 (cnd (n35 j m l n (i.ii w.toNat 0))
 (cnd (m22 z A (m35 j m l n (i.ii w.toNat 0)).1 (m35 j m l n (i.ii w.toNat 0)).2)
 (R (XE.normal) [.ro [W Z, W Z] j m, .ro [W Z, W Z] l n, .ptr 0 0, .ptr 1 0, .agg [.ro [W Z, W Z] o u, .ro [W Z, W Z] p v], V Z C, .ro [W Z, W Z] t i, V Z D, V Z (Z.wrap (w + 1))] [.cells 61 [V Z x, V Z y], .cells 61 [V Z (m35 j m l n (i.ii w.toNat 0)).1, V Z (m35 j m l n (i.ii w.toNat 0)).2]])
 (R (XE.normal) [.ro [W Z, W Z] j m, .ro [W Z, W Z] l n, .ptr 0 0, .ptr 1 0, .agg [.ro [W Z, W Z] o u, .ro [W Z, W Z] p v], V Z C, .ro [W Z, W Z] t i, V Z D, V Z (Z.wrap (w + 1))] [.cells 61 [V Z x, V Z y], .cells 61 [V Z z, V Z A]]))
    False)
   False)
 (R (XE.exit 2) [.ro [W Z, W Z] j m, .ro [W Z, W Z] l n, .ptr 0 0, .ptr 1 0, .agg [.ro [W Z, W Z] o u, .ro [W Z, W Z] p v], V Z C] [.cells 61 [V Z x, V Z y], .cells 61 [V Z z, V Z A]]))) (fun R => by kernel_rfl) ?_
    exact ch hG (fun h0 => cg h0 fun h1 => cg h1 fun h2 => ch h2 (fun h3 => ⟨(_, _, _, _, _, _, _, _, _, _, _, _, _, _, _, _, _), rfl, rfl, h3⟩) (fun h3 => ⟨(_, _, _, _, _, _, _, _, _, _, _, _, _, _, _, _, _), rfl, rfl, h3⟩)) (fun h0 => h0.2)
  · intro s k h
    unfold g23_2 at h
    split at h <;> try exact h.elim
    rename_i e1
    rw [needs_iff] at h
    exact ⟨_, e1, _, (_, _, _, _, _, _, _, _, _, _, _, _, _, _, _, _, _), rfl, rfl, h.1 _ (List.mem_singleton.2 rfl), h.2⟩
noncomputable def m23 (a : Nat) (b : Dat) (d : Nat) (g : Dat) : Int × Int :=
  (((o23_2 a b d g a b d g 1 d g (↑d : Int) 0 0 0 ((o23_2 a b d g a b d g 0 a b (↑a : Int) 0 0 0 0 1).getD default).1 ((o23_2 a b d g a b d g 0 a b (↑a : Int) 0 0 0 0 1).getD default).2).getD default).1, ((o23_2 a b d g a b d g 1 d g (↑d : Int) 0 0 0 ((o23_2 a b d g a b d g 0 a b (↑a : Int) 0 0 0 0 1).getD default).1 ((o23_2 a b d g a b d g 0 a b (↑a : Int) 0 0 0 0 1).getD default).2).getD default).2)
noncomputable def n23 (a : Nat) (b : Dat) (d : Nat) (g : Dat) : Bool :=
  (((o23_2 a b d g a b d g 0 a b (↑a : Int) 0 0 0 0 1).isSome) && (((o23_2 a b d g a b d g 1 d g (↑d : Int) 0 0 0 ((o23_2 a b d g a b d g 0 a b (↑a : Int) 0 0 0 0 1).getD default).1 ((o23_2 a b d g a b d g 0 a b (↑a : Int) 0 0 0 0 1).getD default).2).isSome) && true))
noncomputable def q23 (r : Int × Int) : SV × List Blk × List Blk := (.agg [V Z r.1, V Z r.2], [], [])
noncomputable def g23 : GF := fun vs bs => match vs, bs with
  | [.ro [W Z, W Z] a b, .ro [W Z, W Z] d g], [] => some (rs 0 (q23 (m23 a b d g)) [n23 a b d g])
  | _, _ => none
noncomputable def c23 : Ctr := genC [.ro [W Z, W Z], .ro [W Z, W Z]] g23
theorem k23 : CtrOk Try.prog c23 23 := cx (tc k22 (tc k35 tn)) mix_ok 8 (fn := Try.f23) (c := (Try.f23.body.getD .skip)) (grs := []) (rh := .k) Try.func23 rfl (by kernel_rfl) (lam_of rfl (lc z23_2 ln)) fun vs bs q h hn => by
  unfold g23 at h
  split at h <;> cases h
  rename_i a b d g
  have hn := n1 hn
  exact ⟨_, rfl, ca (fun R => (cnd ((o23_2 a b d g a b d g 0 a b (↑a : Int) 0 0 0 0 1).isSome)
 (cnd ((o23_2 a b d g a b d g 1 d g (↑d : Int) 0 0 0 ((o23_2 a b d g a b d g 0 a b (↑a : Int) 0 0 0 0 1).getD default).1 ((o23_2 a b d g a b d g 0 a b (↑a : Int) 0 0 0 0 1).getD default).2).isSome)
 (R (.agg [V Z ((o23_2 a b d g a b d g 1 d g (↑d : Int) 0 0 0 ((o23_2 a b d g a b d g 0 a b (↑a : Int) 0 0 0 0 1).getD default).1 ((o23_2 a b d g a b d g 0 a b (↑a : Int) 0 0 0 0 1).getD default).2).getD default).1, V Z ((o23_2 a b d g a b d g 1 d g (↑d : Int) 0 0 0 ((o23_2 a b d g a b d g 0 a b (↑a : Int) 0 0 0 0 1).getD default).1 ((o23_2 a b d g a b d g 0 a b (↑a : Int) 0 0 0 0 1).getD default).2).getD default).2]) [] [])
   False)
  False)) (fun R => by kernel_rfl) (cn (al hn) (cn (al (ar hn)) (lf rfl rfl)))⟩
/-! ### (shotline/profile.track).allowed -/
noncomputable def m31 (e : Nat) (a : Dat) (b d g : Int) : Bool :=
  (bif (m38c39 ((d - (Z.wrap (b + 1))).toNat) (a.shift ((Z.wrap (b + 1)).toNat)) (datC [V Z g]) (datC [SV.ro [Kd.int Z, Kd.int Z] 2 (datS [V Z (a.ii b.toNat 0), V Z (a.ii b.toNat 1), V Z (a.ii d.toNat 0), V Z (a.ii d.toNat 1)] 2)])) then false else true)
noncomputable def n31 (e : Nat) (a : Dat) (b d g : Int) : Bool :=
  ((decide (0 ≤ b ∧ b < ↑e)) && ((decide (0 ≤ d ∧ d < ↑e)) && ((decide (0 ≤ Z.wrap (b + 1) ∧ Z.wrap (b + 1) ≤ d ∧ d ≤ (↑e : Int))) && ((n38c39 ((d - (Z.wrap (b + 1))).toNat) (a.shift ((Z.wrap (b + 1)).toNat)) (datC [V Z g]) (datC [SV.ro [Kd.int Z, Kd.int Z] 2 (datS [V Z (a.ii b.toNat 0), V Z (a.ii b.toNat 1), V Z (a.ii d.toNat 0), V Z (a.ii d.toNat 1)] 2)])) && true))))
noncomputable def q31 (r : Bool) : SV × List Blk × List Blk := (.bool r, [], [])
noncomputable def g31 : GF := fun vs bs => match vs, bs with
  | [.ro [W Z, W Z] e a, V Z b, V Z d, V Z g], [] => some (rs 0 (q31 (m31 e a b d g)) [n31 e a b d g])
  | _, _ => none
noncomputable def c31 : Ctr := genC [.ro [W Z, W Z], .k, .k, .k] g31
theorem k31 : CtrOk Try.prog c31 31 := cx (tc k38c39 (tc k39 tn)) mix_ok 8 (fn := Try.f31) (c := (Try.f31.body.getD .skip)) (grs := []) (rh := .k) Try.func31 rfl (by kernel_rfl) noLam fun vs bs q h hn => by
  unfold g31 at h
  split at h <;> cases h
  rename_i e a b d g
  have hn := n1 hn
  exact ⟨_, rfl, ca (fun R => (cnd (decide (0 ≤ b ∧ b < ↑e))
 (cnd (decide (0 ≤ d ∧ d < ↑e))
 (cnd (decide (0 ≤ Z.wrap (b + 1) ∧ Z.wrap (b + 1) ≤ d ∧ d ≤ (↑e : Int)))
 (cnd (n38c39 ((d - (Z.wrap (b + 1))).toNat) (a.shift ((Z.wrap (b + 1)).toNat)) (datC [V Z g]) (datC [SV.ro [Kd.int Z, Kd.int Z] 2 (datS [V Z (a.ii b.toNat 0), V Z (a.ii b.toNat 1), V Z (a.ii d.toNat 0), V Z (a.ii d.toNat 1)] 2)]))
 (R (.bool (bif (m38c39 ((d - (Z.wrap (b + 1))).toNat) (a.shift ((Z.wrap (b + 1)).toNat)) (datC [V Z g]) (datC [SV.ro [Kd.int Z, Kd.int Z] 2 (datS [V Z (a.ii b.toNat 0), V Z (a.ii b.toNat 1), V Z (a.ii d.toNat 0), V Z (a.ii d.toNat 1)] 2)])) then false else true)) [] [])
     False)
    False)
   False)
  False)) (fun R => by kernel_rfl) (cn (al hn) (cn (al (ar hn)) (cn (al (ar (ar hn))) (cn (al (ar (ar (ar hn)))) (lf rfl rfl)))))⟩
/-! ### shotline/profile.IsWithin -/
noncomputable def m9 (a : Nat) (b : Dat) (d : Nat) (e : Dat) (g : Int) : Bool × Int :=
  (cond (bif (decide ((m19 a b d e) = 0)) then false else true) (false, (m19 a b d e)) (cond (bif (m20 g) then false else true) (false, 2) (cond (m21 a b d e) (false, 13) ((bif (m22 g 1 (m23 a b d e).1 (m23 a b d e).2) then false else true), 0))))
noncomputable def n9 (a : Nat) (b : Dat) (d : Nat) (e : Dat) (g : Int) : Bool :=
  ((n19 a b d e) && (cond (bif (decide ((m19 a b d e) = 0)) then false else true) true (cond (bif (m20 g) then false else true) true ((n21 a b d e) && (cond (m21 a b d e) true ((n23 a b d e) && true))))))
noncomputable def q9 (r : Bool × Int) : SV × List Blk × List Blk := (.tup [.bool r.1, V Z r.2], [], [])
noncomputable def g9 : GF := fun vs bs => match vs, bs with
  | [.ro [W Z, W Z] a b, .ro [W Z, W Z] d e, V Z g], [] => some (rs 0 (q9 (m9 a b d e g)) [n9 a b d e g])
  | _, _ => none
noncomputable def c9 : Ctr := genC [.ro [W Z, W Z], .ro [W Z, W Z], .k] g9
theorem k9 : CtrOk Try.prog c9 9 := cx (tc k19 (tc k20 (tc k21 (tc k22 (tc k23 tn))))) mix_ok 8 (fn := Try.f9) (c := (Try.f9.body.getD .skip)) (grs := []) (rh := .k) Try.func9 rfl (by kernel_rfl) noLam fun vs bs q h hn => by
  unfold g9 at h
  split at h <;> cases h
  rename_i a b d e g
  have hn := n1 hn
  exact ⟨_, rfl, ca (fun R => (cnd (n19 a b d e)
 (cnd (bif (decide ((m19 a b d e) = 0)) then false else true)
 (R (.tup [.bool false, V Z (m19 a b d e)]) [] [])
 (cnd (bif (m20 g) then false else true)
 (R (.tup [.bool false, V Z 2]) [] [])
 (cnd (n21 a b d e)
 (cnd (m21 a b d e)
 (R (.tup [.bool false, V Z 13]) [] [])
 (cnd (n23 a b d e)
 (R (.tup [.bool (bif (m22 g 1 (m23 a b d e).1 (m23 a b d e).2) then false else true), V Z 0]) [] [])
       False))
     False)))
  False)) (fun R => by kernel_rfl) (cn (al hn) (co (fun h0 => lf (cT h0 rfl) rfl) (fun h0 => co (fun h1 => lf (cF h0 (cT h1 rfl)) rfl) (fun h1 => cn (al (cf h1 (cf h0 (ar hn)))) (co (fun h2 => lf (cF h0 (cF h1 (cT h2 rfl))) rfl) (fun h2 => cn (al (cf h2 (ar (cf h1 (cf h0 (ar hn)))))) (lf (cF h0 (cF h1 (cF h2 rfl))) rfl)))))))⟩
/-! ### shotline/profile.CheckThin -/
noncomputable def l14_0 (d : Nat) (g : Dat) (l : Int) (a : Nat) (b t : Dat) (w : Int) : Nat → Int → Option (Bool × (Int × Int) × (Unit))
  | 0, _ => none
  | f + 1, v => (cond (decide (v < w)) (cond (decide (0 ≤ v ∧ v < ↑a)) (cond (bif (m25 (t.ii v.toNat 0) 0 (Z.wrap ((↑d : Int) - 1))) then false else true) (some (true, (0, 6), default)) (l14_0 d g l a b t w f (Z.wrap (v + 1)))) none) (some (false, default, ())))
noncomputable abbrev o14_0 (d : Nat) (g : Dat) (l : Int) (a : Nat) (b t : Dat) (w v : Int) : Option (Bool × (Int × Int) × (Unit)) := l14_0 d g l a b t w (d + l.toNat + a + w.toNat + v.toNat + 8) v
noncomputable def e14_0 (d : Nat) (g : Dat) (l : Int) (a : Nat) (b t : Dat) (w : Int) (r : Bool × (Int × Int) × (Unit)) (K : XR) : Prop := cnd r.1 (K (XE.ret) [.ro [W Z, W Z] d g, V Z l, .ro [W Z] a b, V Z r.2.1.1, V Z r.2.1.2] []) (K (XE.exit 0) [.ro [W Z, W Z] d g, V Z l, .ro [W Z] a b, .any, .any] [])
noncomputable def g14_0 : LSum := fun s k => match czv 0 98 [0, 1, 2, 19, 20, 21] 0 [] s with
  | some ([.ro [W Z, W Z] d g, V Z l, .ro [W Z] a b, .ro [W Z] t19_0 t, V Z w, V Z v], []) => needs [decide (a = t19_0), (o14_0 d g l a b t w v).isSome] (e14_0 d g l a b t w ((o14_0 d g l a b t w v).getD default) fun e vs bs => inBlk 0 k e (mkSt 0 98 [0, 1, 2, 6, 7] vs 0 bs))
  | _ => False
theorem z14_0 : LOk Try.prog g14_0 (.block 0 (bodyAt (Try.f14.body.getD .skip) 0)) := by
  refine lb (ι := Nat × Dat × Int × Nat × Dat × Dat × Int × Int) (fuel := 8) (na := 0) (nt := 98) (nx := 0) (Lh := [0, 1, 2, 19, 20, 21]) (Le := [0, 1, 2, 6, 7]) (gl := []) (tc k16 (tc k25 (tc k31 tn))) mix_ok noLam rfl (fun f (d, g, l, a, b, t, w, v) K => GG default (e14_0 d g l a b t w) K (l14_0 d g l a b t w f v)) (fun (d, g, l, a, b, t, w, v) => [.ro [W Z, W Z] d g, V Z l, .ro [W Z] a b, .ro [W Z] a t, V Z w, V Z v]) (fun (d, g, l, a, b, t, w, v) => []) (fun (_, _, _, _, _, _, _, _) K => gg_none) ?_ ?_
  · rintro f ⟨d, g, l, a, b, t, w, v⟩ K hG
    refine ro (fun R => (cnd (decide (v < w))
 (cnd (decide (0 ≤ v ∧ v < ↑a))
 (cnd (bif (m25 (t.ii v.toNat 0) 0 (Z.wrap ((↑d : Int) - 1))) then false else true)
 (R (XE.ret) [.ro [W Z, W Z] d g, V Z l, .ro [W Z] a b, V Z 0, V Z 6] [])
 (R (XE.normal) [.ro [W Z, W Z] d g, V Z l, .ro [W Z] a b, .ro [W Z] a t, V Z w, V Z (Z.wrap (v + 1))] []))
   False)
 (R (XE.exit 0) [.ro [W Z, W Z] d g, V Z l, .ro [W Z] a b, .any, .any] []))) (fun R => by kernel_rfl) ?_
    exact ch hG (fun h0 => cg h0 fun h1 => ch h1 (fun h2 => h2.2) (fun h2 => ⟨(_, _, _, _, _, _, _, _), rfl, rfl, h2⟩)) (fun h0 => h0.2)
  · intro s k h
    unfold g14_0 at h
    split at h <;> try exact h.elim
    rename_i e1
    rw [needs_iff] at h
    have hq := h.1
    simp only [List.mem_cons, forall_eq_or_imp, decide_eq_true_eq, List.not_mem_nil, false_imp_iff, implies_true, and_true] at hq
    obtain ⟨rfl, hq⟩ := hq
    exact ⟨_, e1, _, (_, _, _, _, _, _, _, _), rfl, rfl, hq, h.2⟩
noncomputable def l14_2 (d : Nat) (g : Dat) (l : Int) (a : Nat) (b : Dat) (x : Int) : Nat → Int → Option (Bool × (Int × Int) × (Unit))
  | 0, _ => none
  | f + 1, p => (cond (decide (p < x)) (cond (bif (bif (decide ((0 : Int) < p)) then false else true) then true else (decide (0 ≤ p ∧ p < ↑a))) (cond (bif (bif (decide ((0 : Int) < p)) then false else true) then true else (decide (0 ≤ Z.wrap (p - 1) ∧ Z.wrap (p - 1) < (↑a : Int)))) (cond (bif (decide ((0 : Int) < p)) then (decide ((b.ii p.toNat 0) ≤ (b.ii ((Z.wrap (p - 1)).toNat) 0))) else false) (some (true, (0, 9), default)) (l14_2 d g l a b x f (Z.wrap (p + 1)))) none) none) (some (false, default, ())))
noncomputable abbrev o14_2 (d : Nat) (g : Dat) (l : Int) (a : Nat) (b : Dat) (x p : Int) : Option (Bool × (Int × Int) × (Unit)) := l14_2 d g l a b x (d + l.toNat + a + x.toNat + p.toNat + 8) p
noncomputable def e14_2 (d : Nat) (g : Dat) (l : Int) (a : Nat) (b : Dat) (x : Int) (r : Bool × (Int × Int) × (Unit)) (K : XR) : Prop := cnd r.1 (K (XE.ret) [.ro [W Z, W Z] d g, V Z l, .ro [W Z] a b, V Z r.2.1.1, V Z r.2.1.2] []) (K (XE.exit 2) [.ro [W Z, W Z] d g, V Z l, .ro [W Z] a b, .any, .any] [])
noncomputable def g14_2 : LSum := fun s k => match czv 0 98 [0, 1, 2, 33, 34] 0 [] s with
  | some ([.ro [W Z, W Z] d g, V Z l, .ro [W Z] a b, V Z x, V Z p], []) => needs [(o14_2 d g l a b x p).isSome] (e14_2 d g l a b x ((o14_2 d g l a b x p).getD default) fun e vs bs => inBlk 2 k e (mkSt 0 98 [0, 1, 2, 6, 7] vs 0 bs))
  | _ => False
theorem z14_2 : LOk Try.prog g14_2 (.block 2 (bodyAt (Try.f14.body.getD .skip) 2)) := by
  refine lb (ι := Nat × Dat × Int × Nat × Dat × Int × Int) (fuel := 8) (na := 0) (nt := 98) (nx := 0) (Lh := [0, 1, 2, 33, 34]) (Le := [0, 1, 2, 6, 7]) (gl := []) (tc k16 (tc k25 (tc k31 tn))) mix_ok (lam_of rfl (lc z14_0 ln)) rfl (fun f (d, g, l, a, b, x, p) K => GG default (e14_2 d g l a b x) K (l14_2 d g l a b x f p)) (fun (d, g, l, a, b, x, p) => [.ro [W Z, W Z] d g, V Z l, .ro [W Z] a b, V Z x, V Z p]) (fun (d, g, l, a, b, x, p) => []) (fun (_, _, _, _, _, _, _) K => gg_none) ?_ ?_
  · rintro f ⟨d, g, l, a, b, x, p⟩ K hG
    refine ro (fun R => (cnd (decide (p < x))
 (cnd (bif (bif (decide ((0 : Int) < p)) then false else true) then true else (decide (0 ≤ p ∧ p < ↑a)))
 (cnd (bif (bif (decide ((0 : Int) < p)) then false else true) then true else (decide (0 ≤ Z.wrap (p - 1) ∧ Z.wrap (p - 1) < (↑a : Int))))
 (cnd (bif (decide ((0 : Int) < p)) then (decide ((b.ii p.toNat 0) ≤ (b.ii ((Z.wrap (p - 1)).toNat) 0))) else false)
 (R (XE.ret) [.ro [W Z, W Z] d g, V Z l, .ro [W Z] a b, V Z 0, V Z 9] [])
 (R (XE.normal) [.ro [W Z, W Z] d g, V Z l, .ro [W Z] a b, V Z x, V Z (Z.wrap (p + 1))] []))
    False)
   False)
 (R (XE.exit 2) [.ro [W Z, W Z] d g, V Z l, .ro [W Z] a b, .any, .any] []))) (fun R => by kernel_rfl) ?_
    exact ch hG (fun h0 => cg h0 fun h1 => cg h1 fun h2 => ch h2 (fun h3 => h3.2) (fun h3 => ⟨(_, _, _, _, _, _, _), rfl, rfl, h3⟩)) (fun h0 => h0.2)
  · intro s k h
    unfold g14_2 at h
    split at h <;> try exact h.elim
    rename_i e1
    rw [needs_iff] at h
    exact ⟨_, e1, _, (_, _, _, _, _, _, _), rfl, rfl, h.1 _ (List.mem_singleton.2 rfl), h.2⟩
noncomputable def l14_4 (d : Nat) (g : Dat) (l : Int) (a : Nat) (b : Dat) (y : Int) : Nat → Int → Option (Bool × (Int × Int) × (Unit))
  | 0, _ => none
  | f + 1, n => (cond (decide (n < y)) (cond (bif (bif (decide ((0 : Int) < n)) then false else true) then true else (decide (0 ≤ Z.wrap (n - 1) ∧ Z.wrap (n - 1) < (↑a : Int)))) (cond (bif (bif (decide ((0 : Int) < n)) then false else true) then true else (decide (0 ≤ n ∧ n < ↑a))) (cond (bif (bif (decide ((0 : Int) < n)) then false else true) then true else (n31 d g (b.ii ((Z.wrap (n - 1)).toNat) 0) (b.ii n.toNat 0) l)) (cond (bif (decide ((0 : Int) < n)) then (bif (m31 d g (b.ii ((Z.wrap (n - 1)).toNat) 0) (b.ii n.toNat 0) l) then false else true) else false) (some (true, (0, 26), default)) (l14_4 d g l a b y f (Z.wrap (n + 1)))) none) none) none) (some (false, default, ())))
noncomputable abbrev o14_4 (d : Nat) (g : Dat) (l : Int) (a : Nat) (b : Dat) (y n : Int) : Option (Bool × (Int × Int) × (Unit)) := l14_4 d g l a b y (d + l.toNat + a + y.toNat + n.toNat + 8) n
noncomputable def e14_4 (d : Nat) (g : Dat) (l : Int) (a : Nat) (b : Dat) (y : Int) (r : Bool × (Int × Int) × (Unit)) (K : XR) : Prop := cnd r.1 (K (XE.ret) [.ro [W Z] a b, V Z r.2.1.1, V Z r.2.1.2] []) (K (XE.exit 4) [.ro [W Z] a b, .any, .any] [])
noncomputable def g14_4 : LSum := fun s k => match czv 0 98 [0, 1, 2, 74, 75] 0 [] s with
  | some ([.ro [W Z, W Z] d g, V Z l, .ro [W Z] a b, V Z y, V Z n], []) => needs [(o14_4 d g l a b y n).isSome] (e14_4 d g l a b y ((o14_4 d g l a b y n).getD default) fun e vs bs => inBlk 4 k e (mkSt 0 98 [2, 6, 7] vs 0 bs))
  | _ => False
theorem z14_4 : LOk Try.prog g14_4 (.block 4 (bodyAt (Try.f14.body.getD .skip) 4)) := by
  refine lb (ι := Nat × Dat × Int × Nat × Dat × Int × Int) (fuel := 8) (na := 0) (nt := 98) (nx := 0) (Lh := [0, 1, 2, 74, 75]) (Le := [2, 6, 7]) (gl := []) (tc k16 (tc k25 (tc k31 tn))) mix_ok (lam_of rfl (lc z14_0 (lc z14_2 ln))) rfl (fun f (d, g, l, a, b, y, n) K => GG default (e14_4 d g l a b y) K (l14_4 d g l a b y f n)) (fun (d, g, l, a, b, y, n) => [.ro [W Z, W Z] d g, V Z l, .ro [W Z] a b, V Z y, V Z n]) (fun (d, g, l, a, b, y, n) => []) (fun (_, _, _, _, _, _, _) K => gg_none) ?_ ?_
  · rintro f ⟨d, g, l, a, b, y, n⟩ K hG
    refine ro (fun R => (cnd (decide (n < y))
 (cnd (bif (bif (decide ((0 : Int) < n)) then false else true) then true else (decide (0 ≤ Z.wrap (n - 1) ∧ Z.wrap (n - 1) < (↑a : Int))))
 (cnd (bif (bif (decide ((0 : Int) < n)) then false else true) then true else (decide (0 ≤ n ∧ n < ↑a)))
 (cnd (bif (bif (decide ((0 : Int) < n)) then false else true) then true else (n31 d g (b.ii ((Z.wrap (n - 1)).toNat) 0) (b.ii n.toNat 0) l))
 (cnd (bif (decide ((0 : Int) < n)) then (bif (m31 d g (b.ii ((Z.wrap (n - 1)).toNat) 0) (b.ii n.toNat 0) l) then false else true) else false)
 (R (XE.ret) [.ro [W Z] a b, V Z 0, V Z 26] [])
 (R (XE.normal) [.ro [W Z, W Z] d g, V Z l, .ro [W Z] a b, V Z y, V Z (Z.wrap (n + 1))] []))
     False)
    False)
   False)
 (R (XE.exit 4) [.ro [W Z] a b, .any, .any] []))) (fun R => by kernel_rfl) ?_
    exact ch hG (fun h0 => cg h0 fun h1 => cg h1 fun h2 => cg h2 fun h3 => ch h3 (fun h4 => h4.2) (fun h4 => ⟨(_, _, _, _, _, _, _), rfl, rfl, h4⟩)) (fun h0 => h0.2)
  · intro s k h
    unfold g14_4 at h
    split at h <;> try exact h.elim
    rename_i e1
    rw [needs_iff] at h
    exact ⟨_, e1, _, (_, _, _, _, _, _, _), rfl, rfl, h.1 _ (List.mem_singleton.2 rfl), h.2⟩
noncomputable def m14 (m : Nat) (o : Dat) (u : Int) (i : Nat) (j : Dat) : Int × Int :=
  (cond (bif (decide ((m16 m o u) = 0)) then false else true) (0, (m16 m o u)) (cond ((o14_0 m o u i j j (↑i : Int) 0).getD default).1 (((o14_0 m o u i j j (↑i : Int) 0).getD default).2.1.1, ((o14_0 m o u i j j (↑i : Int) 0).getD default).2.1.2) (cond ((o14_2 m o u i j (↑i : Int) 0).getD default).1 (((o14_2 m o u i j (↑i : Int) 0).getD default).2.1.1, ((o14_2 m o u i j (↑i : Int) 0).getD default).2.1.2) (cond (bif (bif (decide ((↑i : Int) = 0)) then true else (bif (decide ((j.ii 0 0) = 0)) then false else true)) then true else (bif (decide ((j.ii ((Z.wrap ((↑i : Int) - 1)).toNat) 0) = (Z.wrap ((↑m : Int) - 1)))) then false else true)) (0, 10) (cond ((o14_4 m o u i j (↑i : Int) 0).getD default).1 (((o14_4 m o u i j (↑i : Int) 0).getD default).2.1.1, ((o14_4 m o u i j (↑i : Int) 0).getD default).2.1.2) ((↑i : Int), 0))))))
noncomputable def n14 (m : Nat) (o : Dat) (u : Int) (i : Nat) (j : Dat) : Bool :=
  ((n16 m o u) && (cond (bif (decide ((m16 m o u) = 0)) then false else true) true (((o14_0 m o u i j j (↑i : Int) 0).isSome) && (cond ((o14_0 m o u i j j (↑i : Int) 0).getD default).1 true (((o14_2 m o u i j (↑i : Int) 0).isSome) && (cond ((o14_2 m o u i j (↑i : Int) 0).getD default).1 true ((bif (bif (bif (decide ((↑i : Int) = 0)) then false else true) then false else true) then true else (decide ((0 : Int) ≤ (0 : Int) ∧ (0 : Int) < (↑i : Int)))) && ((bif (bif (bif (bif (decide ((↑i : Int) = 0)) then true else (bif (decide ((j.ii 0 0) = 0)) then false else true)) then false else true) then false else true) then true else (decide (0 ≤ Z.wrap ((↑i : Int) - 1) ∧ Z.wrap ((↑i : Int) - 1) < (↑i : Int)))) && (cond (bif (bif (decide ((↑i : Int) = 0)) then true else (bif (decide ((j.ii 0 0) = 0)) then false else true)) then true else (bif (decide ((j.ii ((Z.wrap ((↑i : Int) - 1)).toNat) 0) = (Z.wrap ((↑m : Int) - 1)))) then false else true)) true (((o14_4 m o u i j (↑i : Int) 0).isSome) && true))))))))))
noncomputable def q14 (r : Int × Int) : SV × List Blk × List Blk := (.tup [V Z r.1, V Z r.2], [], [])
noncomputable def g14 : GF := fun vs bs => match vs, bs with
  | [.ro [W Z, W Z] m o, V Z u, .ro [W Z] i j], [] => some (rs 0 (q14 (m14 m o u i j)) [n14 m o u i j])
  | _, _ => none
noncomputable def c14 : Ctr := genC [.ro [W Z, W Z], .k, .ro [W Z]] g14
theorem k14 : CtrOk Try.prog c14 14 := cx (tc k16 (tc k25 (tc k31 tn))) mix_ok 8 (fn := Try.f14) (c := (Try.f14.body.getD .skip)) (grs := []) (rh := .k) Try.func14 rfl (by kernel_rfl) (lam_of rfl (lc z14_0 (lc z14_2 (lc z14_4 ln)))) fun vs bs q h hn => by
  unfold g14 at h
  split at h <;> cases h
  rename_i m o u i j
  have hn := n1 hn
  exact ⟨_, rfl, ca (fun R => (cnd (n16 m o u)
 (cnd (bif (decide ((m16 m o u) = 0)) then false else true)
 (R (.tup [V Z 0, V Z (m16 m o u)]) [] [])
 (cnd (decide (i = i))
 (cnd ((o14_0 m o u i j j (↑i : Int) 0).isSome)
 (cnd ((o14_0 m o u i j j (↑i : Int) 0).getD default).1
 (R (.tup [V Z ((o14_0 m o u i j j (↑i : Int) 0).getD default).2.1.1, V Z ((o14_0 m o u i j j (↑i : Int) 0).getD default).2.1.2]) [] [])
 (cnd ((o14_2 m o u i j (↑i : Int) 0).isSome)
 (cnd ((o14_2 m o u i j (↑i : Int) 0).getD default).1
 (R (.tup [V Z ((o14_2 m o u i j (↑i : Int) 0).getD default).2.1.1, V Z ((o14_2 m o u i j (↑i : Int) 0).getD default).2.1.2]) [] [])
 (cnd (bif (bif (bif (decide ((↑i : Int) = 0)) then false else true) then false else true) then true else (decide ((0 : Int) ≤ (0 : Int) ∧ (0 : Int) < (↑i : Int))))
 (cnd (bif (bif (bif (bif (decide ((↑i : Int) = 0)) then true else (bif (decide ((j.ii 0 0) = 0)) then false else true)) then false else true) then false else true) then true else (decide (0 ≤ Z.wrap ((↑i : Int) - 1) ∧ Z.wrap ((↑i : Int) - 1) < (↑i : Int))))
 (cnd (bif (bif (decide ((↑i : Int) = 0)) then true else (bif (decide ((j.ii 0 0) = 0)) then false else true)) then true else (bif (decide ((j.ii ((Z.wrap ((↑i : Int) - 1)).toNat) 0) = (Z.wrap ((↑m : Int) - 1)))) then false else true))
 (R (.tup [V Z 0, V Z 10]) [] [])
 (cnd ((o14_4 m o u i j (↑i : Int) 0).isSome)
 (cnd ((o14_4 m o u i j (↑i : Int) 0).getD default).1
 (R (.tup [V Z ((o14_4 m o u i j (↑i : Int) 0).getD default).2.1.1, V Z ((o14_4 m o u i j (↑i : Int) 0).getD default).2.1.2]) [] [])
 (R (.tup [V Z (↑i : Int), V Z 0]) [] []))
            False))
          False)
         False))
       False))
     False)
    False))
  False)) (fun R => by kernel_rfl) (cn (al hn) (co (fun h0 => lf (cT h0 rfl) rfl) (fun h0 => cn (decide_eq_true rfl) (cn (al (cf h0 (ar hn))) (co (fun h1 => lf (cF h0 (cT h1 rfl)) rfl) (fun h1 => cn (al (cf h1 (ar (cf h0 (ar hn))))) (co (fun h2 => lf (cF h0 (cF h1 (cT h2 rfl))) rfl) (fun h2 => cn (al (cf h2 (ar (cf h1 (ar (cf h0 (ar hn))))))) (cn (al (ar (cf h2 (ar (cf h1 (ar (cf h0 (ar hn)))))))) (co (fun h3 => lf (cF h0 (cF h1 (cF h2 (cT h3 rfl)))) rfl) (fun h3 => cn (al (cf h3 (ar (ar (cf h2 (ar (cf h1 (ar (cf h0 (ar hn)))))))))) (co (fun h4 => lf (cF h0 (cF h1 (cF h2 (cF h3 (cT h4 rfl))))) rfl) (fun h4 => lf (cF h0 (cF h1 (cF h2 (cF h3 (cF h4 rfl))))) rfl)))))))))))))⟩
/-! ### (shotline/profile.track).steps -/
noncomputable def m17 (a : Nat) (b : Dat) (d : Int) : Dat × Dat :=
  ((datC [SV.ro [Kd.int Z, Kd.int Z] a b]), (datC [V Z d]))
noncomputable def q17 (r : Dat × Dat) : SV × List Blk × List Blk := (.fn 32 [.rp [.sl [W Z, W Z]] r.1 0 0, .rp [W Z] r.2 0 0], [], [])
noncomputable def g17 : GF := fun vs bs => match vs, bs with
  | [.ro [W Z, W Z] a b, V Z d], [] => some (rs 0 (q17 (m17 a b d)) [])
  | _, _ => none
noncomputable def c17 : Ctr := genC [.ro [W Z, W Z], .k] g17
theorem k17 : CtrOk Try.prog c17 17 := cx tn mix_ok 8 (fn := Try.f17) (c := (Try.f17.body.getD .skip)) (grs := []) (rh := .f [.rp [.sl [W Z, W Z]], .rp [W Z]]) Try.func17 rfl (by kernel_rfl) noLam fun vs bs q h hn => by
  unfold g17 at h
  split at h <;> cases h
  rename_i a b d
  exact ⟨_, rfl, ca (fun R => (R (.fn 32 [.rp [.sl [W Z, W Z]] (datC [SV.ro [Kd.int Z, Kd.int Z] a b]) 0 0, .rp [W Z] (datC [V Z d]) 0 0]) [] [])) (fun R => by kernel_rfl) (lf rfl rfl)⟩
/-! ### (shotline/profile.track).steps$1 -/
noncomputable def l32_2 (b d : Dat) (a i : Int) (l N : Nat) (Y : Dat) : Nat → Nat → Int → Option (Nat)
  | 0, _, _ => none
  | f + 1, k, g => (cond (decide (g < i)) (cond (n31 (b.sn 0 0) (b.sub 0 0) g a (d.ii 0 0)) (cond (m31 (b.sn 0 0) (b.sub 0 0) g a (d.ii 0 0)) (cond (decide (k < N)) (cond (decide (g = (Y.ii k 0))) (cond (decide (a = (Y.ii k 1))) (l32_2 b d a i l N Y f (k + 1) (Z.wrap (g + 1))) none) none) none) (l32_2 b d a i l N Y f (k) (Z.wrap (g + 1)))) none) (some (k)))
noncomputable abbrev o32_2 (b d : Dat) (a i : Int) (l N : Nat) (Y : Dat) (k : Nat) (g : Int) : Option (Nat) := l32_2 b d a i l N Y (a.toNat + i.toNat + g.toNat + 8) k g
noncomputable def e32_2 (b d : Dat) (a i : Int) (l N : Nat) (Y : Dat) (r : Nat) (K : XRY) : Prop := K (XE.exit 2) r [.val (Value.func (Fn.yield l) #[] #[]), .rp [.sl [W Z, W Z]] b 0 0, .rp [W Z] d 0 0, V Z a] []
noncomputable def g32_2 (l N : Nat) (Y : Dat) : SumY := fun k s κ => match k, czv 0 29 [0, 1, 2, 4, 12, 13] 0 [] s with
  | some k, some ([.val vq, .rp [.sl [W Z, W Z]] b 0 0, .rp [W Z] d 0 0, V Z a, V Z i, V Z g], []) => needs [(o32_2 b d a i l N Y k g).isSome, isYl vq l] (e32_2 b d a i l N Y ((o32_2 b d a i l N Y k g).getD default) fun e k vs bs => inBlkY 2 κ e (some k) (mkSt 0 29 [0, 1, 2, 4] vs 0 bs))
  | _, _ => False
theorem y32_2 (b d : Dat) (a i g : Int) (l N : Nat) (Y : Dat) (k : Nat) (R : XRY) : execY Try.prog [(31, c31)] (fun _ => none) l N (fun k => [V Z (Y.ii k 0), V Z (Y.ii k 1)]) (lamY []) 8 (unloop (bodyAt (Try.f32.body.getD .skip) 2)) (some k) (mkSt 0 29 [0, 1, 2, 4, 12, 13] [.val (Value.func (Fn.yield l) #[] #[]), .rp [.sl [W Z, W Z]] b 0 0, .rp [W Z] d 0 0, V Z a, V Z i, V Z g] 0 []) (canonKY 0 29 [0, 1, 2, 4, 12, 13] [0, 1, 2, 4] 0 [] R) =
 (cnd (decide (g < i))
 (cnd (n31 (b.sn 0 0) (b.sub 0 0) g a (d.ii 0 0))
 (cnd (m31 (b.sn 0 0) (b.sub 0 0) g a (d.ii 0 0))
 (cnd (decide (l = l))
 (cnd (decide (k < N))
 (cnd (decide (g = (Y.ii k 0)))
 (cnd (decide (a = (Y.ii k 1)))
        ((R (XE.normal) (k + 1) [.val (Value.func (Fn.yield l) #[] #[]), .rp [.sl [W Z, W Z]] b 0 0, .rp [W Z] d 0 0, V Z a, V Z i, V Z (Z.wrap (g + 1))] []) ∧
         True)
        False)
       False)
      False)
     False)
 (R (XE.normal) (k) [.val (Value.func (Fn.yield l) #[] #[]), .rp [.sl [W Z, W Z]] b 0 0, .rp [W Z] d 0 0, V Z a, V Z i, V Z (Z.wrap (g + 1))] []))
   False)
 (R (XE.exit 2) (k) [.val (Value.func (Fn.yield l) #[] #[]), .rp [.sl [W Z, W Z]] b 0 0, .rp [W Z] d 0 0, V Z a] [])) := by kernel_rfl
theorem z32_2 {C : YC Try.prog} {N : Nat} {Y : Dat} (hN : C.N = N) (hy : C.y = fun k => [V Z (Y.ii k 0), V Z (Y.ii k 1)]) : LOkJ C (g32_2 C.l N Y) (.block 2 (bodyAt (Try.f32.body.getD .skip) 2)) := by
  refine loopY_blk (ι := Dat × Dat × Int × Int × Nat × Int) (L := [(31, c31)]) (Λ := (fun _ => none)) (ΛY := (lamY [])) (fuel := 8) (na := 0) (nt := 29) (nx := 0) (Lh := [0, 1, 2, 4, 12, 13]) (Le := [0, 1, 2, 4]) (gl := []) (tc k31 tn) mix_ok noLam noLamY rfl (fun f x K => GG default (e32_2 x.1 x.2.1 x.2.2.1 x.2.2.2.1 C.l N Y) K (l32_2 x.1 x.2.1 x.2.2.1 x.2.2.2.1 C.l N Y f x.2.2.2.2.1 x.2.2.2.2.2)) (fun x => x.2.2.2.2.1) (fun x => [.val (Value.func (Fn.yield C.l) #[] #[]), .rp [.sl [W Z, W Z]] x.1 0 0, .rp [W Z] x.2.1 0 0, V Z x.2.2.1, V Z x.2.2.2.1, V Z x.2.2.2.2.2]) (fun x => []) (fun x K => gg_none) ?_ ?_
  · rintro f ⟨b, d, a, i, k, g⟩ K hG
    rw [hN, hy]
    refine propOf (y32_2 b d a i g C.l N Y k _) ?_
    exact ch hG (fun h0 => cg h0 fun h1 => ch h1 (fun h2 => cn (decide_eq_true rfl) (cg h2 fun h3 => cg h3 fun h4 => cg h4 fun h5 => ⟨⟨(b, d, a, i, (k + 1), (Z.wrap (g + 1))), rfl, rfl, rfl, h5⟩, trivial⟩)) (fun h2 => ⟨(b, d, a, i, (k), (Z.wrap (g + 1))), rfl, rfl, rfl, h2⟩)) (fun h0 => h0.2)
  · intro k s κ h
    unfold g32_2 at h
    split at h <;> try exact h.elim
    rename_i e1
    rw [needs_iff] at h
    have hl := h.1 _ (List.mem_cons_of_mem _ (List.mem_singleton.2 rfl))
    obtain rfl := isYl_eq hl
    exact ⟨_, (_, _, _, _, _, _), rfl, e1, h.1 _ (List.mem_cons_self ..), h.2⟩
noncomputable def l32_0 (b d : Dat) (l N : Nat) (Y : Dat) : Nat → Nat → Int → Option (Nat)
  | 0, _, _ => none
  | f + 1, k, a => (cond (decide (a < (↑(b.sn 0 0) : Int))) (cond ((o32_2 b d a a l N Y k 0).isSome) (l32_0 b d l N Y f ((o32_2 b d a a l N Y k 0).getD 0) (Z.wrap (a + 1))) none) (some (k)))
noncomputable abbrev o32_0 (b d : Dat) (l N : Nat) (Y : Dat) (k : Nat) (a : Int) : Option (Nat) := l32_0 b d l N Y (a.toNat + 8 + b.sn 0 0) k a
noncomputable def e32_0 (b d : Dat) (l N : Nat) (Y : Dat) (r : Nat) (K : XRY) : Prop := K (XE.exit 0) r [] []
noncomputable def g32_0 (l N : Nat) (Y : Dat) : SumY := fun k s κ => match k, czv 0 29 [0, 1, 2, 4] 0 [] s with
  | some k, some ([.val vq, .rp [.sl [W Z, W Z]] b 0 0, .rp [W Z] d 0 0, V Z a], []) => needs [(o32_0 b d l N Y k a).isSome, isYl vq l] (e32_0 b d l N Y ((o32_0 b d l N Y k a).getD default) fun e k vs bs => inBlkY 0 κ e (some k) (mkSt 0 29 [] vs 0 bs))
  | _, _ => False
theorem y32_0 (b d : Dat) (a : Int) (l N : Nat) (Y : Dat) (k : Nat) (R : XRY) : execY Try.prog [(31, c31)] (fun _ => none) l N (fun k => [V Z (Y.ii k 0), V Z (Y.ii k 1)]) (lamY [(2, (g32_2 l N Y))]) 8 (unloop (bodyAt (Try.f32.body.getD .skip) 0)) (some k) (mkSt 0 29 [0, 1, 2, 4] [.val (Value.func (Fn.yield l) #[] #[]), .rp [.sl [W Z, W Z]] b 0 0, .rp [W Z] d 0 0, V Z a] 0 []) (canonKY 0 29 [0, 1, 2, 4] [] 0 [] R) =
 (cnd (decide (a < (↑(b.sn 0 0) : Int)))
 (cnd ((o32_2 b d a a l N Y k 0).isSome)
 (cnd (decide (l = l))
 (R (XE.normal) ((o32_2 b d a a l N Y k 0).getD 0) [.val (Value.func (Fn.yield l) #[] #[]), .rp [.sl [W Z, W Z]] b 0 0, .rp [W Z] d 0 0, V Z (Z.wrap (a + 1))] [])
    False)
   False)
 (R (XE.exit 0) (k) [] [])) := by kernel_rfl
theorem z32_0 {C : YC Try.prog} {N : Nat} {Y : Dat} (hN : C.N = N) (hy : C.y = fun k => [V Z (Y.ii k 0), V Z (Y.ii k 1)]) : LOkJ C (g32_0 C.l N Y) (.block 0 (bodyAt (Try.f32.body.getD .skip) 0)) := by
  refine loopY_blk (ι := Dat × Dat × Nat × Int) (L := [(31, c31)]) (Λ := (fun _ => none)) (ΛY := (lamY [(2, (g32_2 C.l N Y))])) (fuel := 8) (na := 0) (nt := 29) (nx := 0) (Lh := [0, 1, 2, 4]) (Le := []) (gl := []) (tc k31 tn) mix_ok noLam (lamY_of rfl (lamsY_cons (z32_2 hN hy) lamsY_nil)) rfl (fun f x K => GG default (e32_0 x.1 x.2.1 C.l N Y) K (l32_0 x.1 x.2.1 C.l N Y f x.2.2.1 x.2.2.2)) (fun x => x.2.2.1) (fun x => [.val (Value.func (Fn.yield C.l) #[] #[]), .rp [.sl [W Z, W Z]] x.1 0 0, .rp [W Z] x.2.1 0 0, V Z x.2.2.2]) (fun x => []) (fun x K => gg_none) ?_ ?_
  · rintro f ⟨b, d, k, a⟩ K hG
    rw [hN, hy]
    refine propOf (y32_0 b d a C.l N Y k _) ?_
    exact ch hG (fun h0 => cg h0 fun h1 => cn (decide_eq_true rfl) (⟨(b, d, ((o32_2 b d a a C.l N Y k 0).getD 0), (Z.wrap (a + 1))), rfl, rfl, rfl, h1⟩)) (fun h0 => h0.2)
  · intro k s κ h
    unfold g32_0 at h
    split at h <;> try exact h.elim
    rename_i e1
    rw [needs_iff] at h
    have hl := h.1 _ (List.mem_cons_of_mem _ (List.mem_singleton.2 rfl))
    obtain rfl := isYl_eq hl
    exact ⟨_, (_, _, _, _), rfl, e1, h.1 _ (List.mem_cons_self ..), h.2⟩
theorem x32 (j m : Dat) (l N : Nat) (Y : Dat) (R : XE → Option Nat → Prop) : execY Try.prog [(31, c31)] (fun _ => none) l N (fun k => [V Z (Y.ii k 0), V Z (Y.ii k 1)]) (lamY [(2, (g32_2 l N Y)), (0, (g32_0 l N Y))]) 8 (Try.f32.body.getD .skip) (some 0) (initS Try.f32.ntmps ([.val (.func (.yield l) #[] #[]), .rp [.sl [W Z, W Z]] j 0 0, .rp [W Z] m 0 0]) 0 (memOf [])) (fun e k s => R e k) =
 (cnd ((o32_0 j m l N Y 0 1).isSome)
 (cnd (decide (l = l))
 (R (XE.normal) (.some ((o32_0 j m l N Y 0 1).getD 0)))
   False)
  False) := by kernel_rfl
noncomputable def n32 (j m : Dat) (l N : Nat) (Y : Dat) : Bool :=
  (((o32_0 j m l N Y 0 1).isSome) && (decide ((o32_0 j m l N Y 0 1).getD 0 = N)))
theorem it32 (j m : Dat) (N : Nat) (Y : Dat) (hn : ∀ l, n32 j m l N Y = true) : SIter Try.prog 32 [.rp [.sl [W Z, W Z]] j 0 0, .rp [W Z] m 0 0] [] N (fun k => [V Z (Y.ii k 0), V Z (Y.ii k 1)]) := iter_of (tc k31 tn) mix_ok 8 (fn := Try.f32) (c := (Try.f32.body.getD .skip)) (Λ := (fun _ => none)) (ΛY := fun l => (lamY [(2, (g32_2 l N Y)), (0, (g32_0 l N Y))])) Try.func32 rfl noLam rfl (fun k _ => rfl) (fun C hN hy => (lamY_of rfl (lamsY_cons (z32_2 hN hy) (lamsY_cons (z32_0 hN hy) lamsY_nil)))) fun l => by
  refine propOf (x32 j m l N Y fun e k => match e with | .exit _ => False | _ => k = some N) ?_
  exact cn (al (hn l)) (cn (decide_eq_true rfl) (congrArg some (of_decide_eq_true (ar (hn l)))))
end Go.Proofs.Ytchhhoamnagbfaa
