/-
  Contracts of functions: models, equations by the kernel, contracts. Conditions: none.
-/
import Derived.Test.YtchhhoamnagbfaaDoorISyY
import Derived.Test.YtchhhoamnagbfaaDoorISyKo
import Derived.Test.YtchhhoamnagbfaaDoorISyHd
import Derived.Test.YtchhhoamnagbfaaDoorISyOr
import Derived.Test.YtchhhoamnagbfaaDoorIBase
import Derived.Test.YtchhhoamnagbfaaDoorIPLoop
import Derived.KernelRfl
namespace Go.Proofs.YtchhhoamnagbfaaDoor
open Go Go.Sy
set_option linter.unusedVariables false
set_option linter.unusedSimpArgs false
set_option maxRecDepth 100000
set_option maxHeartbeats 2000000
attribute [local irreducible] Go.IntKind.wrap Int.tdiv Int.tmod Int.fdiv
open Go.Sy renaming tabOk_cons → tc, tabOk_nil → tn, cnd_need → cn, leaf_of → lf, cnd_gg → cg, cnd_gg2 → ch, cond_f → cf, cond_t → ct, cnd_of → co, callOf → ca, roundOf → ro, cnd_not → nn, lams_cons → lc, lams_nil → ln, condT → cT, condF → cF, need1 → n1, resOf → rs, and_l → al, and_r → ar, or_gg → og, ctr_of → cx, loop_blk → lb
open Go.IntKind renaming i64 → Z
open Go.Sy.SV renaming int → V
open Go.Sy.Kd renaming int → W
/-! ### shotline/shotlinebase.Within -/
noncomputable def m16 (a b d : Int) : Bool :=
  (bif (decide (b ≤ a)) then (decide (a ≤ d)) else false)
noncomputable def q16 (r : Bool) : SV × List Blk × List Blk := (.bool r, [], [])
noncomputable def g16 : GF := fun vs bs => match vs, bs with
  | [V Z a, V Z b, V Z d], [] => some (rs 0 (q16 (m16 a b d)) [])
  | _, _ => none
noncomputable def c16 : Ctr := genC [.k, .k, .k] g16
theorem k16 : CtrOk Tryd.prog c16 16 := cx tn mix_ok 8 (fn := Tryd.f16) (c := (Tryd.f16.body.getD .skip)) (grs := []) (rh := .k) Tryd.func16 rfl (by kernel_rfl) noLam fun vs bs q h hn => by
  unfold g16 at h
  split at h <;> cases h
  rename_i a b d
  exact ⟨_, rfl, ca (fun R => (R (.bool (bif (decide (b ≤ a)) then (decide (a ≤ d)) else false)) [] [])) (fun R => by kernel_rfl) (lf rfl rfl)⟩
/-! ### shotline/profile.within -/
noncomputable def m52 (a b d : Int) : Bool :=
  (bif (decide (b ≤ a)) then (decide (a ≤ d)) else false)
noncomputable def q52 (r : Bool) : SV × List Blk × List Blk := (.bool r, [], [])
noncomputable def g52 : GF := fun vs bs => match vs, bs with
  | [V Z a, V Z b, V Z d], [] => some (rs 0 (q52 (m52 a b d)) [])
  | _, _ => none
noncomputable def c52 : Ctr := genC [.k, .k, .k] g52
theorem k52 : CtrOk Tryd.prog c52 52 := cx tn mix_ok 8 (fn := Tryd.f52) (c := (Tryd.f52.body.getD .skip)) (grs := []) (rh := .k) Tryd.func52 rfl (by kernel_rfl) noLam fun vs bs q h hn => by
  unfold g52 at h
  split at h <;> cases h
  rename_i a b d
  exact ⟨_, rfl, ca (fun R => (R (.bool (bif (decide (b ≤ a)) then (decide (a ≤ d)) else false)) [] [])) (fun R => by kernel_rfl) (lf rfl rfl)⟩
/-! ### shotline/gas.within -/
noncomputable def m111 (a b d : Int) : Bool :=
  (bif (decide (b ≤ a)) then (decide (a ≤ d)) else false)
noncomputable def q111 (r : Bool) : SV × List Blk × List Blk := (.bool r, [], [])
noncomputable def g111 : GF := fun vs bs => match vs, bs with
  | [V Z a, V Z b, V Z d], [] => some (rs 0 (q111 (m111 a b d)) [])
  | _, _ => none
noncomputable def c111 : Ctr := genC [.k, .k, .k] g111
theorem k111 : CtrOk Tryd.prog c111 111 := cx tn mix_ok 8 (fn := Tryd.f111) (c := (Tryd.f111.body.getD .skip)) (grs := []) (rh := .k) Tryd.func111 rfl (by kernel_rfl) noLam fun vs bs q h hn => by
  unfold g111 at h
  split at h <;> cases h
  rename_i a b d
  exact ⟨_, rfl, ca (fun R => (R (.bool (bif (decide (b ≤ a)) then (decide (a ≤ d)) else false)) [] [])) (fun R => by kernel_rfl) (lf rfl rfl)⟩
/-! ### (shotline/profile.ratio).less -/
noncomputable def m63 (a b d e : Int) : Bool :=
  (decide ((Z.wrap (a * e)) < (Z.wrap (d * b))))
noncomputable def q63 (r : Bool) : SV × List Blk × List Blk := (.bool r, [], [])
noncomputable def g63 : GF := fun vs bs => match vs, bs with
  | [.agg [V Z a, V Z b], .agg [V Z d, V Z e]], [] => some (rs 0 (q63 (m63 a b d e)) [])
  | _, _ => none
noncomputable def c63 : Ctr := genC [.k, .k] g63
theorem k63 : CtrOk Tryd.prog c63 63 := cx tn mix_ok 8 (fn := Tryd.f63) (c := (Tryd.f63.body.getD .skip)) (grs := []) (rh := .k) Tryd.func63 rfl (by kernel_rfl) noLam fun vs bs q h hn => by
  unfold g63 at h
  split at h <;> cases h
  rename_i a b d e
  exact ⟨_, rfl, ca (fun R => (R (.bool (decide ((Z.wrap (a * e)) < (Z.wrap (d * b))))) [] [])) (fun R => by kernel_rfl) (lf rfl rfl)⟩
/-! ### (shotline/profile.ratio).rounded -/
noncomputable def m54 (b a : Int) : Int × Int :=
  ((Z.wrap (b.tdiv a)), (Z.wrap ((Z.wrap ((Z.wrap (b + a)) - 1)).tdiv a)))
noncomputable def n54 (b a : Int) : Bool :=
  ((bif (decide (a = 0)) then false else true) && ((bif (decide (a = 0)) then false else true) && true))
noncomputable def q54 (r : Int × Int) : SV × List Blk × List Blk := (.agg [V Z r.1, V Z r.2], [], [])
noncomputable def g54 : GF := fun vs bs => match vs, bs with
  | [.agg [V Z b, V Z a]], [] => some (rs 0 (q54 (m54 b a)) [n54 b a])
  | _, _ => none
noncomputable def c54 : Ctr := genC [.k] g54
theorem k54 : CtrOk Tryd.prog c54 54 := cx tn mix_ok 8 (fn := Tryd.f54) (c := (Tryd.f54.body.getD .skip)) (grs := []) (rh := .k) Tryd.func54 rfl (by kernel_rfl) noLam fun vs bs q h hn => by
  unfold g54 at h
  split at h <;> cases h
  rename_i b a
  have hn := n1 hn
  exact ⟨_, rfl, ca (fun R => (cnd (bif (decide (a = 0)) then false else true)
 (cnd (bif (decide (a = 0)) then false else true)
 (R (.agg [V Z (Z.wrap (b.tdiv a)), V Z (Z.wrap ((Z.wrap ((Z.wrap (b + a)) - 1)).tdiv a))]) [] [])
   False)
  False)) (fun R => by kernel_rfl) (cn (al hn) (cn (al (ar hn)) (lf rfl rfl)))⟩
/-! ### (shotline/profile.track).end -/
noncomputable def m62 (a : Nat) (b : Dat) : Int :=
  (b.ii ((Z.wrap ((↑a : Int) - 1)).toNat) 0)
noncomputable def n62 (a : Nat) (b : Dat) : Bool :=
  ((decide (0 ≤ Z.wrap ((↑a : Int) - 1) ∧ Z.wrap ((↑a : Int) - 1) < (↑a : Int))) && true)
noncomputable def q62 (r : Int) : SV × List Blk × List Blk := (V Z r, [], [])
noncomputable def g62 : GF := fun vs bs => match vs, bs with
  | [.ro [W Z, W Z] a b], [] => some (rs 0 (q62 (m62 a b)) [n62 a b])
  | _, _ => none
noncomputable def c62 : Ctr := genC [.ro [W Z, W Z]] g62
theorem k62 : CtrOk Tryd.prog c62 62 := cx tn mix_ok 8 (fn := Tryd.f62) (c := (Tryd.f62.body.getD .skip)) (grs := []) (rh := .k) Tryd.func62 rfl (by kernel_rfl) noLam fun vs bs q h hn => by
  unfold g62 at h
  split at h <;> cases h
  rename_i a b
  have hn := n1 hn
  exact ⟨_, rfl, ca (fun R => (cnd (decide (0 ≤ Z.wrap ((↑a : Int) - 1) ∧ Z.wrap ((↑a : Int) - 1) < (↑a : Int)))
 (R (V Z (b.ii ((Z.wrap ((↑a : Int) - 1)).toNat) 0)) [] [])
  False)) (fun R => by kernel_rfl) (cn (al hn) (lf rfl rfl))⟩
/-! ### (shotline/profile.track).leg$1 -/
noncomputable def m101 (a d : Int) (b : Dat) : Bool :=
  (decide ((b.ii 0 0) ≤ a))
noncomputable def q101 (r : Bool) : SV × List Blk × List Blk := (.bool r, [], [])
noncomputable def g101 : GF := fun vs bs => match vs, bs with
  | [.agg [V Z a, V Z d], .rp [W Z] b 0 0], [] => some (rs 0 (q101 (m101 a d b)) [])
  | _, _ => none
noncomputable def c101 : Ctr := genC [.k, .rp [W Z]] g101
theorem k101 : CtrOk Tryd.prog c101 101 := cx tn mix_ok 8 (fn := Tryd.f101) (c := (Tryd.f101.body.getD .skip)) (grs := []) (rh := .k) Tryd.func101 rfl (by kernel_rfl) noLam fun vs bs q h hn => by
  unfold g101 at h
  split at h <;> cases h
  rename_i a d b
  exact ⟨_, rfl, ca (fun R => (R (.bool (decide ((b.ii 0 0) ≤ a))) [] [])) (fun R => by kernel_rfl) (lf rfl rfl)⟩
/-! ### shotline/gas.first -/
noncomputable def l93_0 (b : Nat) (a : Dat) (i : Int) : Nat → Int → Option (Bool × (Int) × (Unit))
  | 0, _ => none
  | f + 1, g => (cond (decide (g < i)) (cond (decide (0 ≤ g ∧ g < ↑b)) (cond (bif (decide ((a.ii g.toNat 0) = 0)) then false else true) (some (true, (a.ii g.toNat 0), default)) (l93_0 b a i f (Z.wrap (g + 1)))) none) (some (false, default, ())))
noncomputable abbrev o93_0 (b : Nat) (a : Dat) (i g : Int) : Option (Bool × (Int) × (Unit)) := l93_0 b a i (b + i.toNat + g.toNat + 8) g
noncomputable def e93_0 (b : Nat) (a : Dat) (i : Int) (r : Bool × (Int) × (Unit)) (K : XR) : Prop := cnd r.1 (K (XE.ret) [V Z r.2.1] []) (K (XE.exit 0) [.any] [])
noncomputable def g93_0 : LSum := fun s k => match czv 0 15 [5, 6, 7] 0 [] s with
  | some ([.ro [W Z] b a, V Z i, V Z g], []) => needs [(o93_0 b a i g).isSome] (e93_0 b a i ((o93_0 b a i g).getD default) fun e vs bs => inBlk 0 k e (mkSt 0 15 [2] vs 0 bs))
  | _ => False
theorem z93_0 : LOk Tryd.prog g93_0 (.block 0 (bodyAt (Tryd.f93.body.getD .skip) 0)) := by
  refine lb (ι := Nat × Dat × Int × Int) (fuel := 8) (na := 0) (nt := 15) (nx := 0) (Lh := [5, 6, 7]) (Le := [2]) (gl := []) tn mix_ok noLam rfl (fun f (b, a, i, g) K => GG default (e93_0 b a i) K (l93_0 b a i f g)) (fun (b, a, i, g) => [.ro [W Z] b a, V Z i, V Z g]) (fun (b, a, i, g) => []) (fun (_, _, _, _) K => gg_none) ?_ ?_
  · rintro f ⟨b, a, i, g⟩ K hG
    refine ro (fun R => (cnd (decide (g < i))
 (cnd (decide (0 ≤ g ∧ g < ↑b))
 (cnd (bif (decide ((a.ii g.toNat 0) = 0)) then false else true)
 (R (XE.ret) [V Z (a.ii g.toNat 0)] [])
 (R (XE.normal) [.ro [W Z] b a, V Z i, V Z (Z.wrap (g + 1))] []))
   False)
 (R (XE.exit 0) [.any] []))) (fun R => by kernel_rfl) ?_
    exact ch hG (fun h0 => cg h0 fun h1 => ch h1 (fun h2 => h2.2) (fun h2 => ⟨(_, _, _, _), rfl, rfl, h2⟩)) (fun h0 => h0.2)
  · intro s k h
    unfold g93_0 at h
    split at h <;> try exact h.elim
    rename_i e1
    rw [needs_iff] at h
    exact ⟨_, e1, _, (_, _, _, _), rfl, rfl, h.1 _ (List.mem_singleton.2 rfl), h.2⟩
noncomputable def m93 (d : Nat) (j : Dat) : Int :=
  (cond ((o93_0 d j (↑d : Int) 0).getD default).1 ((o93_0 d j (↑d : Int) 0).getD default).2.1 0)
noncomputable def n93 (d : Nat) (j : Dat) : Bool :=
  (((o93_0 d j (↑d : Int) 0).isSome) && true)
noncomputable def q93 (r : Int) : SV × List Blk × List Blk := (V Z r, [], [])
noncomputable def g93 : GF := fun vs bs => match vs, bs with
  | [.ro [W Z] d j], [] => some (rs 0 (q93 (m93 d j)) [n93 d j])
  | _, _ => none
noncomputable def c93 : Ctr := genC [.ro [W Z]] g93
theorem k93 : CtrOk Tryd.prog c93 93 := cx tn mix_ok 8 (fn := Tryd.f93) (c := (Tryd.f93.body.getD .skip)) (grs := []) (rh := .k) Tryd.func93 rfl (by kernel_rfl) (lam_of rfl (lc z93_0 ln)) fun vs bs q h hn => by
  unfold g93 at h
  split at h <;> cases h
  rename_i d j
  have hn := n1 hn
  exact ⟨_, rfl, ca (fun R => (cnd ((o93_0 d j (↑d : Int) 0).isSome)
 (cnd ((o93_0 d j (↑d : Int) 0).getD default).1
 (R (V Z ((o93_0 d j (↑d : Int) 0).getD default).2.1) [] [])
 (R (V Z 0) [] []))
  False)) (fun R => by kernel_rfl) (cn (al hn) (co (fun h0 => lf (cT h0 rfl) rfl) (fun h0 => lf (cF h0 rfl) rfl)))⟩
/-! ### shotline/profile.trackOf -/
noncomputable def l61_0 (g : Nat) (i : Dat) (z : Int) (j : ByteArray) (l : Int) (m : Nat) (t u : Dat) : Nat → Nat → Int → Dat → Option (Nat × Nat × Dat)
  | 0, _, _, _ => none
  | f + 1, n, v, w => (cond (decide (v < z)) (cond (decide (0 ≤ v ∧ v < ↑g)) (cond (decide (0 ≤ Z.wrap ((↑n : Int) - 1) ∧ Z.wrap ((↑n : Int) - 1) < (↑n : Int))) (cond (decide (((Z.wrap ((↑n : Int) - 1)).toNat) < n)) (cond (decide ((n + 1) ≤ 1073741824)) (l61_0 g i z j l m t u f (n + 1) (Z.wrap (v + 1)) (w.app n (datS [V Z (Z.wrap ((w.ii ((Z.wrap ((↑n : Int) - 1)).toNat) 0) + (i.ii v.toNat 0))), V Z (i.ii v.toNat 1)] 2))) none) none) none) none) (some (n, n, w)))
noncomputable abbrev o61_0 (g : Nat) (i : Dat) (z : Int) (j : ByteArray) (l : Int) (m : Nat) (t u : Dat) (n : Nat) (v : Int) (w : Dat) : Option (Nat × Nat × Dat) := l61_0 g i z j l m t u (n + g + z.toNat + v.toNat + j.size + l.toNat + m + 8) n v w
noncomputable def e61_0 (g : Nat) (i : Dat) (z : Int) (j : ByteArray) (l : Int) (m : Nat) (t u : Dat) (r : Nat × Nat × Dat) (K : XR) : Prop := K (XE.exit 0) [.gr 1 2 r.1] [.cells 41 [.str j, V Z l, .ro [W Z, W Z] m t, .ro [W Z, W Z, W Z] g u], .row 35 [W Z, W Z] r.2.1 r.2.2]
noncomputable def g61_0 : LSum := fun s k => match czv 0 33 [3, 9, 10, 11] 2 [⟨true, 3, 0, 1, 35, [W Z, W Z]⟩] s with
  | some ([.gr 1 2 n, .ro [W Z, W Z, W Z] g i, V Z z, V Z v], [.cells 41 [.str j, V Z l, .ro [W Z, W Z] m t, .ro [W Z, W Z, W Z] b0_4 u], .row 35 [W Z, W Z] b1_0 w]) => needs [decide (g = b0_4), decide (n = b1_0), (o61_0 g i z j l m t u n v w).isSome] (e61_0 g i z j l m t u ((o61_0 g i z j l m t u n v w).getD default) fun e vs bs => inBlk 0 k e (mkSt 0 33 [3] vs 2 bs))
  | _ => False
theorem z61_0 : LOk Tryd.prog g61_0 (.block 0 (bodyAt (Tryd.f61.body.getD .skip) 0)) := by
  refine lb (ι := Nat × Nat × Dat × Int × Int × ByteArray × Int × Nat × Dat × Dat × Dat) (fuel := 8) (na := 0) (nt := 33) (nx := 2) (Lh := [3, 9, 10, 11]) (Le := [3]) (gl := [⟨true, 3, 0, 1, 35, [W Z, W Z]⟩]) tn mix_ok noLam rfl (fun f (n, g, i, z, v, j, l, m, t, u, w) K => GG default (e61_0 g i z j l m t u) K (l61_0 g i z j l m t u f n v w)) (fun (n, g, i, z, v, j, l, m, t, u, w) => [.gr 1 2 n, .ro [W Z, W Z, W Z] g i, V Z z, V Z v]) (fun (n, g, i, z, v, j, l, m, t, u, w) => [.cells 41 [.str j, V Z l, .ro [W Z, W Z] m t, .ro [W Z, W Z, W Z] g u], .row 35 [W Z, W Z] n w]) (fun (_, _, _, _, _, _, _, _, _, _, _) K => gg_none) ?_ ?_
  · rintro f ⟨n, g, i, z, v, j, l, m, t, u, w⟩ K hG
    refine ro (fun R => (cnd (decide (v < z))
 (cnd (decide (0 ≤ v ∧ v < ↑g))
 (cnd (decide (0 ≤ Z.wrap ((↑n : Int) - 1) ∧ Z.wrap ((↑n : Int) - 1) < (↑n : Int)))
 (cnd (decide (((Z.wrap ((↑n : Int) - 1)).toNat) < n))
 (cnd (decide (n ≤ n))
 (cnd (decide ((n + 1) ≤ 1073741824))
 (R (XE.normal) [.gr 1 2 (n + 1), .ro [W Z, W Z, W Z] g i, V Z z, V Z (Z.wrap (v + 1))] [.cells 41 [.str j, V Z l, .ro [W Z, W Z] m t, .ro [W Z, W Z, W Z] g u], .row 35 [W Z, W Z] (n + 1) (w.app n (datS [V Z (Z.wrap ((w.ii ((Z.wrap ((↑n : Int) - 1)).toNat) 0) + (i.ii v.toNat 0))), V Z (i.ii v.toNat 1)] 2))])
       False)
      False)
     False)
    False)
   False)
 (R (XE.exit 0) [.gr 1 2 n] [.cells 41 [.str j, V Z l, .ro [W Z, W Z] m t, .ro [W Z, W Z, W Z] g u], .row 35 [W Z, W Z] n w]))) (fun R => by kernel_rfl) ?_
    exact ch hG (fun h0 => cg h0 fun h1 => cg h1 fun h2 => cg h2 fun h3 => cn (decide_eq_true (Nat.le_refl _)) (cg h3 fun h4 => ⟨(_, _, _, _, _, _, _, _, _, _, _), rfl, rfl, h4⟩)) (fun h0 => h0.2)
  · intro s k h
    unfold g61_0 at h
    split at h <;> try exact h.elim
    rename_i e1
    rw [needs_iff] at h
    have hq := h.1
    simp only [List.mem_cons, forall_eq_or_imp, decide_eq_true_eq, List.not_mem_nil, false_imp_iff, implies_true, and_true] at hq
    obtain ⟨rfl, rfl, hq⟩ := hq
    exact ⟨_, e1, _, (_, _, _, _, _, _, _, _, _, _, _), rfl, rfl, hq, h.2⟩
noncomputable def m61 (x : ByteArray) (y : Int) (o : Nat) (p : Dat) (b : Nat) (d : Dat) : Nat × Dat :=
  (((o61_0 b d (↑b : Int) x y o p d 1 0 (datS [V Z 0, V Z 0] 2)).getD default).1, ((o61_0 b d (↑b : Int) x y o p d 1 0 (datS [V Z 0, V Z 0] 2)).getD default).2.2)
noncomputable def n61 (x : ByteArray) (y : Int) (o : Nat) (p : Dat) (b : Nat) (d : Dat) : Bool :=
  (((o61_0 b d (↑b : Int) x y o p d 1 0 (datS [V Z 0, V Z 0] 2)).isSome) && ((decide ((0 + ((o61_0 b d (↑b : Int) x y o p d 1 0 (datS [V Z 0, V Z 0] 2)).getD default).1) ≤ ((o61_0 b d (↑b : Int) x y o p d 1 0 (datS [V Z 0, V Z 0] 2)).getD default).2.1)) && true))
noncomputable def q61 (r : Nat × Dat) : SV × List Blk × List Blk := (.ro [W Z, W Z] r.1 r.2, [], [])
noncomputable def g61 : GF := fun vs bs => match vs, bs with
  | [.agg [.str x, V Z y, .ro [W Z, W Z] o p, .ro [W Z, W Z, W Z] b d]], [] => some (rs 0 (q61 (m61 x y o p b d)) [n61 x y o p b d])
  | _, _ => none
noncomputable def c61 : Ctr := genC [.a [.k, .k, .ro [W Z, W Z], .ro [W Z, W Z, W Z]]] g61
theorem k61 : CtrOk Tryd.prog c61 61 := cx tn mix_ok 8 (fn := Tryd.f61) (c := (Tryd.f61.body.getD .skip)) (grs := []) (rh := .ro [W Z, W Z]) Tryd.func61 rfl (by kernel_rfl) (lam_of rfl (lc z61_0 ln)) fun vs bs q h hn => by
  unfold g61 at h
  split at h <;> cases h
  rename_i x y o p b d
  have hn := n1 hn
  exact ⟨_, rfl, ca (fun R => (cnd (decide (b = b))
 (cnd ((o61_0 b d (↑b : Int) x y o p d 1 0 (datS [V Z 0, V Z 0] 2)).isSome)
 (cnd (decide ((0 + ((o61_0 b d (↑b : Int) x y o p d 1 0 (datS [V Z 0, V Z 0] 2)).getD default).1) ≤ ((o61_0 b d (↑b : Int) x y o p d 1 0 (datS [V Z 0, V Z 0] 2)).getD default).2.1))
 (R (.ro [W Z, W Z] ((o61_0 b d (↑b : Int) x y o p d 1 0 (datS [V Z 0, V Z 0] 2)).getD default).1 ((o61_0 b d (↑b : Int) x y o p d 1 0 (datS [V Z 0, V Z 0] 2)).getD default).2.2) [] [])
    False)
   False)
  False)) (fun R => by kernel_rfl) (cn (decide_eq_true rfl) (cn (al hn) (cn (al (ar hn)) (lf rfl rfl))))⟩

/-! ### shotline/gas.bound -/
noncomputable def m94 (a b d : Int) : Int :=
  (cond (bif (m111 a b d) then false else true) 2 0)
noncomputable def q94 (r : Int) : SV × List Blk × List Blk := (V Z r, [], [])
noncomputable def g94 : GF := fun vs bs => match vs, bs with
  | [V Z a, V Z b, V Z d], [] => some (rs 0 (q94 (m94 a b d)) [])
  | _, _ => none
noncomputable def c94 : Ctr := genC [.k, .k, .k] g94
theorem k94 : CtrOk Tryd.prog c94 94 := cx (tc k111 tn) mix_ok 8 (fn := Tryd.f94) (c := (Tryd.f94.body.getD .skip)) (grs := []) (rh := .k) Tryd.func94 rfl (by kernel_rfl) noLam fun vs bs q h hn => by
  unfold g94 at h
  split at h <;> cases h
  rename_i a b d
  exact ⟨_, rfl, ca (fun R => (cnd (bif (m111 a b d) then false else true)
 (R (V Z 2) [] [])
 (R (V Z 0) [] []))) (fun R => by kernel_rfl) (co (fun h0 => lf (cT h0 rfl) rfl) (fun h0 => lf (cF h0 rfl) rfl))⟩
/-! ### shotline/profile.isError -/
noncomputable def m69 (a : Int) : Bool :=
  (m52 a 0 30000)
noncomputable def q69 (r : Bool) : SV × List Blk × List Blk := (.bool r, [], [])
noncomputable def g69 : GF := fun vs bs => match vs, bs with
  | [V Z a], [] => some (rs 0 (q69 (m69 a)) [])
  | _, _ => none
noncomputable def c69 : Ctr := genC [.k] g69
theorem k69 : CtrOk Tryd.prog c69 69 := cx (tc k52 tn) mix_ok 8 (fn := Tryd.f69) (c := (Tryd.f69.body.getD .skip)) (grs := []) (rh := .k) Tryd.func69 rfl (by kernel_rfl) noLam fun vs bs q h hn => by
  unfold g69 at h
  split at h <;> cases h
  rename_i a
  exact ⟨_, rfl, ca (fun R => (R (.bool (m52 a 0 30000)) [] [])) (fun R => by kernel_rfl) (lf rfl rfl)⟩
/-! ### shotline/profile.isName -/
noncomputable def l57_0 (b : ByteArray) (g : Int) : Nat → Int → Option (Bool × (Bool) × (Unit))
  | 0, _ => none
  | f + 1, a => (cond (decide (a < g)) (cond (decide (0 ≤ a ∧ a < (↑b.size : Int))) (cond (bif (bif (decide (97 ≤ (byteAt b a.toNat))) then false else true) then true else (decide (0 ≤ a ∧ a < (↑b.size : Int)))) (cond (bif (bif (bif (bif (decide (97 ≤ (byteAt b a.toNat))) then (decide ((byteAt b a.toNat) ≤ 122)) else false) then false else true) then false else true) then true else (decide (0 ≤ a ∧ a < (↑b.size : Int)))) (cond (bif (bif (bif (bif (bif (decide (97 ≤ (byteAt b a.toNat))) then (decide ((byteAt b a.toNat) ≤ 122)) else false) then false else true) then (decide (65 ≤ (byteAt b a.toNat))) else false) then false else true) then true else (decide (0 ≤ a ∧ a < (↑b.size : Int)))) (cond (bif (bif (bif (bif (bif (bif (decide (97 ≤ (byteAt b a.toNat))) then (decide ((byteAt b a.toNat) ≤ 122)) else false) then true else (bif (decide (65 ≤ (byteAt b a.toNat))) then (decide ((byteAt b a.toNat) ≤ 90)) else false)) then false else true) then (bif (decide (a = 0)) then false else true) else false) then false else true) then true else (decide (0 ≤ a ∧ a < (↑b.size : Int)))) (cond (bif (bif (bif (bif (bif (bif (bif (decide (97 ≤ (byteAt b a.toNat))) then (decide ((byteAt b a.toNat) ≤ 122)) else false) then true else (bif (decide (65 ≤ (byteAt b a.toNat))) then (decide ((byteAt b a.toNat) ≤ 90)) else false)) then false else true) then (bif (decide (a = 0)) then false else true) else false) then (bif (decide ((byteAt b a.toNat) = 45)) then false else true) else false) then false else true) then true else (decide (0 ≤ a ∧ a < (↑b.size : Int)))) (cond (bif (bif (bif (bif (bif (bif (bif (bif (decide (97 ≤ (byteAt b a.toNat))) then (decide ((byteAt b a.toNat) ≤ 122)) else false) then true else (bif (decide (65 ≤ (byteAt b a.toNat))) then (decide ((byteAt b a.toNat) ≤ 90)) else false)) then false else true) then (bif (decide (a = 0)) then false else true) else false) then (bif (decide ((byteAt b a.toNat) = 45)) then false else true) else false) then (bif (decide ((byteAt b a.toNat) < 48)) then false else true) else false) then false else true) then true else (decide (0 ≤ a ∧ a < (↑b.size : Int)))) (cond (bif (bif (bif (bif (decide (97 ≤ (byteAt b a.toNat))) then (decide ((byteAt b a.toNat) ≤ 122)) else false) then true else (bif (decide (65 ≤ (byteAt b a.toNat))) then (decide ((byteAt b a.toNat) ≤ 90)) else false)) then false else true) then (bif (decide (a = 0)) then true else (bif (bif (decide ((byteAt b a.toNat) = 45)) then false else true) then (bif (decide ((byteAt b a.toNat) < 48)) then true else (decide (57 < (byteAt b a.toNat)))) else false)) else false) (some (true, false, default)) (l57_0 b g f (Z.wrap (a + 1)))) none) none) none) none) none) none) none) (some (false, default, ())))
noncomputable abbrev o57_0 (b : ByteArray) (g a : Int) : Option (Bool × (Bool) × (Unit)) := l57_0 b g (b.size + g.toNat + a.toNat + 8) a
noncomputable def e57_0 (b : ByteArray) (g : Int) (r : Bool × (Bool) × (Unit)) (K : XR) : Prop := cnd r.1 (K (XE.ret) [.str b, .bool r.2.1] []) (K (XE.exit 0) [.str b, .any] [])
noncomputable def g57_0 : LSum := fun s k => match czv 0 64 [0, 6, 7] 0 [] s with
  | some ([.str b, V Z g, V Z a], []) => needs [(o57_0 b g a).isSome] (e57_0 b g ((o57_0 b g a).getD default) fun e vs bs => inBlk 0 k e (mkSt 0 64 [0, 2] vs 0 bs))
  | _ => False
theorem z57_0 : LOk Tryd.prog g57_0 (.block 0 (bodyAt (Tryd.f57.body.getD .skip) 0)) := by
  refine lb (ι := ByteArray × Int × Int) (fuel := 8) (na := 0) (nt := 64) (nx := 0) (Lh := [0, 6, 7]) (Le := [0, 2]) (gl := []) tn mix_ok noLam rfl (fun f (b, g, a) K => GG default (e57_0 b g) K (l57_0 b g f a)) (fun (b, g, a) => [.str b, V Z g, V Z a]) (fun (b, g, a) => []) (fun (_, _, _) K => gg_none) ?_ ?_
  · rintro f ⟨b, g, a⟩ K hG
    refine ro (fun R => (cnd (decide (a < g))
 (cnd (decide (0 ≤ a ∧ a < (↑b.size : Int)))
 (cnd (bif (bif (decide (97 ≤ (byteAt b a.toNat))) then false else true) then true else (decide (0 ≤ a ∧ a < (↑b.size : Int))))
 (cnd (bif (bif (bif (bif (decide (97 ≤ (byteAt b a.toNat))) then (decide ((byteAt b a.toNat) ≤ 122)) else false) then false else true) then false else true) then true else (decide (0 ≤ a ∧ a < (↑b.size : Int))))
 (cnd (bif (bif (bif (bif (bif (decide (97 ≤ (byteAt b a.toNat))) then (decide ((byteAt b a.toNat) ≤ 122)) else false) then false else true) then (decide (65 ≤ (byteAt b a.toNat))) else false) then false else true) then true else (decide (0 ≤ a ∧ a < (↑b.size : Int))))
 (cnd (bif (bif (bif (bif (bif (bif (decide (97 ≤ (byteAt b a.toNat))) then (decide ((byteAt b a.toNat) ≤ 122)) else false) then true else (bif (decide (65 ≤ (byteAt b a.toNat))) then (decide ((byteAt b a.toNat) ≤ 90)) else false)) then false else true) then (bif (decide (a = 0)) then false else true) else false) then false else true) then true else (decide (0 ≤ a ∧ a < (↑b.size : Int))))
 (cnd (bif (bif (bif (bif (bif (bif (bif (decide (97 ≤ (byteAt b a.toNat))) then (decide ((byteAt b a.toNat) ≤ 122)) else false) then true else (bif (decide (65 ≤ (byteAt b a.toNat))) then (decide ((byteAt b a.toNat) ≤ 90)) else false)) then false else true) then (bif (decide (a = 0)) then false else true) else false) then (bif (decide ((byteAt b a.toNat) = 45)) then false else true) else false) then false else true) then true else (decide (0 ≤ a ∧ a < (↑b.size : Int))))
 (cnd (bif (bif (bif (bif (bif (bif (bif (bif (decide (97 ≤ (byteAt b a.toNat))) then (decide ((byteAt b a.toNat) ≤ 122)) else false) then true else (bif (decide (65 ≤ (byteAt b a.toNat))) then (decide ((byteAt b a.toNat) ≤ 90)) else false)) then false else true) then (bif (decide (a = 0)) then false else true) else false) then (bif (decide ((byteAt b a.toNat) = 45)) then false else true) else false) then (bif (decide ((byteAt b a.toNat) < 48)) then false else true) else false) then false else true) then true else (decide (0 ≤ a ∧ a < (↑b.size : Int))))
 (cnd (bif (bif (bif (bif (decide (97 ≤ (byteAt b a.toNat))) then (decide ((byteAt b a.toNat) ≤ 122)) else false) then true else (bif (decide (65 ≤ (byteAt b a.toNat))) then (decide ((byteAt b a.toNat) ≤ 90)) else false)) then false else true) then (bif (decide (a = 0)) then true else (bif (bif (decide ((byteAt b a.toNat) = 45)) then false else true) then (bif (decide ((byteAt b a.toNat) < 48)) then true else (decide (57 < (byteAt b a.toNat)))) else false)) else false)
 (R (XE.ret) [.str b, .bool false] [])
 (R (XE.normal) [.str b, V Z g, V Z (Z.wrap (a + 1))] []))
         False)
        False)
       False)
      False)
     False)
    False)
   False)
 (R (XE.exit 0) [.str b, .any] []))) (fun R => by kernel_rfl) ?_
    exact ch hG (fun h0 => cg h0 fun h1 => cg h1 fun h2 => cg h2 fun h3 => cg h3 fun h4 => cg h4 fun h5 => cg h5 fun h6 => cg h6 fun h7 => ch h7 (fun h8 => h8.2) (fun h8 => ⟨(_, _, _), rfl, rfl, h8⟩)) (fun h0 => h0.2)
  · intro s k h
    unfold g57_0 at h
    split at h <;> try exact h.elim
    rename_i e1
    rw [needs_iff] at h
    exact ⟨_, e1, _, (_, _, _), rfl, rfl, h.1 _ (List.mem_singleton.2 rfl), h.2⟩
noncomputable def m57 (d : ByteArray) : Bool :=
  (cond ((o57_0 d (↑d.size : Int) 0).getD default).1 ((o57_0 d (↑d.size : Int) 0).getD default).2.1 (bif (bif (decide (d = ({ data := #[] } : ByteArray))) then false else true) then (decide ((↑d.size : Int) ≤ 12)) else false))
noncomputable def n57 (d : ByteArray) : Bool :=
  (((o57_0 d (↑d.size : Int) 0).isSome) && true)
noncomputable def q57 (r : Bool) : SV × List Blk × List Blk := (.bool r, [], [])
noncomputable def g57 : GF := fun vs bs => match vs, bs with
  | [.str d], [] => some (rs 0 (q57 (m57 d)) [n57 d])
  | _, _ => none
noncomputable def c57 : Ctr := genC [.k] g57
theorem k57 : CtrOk Tryd.prog c57 57 := cx tn mix_ok 8 (fn := Tryd.f57) (c := (Tryd.f57.body.getD .skip)) (grs := []) (rh := .k) Tryd.func57 rfl (by kernel_rfl) (lam_of rfl (lc z57_0 ln)) fun vs bs q h hn => by
  unfold g57 at h
  split at h <;> cases h
  rename_i d
  have hn := n1 hn
  exact ⟨_, rfl, ca (fun R => (cnd ((o57_0 d (↑d.size : Int) 0).isSome)
 (cnd ((o57_0 d (↑d.size : Int) 0).getD default).1
 (R (.bool ((o57_0 d (↑d.size : Int) 0).getD default).2.1) [] [])
 (R (.bool (bif (bif (decide (d = ({ data := #[] } : ByteArray))) then false else true) then (decide ((↑d.size : Int) ≤ 12)) else false)) [] []))
  False)) (fun R => by kernel_rfl) (cn (al hn) (co (fun h0 => lf (cT h0 rfl) rfl) (fun h0 => lf (cF h0 rfl) rfl)))⟩
/-! ### slices.IndexFunc[shotline/profile.track,shotline/api.DivePoint] -/
noncomputable def l100c101_0 (b : Nat) (a j : Dat) (i : Int) : Nat → Int → Option (Bool × (Int) × (Unit))
  | 0, _ => none
  | f + 1, d => (cond (decide (d < i)) (cond (decide (0 ≤ d ∧ d < ↑b)) (cond (m101 (a.ii d.toNat 0) (a.ii d.toNat 1) j) (some (true, d, default)) (l100c101_0 b a j i f (Z.wrap (d + 1)))) none) (some (false, default, ())))
noncomputable abbrev o100c101_0 (b : Nat) (a j : Dat) (i d : Int) : Option (Bool × (Int) × (Unit)) := l100c101_0 b a j i (b + i.toNat + d.toNat + 8) d
noncomputable def e100c101_0 (b : Nat) (a j : Dat) (i : Int) (r : Bool × (Int) × (Unit)) (K : XR) : Prop := cnd r.1 (K (XE.ret) [V Z r.2.1] []) (K (XE.exit 0) [.any] [])
noncomputable def g100c101_0 : LSum := fun s k => match czv 0 19 [0, 1, 7, 8] 0 [] s with
  | some ([.ro [W Z, W Z] b a, .fn 101 [.rp [W Z] j 0 0], V Z i, V Z d], []) => needs [(o100c101_0 b a j i d).isSome] (e100c101_0 b a j i ((o100c101_0 b a j i d).getD default) fun e vs bs => inBlk 0 k e (mkSt 0 19 [4] vs 0 bs))
  | _ => False
theorem z100c101_0 : LOk Tryd.prog g100c101_0 (.block 0 (bodyAt (Tryd.f100.body.getD .skip) 0)) := by
  refine lb (ι := Nat × Dat × Dat × Int × Int) (fuel := 8) (na := 0) (nt := 19) (nx := 0) (Lh := [0, 1, 7, 8]) (Le := [4]) (gl := []) (tc k101 tn) mix_ok noLam rfl (fun f (b, a, j, i, d) K => GG default (e100c101_0 b a j i) K (l100c101_0 b a j i f d)) (fun (b, a, j, i, d) => [.ro [W Z, W Z] b a, .fn 101 [.rp [W Z] j 0 0], V Z i, V Z d]) (fun (b, a, j, i, d) => []) (fun (_, _, _, _, _) K => gg_none) ?_ ?_
  · rintro f ⟨b, a, j, i, d⟩ K hG
    refine ro (fun R => (cnd (decide (d < i))
 (cnd (decide (0 ≤ d ∧ d < ↑b))
 (cnd (m101 (a.ii d.toNat 0) (a.ii d.toNat 1) j)
 (R (XE.ret) [V Z d] [])
 (R (XE.normal) [.ro [W Z, W Z] b a, .fn 101 [.rp [W Z] j 0 0], V Z i, V Z (Z.wrap (d + 1))] []))
   False)
 (R (XE.exit 0) [.any] []))) (fun R => by kernel_rfl) ?_
    exact ch hG (fun h0 => cg h0 fun h1 => ch h1 (fun h2 => h2.2) (fun h2 => ⟨(_, _, _, _, _), rfl, rfl, h2⟩)) (fun h0 => h0.2)
  · intro s k h
    unfold g100c101_0 at h
    split at h <;> try exact h.elim
    rename_i e1
    rw [needs_iff] at h
    exact ⟨_, e1, _, (_, _, _, _, _), rfl, rfl, h.1 _ (List.mem_singleton.2 rfl), h.2⟩
noncomputable def m100c101 (g : Nat) (l da1c0 : Dat) : Int :=
  (cond ((o100c101_0 g l da1c0 (↑g : Int) 0).getD default).1 ((o100c101_0 g l da1c0 (↑g : Int) 0).getD default).2.1 (-1))
noncomputable def n100c101 (g : Nat) (l da1c0 : Dat) : Bool :=
  (((o100c101_0 g l da1c0 (↑g : Int) 0).isSome) && true)
noncomputable def q100c101 (r : Int) : SV × List Blk × List Blk := (V Z r, [], [])
noncomputable def g100c101 : GF := fun vs bs => match vs, bs with
  | [.ro [W Z, W Z] g l, .fn 101 [.rp [W Z] da1c0 0 0]], [] => some (rs 0 (q100c101 (m100c101 g l da1c0)) [n100c101 g l da1c0])
  | _, _ => none
noncomputable def c100c101 : Ctr := genC [.ro [W Z, W Z], .f [.rp [W Z]]] g100c101
theorem k100c101 : CtrOk Tryd.prog c100c101 100 := cx (tc k101 tn) mix_ok 8 (fn := Tryd.f100) (c := (Tryd.f100.body.getD .skip)) (grs := []) (rh := .k) Tryd.func100 rfl (by kernel_rfl) (lam_of rfl (lc z100c101_0 ln)) fun vs bs q h hn => by
  unfold g100c101 at h
  split at h <;> cases h
  rename_i g l da1c0
  have hn := n1 hn
  exact ⟨_, rfl, ca (fun R => (cnd ((o100c101_0 g l da1c0 (↑g : Int) 0).isSome)
 (cnd ((o100c101_0 g l da1c0 (↑g : Int) 0).getD default).1
 (R (V Z ((o100c101_0 g l da1c0 (↑g : Int) 0).getD default).2.1) [] [])
 (R (V Z (-1)) [] []))
  False)) (fun R => by kernel_rfl) (cn (al hn) (co (fun h0 => lf (cT h0 rfl) rfl) (fun h0 => lf (cF h0 rfl) rfl)))⟩
/-! ### shotline/profile.CheckPoints -/
noncomputable def l15_1 (d : Nat) (i a : Dat) (j : Int) : Nat → Int → Option (Bool × (Int) × (Unit))
  | 0, _ => none
  | f + 1, b => (cond (decide (b < j)) (cond (decide (0 ≤ b ∧ b < ↑d)) (cond (bif (bif (m52 (a.ii b.toNat 0) 0 1000000) then false else true) then true else (bif (m52 (a.ii b.toNat 1) 0 30000) then false else true)) (some (true, 2, default)) (cond (bif (bif (decide ((0 : Int) < b)) then false else true) then true else (decide (0 ≤ Z.wrap (b - 1) ∧ Z.wrap (b - 1) < (↑d : Int)))) (cond (bif (decide ((0 : Int) < b)) then (decide ((a.ii b.toNat 0) ≤ (i.ii ((Z.wrap (b - 1)).toNat) 0))) else false) (some (true, 9, default)) (l15_1 d i a j f (Z.wrap (b + 1)))) none)) none) (some (false, default, ())))
noncomputable abbrev o15_1 (d : Nat) (i a : Dat) (j b : Int) : Option (Bool × (Int) × (Unit)) := l15_1 d i a j (d + j.toNat + b.toNat + 8) b
noncomputable def e15_1 (d : Nat) (i a : Dat) (j : Int) (r : Bool × (Int) × (Unit)) (K : XR) : Prop := cnd r.1 (K (XE.ret) [V Z r.2.1] []) (K (XE.exit 1) [.any] [])
noncomputable def g15_1 : LSum := fun s k => match czv 0 46 [0, 13, 14, 15] 0 [] s with
  | some ([.ro [W Z, W Z] d i, .ro [W Z, W Z] t13_0 a, V Z j, V Z b], []) => needs [decide (d = t13_0), (o15_1 d i a j b).isSome] (e15_1 d i a j ((o15_1 d i a j b).getD default) fun e vs bs => inBlk 1 k e (mkSt 0 46 [2] vs 0 bs))
  | _ => False
theorem z15_1 : LOk Tryd.prog g15_1 (.block 1 (bodyAt (Tryd.f15.body.getD .skip) 1)) := by
  refine lb (ι := Nat × Dat × Dat × Int × Int) (fuel := 8) (na := 0) (nt := 46) (nx := 0) (Lh := [0, 13, 14, 15]) (Le := [2]) (gl := []) (tc k52 tn) mix_ok noLam rfl (fun f (d, i, a, j, b) K => GG default (e15_1 d i a j) K (l15_1 d i a j f b)) (fun (d, i, a, j, b) => [.ro [W Z, W Z] d i, .ro [W Z, W Z] d a, V Z j, V Z b]) (fun (d, i, a, j, b) => []) (fun (_, _, _, _, _) K => gg_none) ?_ ?_
  · rintro f ⟨d, i, a, j, b⟩ K hG
    refine ro (fun R => (cnd (decide (b < j))
 (cnd (decide (0 ≤ b ∧ b < ↑d))
 (cnd (bif (bif (m52 (a.ii b.toNat 0) 0 1000000) then false else true) then true else (bif (m52 (a.ii b.toNat 1) 0 30000) then false else true))
 (R (XE.ret) [V Z 2] [])
 (cnd (bif (bif (decide ((0 : Int) < b)) then false else true) then true else (decide (0 ≤ Z.wrap (b - 1) ∧ Z.wrap (b - 1) < (↑d : Int))))
 (cnd (bif (decide ((0 : Int) < b)) then (decide ((a.ii b.toNat 0) ≤ (i.ii ((Z.wrap (b - 1)).toNat) 0))) else false)
 (R (XE.ret) [V Z 9] [])
 (R (XE.normal) [.ro [W Z, W Z] d i, .ro [W Z, W Z] d a, V Z j, V Z (Z.wrap (b + 1))] []))
     False))
   False)
 (R (XE.exit 1) [.any] []))) (fun R => by kernel_rfl) ?_
    exact ch hG (fun h0 => cg h0 fun h1 => ch h1 (fun h2 => h2.2) (fun h2 => cg h2 fun h3 => ch h3 (fun h4 => h4.2) (fun h4 => ⟨(_, _, _, _, _), rfl, rfl, h4⟩))) (fun h0 => h0.2)
  · intro s k h
    unfold g15_1 at h
    split at h <;> try exact h.elim
    rename_i e1
    rw [needs_iff] at h
    have hq := h.1
    simp only [List.mem_cons, forall_eq_or_imp, decide_eq_true_eq, List.not_mem_nil, false_imp_iff, implies_true, and_true] at hq
    obtain ⟨rfl, hq⟩ := hq
    exact ⟨_, e1, _, (_, _, _, _, _), rfl, rfl, hq, h.2⟩
noncomputable def m15 (g : Nat) (l : Dat) : Int :=
  (cond (decide ((↑g : Int) < 2)) 10 (cond (decide ((200 : Int) < (↑g : Int))) 8 (cond ((o15_1 g l l (↑g : Int) 0).getD default).1 ((o15_1 g l l (↑g : Int) 0).getD default).2.1 0)))
noncomputable def n15 (g : Nat) (l : Dat) : Bool :=
  (cond (decide ((↑g : Int) < 2)) true (cond (decide ((200 : Int) < (↑g : Int))) true (((o15_1 g l l (↑g : Int) 0).isSome) && true)))
noncomputable def q15 (r : Int) : SV × List Blk × List Blk := (V Z r, [], [])
noncomputable def g15 : GF := fun vs bs => match vs, bs with
  | [.ro [W Z, W Z] g l], [] => some (rs 0 (q15 (m15 g l)) [n15 g l])
  | _, _ => none
noncomputable def c15 : Ctr := genC [.ro [W Z, W Z]] g15
theorem k15 : CtrOk Tryd.prog c15 15 := cx (tc k52 tn) mix_ok 8 (fn := Tryd.f15) (c := (Tryd.f15.body.getD .skip)) (grs := []) (rh := .k) Tryd.func15 rfl (by kernel_rfl) (lam_of rfl (lc z15_1 ln)) fun vs bs q h hn => by
  unfold g15 at h
  split at h <;> cases h
  rename_i g l
  have hn := n1 hn
  exact ⟨_, rfl, ca (fun R => (cnd (decide ((↑g : Int) < 2))
 (R (V Z 10) [] [])
 (cnd (decide ((200 : Int) < (↑g : Int)))
 (R (V Z 8) [] [])
 (cnd (decide (g = g))
 (cnd ((o15_1 g l l (↑g : Int) 0).isSome)
 (cnd ((o15_1 g l l (↑g : Int) 0).getD default).1
 (R (V Z ((o15_1 g l l (↑g : Int) 0).getD default).2.1) [] [])
 (R (V Z 0) [] []))
     False)
    False)))) (fun R => by kernel_rfl) (co (fun h0 => lf (cT h0 rfl) rfl) (fun h0 => co (fun h1 => lf (cF h0 (cT h1 rfl)) rfl) (fun h1 => cn (decide_eq_true rfl) (cn (al (cf h1 (cf h0 hn))) (co (fun h2 => lf (cF h0 (cF h1 (cT h2 rfl))) rfl) (fun h2 => lf (cF h0 (cF h1 (cF h2 rfl))) rfl))))))⟩
/-! ### shotline/shotlinelaw02.Reef -/
noncomputable def m47  : ByteArray × Int × Dat × Dat :=
  (({ data := #[OfNat.ofNat 112] } : ByteArray), 1013, (datS [V Z 210, V Z 0, V Z 500, V Z 0] 2), (datS [V Z 60, V Z 1800, V Z 0, V Z 600, V Z 1800, V Z 0, V Z 120, V Z 600, V Z 0, V Z 300, V Z 600, V Z 1] 3))
noncomputable def q47 (r : ByteArray × Int × Dat × Dat) : SV × List Blk × List Blk := (.agg [.str r.1, V Z r.2.1, .ro [W Z, W Z] 2 r.2.2.1, .ro [W Z, W Z, W Z] 4 r.2.2.2], [], [])
noncomputable def g47 : GF := fun vs bs => match vs, bs with
  | [], [] => some (rs 0 (q47 (m47)) [])
  | _, _ => none
noncomputable def c47 : Ctr := genC [] g47
theorem k47 : CtrOk Tryd.prog c47 47 := cx tn mix_ok 8 (fn := Tryd.f47) (c := (Tryd.f47.body.getD .skip)) (grs := []) (rh := .t [.k, .k, .ro [W Z, W Z], .ro [W Z, W Z, W Z]]) Tryd.func47 rfl (by kernel_rfl) noLam fun vs bs q h hn => by
  unfold g47 at h
  split at h <;> cases h
  exact ⟨_, rfl, ca (fun R => (R (.agg [.str ({ data := #[OfNat.ofNat 112] } : ByteArray), V Z 1013, .ro [W Z, W Z] 2 (datS [V Z 210, V Z 0, V Z 500, V Z 0] 2), .ro [W Z, W Z, W Z] 4 (datS [V Z 60, V Z 1800, V Z 0, V Z 600, V Z 1800, V Z 0, V Z 120, V Z 600, V Z 0, V Z 300, V Z 600, V Z 1] 3)]) [] [])) (fun R => by kernel_rfl) (lf rfl rfl)⟩
/-! ### shotline/shotlinelaw02.Four -/
noncomputable def m50  : Dat :=
  (datS [V Z 0, V Z 0, V Z 10, V Z 100, V Z 20, V Z 190, V Z 30, V Z 300] 2)
noncomputable def q50 (r : Dat) : SV × List Blk × List Blk := (.ro [W Z, W Z] 4 r, [], [])
noncomputable def g50 : GF := fun vs bs => match vs, bs with
  | [], [] => some (rs 0 (q50 (m50)) [])
  | _, _ => none
noncomputable def c50 : Ctr := genC [] g50
theorem k50 : CtrOk Tryd.prog c50 50 := cx tn mix_ok 8 (fn := Tryd.f50) (c := (Tryd.f50.body.getD .skip)) (grs := []) (rh := .ro [W Z, W Z]) Tryd.func50 rfl (by kernel_rfl) noLam fun vs bs q h hn => by
  unfold g50 at h
  split at h <;> cases h
  exact ⟨_, rfl, ca (fun R => (R (.ro [W Z, W Z] 4 (datS [V Z 0, V Z 0, V Z 10, V Z 100, V Z 20, V Z 190, V Z 30, V Z 300] 2)) [] [])) (fun R => by kernel_rfl) (lf rfl rfl)⟩
/-! ### (shotline/profile.track).leg -/
noncomputable def m79 (a : Nat) (b : Dat) (d : Int) : Int :=
  (Z.wrap (1 + (m100c101 (((↑a : Int) - 1).toNat) (b.shift 1) (datC [V Z d]))))
noncomputable def n79 (a : Nat) (b : Dat) (d : Int) : Bool :=
  ((decide ((0 : Int) ≤ (1 : Int) ∧ (1 : Int) ≤ (↑a : Int) ∧ (↑a : Int) ≤ (↑a : Int))) && ((n100c101 (((↑a : Int) - 1).toNat) (b.shift 1) (datC [V Z d])) && true))
noncomputable def q79 (r : Int) : SV × List Blk × List Blk := (V Z r, [], [])
noncomputable def g79 : GF := fun vs bs => match vs, bs with
  | [.ro [W Z, W Z] a b, V Z d], [] => some (rs 0 (q79 (m79 a b d)) [n79 a b d])
  | _, _ => none
noncomputable def c79 : Ctr := genC [.ro [W Z, W Z], .k] g79
theorem k79 : CtrOk Tryd.prog c79 79 := cx (tc k100c101 (tc k101 tn)) mix_ok 8 (fn := Tryd.f79) (c := (Tryd.f79.body.getD .skip)) (grs := []) (rh := .k) Tryd.func79 rfl (by kernel_rfl) noLam fun vs bs q h hn => by
  unfold g79 at h
  split at h <;> cases h
  rename_i a b d
  have hn := n1 hn
  exact ⟨_, rfl, ca (fun R => (cnd (decide ((0 : Int) ≤ (1 : Int) ∧ (1 : Int) ≤ (↑a : Int) ∧ (↑a : Int) ≤ (↑a : Int)))
 (cnd (n100c101 (((↑a : Int) - 1).toNat) (b.shift 1) (datC [V Z d]))
 (R (V Z (Z.wrap (1 + (m100c101 (((↑a : Int) - 1).toNat) (b.shift 1) (datC [V Z d]))))) [] [])
   False)
  False)) (fun R => by kernel_rfl) (cn (al hn) (cn (al (ar hn)) (lf rfl rfl)))⟩
/-! ### shotline/gas.CheckGas -/
noncomputable def m58 (a b : Int) : Int :=
  (cond (bif (decide ((m93 2 (datS [V Z (m94 a 0 1000), V Z (m94 b 0 1000)] 1)) = 0)) then false else true) (m93 2 (datS [V Z (m94 a 0 1000), V Z (m94 b 0 1000)] 1)) (cond (decide ((1000 : Int) < (Z.wrap (a + b)))) 23 0))
noncomputable def n58 (a b : Int) : Bool :=
  ((n93 2 (datS [V Z (m94 a 0 1000), V Z (m94 b 0 1000)] 1)) && true)
noncomputable def q58 (r : Int) : SV × List Blk × List Blk := (V Z r, [], [])
noncomputable def g58 : GF := fun vs bs => match vs, bs with
  | [.agg [V Z a, V Z b]], [] => some (rs 0 (q58 (m58 a b)) [n58 a b])
  | _, _ => none
noncomputable def c58 : Ctr := genC [.k] g58
theorem k58 : CtrOk Tryd.prog c58 58 := cx (tc k93 (tc k94 tn)) mix_ok 8 (fn := Tryd.f58) (c := (Tryd.f58.body.getD .skip)) (grs := []) (rh := .k) Tryd.func58 rfl (by kernel_rfl) noLam fun vs bs q h hn => by
  unfold g58 at h
  split at h <;> cases h
  rename_i a b
  have hn := n1 hn
  exact ⟨_, rfl, ca (fun R => (cnd (n93 2 (datS [V Z (m94 a 0 1000), V Z (m94 b 0 1000)] 1))
 (cnd (bif (decide ((m93 2 (datS [V Z (m94 a 0 1000), V Z (m94 b 0 1000)] 1)) = 0)) then false else true)
 (R (V Z (m93 2 (datS [V Z (m94 a 0 1000), V Z (m94 b 0 1000)] 1))) [] [])
 (cnd (decide ((1000 : Int) < (Z.wrap (a + b))))
 (R (V Z 23) [] [])
 (R (V Z 0) [] [])))
  False)) (fun R => by kernel_rfl) (cn (al hn) (co (fun h0 => lf (cT h0 rfl) rfl) (fun h0 => co (fun h1 => lf (cF h0 (cT h1 rfl)) rfl) (fun h1 => lf (cF h0 (cF h1 rfl)) rfl))))⟩
/-! ### shotline/profile.checkThin -/
noncomputable def m81 (a : Nat) (b : Dat) (d : Int) : Int :=
  (cond (bif (decide ((m15 a b) = 0)) then false else true) (m15 a b) (cond (bif (m69 d) then false else true) 2 0))
noncomputable def n81 (a : Nat) (b : Dat) (d : Int) : Bool :=
  ((n15 a b) && true)
noncomputable def q81 (r : Int) : SV × List Blk × List Blk := (V Z r, [], [])
noncomputable def g81 : GF := fun vs bs => match vs, bs with
  | [.ro [W Z, W Z] a b, V Z d], [] => some (rs 0 (q81 (m81 a b d)) [n81 a b d])
  | _, _ => none
noncomputable def c81 : Ctr := genC [.ro [W Z, W Z], .k] g81
theorem k81 : CtrOk Tryd.prog c81 81 := cx (tc k69 (tc k15 tn)) mix_ok 8 (fn := Tryd.f81) (c := (Tryd.f81.body.getD .skip)) (grs := []) (rh := .k) Tryd.func81 rfl (by kernel_rfl) noLam fun vs bs q h hn => by
  unfold g81 at h
  split at h <;> cases h
  rename_i a b d
  have hn := n1 hn
  exact ⟨_, rfl, ca (fun R => (cnd (n15 a b)
 (cnd (bif (decide ((m15 a b) = 0)) then false else true)
 (R (V Z (m15 a b)) [] [])
 (cnd (bif (m69 d) then false else true)
 (R (V Z 2) [] [])
 (R (V Z 0) [] [])))
  False)) (fun R => by kernel_rfl) (cn (al hn) (co (fun h0 => lf (cT h0 rfl) rfl) (fun h0 => co (fun h1 => lf (cF h0 (cT h1 rfl)) rfl) (fun h1 => lf (cF h0 (cF h1 rfl)) rfl))))⟩
/-! ### (shotline/profile.track).at -/
noncomputable def m53 (b : Nat) (a : Dat) (d : Int) : Int × Int :=
  (cond (bif (decide ((m79 b a d) = 0)) then true else (decide (d = (a.ii 0 0)))) ((a.ii 0 1), 1) (cond (decide (d = (a.ii ((m79 b a d).toNat) 0))) ((a.ii ((m79 b a d).toNat) 1), 1) ((Z.wrap ((Z.wrap ((a.ii ((Z.wrap ((m79 b a d) - 1)).toNat) 1) * (Z.wrap ((a.ii ((m79 b a d).toNat) 0) - d)))) + (Z.wrap ((a.ii ((m79 b a d).toNat) 1) * (Z.wrap (d - (a.ii ((Z.wrap ((m79 b a d) - 1)).toNat) 0))))))), (Z.wrap ((a.ii ((m79 b a d).toNat) 0) - (a.ii ((Z.wrap ((m79 b a d) - 1)).toNat) 0))))))
noncomputable def n53 (b : Nat) (a : Dat) (d : Int) : Bool :=
  ((n79 b a d) && ((bif (bif (bif (decide ((m79 b a d) = 0)) then false else true) then false else true) then true else (decide ((0 : Int) ≤ (0 : Int) ∧ (0 : Int) < (↑b : Int)))) && (cond (bif (decide ((m79 b a d) = 0)) then true else (decide (d = (a.ii 0 0)))) ((decide ((0 : Int) ≤ (0 : Int) ∧ (0 : Int) < (↑b : Int))) && true) ((decide (0 ≤ Z.wrap (m79 b a d - 1) ∧ Z.wrap (m79 b a d - 1) < (↑b : Int))) && ((decide (0 ≤ m79 b a d ∧ m79 b a d < (↑b : Int))) && true)))))
noncomputable def q53 (r : Int × Int) : SV × List Blk × List Blk := (.agg [V Z r.1, V Z r.2], [], [])
noncomputable def g53 : GF := fun vs bs => match vs, bs with
  | [.ro [W Z, W Z] b a, V Z d], [] => some (rs 0 (q53 (m53 b a d)) [n53 b a d])
  | _, _ => none
noncomputable def c53 : Ctr := genC [.ro [W Z, W Z], .k] g53
theorem k53 : CtrOk Tryd.prog c53 53 := cx (tc k79 tn) mix_ok 8 (fn := Tryd.f53) (c := (Tryd.f53.body.getD .skip)) (grs := []) (rh := .k) Tryd.func53 rfl (by kernel_rfl) noLam fun vs bs q h hn => by
  unfold g53 at h
  split at h <;> cases h
  rename_i b a d
  have hn := n1 hn
  exact ⟨_, rfl, ca (fun R => (cnd (n79 b a d)
 (cnd (bif (bif (bif (decide ((m79 b a d) = 0)) then false else true) then false else true) then true else (decide ((0 : Int) ≤ (0 : Int) ∧ (0 : Int) < (↑b : Int))))
 (cnd (bif (decide ((m79 b a d) = 0)) then true else (decide (d = (a.ii 0 0))))
 (cnd (decide ((0 : Int) ≤ (0 : Int) ∧ (0 : Int) < (↑b : Int)))
 (R (.agg [V Z (a.ii 0 1), V Z 1]) [] [])
     False)
 (cnd (decide (0 ≤ Z.wrap (m79 b a d - 1) ∧ Z.wrap (m79 b a d - 1) < (↑b : Int)))
 (cnd (decide (0 ≤ m79 b a d ∧ m79 b a d < (↑b : Int)))
 (cnd (decide (d = (a.ii ((m79 b a d).toNat) 0)))
 (R (.agg [V Z (a.ii ((m79 b a d).toNat) 1), V Z 1]) [] [])
 (R (.agg [V Z (Z.wrap ((Z.wrap ((a.ii ((Z.wrap ((m79 b a d) - 1)).toNat) 1) * (Z.wrap ((a.ii ((m79 b a d).toNat) 0) - d)))) + (Z.wrap ((a.ii ((m79 b a d).toNat) 1) * (Z.wrap (d - (a.ii ((Z.wrap ((m79 b a d) - 1)).toNat) 0))))))), V Z (Z.wrap ((a.ii ((m79 b a d).toNat) 0) - (a.ii ((Z.wrap ((m79 b a d) - 1)).toNat) 0)))]) [] []))
      False)
     False))
   False)
  False)) (fun R => by kernel_rfl) (cn (al hn) (cn (al (ar hn)) (co (fun h0 => cn (al (ct h0 (ar (ar hn)))) (lf (cT h0 rfl) rfl)) (fun h0 => cn (al (cf h0 (ar (ar hn)))) (cn (al (ar (cf h0 (ar (ar hn))))) (co (fun h1 => lf (cF h0 (cT h1 rfl)) rfl) (fun h1 => lf (cF h0 (cF h1 rfl)) rfl)))))))⟩
/-! ### shotline/profile.CheckPlan -/
noncomputable def l19_1 (t : Nat) (o : Dat) (C : Int) (d : ByteArray) (g : Int) (j : Dat) (A : Nat) (l : Dat) : Nat → Int → Option (Bool × (Int × Int) × (Unit))
  | 0, _ => none
  | f + 1, z => (cond (decide (z < C)) (cond (decide (0 ≤ z ∧ z < ↑t)) (cond (n58 (o.ii z.toNat 0) (o.ii z.toNat 1)) (cond (bif (decide ((m58 (o.ii z.toNat 0) (o.ii z.toNat 1)) = 0)) then false else true) (some (true, (0, (m58 (o.ii z.toNat 0) (o.ii z.toNat 1))), default)) (l19_1 t o C d g j A l f (Z.wrap (z + 1)))) none) none) (some (false, default, ())))
noncomputable abbrev o19_1 (t : Nat) (o : Dat) (C : Int) (d : ByteArray) (g : Int) (j : Dat) (A : Nat) (l : Dat) (z : Int) : Option (Bool × (Int × Int) × (Unit)) := l19_1 t o C d g j A l (t + C.toNat + z.toNat + d.size + g.toNat + A + 8) z
noncomputable def e19_1 (t : Nat) (o : Dat) (C : Int) (d : ByteArray) (g : Int) (j : Dat) (A : Nat) (l : Dat) (r : Bool × (Int × Int) × (Unit)) (K : XR) : Prop := cnd r.1 (K (XE.ret) [.ptr 0 0, V Z r.2.1.1, V Z r.2.1.2] [.cells 41 [.str d, V Z g, .ro [W Z, W Z] t j, .ro [W Z, W Z, W Z] A l]]) (K (XE.exit 1) [.ptr 0 0, .any, .any] [.cells 41 [.str d, V Z g, .ro [W Z, W Z] t j, .ro [W Z, W Z, W Z] A l]])
noncomputable def g19_1 : LSum := fun s k => match czv 0 85 [1, 31, 32, 33] 1 [] s with
  | some ([.ptr 0 0, .ro [W Z, W Z] t o, V Z C, V Z z], [.cells 41 [.str d, V Z g, .ro [W Z, W Z] v j, .ro [W Z, W Z, W Z] A l]]) => needs [decide (t = v), (o19_1 t o C d g j A l z).isSome] (e19_1 t o C d g j A l ((o19_1 t o C d g j A l z).getD default) fun e vs bs => inBlk 1 k e (mkSt 0 85 [1, 2, 3] vs 1 bs))
  | _ => False
theorem z19_1 : LOk Tryd.prog g19_1 (.block 1 (bodyAt (Tryd.f19.body.getD .skip) 1)) := by
  refine lb (ι := Nat × Dat × Int × Int × ByteArray × Int × Dat × Nat × Dat) (fuel := 8) (na := 0) (nt := 85) (nx := 1) (Lh := [1, 31, 32, 33]) (Le := [1, 2, 3]) (gl := []) (tc k52 (tc k57 (tc k58 tn))) mix_ok noLam rfl (fun f (t, o, C, z, d, g, j, A, l) K => GG default (e19_1 t o C d g j A l) K (l19_1 t o C d g j A l f z)) (fun (t, o, C, z, d, g, j, A, l) => [.ptr 0 0, .ro [W Z, W Z] t o, V Z C, V Z z]) (fun (t, o, C, z, d, g, j, A, l) => [.cells 41 [.str d, V Z g, .ro [W Z, W Z] t j, .ro [W Z, W Z, W Z] A l]]) (fun (_, _, _, _, _, _, _, _, _) K => gg_none) ?_ ?_
  · rintro f ⟨t, o, C, z, d, g, j, A, l⟩ K hG
    refine ro (fun R => (cnd (decide (z < C))
 (cnd (decide (0 ≤ z ∧ z < ↑t))
 (cnd (n58 (o.ii z.toNat 0) (o.ii z.toNat 1))
 (cnd (bif (decide ((m58 (o.ii z.toNat 0) (o.ii z.toNat 1)) = 0)) then false else true)
 (R (XE.ret) [.ptr 0 0, V Z 0, V Z (m58 (o.ii z.toNat 0) (o.ii z.toNat 1))] [.cells 41 [.str d, V Z g, .ro [W Z, W Z] t j, .ro [W Z, W Z, W Z] A l]])
 (R (XE.normal) [.ptr 0 0, .ro [W Z, W Z] t o, V Z C, V Z (Z.wrap (z + 1))] [.cells 41 [.str d, V Z g, .ro [W Z, W Z] t j, .ro [W Z, W Z, W Z] A l]]))
    False)
   False)
 (R (XE.exit 1) [.ptr 0 0, .any, .any] [.cells 41 [.str d, V Z g, .ro [W Z, W Z] t j, .ro [W Z, W Z, W Z] A l]]))) (fun R => by kernel_rfl) ?_
    exact ch hG (fun h0 => cg h0 fun h1 => cg h1 fun h2 => ch h2 (fun h3 => h3.2) (fun h3 => ⟨(_, _, _, _, _, _, _, _, _), rfl, rfl, h3⟩)) (fun h0 => h0.2)
  · intro s k h
    unfold g19_1 at h
    split at h <;> try exact h.elim
    rename_i e1
    rw [needs_iff] at h
    have hq := h.1
    simp only [List.mem_cons, forall_eq_or_imp, decide_eq_true_eq, List.not_mem_nil, false_imp_iff, implies_true, and_true] at hq
    obtain ⟨rfl, hq⟩ := hq
    exact ⟨_, e1, _, (_, _, _, _, _, _, _, _, _), rfl, rfl, hq, h.2⟩
noncomputable def l19_3 (p : Nat) (u : Dat) (D : Int) (d : ByteArray) (g : Int) (v : Nat) (j l : Dat) : Nat → Int → Int → Option (Bool × (Int × Int) × (Unit))
  | 0, _, _ => none
  | f + 1, E, x => (cond (decide (x < D)) (cond (decide (0 ≤ x ∧ x < ↑p)) (cond (bif (bif (m52 (u.ii x.toNat 0) 1 1000000) then false else true) then true else (bif (m52 (u.ii x.toNat 1) 0 30000) then false else true)) (some (true, (x, 2), default)) (cond (bif (m52 (u.ii x.toNat 2) 0 (Z.wrap ((↑v : Int) - 1))) then false else true) (some (true, (x, 6), default)) (cond (decide ((1000000 : Int) < (Z.wrap (E + (u.ii x.toNat 0))))) (some (true, (x, 8), default)) (l19_3 p u D d g v j l f (Z.wrap (E + (u.ii x.toNat 0))) (Z.wrap (x + 1)))))) none) (some (false, default, ())))
noncomputable abbrev o19_3 (p : Nat) (u : Dat) (D : Int) (d : ByteArray) (g : Int) (v : Nat) (j l : Dat) (E x : Int) : Option (Bool × (Int × Int) × (Unit)) := l19_3 p u D d g v j l (E.toNat + p + D.toNat + x.toNat + d.size + g.toNat + v + 8) E x
noncomputable def e19_3 (p : Nat) (u : Dat) (D : Int) (d : ByteArray) (g : Int) (v : Nat) (j l : Dat) (r : Bool × (Int × Int) × (Unit)) (K : XR) : Prop := cnd r.1 (K (XE.ret) [V Z r.2.1.1, V Z r.2.1.2] [.cells 41 [.str d, V Z g, .ro [W Z, W Z] v j, .ro [W Z, W Z, W Z] p l]]) (K (XE.exit 3) [.any, .any] [.cells 41 [.str d, V Z g, .ro [W Z, W Z] v j, .ro [W Z, W Z, W Z] p l]])
noncomputable def g19_3 : LSum := fun s k => match czv 0 85 [1, 7, 48, 49, 50] 1 [] s with
  | some ([.ptr 0 0, V Z E, .ro [W Z, W Z, W Z] p u, V Z D, V Z x], [.cells 41 [.str d, V Z g, .ro [W Z, W Z] v j, .ro [W Z, W Z, W Z] A l]]) => needs [decide (p = A), (o19_3 p u D d g v j l E x).isSome] (e19_3 p u D d g v j l ((o19_3 p u D d g v j l E x).getD default) fun e vs bs => inBlk 3 k e (mkSt 0 85 [2, 3] vs 1 bs))
  | _ => False
theorem z19_3 : LOk Tryd.prog g19_3 (.block 3 (bodyAt (Tryd.f19.body.getD .skip) 3)) := by
  refine lb (ι := Int × Nat × Dat × Int × Int × ByteArray × Int × Nat × Dat × Dat) (fuel := 8) (na := 0) (nt := 85) (nx := 1) (Lh := [1, 7, 48, 49, 50]) (Le := [2, 3]) (gl := []) (tc k52 (tc k57 (tc k58 tn))) mix_ok (lam_of rfl (lc z19_1 ln)) rfl (fun f (E, p, u, D, x, d, g, v, j, l) K => GG default (e19_3 p u D d g v j l) K (l19_3 p u D d g v j l f E x)) (fun (E, p, u, D, x, d, g, v, j, l) => [.ptr 0 0, V Z E, .ro [W Z, W Z, W Z] p u, V Z D, V Z x]) (fun (E, p, u, D, x, d, g, v, j, l) => [.cells 41 [.str d, V Z g, .ro [W Z, W Z] v j, .ro [W Z, W Z, W Z] p l]]) (fun (_, _, _, _, _, _, _, _, _, _) K => gg_none) ?_ ?_
  · rintro f ⟨E, p, u, D, x, d, g, v, j, l⟩ K hG
    refine ro (fun R => (cnd (decide (x < D))
 (cnd (decide (0 ≤ x ∧ x < ↑p))
 (cnd (bif (bif (m52 (u.ii x.toNat 0) 1 1000000) then false else true) then true else (bif (m52 (u.ii x.toNat 1) 0 30000) then false else true))
 (R (XE.ret) [V Z x, V Z 2] [.cells 41 [.str d, V Z g, .ro [W Z, W Z] v j, .ro [W Z, W Z, W Z] p l]])
 (cnd (bif (m52 (u.ii x.toNat 2) 0 (Z.wrap ((↑v : Int) - 1))) then false else true)
 (R (XE.ret) [V Z x, V Z 6] [.cells 41 [.str d, V Z g, .ro [W Z, W Z] v j, .ro [W Z, W Z, W Z] p l]])
 (cnd (decide ((1000000 : Int) < (Z.wrap (E + (u.ii x.toNat 0)))))
 (R (XE.ret) [V Z x, V Z 8] [.cells 41 [.str d, V Z g, .ro [W Z, W Z] v j, .ro [W Z, W Z, W Z] p l]])
 (R (XE.normal) [.ptr 0 0, V Z (Z.wrap (E + (u.ii x.toNat 0))), .ro [W Z, W Z, W Z] p u, V Z D, V Z (Z.wrap (x + 1))] [.cells 41 [.str d, V Z g, .ro [W Z, W Z] v j, .ro [W Z, W Z, W Z] p l]]))))
   False)
 (R (XE.exit 3) [.any, .any] [.cells 41 [.str d, V Z g, .ro [W Z, W Z] v j, .ro [W Z, W Z, W Z] p l]]))) (fun R => by kernel_rfl) ?_
    exact ch hG (fun h0 => cg h0 fun h1 => ch h1 (fun h2 => h2.2) (fun h2 => ch h2 (fun h3 => h3.2) (fun h3 => ch h3 (fun h4 => h4.2) (fun h4 => ⟨(_, _, _, _, _, _, _, _, _, _), rfl, rfl, h4⟩)))) (fun h0 => h0.2)
  · intro s k h
    unfold g19_3 at h
    split at h <;> try exact h.elim
    rename_i e1
    rw [needs_iff] at h
    have hq := h.1
    simp only [List.mem_cons, forall_eq_or_imp, decide_eq_true_eq, List.not_mem_nil, false_imp_iff, implies_true, and_true] at hq
    obtain ⟨rfl, hq⟩ := hq
    exact ⟨_, e1, _, (_, _, _, _, _, _, _, _, _, _), rfl, rfl, hq, h.2⟩
noncomputable def m19 (w : ByteArray) (y : Int) (b : Nat) (m : Dat) (i : Nat) (n : Dat) : Int × Int :=
  (cond (bif (m57 w) then false else true) (0, 4) (cond (bif (m52 y 400 1100) then false else true) (0, 2) (cond (decide ((↑b : Int) = 0)) (0, 10) (cond (decide (8 < (↑b : Int))) (0, 8) (cond ((o19_1 b m (↑b : Int) w y m i n 0).getD default).1 (((o19_1 b m (↑b : Int) w y m i n 0).getD default).2.1.1, ((o19_1 b m (↑b : Int) w y m i n 0).getD default).2.1.2) (cond (decide ((60 : Int) < (↑i : Int))) (0, 8) (cond ((o19_3 i n (↑i : Int) w y b m n 0 0).getD default).1 (((o19_3 i n (↑i : Int) w y b m n 0 0).getD default).2.1.1, ((o19_3 i n (↑i : Int) w y b m n 0 0).getD default).2.1.2) (0, 0))))))))
noncomputable def n19 (w : ByteArray) (y : Int) (b : Nat) (m : Dat) (i : Nat) (n : Dat) : Bool :=
  ((n57 w) && (cond (bif (m57 w) then false else true) true (cond (bif (m52 y 400 1100) then false else true) true (cond (decide ((↑b : Int) = 0)) true (cond (decide (8 < (↑b : Int))) true (((o19_1 b m (↑b : Int) w y m i n 0).isSome) && (cond ((o19_1 b m (↑b : Int) w y m i n 0).getD default).1 true (cond (decide ((60 : Int) < (↑i : Int))) true (((o19_3 i n (↑i : Int) w y b m n 0 0).isSome) && true)))))))))
noncomputable def q19 (r : Int × Int) : SV × List Blk × List Blk := (.tup [V Z r.1, V Z r.2], [], [])
noncomputable def g19 : GF := fun vs bs => match vs, bs with
  | [.agg [.str w, V Z y, .ro [W Z, W Z] b m, .ro [W Z, W Z, W Z] i n]], [] => some (rs 0 (q19 (m19 w y b m i n)) [n19 w y b m i n])
  | _, _ => none
noncomputable def c19 : Ctr := genC [.a [.k, .k, .ro [W Z, W Z], .ro [W Z, W Z, W Z]]] g19
theorem k19 : CtrOk Tryd.prog c19 19 := cx (tc k52 (tc k57 (tc k58 tn))) mix_ok 8 (fn := Tryd.f19) (c := (Tryd.f19.body.getD .skip)) (grs := []) (rh := .k) Tryd.func19 rfl (by kernel_rfl) (lam_of rfl (lc z19_1 (lc z19_3 ln))) fun vs bs q h hn => by
  unfold g19 at h
  split at h <;> cases h
  rename_i w y b m i n
  have hn := n1 hn
  exact ⟨_, rfl, ca (fun R => (cnd (n57 w)
 (cnd (bif (m57 w) then false else true)
 (R (.tup [V Z 0, V Z 4]) [] [])
 (cnd (bif (m52 y 400 1100) then false else true)
 (R (.tup [V Z 0, V Z 2]) [] [])
 (cnd (decide ((↑b : Int) = 0))
 (R (.tup [V Z 0, V Z 10]) [] [])
 (cnd (decide (8 < (↑b : Int)))
 (R (.tup [V Z 0, V Z 8]) [] [])
 (cnd (decide (b = b))
 (cnd ((o19_1 b m (↑b : Int) w y m i n 0).isSome)
 (cnd ((o19_1 b m (↑b : Int) w y m i n 0).getD default).1
 (R (.tup [V Z ((o19_1 b m (↑b : Int) w y m i n 0).getD default).2.1.1, V Z ((o19_1 b m (↑b : Int) w y m i n 0).getD default).2.1.2]) [] [])
 (cnd (decide ((60 : Int) < (↑i : Int)))
 (R (.tup [V Z 0, V Z 8]) [] [])
 (cnd (decide (i = i))
 (cnd ((o19_3 i n (↑i : Int) w y b m n 0 0).isSome)
 (cnd ((o19_3 i n (↑i : Int) w y b m n 0 0).getD default).1
 (R (.tup [V Z ((o19_3 i n (↑i : Int) w y b m n 0 0).getD default).2.1.1, V Z ((o19_3 i n (↑i : Int) w y b m n 0 0).getD default).2.1.2]) [] [])
 (R (.tup [V Z 0, V Z 0]) [] []))
            False)
           False)))
        False)
       False)))))
  False)) (fun R => by kernel_rfl) (cn (al hn) (co (fun h0 => lf (cT h0 rfl) rfl) (fun h0 => co (fun h1 => lf (cF h0 (cT h1 rfl)) rfl) (fun h1 => co (fun h2 => lf (cF h0 (cF h1 (cT h2 rfl))) rfl) (fun h2 => co (fun h3 => lf (cF h0 (cF h1 (cF h2 (cT h3 rfl)))) rfl) (fun h3 => cn (decide_eq_true rfl) (cn (al (cf h3 (cf h2 (cf h1 (cf h0 (ar hn)))))) (co (fun h4 => lf (cF h0 (cF h1 (cF h2 (cF h3 (cT h4 rfl))))) rfl) (fun h4 => co (fun h5 => lf (cF h0 (cF h1 (cF h2 (cF h3 (cF h4 (cT h5 rfl)))))) rfl) (fun h5 => cn (decide_eq_true rfl) (cn (al (cf h5 (cf h4 (ar (cf h3 (cf h2 (cf h1 (cf h0 (ar hn))))))))) (co (fun h6 => lf (cF h0 (cF h1 (cF h2 (cF h3 (cF h4 (cF h5 (cT h6 rfl))))))) rfl) (fun h6 => lf (cF h0 (cF h1 (cF h2 (cF h3 (cF h4 (cF h5 (cF h6 rfl))))))) rfl)))))))))))))⟩

/-! ### shotline/profile.apart -/
noncomputable def m95 (b : Nat) (d : Dat) (e : Nat) (g : Dat) (a : Int) : Int × Int :=
  ((imax (Z.wrap ((Z.wrap ((m53 b d a).1 * (m53 e g a).2)) - (Z.wrap ((m53 e g a).1 * (m53 b d a).2)))) (Z.wrap (0 - (Z.wrap ((Z.wrap ((m53 b d a).1 * (m53 e g a).2)) - (Z.wrap ((m53 e g a).1 * (m53 b d a).2))))))), (Z.wrap ((m53 b d a).2 * (m53 e g a).2)))
noncomputable def n95 (b : Nat) (d : Dat) (e : Nat) (g : Dat) (a : Int) : Bool :=
  ((n53 b d a) && ((n53 e g a) && true))
noncomputable def q95 (r : Int × Int) : SV × List Blk × List Blk := (.agg [V Z r.1, V Z r.2], [], [])
noncomputable def g95 : GF := fun vs bs => match vs, bs with
  | [.ro [W Z, W Z] b d, .ro [W Z, W Z] e g, V Z a], [] => some (rs 0 (q95 (m95 b d e g a)) [n95 b d e g a])
  | _, _ => none
noncomputable def c95 : Ctr := genC [.ro [W Z, W Z], .ro [W Z, W Z], .k] g95
theorem k95 : CtrOk Tryd.prog c95 95 := cx (tc k53 tn) mix_ok 8 (fn := Tryd.f95) (c := (Tryd.f95.body.getD .skip)) (grs := []) (rh := .k) Tryd.func95 rfl (by kernel_rfl) noLam fun vs bs q h hn => by
  unfold g95 at h
  split at h <;> cases h
  rename_i b d e g a
  have hn := n1 hn
  exact ⟨_, rfl, ca (fun R => (cnd (n53 b d a)
 (cnd (n53 e g a)
 (R (.agg [V Z (imax (Z.wrap ((Z.wrap ((m53 b d a).1 * (m53 e g a).2)) - (Z.wrap ((m53 e g a).1 * (m53 b d a).2)))) (Z.wrap (0 - (Z.wrap ((Z.wrap ((m53 b d a).1 * (m53 e g a).2)) - (Z.wrap ((m53 e g a).1 * (m53 b d a).2))))))), V Z (Z.wrap ((m53 b d a).2 * (m53 e g a).2))]) [] [])
   False)
  False)) (fun R => by kernel_rfl) (cn (al hn) (cn (al (ar hn)) (lf rfl rfl)))⟩
/-! ### shotline/profile.check -/
noncomputable def l60_0 (t7_0 : Nat) (t7_1 : Dat) (d : Int) : Nat → Int → Option (Bool × (Int) × (Unit))
  | 0, _ => none
  | f + 1, a => (cond (decide (a < d)) (cond (decide (0 ≤ a ∧ a < ↑t7_0)) (cond (n19 (t7_1.ss a.toNat 0) (t7_1.ii a.toNat 1) (t7_1.sn a.toNat 2) (t7_1.sub a.toNat 2) (t7_1.sn a.toNat 3) (t7_1.sub a.toNat 3)) (cond (bif (decide ((m19 (t7_1.ss a.toNat 0) (t7_1.ii a.toNat 1) (t7_1.sn a.toNat 2) (t7_1.sub a.toNat 2) (t7_1.sn a.toNat 3) (t7_1.sub a.toNat 3)).2 = 0)) then false else true) (some (true, (m19 (t7_1.ss a.toNat 0) (t7_1.ii a.toNat 1) (t7_1.sn a.toNat 2) (t7_1.sub a.toNat 2) (t7_1.sn a.toNat 3) (t7_1.sub a.toNat 3)).2, default)) (l60_0 t7_0 t7_1 d f (Z.wrap (a + 1)))) none) none) (some (false, default, ())))
noncomputable abbrev o60_0 (t7_0 : Nat) (t7_1 : Dat) (d a : Int) : Option (Bool × (Int) × (Unit)) := l60_0 t7_0 t7_1 d (t7_0 + d.toNat + a.toNat + 8) a
noncomputable def e60_0 (t7_0 : Nat) (t7_1 : Dat) (d : Int) (r : Bool × (Int) × (Unit)) (K : XR) : Prop := cnd r.1 (K (XE.ret) [V Z r.2.1] []) (K (XE.exit 0) [.any] [])
noncomputable def g60_0 : LSum := fun s k => match czv 0 22 [7, 8, 9] 0 [] s with
  | some ([.ro [.str, W Z, .sl [W Z, W Z], .sl [W Z, W Z, W Z]] t7_0 t7_1, V Z d, V Z a], []) => needs [(o60_0 t7_0 t7_1 d a).isSome] (e60_0 t7_0 t7_1 d ((o60_0 t7_0 t7_1 d a).getD default) fun e vs bs => inBlk 0 k e (mkSt 0 22 [2] vs 0 bs))
  | _ => False
theorem z60_0 : LOk Tryd.prog g60_0 (.block 0 (bodyAt (Tryd.f60.body.getD .skip) 0)) := by
  refine lb (ι := Nat × Dat × Int × Int) (fuel := 8) (na := 0) (nt := 22) (nx := 0) (Lh := [7, 8, 9]) (Le := [2]) (gl := []) (tc k19 tn) mix_ok noLam rfl (fun f (t7_0, t7_1, d, a) K => GG default (e60_0 t7_0 t7_1 d) K (l60_0 t7_0 t7_1 d f a)) (fun (t7_0, t7_1, d, a) => [.ro [.str, W Z, .sl [W Z, W Z], .sl [W Z, W Z, W Z]] t7_0 t7_1, V Z d, V Z a]) (fun (t7_0, t7_1, d, a) => []) (fun (_, _, _, _) K => gg_none) ?_ ?_
  · rintro f ⟨t7_0, t7_1, d, a⟩ K hG
    refine ro (fun R => (cnd (decide (a < d))
 (cnd (decide (0 ≤ a ∧ a < ↑t7_0))
 (cnd (n19 (t7_1.ss a.toNat 0) (t7_1.ii a.toNat 1) (t7_1.sn a.toNat 2) (t7_1.sub a.toNat 2) (t7_1.sn a.toNat 3) (t7_1.sub a.toNat 3))
 (cnd (bif (decide ((m19 (t7_1.ss a.toNat 0) (t7_1.ii a.toNat 1) (t7_1.sn a.toNat 2) (t7_1.sub a.toNat 2) (t7_1.sn a.toNat 3) (t7_1.sub a.toNat 3)).2 = 0)) then false else true)
 (R (XE.ret) [V Z (m19 (t7_1.ss a.toNat 0) (t7_1.ii a.toNat 1) (t7_1.sn a.toNat 2) (t7_1.sub a.toNat 2) (t7_1.sn a.toNat 3) (t7_1.sub a.toNat 3)).2] [])
 (R (XE.normal) [.ro [.str, W Z, .sl [W Z, W Z], .sl [W Z, W Z, W Z]] t7_0 t7_1, V Z d, V Z (Z.wrap (a + 1))] []))
    False)
   False)
 (R (XE.exit 0) [.any] []))) (fun R => by kernel_rfl) ?_
    exact ch hG (fun h0 => cg h0 fun h1 => cg h1 fun h2 => ch h2 (fun h3 => h3.2) (fun h3 => ⟨(_, _, _, _), rfl, rfl, h3⟩)) (fun h0 => h0.2)
  · intro s k h
    unfold g60_0 at h
    split at h <;> try exact h.elim
    rename_i e1
    rw [needs_iff] at h
    exact ⟨_, e1, _, (_, _, _, _), rfl, rfl, h.1 _ (List.mem_singleton.2 rfl), h.2⟩
noncomputable def m60 (b : Nat) (g : Dat) : Int :=
  (cond ((o60_0 b g (↑b : Int) 0).getD default).1 ((o60_0 b g (↑b : Int) 0).getD default).2.1 0)
noncomputable def n60 (b : Nat) (g : Dat) : Bool :=
  (((o60_0 b g (↑b : Int) 0).isSome) && true)
noncomputable def q60 (r : Int) : SV × List Blk × List Blk := (V Z r, [], [])
noncomputable def g60 : GF := fun vs bs => match vs, bs with
  | [.ro [.str, W Z, .sl [W Z, W Z], .sl [W Z, W Z, W Z]] b g], [] => some (rs 0 (q60 (m60 b g)) [n60 b g])
  | _, _ => none
noncomputable def c60 : Ctr := genC [.ro [.str, W Z, .sl [W Z, W Z], .sl [W Z, W Z, W Z]]] g60
theorem k60 : CtrOk Tryd.prog c60 60 := cx (tc k19 tn) mix_ok 8 (fn := Tryd.f60) (c := (Tryd.f60.body.getD .skip)) (grs := []) (rh := .k) Tryd.func60 rfl (by kernel_rfl) (lam_of rfl (lc z60_0 ln)) fun vs bs q h hn => by
  unfold g60 at h
  split at h <;> cases h
  rename_i b g
  have hn := n1 hn
  exact ⟨_, rfl, ca (fun R => (cnd ((o60_0 b g (↑b : Int) 0).isSome)
 (cnd ((o60_0 b g (↑b : Int) 0).getD default).1
 (R (V Z ((o60_0 b g (↑b : Int) 0).getD default).2.1) [] [])
 (R (V Z 0) [] []))
  False)) (fun R => by kernel_rfl) (cn (al hn) (co (fun h0 => lf (cT h0 rfl) rfl) (fun h0 => lf (cF h0 rfl) rfl)))⟩
/-! ### shotline/profile.PlanSeconds -/
noncomputable def m21 (i : ByteArray) (j : Int) (b : Nat) (d : Dat) (e : Nat) (g : Dat) : Int × Int :=
  (cond (bif (decide ((m60 1 (datS [SV.str i, V Z j, SV.ro [Kd.int Z, Kd.int Z] b d, SV.ro [Kd.int Z, Kd.int Z, Kd.int Z] e g] 4)) = 0)) then false else true) (0, (m60 1 (datS [SV.str i, V Z j, SV.ro [Kd.int Z, Kd.int Z] b d, SV.ro [Kd.int Z, Kd.int Z, Kd.int Z] e g] 4))) ((m62 (m61 i j b d e g).1 (m61 i j b d e g).2), 0))
noncomputable def n21 (i : ByteArray) (j : Int) (b : Nat) (d : Dat) (e : Nat) (g : Dat) : Bool :=
  ((n60 1 (datS [SV.str i, V Z j, SV.ro [Kd.int Z, Kd.int Z] b d, SV.ro [Kd.int Z, Kd.int Z, Kd.int Z] e g] 4)) && (cond (bif (decide ((m60 1 (datS [SV.str i, V Z j, SV.ro [Kd.int Z, Kd.int Z] b d, SV.ro [Kd.int Z, Kd.int Z, Kd.int Z] e g] 4)) = 0)) then false else true) true ((n61 i j b d e g) && ((n62 (m61 i j b d e g).1 (m61 i j b d e g).2) && true))))
noncomputable def q21 (r : Int × Int) : SV × List Blk × List Blk := (.tup [V Z r.1, V Z r.2], [], [])
noncomputable def g21 : GF := fun vs bs => match vs, bs with
  | [.agg [.str i, V Z j, .ro [W Z, W Z] b d, .ro [W Z, W Z, W Z] e g]], [] => some (rs 0 (q21 (m21 i j b d e g)) [n21 i j b d e g])
  | _, _ => none
noncomputable def c21 : Ctr := genC [.a [.k, .k, .ro [W Z, W Z], .ro [W Z, W Z, W Z]]] g21
theorem k21 : CtrOk Tryd.prog c21 21 := cx (tc k60 (tc k61 (tc k62 tn))) mix_ok 8 (fn := Tryd.f21) (c := (Tryd.f21.body.getD .skip)) (grs := []) (rh := .k) Tryd.func21 rfl (by kernel_rfl) noLam fun vs bs q h hn => by
  unfold g21 at h
  split at h <;> cases h
  rename_i i j b d e g
  have hn := n1 hn
  exact ⟨_, rfl, ca (fun R => (cnd (n60 1 (datS [SV.str i, V Z j, SV.ro [Kd.int Z, Kd.int Z] b d, SV.ro [Kd.int Z, Kd.int Z, Kd.int Z] e g] 4))
 (cnd (bif (decide ((m60 1 (datS [SV.str i, V Z j, SV.ro [Kd.int Z, Kd.int Z] b d, SV.ro [Kd.int Z, Kd.int Z, Kd.int Z] e g] 4)) = 0)) then false else true)
 (R (.tup [V Z 0, V Z (m60 1 (datS [SV.str i, V Z j, SV.ro [Kd.int Z, Kd.int Z] b d, SV.ro [Kd.int Z, Kd.int Z, Kd.int Z] e g] 4))]) [] [])
 (cnd (n61 i j b d e g)
 (cnd (n62 (m61 i j b d e g).1 (m61 i j b d e g).2)
 (R (.tup [V Z (m62 (m61 i j b d e g).1 (m61 i j b d e g).2), V Z 0]) [] [])
     False)
    False))
  False)) (fun R => by kernel_rfl) (cn (al hn) (co (fun h0 => lf (cT h0 rfl) rfl) (fun h0 => cn (al (cf h0 (ar hn))) (cn (al (ar (cf h0 (ar hn)))) (lf (cF h0 rfl) rfl)))))⟩
/-! ### (shotline/profile.track).allowed$1 -/
noncomputable def m106 (a d : Int) (e b : Dat) : Bool :=
  (m63 (e.ii 0 0) 1 (m95 (b.sn 0 0) (b.sub 0 0) 2 (datS [V Z a, V Z d, V Z (Z.wrap (a + 1)), V Z 0] 2) a).1 (m95 (b.sn 0 0) (b.sub 0 0) 2 (datS [V Z a, V Z d, V Z (Z.wrap (a + 1)), V Z 0] 2) a).2)
noncomputable def n106 (a d : Int) (e b : Dat) : Bool :=
  ((n95 (b.sn 0 0) (b.sub 0 0) 2 (datS [V Z a, V Z d, V Z (Z.wrap (a + 1)), V Z 0] 2) a) && true)
noncomputable def q106 (r : Bool) : SV × List Blk × List Blk := (.bool r, [], [])
noncomputable def g106 : GF := fun vs bs => match vs, bs with
  | [.agg [V Z a, V Z d], .rp [W Z] e 0 0, .rp [.sl [W Z, W Z]] b 0 0], [] => some (rs 0 (q106 (m106 a d e b)) [n106 a d e b])
  | _, _ => none
noncomputable def c106 : Ctr := genC [.k, .rp [W Z], .rp [.sl [W Z, W Z]]] g106
theorem k106 : CtrOk Tryd.prog c106 106 := cx (tc k63 (tc k95 tn)) mix_ok 8 (fn := Tryd.f106) (c := (Tryd.f106.body.getD .skip)) (grs := []) (rh := .k) Tryd.func106 rfl (by kernel_rfl) noLam fun vs bs q h hn => by
  unfold g106 at h
  split at h <;> cases h
  rename_i a d e b
  have hn := n1 hn
  exact ⟨_, rfl, ca (fun R => (cnd (n95 (b.sn 0 0) (b.sub 0 0) 2 (datS [V Z a, V Z d, V Z (Z.wrap (a + 1)), V Z 0] 2) a)
 (R (.bool (m63 (e.ii 0 0) 1 (m95 (b.sn 0 0) (b.sub 0 0) 2 (datS [V Z a, V Z d, V Z (Z.wrap (a + 1)), V Z 0] 2) a).1 (m95 (b.sn 0 0) (b.sub 0 0) 2 (datS [V Z a, V Z d, V Z (Z.wrap (a + 1)), V Z 0] 2) a).2)) [] [])
  False)) (fun R => by kernel_rfl) (cn (al hn) (lf rfl rfl))⟩

/-! ### slices.IndexFunc[shotline/profile.track,shotline/api.DivePoint] -/
noncomputable def l100c106_0 (g : Nat) (a b d : Dat) (l : Int) : Nat → Int → Option (Bool × (Int) × (Unit))
  | 0, _ => none
  | f + 1, i => (cond (decide (i < l)) (cond (decide (0 ≤ i ∧ i < ↑g)) (cond (n106 (a.ii i.toNat 0) (a.ii i.toNat 1) b d) (cond (m106 (a.ii i.toNat 0) (a.ii i.toNat 1) b d) (some (true, i, default)) (l100c106_0 g a b d l f (Z.wrap (i + 1)))) none) none) (some (false, default, ())))
noncomputable abbrev o100c106_0 (g : Nat) (a b d : Dat) (l i : Int) : Option (Bool × (Int) × (Unit)) := l100c106_0 g a b d l (g + l.toNat + i.toNat + 8) i
noncomputable def e100c106_0 (g : Nat) (a b d : Dat) (l : Int) (r : Bool × (Int) × (Unit)) (K : XR) : Prop := cnd r.1 (K (XE.ret) [V Z r.2.1] []) (K (XE.exit 0) [.any] [])
noncomputable def g100c106_0 : LSum := fun s k => match czv 0 19 [0, 1, 7, 8] 0 [] s with
  | some ([.ro [W Z, W Z] g a, .fn 106 [.rp [W Z] b 0 0, .rp [.sl [W Z, W Z]] d 0 0], V Z l, V Z i], []) => needs [(o100c106_0 g a b d l i).isSome] (e100c106_0 g a b d l ((o100c106_0 g a b d l i).getD default) fun e vs bs => inBlk 0 k e (mkSt 0 19 [4] vs 0 bs))
  | _ => False
theorem z100c106_0 : LOk Tryd.prog g100c106_0 (.block 0 (bodyAt (Tryd.f100.body.getD .skip) 0)) := by
  refine lb (ι := Nat × Dat × Dat × Dat × Int × Int) (fuel := 8) (na := 0) (nt := 19) (nx := 0) (Lh := [0, 1, 7, 8]) (Le := [4]) (gl := []) (tc k106 tn) mix_ok noLam rfl (fun f (g, a, b, d, l, i) K => GG default (e100c106_0 g a b d l) K (l100c106_0 g a b d l f i)) (fun (g, a, b, d, l, i) => [.ro [W Z, W Z] g a, .fn 106 [.rp [W Z] b 0 0, .rp [.sl [W Z, W Z]] d 0 0], V Z l, V Z i]) (fun (g, a, b, d, l, i) => []) (fun (_, _, _, _, _, _) K => gg_none) ?_ ?_
  · rintro f ⟨g, a, b, d, l, i⟩ K hG
    refine ro (fun R => (cnd (decide (i < l))
 (cnd (decide (0 ≤ i ∧ i < ↑g))
 (cnd (n106 (a.ii i.toNat 0) (a.ii i.toNat 1) b d)
 (cnd (m106 (a.ii i.toNat 0) (a.ii i.toNat 1) b d)
 (R (XE.ret) [V Z i] [])
 (R (XE.normal) [.ro [W Z, W Z] g a, .fn 106 [.rp [W Z] b 0 0, .rp [.sl [W Z, W Z]] d 0 0], V Z l, V Z (Z.wrap (i + 1))] []))
    False)
   False)
 (R (XE.exit 0) [.any] []))) (fun R => by kernel_rfl) ?_
    exact ch hG (fun h0 => cg h0 fun h1 => cg h1 fun h2 => ch h2 (fun h3 => h3.2) (fun h3 => ⟨(_, _, _, _, _, _), rfl, rfl, h3⟩)) (fun h0 => h0.2)
  · intro s k h
    unfold g100c106_0 at h
    split at h <;> try exact h.elim
    rename_i e1
    rw [needs_iff] at h
    exact ⟨_, e1, _, (_, _, _, _, _, _), rfl, rfl, h.1 _ (List.mem_singleton.2 rfl), h.2⟩
noncomputable def m100c106 (j : Nat) (m da1c0 da1c1 : Dat) : Int :=
  (cond ((o100c106_0 j m da1c0 da1c1 (↑j : Int) 0).getD default).1 ((o100c106_0 j m da1c0 da1c1 (↑j : Int) 0).getD default).2.1 (-1))
noncomputable def n100c106 (j : Nat) (m da1c0 da1c1 : Dat) : Bool :=
  (((o100c106_0 j m da1c0 da1c1 (↑j : Int) 0).isSome) && true)
noncomputable def q100c106 (r : Int) : SV × List Blk × List Blk := (V Z r, [], [])
noncomputable def g100c106 : GF := fun vs bs => match vs, bs with
  | [.ro [W Z, W Z] j m, .fn 106 [.rp [W Z] da1c0 0 0, .rp [.sl [W Z, W Z]] da1c1 0 0]], [] => some (rs 0 (q100c106 (m100c106 j m da1c0 da1c1)) [n100c106 j m da1c0 da1c1])
  | _, _ => none
noncomputable def c100c106 : Ctr := genC [.ro [W Z, W Z], .f [.rp [W Z], .rp [.sl [W Z, W Z]]]] g100c106
theorem k100c106 : CtrOk Tryd.prog c100c106 100 := cx (tc k106 tn) mix_ok 8 (fn := Tryd.f100) (c := (Tryd.f100.body.getD .skip)) (grs := []) (rh := .k) Tryd.func100 rfl (by kernel_rfl) (lam_of rfl (lc z100c106_0 ln)) fun vs bs q h hn => by
  unfold g100c106 at h
  split at h <;> cases h
  rename_i j m da1c0 da1c1
  have hn := n1 hn
  exact ⟨_, rfl, ca (fun R => (cnd ((o100c106_0 j m da1c0 da1c1 (↑j : Int) 0).isSome)
 (cnd ((o100c106_0 j m da1c0 da1c1 (↑j : Int) 0).getD default).1
 (R (V Z ((o100c106_0 j m da1c0 da1c1 (↑j : Int) 0).getD default).2.1) [] [])
 (R (V Z (-1)) [] []))
  False)) (fun R => by kernel_rfl) (cn (al hn) (co (fun h0 => lf (cT h0 rfl) rfl) (fun h0 => lf (cF h0 rfl) rfl)))⟩

/-! ### slices.ContainsFunc[shotline/profile.track,shotline/api.DivePoint] -/
noncomputable def m105c106 (a : Nat) (b da1c0 da1c1 : Dat) : Bool :=
  (decide (0 ≤ (m100c106 a b da1c0 da1c1)))
noncomputable def n105c106 (a : Nat) (b da1c0 da1c1 : Dat) : Bool :=
  ((n100c106 a b da1c0 da1c1) && true)
noncomputable def q105c106 (r : Bool) : SV × List Blk × List Blk := (.bool r, [], [])
noncomputable def g105c106 : GF := fun vs bs => match vs, bs with
  | [.ro [W Z, W Z] a b, .fn 106 [.rp [W Z] da1c0 0 0, .rp [.sl [W Z, W Z]] da1c1 0 0]], [] => some (rs 0 (q105c106 (m105c106 a b da1c0 da1c1)) [n105c106 a b da1c0 da1c1])
  | _, _ => none
noncomputable def c105c106 : Ctr := genC [.ro [W Z, W Z], .f [.rp [W Z], .rp [.sl [W Z, W Z]]]] g105c106
theorem k105c106 : CtrOk Tryd.prog c105c106 105 := cx (tc k106 (tc k100c106 tn)) mix_ok 8 (fn := Tryd.f105) (c := (Tryd.f105.body.getD .skip)) (grs := []) (rh := .k) Tryd.func105 rfl (by kernel_rfl) noLam fun vs bs q h hn => by
  unfold g105c106 at h
  split at h <;> cases h
  rename_i a b da1c0 da1c1
  have hn := n1 hn
  exact ⟨_, rfl, ca (fun R => (cnd (n100c106 a b da1c0 da1c1)
 (R (.bool (decide (0 ≤ (m100c106 a b da1c0 da1c1)))) [] [])
  False)) (fun R => by kernel_rfl) (cn (al hn) (lf rfl rfl))⟩
/-! ### (shotline/profile.track).allowed -/
noncomputable def m84 (e : Nat) (a : Dat) (b d g : Int) : Bool :=
  (bif (m105c106 ((d - (Z.wrap (b + 1))).toNat) (a.shift ((Z.wrap (b + 1)).toNat)) (datC [V Z g]) (datC [SV.ro [Kd.int Z, Kd.int Z] 2 (datS [V Z (a.ii b.toNat 0), V Z (a.ii b.toNat 1), V Z (a.ii d.toNat 0), V Z (a.ii d.toNat 1)] 2)])) then false else true)
noncomputable def n84 (e : Nat) (a : Dat) (b d g : Int) : Bool :=
  ((decide (0 ≤ b ∧ b < ↑e)) && ((decide (0 ≤ d ∧ d < ↑e)) && ((decide (0 ≤ Z.wrap (b + 1) ∧ Z.wrap (b + 1) ≤ d ∧ d ≤ (↑e : Int))) && ((n105c106 ((d - (Z.wrap (b + 1))).toNat) (a.shift ((Z.wrap (b + 1)).toNat)) (datC [V Z g]) (datC [SV.ro [Kd.int Z, Kd.int Z] 2 (datS [V Z (a.ii b.toNat 0), V Z (a.ii b.toNat 1), V Z (a.ii d.toNat 0), V Z (a.ii d.toNat 1)] 2)])) && true))))
noncomputable def q84 (r : Bool) : SV × List Blk × List Blk := (.bool r, [], [])
noncomputable def g84 : GF := fun vs bs => match vs, bs with
  | [.ro [W Z, W Z] e a, V Z b, V Z d, V Z g], [] => some (rs 0 (q84 (m84 e a b d g)) [n84 e a b d g])
  | _, _ => none
noncomputable def c84 : Ctr := genC [.ro [W Z, W Z], .k, .k, .k] g84
theorem k84 : CtrOk Tryd.prog c84 84 := cx (tc k105c106 (tc k106 tn)) mix_ok 8 (fn := Tryd.f84) (c := (Tryd.f84.body.getD .skip)) (grs := []) (rh := .k) Tryd.func84 rfl (by kernel_rfl) noLam fun vs bs q h hn => by
  unfold g84 at h
  split at h <;> cases h
  rename_i e a b d g
  have hn := n1 hn
  exact ⟨_, rfl, ca (fun R => (cnd (decide (0 ≤ b ∧ b < ↑e))
 (cnd (decide (0 ≤ d ∧ d < ↑e))
 (cnd (decide (0 ≤ Z.wrap (b + 1) ∧ Z.wrap (b + 1) ≤ d ∧ d ≤ (↑e : Int)))
 (cnd (n105c106 ((d - (Z.wrap (b + 1))).toNat) (a.shift ((Z.wrap (b + 1)).toNat)) (datC [V Z g]) (datC [SV.ro [Kd.int Z, Kd.int Z] 2 (datS [V Z (a.ii b.toNat 0), V Z (a.ii b.toNat 1), V Z (a.ii d.toNat 0), V Z (a.ii d.toNat 1)] 2)]))
 (R (.bool (bif (m105c106 ((d - (Z.wrap (b + 1))).toNat) (a.shift ((Z.wrap (b + 1)).toNat)) (datC [V Z g]) (datC [SV.ro [Kd.int Z, Kd.int Z] 2 (datS [V Z (a.ii b.toNat 0), V Z (a.ii b.toNat 1), V Z (a.ii d.toNat 0), V Z (a.ii d.toNat 1)] 2)])) then false else true)) [] [])
     False)
    False)
   False)
  False)) (fun R => by kernel_rfl) (cn (al hn) (cn (al (ar hn)) (cn (al (ar (ar hn))) (cn (al (ar (ar (ar hn)))) (lf rfl rfl)))))⟩
/-! ### (shotline/profile.track).steps -/
noncomputable def m82 (a : Nat) (b : Dat) (d : Int) : Dat × Dat :=
  ((datC [SV.ro [Kd.int Z, Kd.int Z] a b]), (datC [V Z d]))
noncomputable def q82 (r : Dat × Dat) : SV × List Blk × List Blk := (.fn 102 [.rp [.sl [W Z, W Z]] r.1 0 0, .rp [W Z] r.2 0 0], [], [])
noncomputable def g82 : GF := fun vs bs => match vs, bs with
  | [.ro [W Z, W Z] a b, V Z d], [] => some (rs 0 (q82 (m82 a b d)) [])
  | _, _ => none
noncomputable def c82 : Ctr := genC [.ro [W Z, W Z], .k] g82
theorem k82 : CtrOk Tryd.prog c82 82 := cx tn mix_ok 8 (fn := Tryd.f82) (c := (Tryd.f82.body.getD .skip)) (grs := []) (rh := .f [.rp [.sl [W Z, W Z]], .rp [W Z]]) Tryd.func82 rfl (by kernel_rfl) noLam fun vs bs q h hn => by
  unfold g82 at h
  split at h <;> cases h
  rename_i a b d
  exact ⟨_, rfl, ca (fun R => (R (.fn 102 [.rp [.sl [W Z, W Z]] (datC [SV.ro [Kd.int Z, Kd.int Z] a b]) 0 0, .rp [W Z] (datC [V Z d]) 0 0]) [] [])) (fun R => by kernel_rfl) (lf rfl rfl)⟩
/-! ### (shotline/profile.track).steps$1 -/
noncomputable def l102_2 (b d : Dat) (a i : Int) (l N : Nat) (Y : Dat) : Nat → Nat → Int → Option (Nat)
  | 0, _, _ => none
  | f + 1, k, g => (cond (decide (g < i)) (cond (n84 (b.sn 0 0) (b.sub 0 0) g a (d.ii 0 0)) (cond (m84 (b.sn 0 0) (b.sub 0 0) g a (d.ii 0 0)) (cond (decide (k < N)) (cond (decide (g = (Y.ii k 0))) (cond (decide (a = (Y.ii k 1))) (l102_2 b d a i l N Y f (k + 1) (Z.wrap (g + 1))) none) none) none) (l102_2 b d a i l N Y f (k) (Z.wrap (g + 1)))) none) (some (k)))
noncomputable abbrev o102_2 (b d : Dat) (a i : Int) (l N : Nat) (Y : Dat) (k : Nat) (g : Int) : Option (Nat) := l102_2 b d a i l N Y (a.toNat + i.toNat + g.toNat + 8) k g
noncomputable def e102_2 (b d : Dat) (a i : Int) (l N : Nat) (Y : Dat) (r : Nat) (K : XRY) : Prop := K (XE.exit 2) r [.val (Value.func (Fn.yield l) #[] #[]), .rp [.sl [W Z, W Z]] b 0 0, .rp [W Z] d 0 0, V Z a] []
noncomputable def g102_2 (l N : Nat) (Y : Dat) : SumY := fun k s κ => match k, czv 0 29 [0, 1, 2, 4, 12, 13] 0 [] s with
  | some k, some ([.val vq, .rp [.sl [W Z, W Z]] b 0 0, .rp [W Z] d 0 0, V Z a, V Z i, V Z g], []) => needs [(o102_2 b d a i l N Y k g).isSome, isYl vq l] (e102_2 b d a i l N Y ((o102_2 b d a i l N Y k g).getD default) fun e k vs bs => inBlkY 2 κ e (some k) (mkSt 0 29 [0, 1, 2, 4] vs 0 bs))
  | _, _ => False
theorem y102_2 (b d : Dat) (a i g : Int) (l N : Nat) (Y : Dat) (k : Nat) (R : XRY) : execY Tryd.prog [(84, c84)] (fun _ => none) l N (fun k => [V Z (Y.ii k 0), V Z (Y.ii k 1)]) (lamY []) 8 (unloop (bodyAt (Tryd.f102.body.getD .skip) 2)) (some k) (mkSt 0 29 [0, 1, 2, 4, 12, 13] [.val (Value.func (Fn.yield l) #[] #[]), .rp [.sl [W Z, W Z]] b 0 0, .rp [W Z] d 0 0, V Z a, V Z i, V Z g] 0 []) (canonKY 0 29 [0, 1, 2, 4, 12, 13] [0, 1, 2, 4] 0 [] R) =
 (cnd (decide (g < i))
 (cnd (n84 (b.sn 0 0) (b.sub 0 0) g a (d.ii 0 0))
 (cnd (m84 (b.sn 0 0) (b.sub 0 0) g a (d.ii 0 0))
 (cnd (decide (l = l))
 (cnd (decide (k < N))
 (cnd (decide (g = (Y.ii k 0)))
 (cnd (decide (a = (Y.ii k 1)))
        ((R (XE.normal) (k + 1) [.val (Value.func (Fn.yield l) #[] #[]), .rp [.sl [W Z, W Z]] b 0 0, .rp [W Z] d 0 0, V Z a, V Z i, V Z (Z.wrap (g + 1))] []) ∧
         True)
        False)
       False)
      False)
     False)
 (R (XE.normal) (k) [.val (Value.func (Fn.yield l) #[] #[]), .rp [.sl [W Z, W Z]] b 0 0, .rp [W Z] d 0 0, V Z a, V Z i, V Z (Z.wrap (g + 1))] []))
   False)
 (R (XE.exit 2) (k) [.val (Value.func (Fn.yield l) #[] #[]), .rp [.sl [W Z, W Z]] b 0 0, .rp [W Z] d 0 0, V Z a] [])) := by kernel_rfl
theorem z102_2 {C : YC Tryd.prog} {N : Nat} {Y : Dat} (hN : C.N = N) (hy : C.y = fun k => [V Z (Y.ii k 0), V Z (Y.ii k 1)]) : LOkJ C (g102_2 C.l N Y) (.block 2 (bodyAt (Tryd.f102.body.getD .skip) 2)) := by
  refine loopY_blk (ι := Dat × Dat × Int × Int × Nat × Int) (L := [(84, c84)]) (Λ := (fun _ => none)) (ΛY := (lamY [])) (fuel := 8) (na := 0) (nt := 29) (nx := 0) (Lh := [0, 1, 2, 4, 12, 13]) (Le := [0, 1, 2, 4]) (gl := []) (tc k84 tn) mix_ok noLam noLamY rfl (fun f x K => GG default (e102_2 x.1 x.2.1 x.2.2.1 x.2.2.2.1 C.l N Y) K (l102_2 x.1 x.2.1 x.2.2.1 x.2.2.2.1 C.l N Y f x.2.2.2.2.1 x.2.2.2.2.2)) (fun x => x.2.2.2.2.1) (fun x => [.val (Value.func (Fn.yield C.l) #[] #[]), .rp [.sl [W Z, W Z]] x.1 0 0, .rp [W Z] x.2.1 0 0, V Z x.2.2.1, V Z x.2.2.2.1, V Z x.2.2.2.2.2]) (fun x => []) (fun x K => gg_none) ?_ ?_
  · rintro f ⟨b, d, a, i, k, g⟩ K hG
    rw [hN, hy]
    refine propOf (y102_2 b d a i g C.l N Y k _) ?_
    exact ch hG (fun h0 => cg h0 fun h1 => ch h1 (fun h2 => cn (decide_eq_true rfl) (cg h2 fun h3 => cg h3 fun h4 => cg h4 fun h5 => ⟨⟨(b, d, a, i, (k + 1), (Z.wrap (g + 1))), rfl, rfl, rfl, h5⟩, trivial⟩)) (fun h2 => ⟨(b, d, a, i, (k), (Z.wrap (g + 1))), rfl, rfl, rfl, h2⟩)) (fun h0 => h0.2)
  · intro k s κ h
    unfold g102_2 at h
    split at h <;> try exact h.elim
    rename_i e1
    rw [needs_iff] at h
    have hl := h.1 _ (List.mem_cons_of_mem _ (List.mem_singleton.2 rfl))
    obtain rfl := isYl_eq hl
    exact ⟨_, (_, _, _, _, _, _), rfl, e1, h.1 _ (List.mem_cons_self ..), h.2⟩
noncomputable def l102_0 (b d : Dat) (l N : Nat) (Y : Dat) : Nat → Nat → Int → Option (Nat)
  | 0, _, _ => none
  | f + 1, k, a => (cond (decide (a < (↑(b.sn 0 0) : Int))) (cond ((o102_2 b d a a l N Y k 0).isSome) (l102_0 b d l N Y f ((o102_2 b d a a l N Y k 0).getD 0) (Z.wrap (a + 1))) none) (some (k)))
noncomputable abbrev o102_0 (b d : Dat) (l N : Nat) (Y : Dat) (k : Nat) (a : Int) : Option (Nat) := l102_0 b d l N Y (a.toNat + 8 + b.sn 0 0) k a
noncomputable def e102_0 (b d : Dat) (l N : Nat) (Y : Dat) (r : Nat) (K : XRY) : Prop := K (XE.exit 0) r [] []
noncomputable def g102_0 (l N : Nat) (Y : Dat) : SumY := fun k s κ => match k, czv 0 29 [0, 1, 2, 4] 0 [] s with
  | some k, some ([.val vq, .rp [.sl [W Z, W Z]] b 0 0, .rp [W Z] d 0 0, V Z a], []) => needs [(o102_0 b d l N Y k a).isSome, isYl vq l] (e102_0 b d l N Y ((o102_0 b d l N Y k a).getD default) fun e k vs bs => inBlkY 0 κ e (some k) (mkSt 0 29 [] vs 0 bs))
  | _, _ => False
theorem y102_0 (b d : Dat) (a : Int) (l N : Nat) (Y : Dat) (k : Nat) (R : XRY) : execY Tryd.prog [(84, c84)] (fun _ => none) l N (fun k => [V Z (Y.ii k 0), V Z (Y.ii k 1)]) (lamY [(2, (g102_2 l N Y))]) 8 (unloop (bodyAt (Tryd.f102.body.getD .skip) 0)) (some k) (mkSt 0 29 [0, 1, 2, 4] [.val (Value.func (Fn.yield l) #[] #[]), .rp [.sl [W Z, W Z]] b 0 0, .rp [W Z] d 0 0, V Z a] 0 []) (canonKY 0 29 [0, 1, 2, 4] [] 0 [] R) =
 (cnd (decide (a < (↑(b.sn 0 0) : Int)))
 (cnd ((o102_2 b d a a l N Y k 0).isSome)
 (cnd (decide (l = l))
 (R (XE.normal) ((o102_2 b d a a l N Y k 0).getD 0) [.val (Value.func (Fn.yield l) #[] #[]), .rp [.sl [W Z, W Z]] b 0 0, .rp [W Z] d 0 0, V Z (Z.wrap (a + 1))] [])
    False)
   False)
 (R (XE.exit 0) (k) [] [])) := by kernel_rfl
theorem z102_0 {C : YC Tryd.prog} {N : Nat} {Y : Dat} (hN : C.N = N) (hy : C.y = fun k => [V Z (Y.ii k 0), V Z (Y.ii k 1)]) : LOkJ C (g102_0 C.l N Y) (.block 0 (bodyAt (Tryd.f102.body.getD .skip) 0)) := by
  refine loopY_blk (ι := Dat × Dat × Nat × Int) (L := [(84, c84)]) (Λ := (fun _ => none)) (ΛY := (lamY [(2, (g102_2 C.l N Y))])) (fuel := 8) (na := 0) (nt := 29) (nx := 0) (Lh := [0, 1, 2, 4]) (Le := []) (gl := []) (tc k84 tn) mix_ok noLam (lamY_of rfl (lamsY_cons (z102_2 hN hy) lamsY_nil)) rfl (fun f x K => GG default (e102_0 x.1 x.2.1 C.l N Y) K (l102_0 x.1 x.2.1 C.l N Y f x.2.2.1 x.2.2.2)) (fun x => x.2.2.1) (fun x => [.val (Value.func (Fn.yield C.l) #[] #[]), .rp [.sl [W Z, W Z]] x.1 0 0, .rp [W Z] x.2.1 0 0, V Z x.2.2.2]) (fun x => []) (fun x K => gg_none) ?_ ?_
  · rintro f ⟨b, d, k, a⟩ K hG
    rw [hN, hy]
    refine propOf (y102_0 b d a C.l N Y k _) ?_
    exact ch hG (fun h0 => cg h0 fun h1 => cn (decide_eq_true rfl) (⟨(b, d, ((o102_2 b d a a C.l N Y k 0).getD 0), (Z.wrap (a + 1))), rfl, rfl, rfl, h1⟩)) (fun h0 => h0.2)
  · intro k s κ h
    unfold g102_0 at h
    split at h <;> try exact h.elim
    rename_i e1
    rw [needs_iff] at h
    have hl := h.1 _ (List.mem_cons_of_mem _ (List.mem_singleton.2 rfl))
    obtain rfl := isYl_eq hl
    exact ⟨_, (_, _, _, _), rfl, e1, h.1 _ (List.mem_cons_self ..), h.2⟩
theorem x102 (j m : Dat) (l N : Nat) (Y : Dat) (R : XE → Option Nat → Prop) : execY Tryd.prog [(84, c84)] (fun _ => none) l N (fun k => [V Z (Y.ii k 0), V Z (Y.ii k 1)]) (lamY [(2, (g102_2 l N Y)), (0, (g102_0 l N Y))]) 8 (Tryd.f102.body.getD .skip) (some 0) (initS Tryd.f102.ntmps ([.val (.func (.yield l) #[] #[]), .rp [.sl [W Z, W Z]] j 0 0, .rp [W Z] m 0 0]) 0 (memOf [])) (fun e k s => R e k) =
 (cnd ((o102_0 j m l N Y 0 1).isSome)
 (cnd (decide (l = l))
 (R (XE.normal) (.some ((o102_0 j m l N Y 0 1).getD 0)))
   False)
  False) := by kernel_rfl
noncomputable def n102 (j m : Dat) (l N : Nat) (Y : Dat) : Bool :=
  (((o102_0 j m l N Y 0 1).isSome) && (decide ((o102_0 j m l N Y 0 1).getD 0 = N)))
theorem it102 (j m : Dat) (N : Nat) (Y : Dat) (hn : ∀ l, n102 j m l N Y = true) : SIter Tryd.prog 102 [.rp [.sl [W Z, W Z]] j 0 0, .rp [W Z] m 0 0] [] N (fun k => [V Z (Y.ii k 0), V Z (Y.ii k 1)]) := iter_of (tc k84 tn) mix_ok 8 (fn := Tryd.f102) (c := (Tryd.f102.body.getD .skip)) (Λ := (fun _ => none)) (ΛY := fun l => (lamY [(2, (g102_2 l N Y)), (0, (g102_0 l N Y))])) Tryd.func102 rfl noLam rfl (fun k _ => rfl) (fun C hN hy => (lamY_of rfl (lamsY_cons (z102_2 hN hy) (lamsY_cons (z102_0 hN hy) lamsY_nil)))) fun l => by
  refine propOf (x102 j m l N Y fun e k => match e with | .exit _ => False | _ => k = some N) ?_
  exact cn (al (hn l)) (cn (decide_eq_true rfl) (congrArg some (of_decide_eq_true (ar (hn l)))))

/-! ### shotline/shotlinelaw02.Few -/
noncomputable def m18 (e : ByteArray) (j : Int) (d : Nat) (g : Dat) (b : Nat) (i : Dat) : Bool :=
  (bif (bif (decide ((↑e.size : Int) ≤ 20)) then (decide ((↑d : Int) ≤ 10)) else false) then (bif (decide ((↑b : Int) ≤ 10)) then true else (bif (decide ((60 : Int) < (↑b : Int))) then (decide ((↑b : Int) ≤ 62)) else false)) else false)
noncomputable def q18 (r : Bool) : SV × List Blk × List Blk := (.bool r, [], [])
noncomputable def g18 : GF := fun vs bs => match vs, bs with
  | [.agg [.str e, V Z j, .ro [W Z, W Z] d g, .ro [W Z, W Z, W Z] b i]], [] => some (rs 0 (q18 (m18 e j d g b i)) [])
  | _, _ => none
noncomputable def c18 : Ctr := genC [.a [.k, .k, .ro [W Z, W Z], .ro [W Z, W Z, W Z]]] g18
theorem k18 : CtrOk Tryd.prog c18 18 := cx tn mix_ok 8 (fn := Tryd.f18) (c := (Tryd.f18.body.getD .skip)) (grs := []) (rh := .k) Tryd.func18 rfl (by kernel_rfl) noLam fun vs bs q h hn => by
  unfold g18 at h
  split at h <;> cases h
  rename_i e j d g b i
  exact ⟨_, rfl, ca (fun R => (R (.bool (bif (bif (decide ((↑e.size : Int) ≤ 20)) then (decide ((↑d : Int) ≤ 10)) else false) then (bif (decide ((↑b : Int) ≤ 10)) then true else (bif (decide ((60 : Int) < (↑b : Int))) then (decide ((↑b : Int) ≤ 62)) else false)) else false)) [] [])) (fun R => by kernel_rfl) (lf rfl rfl)⟩
/-! ### shotline/shotlinelaw02.none -/
noncomputable def m37 (e : ByteArray) (g : Int) (b : Nat) (i : Dat) (d : Nat) (j : Dat) : Bool :=
  (bif (bif (decide (e = ({ data := #[] } : ByteArray))) then (decide (g = 0)) else false) then (decide ((Z.wrap ((↑b : Int) + (↑d : Int))) = 0)) else false)
noncomputable def q37 (r : Bool) : SV × List Blk × List Blk := (.bool r, [], [])
noncomputable def g37 : GF := fun vs bs => match vs, bs with
  | [.agg [.str e, V Z g, .ro [W Z, W Z] b i, .ro [W Z, W Z, W Z] d j]], [] => some (rs 0 (q37 (m37 e g b i d j)) [])
  | _, _ => none
noncomputable def c37 : Ctr := genC [.a [.k, .k, .ro [W Z, W Z], .ro [W Z, W Z, W Z]]] g37
theorem k37 : CtrOk Tryd.prog c37 37 := cx tn mix_ok 8 (fn := Tryd.f37) (c := (Tryd.f37.body.getD .skip)) (grs := []) (rh := .k) Tryd.func37 rfl (by kernel_rfl) noLam fun vs bs q h hn => by
  unfold g37 at h
  split at h <;> cases h
  rename_i e g b i d j
  exact ⟨_, rfl, ca (fun R => (R (.bool (bif (bif (decide (e = ({ data := #[] } : ByteArray))) then (decide (g = 0)) else false) then (decide ((Z.wrap ((↑b : Int) + (↑d : Int))) = 0)) else false)) [] [])) (fun R => by kernel_rfl) (lf rfl rfl)⟩
/-! ### shotline/shotlinebase.CopyLegs -/
noncomputable def m36 (a : Nat) (b : Dat) : Nat × Dat :=
  ((0 + a), ((datS [] 3).app 0 b))
noncomputable def n36 (a : Nat) (b : Dat) : Bool :=
  ((decide ((0 + a) ≤ 1073741824)) && ((decide ((0 + (0 + a)) ≤ (0 + a))) && true))
noncomputable def q36 (r : Nat × Dat) : SV × List Blk × List Blk := (.ro [W Z, W Z, W Z] r.1 r.2, [], [])
noncomputable def g36 : GF := fun vs bs => match vs, bs with
  | [.ro [W Z, W Z, W Z] a b], [] => some (rs 0 (q36 (m36 a b)) [n36 a b])
  | _, _ => none
noncomputable def c36 : Ctr := genC [.ro [W Z, W Z, W Z]] g36
theorem k36 : CtrOk Tryd.prog c36 36 := cx tn mix_ok 8 (fn := Tryd.f36) (c := (Tryd.f36.body.getD .skip)) (grs := []) (rh := .ro [W Z, W Z, W Z]) Tryd.func36 rfl (by kernel_rfl) noLam fun vs bs q h hn => by
  unfold g36 at h
  split at h <;> cases h
  rename_i a b
  have hn := n1 hn
  exact ⟨_, rfl, ca (fun R => (cnd (decide ((0 + a) ≤ 1073741824))
 (cnd (decide ((0 + (0 + a)) ≤ (0 + a)))
 (R (.ro [W Z, W Z, W Z] (0 + a) ((datS [] 3).app 0 b)) [] [])
   False)
  False)) (fun R => by kernel_rfl) (cn (al hn) (cn (al (ar hn)) (lf rfl rfl)))⟩
/-! ### shotline/shotlinebase.CopyGases -/
noncomputable def m59 (a : Nat) (b : Dat) : Nat × Dat :=
  ((0 + a), ((datS [] 2).app 0 b))
noncomputable def n59 (a : Nat) (b : Dat) : Bool :=
  ((decide ((0 + a) ≤ 1073741824)) && ((decide ((0 + (0 + a)) ≤ (0 + a))) && true))
noncomputable def q59 (r : Nat × Dat) : SV × List Blk × List Blk := (.ro [W Z, W Z] r.1 r.2, [], [])
noncomputable def g59 : GF := fun vs bs => match vs, bs with
  | [.ro [W Z, W Z] a b], [] => some (rs 0 (q59 (m59 a b)) [n59 a b])
  | _, _ => none
noncomputable def c59 : Ctr := genC [.ro [W Z, W Z]] g59
theorem k59 : CtrOk Tryd.prog c59 59 := cx tn mix_ok 8 (fn := Tryd.f59) (c := (Tryd.f59.body.getD .skip)) (grs := []) (rh := .ro [W Z, W Z]) Tryd.func59 rfl (by kernel_rfl) noLam fun vs bs q h hn => by
  unfold g59 at h
  split at h <;> cases h
  rename_i a b
  have hn := n1 hn
  exact ⟨_, rfl, ca (fun R => (cnd (decide ((0 + a) ≤ 1073741824))
 (cnd (decide ((0 + (0 + a)) ≤ (0 + a)))
 (R (.ro [W Z, W Z] (0 + a) ((datS [] 2).app 0 b)) [] [])
   False)
  False)) (fun R => by kernel_rfl) (cn (al hn) (cn (al (ar hn)) (lf rfl rfl)))⟩
/-! ### shotline/shotlinebase.CopyPlan -/
noncomputable def m20 (i : ByteArray) (j : Int) (b : Nat) (d : Dat) (e : Nat) (g : Dat) : ByteArray × Int × Nat × Dat × Nat × Dat :=
  (i, j, (m59 b d).1, (m59 b d).2, (m36 e g).1, (m36 e g).2)
noncomputable def n20 (i : ByteArray) (j : Int) (b : Nat) (d : Dat) (e : Nat) (g : Dat) : Bool :=
  ((n59 b d) && ((n36 e g) && true))
noncomputable def q20 (r : ByteArray × Int × Nat × Dat × Nat × Dat) : SV × List Blk × List Blk := (.agg [.str r.1, V Z r.2.1, .ro [W Z, W Z] r.2.2.1 r.2.2.2.1, .ro [W Z, W Z, W Z] r.2.2.2.2.1 r.2.2.2.2.2], [], [])
noncomputable def g20 : GF := fun vs bs => match vs, bs with
  | [.agg [.str i, V Z j, .ro [W Z, W Z] b d, .ro [W Z, W Z, W Z] e g]], [] => some (rs 0 (q20 (m20 i j b d e g)) [n20 i j b d e g])
  | _, _ => none
noncomputable def c20 : Ctr := genC [.a [.k, .k, .ro [W Z, W Z], .ro [W Z, W Z, W Z]]] g20
theorem k20 : CtrOk Tryd.prog c20 20 := cx (tc k36 (tc k59 tn)) mix_ok 8 (fn := Tryd.f20) (c := (Tryd.f20.body.getD .skip)) (grs := []) (rh := .t [.k, .k, .ro [W Z, W Z], .ro [W Z, W Z, W Z]]) Tryd.func20 rfl (by kernel_rfl) noLam fun vs bs q h hn => by
  unfold g20 at h
  split at h <;> cases h
  rename_i i j b d e g
  have hn := n1 hn
  exact ⟨_, rfl, ca (fun R => (cnd (n59 b d)
 (cnd (n36 e g)
 (R (.agg [.str i, V Z j, .ro [W Z, W Z] (m59 b d).1 (m59 b d).2, .ro [W Z, W Z, W Z] (m36 e g).1 (m36 e g).2]) [] [])
   False)
  False)) (fun R => by kernel_rfl) (cn (al hn) (cn (al (ar hn)) (lf rfl rfl)))⟩
/-! ### shotline/shotlinebase.IsName -/
noncomputable def l64_0 (b : ByteArray) : Nat → Int → Option (Bool × (Bool) × (Unit))
  | 0, _ => none
  | f + 1, a => (cond (decide (a < (↑b.size : Int))) (cond (decide (0 ≤ a ∧ a < (↑b.size : Int))) (cond (bif (bif (bif (bif (decide (97 ≤ (byteAt b a.toNat))) then (decide ((byteAt b a.toNat) ≤ 122)) else false) then true else (bif (decide (65 ≤ (byteAt b a.toNat))) then (decide ((byteAt b a.toNat) ≤ 90)) else false)) then false else true) then (bif (decide (a = 0)) then true else (bif (bif (decide ((byteAt b a.toNat) = 45)) then false else true) then (bif (decide ((byteAt b a.toNat) < 48)) then true else (decide (57 < (byteAt b a.toNat)))) else false)) else false) (some (true, false, default)) (l64_0 b f (Z.wrap (a + 1)))) none) (some (false, default, ())))
noncomputable abbrev o64_0 (b : ByteArray) (a : Int) : Option (Bool × (Bool) × (Unit)) := l64_0 b (b.size + a.toNat + 8) a
noncomputable def e64_0 (b : ByteArray) (r : Bool × (Bool) × (Unit)) (K : XR) : Prop := cnd r.1 (K (XE.ret) [.bool r.2.1] []) (K (XE.exit 0) [.any] [])
noncomputable def g64_0 : LSum := fun s k => match czv 0 55 [0, 3] 0 [] s with
  | some ([.str b, V Z a], []) => needs [(o64_0 b a).isSome] (e64_0 b ((o64_0 b a).getD default) fun e vs bs => inBlk 0 k e (mkSt 0 55 [2] vs 0 bs))
  | _ => False
theorem z64_0 : LOk Tryd.prog g64_0 (.block 0 (bodyAt (Tryd.f64.body.getD .skip) 0)) := by
  refine lb (ι := ByteArray × Int) (fuel := 8) (na := 0) (nt := 55) (nx := 0) (Lh := [0, 3]) (Le := [2]) (gl := []) tn mix_ok noLam rfl (fun f (b, a) K => GG default (e64_0 b) K (l64_0 b f a)) (fun (b, a) => [.str b, V Z a]) (fun (b, a) => []) (fun (_, _) K => gg_none) ?_ ?_
  · rintro f ⟨b, a⟩ K hG
    refine ro (fun R => (cnd (decide (a < (↑b.size : Int)))
 (cnd (decide (0 ≤ a ∧ a < (↑b.size : Int)))
 (cnd (bif (bif (bif (bif (decide (97 ≤ (byteAt b a.toNat))) then (decide ((byteAt b a.toNat) ≤ 122)) else false) then true else (bif (decide (65 ≤ (byteAt b a.toNat))) then (decide ((byteAt b a.toNat) ≤ 90)) else false)) then false else true) then (bif (decide (a = 0)) then true else (bif (bif (decide ((byteAt b a.toNat) = 45)) then false else true) then (bif (decide ((byteAt b a.toNat) < 48)) then true else (decide (57 < (byteAt b a.toNat)))) else false)) else false)
 (R (XE.ret) [.bool false] [])
 (R (XE.normal) [.str b, V Z (Z.wrap (a + 1))] []))
   False)
 (R (XE.exit 0) [.any] []))) (fun R => by kernel_rfl) ?_
    exact ch hG (fun h0 => cg h0 fun h1 => ch h1 (fun h2 => h2.2) (fun h2 => ⟨(_, _), rfl, rfl, h2⟩)) (fun h0 => h0.2)
  · intro s k h
    unfold g64_0 at h
    split at h <;> try exact h.elim
    rename_i e1
    rw [needs_iff] at h
    exact ⟨_, e1, _, (_, _), rfl, rfl, h.1 _ (List.mem_singleton.2 rfl), h.2⟩
noncomputable def m64 (d : ByteArray) : Bool :=
  (cond (bif (decide ((↑d.size : Int) < 1)) then true else (decide (12 < (↑d.size : Int)))) false (cond ((o64_0 d 0).getD default).1 ((o64_0 d 0).getD default).2.1 true))
noncomputable def n64 (d : ByteArray) : Bool :=
  (cond (bif (decide ((↑d.size : Int) < 1)) then true else (decide (12 < (↑d.size : Int)))) true (((o64_0 d 0).isSome) && true))
noncomputable def q64 (r : Bool) : SV × List Blk × List Blk := (.bool r, [], [])
noncomputable def g64 : GF := fun vs bs => match vs, bs with
  | [.str d], [] => some (rs 0 (q64 (m64 d)) [n64 d])
  | _, _ => none
noncomputable def c64 : Ctr := genC [.k] g64
theorem k64 : CtrOk Tryd.prog c64 64 := cx tn mix_ok 8 (fn := Tryd.f64) (c := (Tryd.f64.body.getD .skip)) (grs := []) (rh := .k) Tryd.func64 rfl (by kernel_rfl) (lam_of rfl (lc z64_0 ln)) fun vs bs q h hn => by
  unfold g64 at h
  split at h <;> cases h
  rename_i d
  have hn := n1 hn
  exact ⟨_, rfl, ca (fun R => (cnd (bif (decide ((↑d.size : Int) < 1)) then true else (decide (12 < (↑d.size : Int))))
 (R (.bool false) [] [])
 (cnd ((o64_0 d 0).isSome)
 (cnd ((o64_0 d 0).getD default).1
 (R (.bool ((o64_0 d 0).getD default).2.1) [] [])
 (R (.bool true) [] []))
   False))) (fun R => by kernel_rfl) (co (fun h0 => lf (cT h0 rfl) rfl) (fun h0 => cn (al (cf h0 hn)) (co (fun h1 => lf (cF h0 (cT h1 rfl)) rfl) (fun h1 => lf (cF h0 (cF h1 rfl)) rfl))))⟩
/-! ### shotline/shotlineref01.CheckGas -/
noncomputable def m65 (a b : Int) : Int :=
  (cond (bif (bif (m16 a 0 1000) then false else true) then true else (bif (m16 b 0 1000) then false else true)) 2 (cond (decide ((1000 : Int) < (Z.wrap (a + b)))) 23 0))
noncomputable def q65 (r : Int) : SV × List Blk × List Blk := (V Z r, [], [])
noncomputable def g65 : GF := fun vs bs => match vs, bs with
  | [.agg [V Z a, V Z b]], [] => some (rs 0 (q65 (m65 a b)) [])
  | _, _ => none
noncomputable def c65 : Ctr := genC [.k] g65
theorem k65 : CtrOk Tryd.prog c65 65 := cx (tc k16 tn) mix_ok 8 (fn := Tryd.f65) (c := (Tryd.f65.body.getD .skip)) (grs := []) (rh := .k) Tryd.func65 rfl (by kernel_rfl) noLam fun vs bs q h hn => by
  unfold g65 at h
  split at h <;> cases h
  rename_i a b
  exact ⟨_, rfl, ca (fun R => (cnd (bif (bif (m16 a 0 1000) then false else true) then true else (bif (m16 b 0 1000) then false else true))
 (R (V Z 2) [] [])
 (cnd (decide ((1000 : Int) < (Z.wrap (a + b))))
 (R (V Z 23) [] [])
 (R (V Z 0) [] [])))) (fun R => by kernel_rfl) (co (fun h0 => lf (cT h0 rfl) rfl) (fun h0 => co (fun h1 => lf (cF h0 (cT h1 rfl)) rfl) (fun h1 => lf (cF h0 (cF h1 rfl)) rfl)))⟩
/-! ### shotline/profile.MeanDepth -/
noncomputable def l23_0 (p : Nat) (t : Dat) (o : Nat) (n : Dat) (E : Int) (u : ByteArray) (v : Int) (w : Nat) (A : Dat) (x : Nat) (C : Dat) (y z : Int) (D : Dat) : Nat → Int → Int → Option (Int)
  | 0, _, _ => none
  | f + 1, F, m => (cond (decide (m < E)) (cond (decide (0 ≤ m ∧ m < ↑o)) (cond (decide (0 ≤ m ∧ m < ↑p)) (cond (decide (0 ≤ m ∧ m < ↑p)) (l23_0 p t o n E u v w A x C y z D f (Z.wrap (F + (Z.wrap ((Z.wrap ((t.ii m.toNat 1) + (n.ii m.toNat 1))) * (Z.wrap ((n.ii m.toNat 0) - (t.ii m.toNat 0))))))) (Z.wrap (m + 1))) none) none) none) (some F))
noncomputable abbrev o23_0 (p : Nat) (t : Dat) (o : Nat) (n : Dat) (E : Int) (u : ByteArray) (v : Int) (w : Nat) (A : Dat) (x : Nat) (C : Dat) (y z : Int) (D : Dat) (F m : Int) : Option (Int) := l23_0 p t o n E u v w A x C y z D (p + F.toNat + o + E.toNat + m.toNat + u.size + v.toNat + w + x + y.toNat + z.toNat + 8) F m
noncomputable def e23_0 (p : Nat) (t : Dat) (o : Nat) (n : Dat) (E : Int) (u : ByteArray) (v : Int) (w : Nat) (A : Dat) (x : Nat) (C : Dat) (y z : Int) (D : Dat) (r : Int) (K : XR) : Prop := K (XE.exit 0) [.ptr 1 0, .ro [W Z, W Z] p t, V Z r] [.cells 41 [.str u, V Z v, .ro [W Z, W Z] w A, .ro [W Z, W Z, W Z] x C], .cells 26 [V Z y, V Z z], .row 41 [.str, W Z, .sl [W Z, W Z], .sl [W Z, W Z, W Z]] 1 D]
noncomputable def g23_0 : LSum := fun s k => match czv 0 56 [2, 5, 6, 23, 24, 25] 3 [] s with
  | some ([.ptr 1 0, .ro [W Z, W Z] p t, V Z F, .ro [W Z, W Z] o n, V Z E, V Z m], [.cells 41 [.str u, V Z v, .ro [W Z, W Z] w A, .ro [W Z, W Z, W Z] x C], .cells 26 [V Z y, V Z z], .row 41 [.str, W Z, .sl [W Z, W Z], .sl [W Z, W Z, W Z]] 1 D]) => needs [(o23_0 p t o n E u v w A x C y z D F m).isSome] (e23_0 p t o n E u v w A x C y z D ((o23_0 p t o n E u v w A x C y z D F m).getD default) fun e vs bs => inBlk 0 k e (mkSt 0 56 [2, 5, 6] vs 3 bs))
  | _ => False
theorem z23_0 : LOk Tryd.prog g23_0 (.block 0 (bodyAt (Tryd.f23.body.getD .skip) 0)) := by
  refine lb (ι := Nat × Dat × Int × Nat × Dat × Int × Int × ByteArray × Int × Nat × Dat × Nat × Dat × Int × Int × Dat) (fuel := 8) (na := 0) (nt := 56) (nx := 3) (Lh := [2, 5, 6, 23, 24, 25]) (Le := [2, 5, 6]) (gl := []) (tc k54 (tc k60 (tc k61 (tc k62 tn)))) mix_ok noLam rfl (fun f (p, t, F, o, n, E, m, u, v, w, A, x, C, y, z, D) K => GG default (e23_0 p t o n E u v w A x C y z D) K (l23_0 p t o n E u v w A x C y z D f F m)) (fun (p, t, F, o, n, E, m, u, v, w, A, x, C, y, z, D) => [.ptr 1 0, .ro [W Z, W Z] p t, V Z F, .ro [W Z, W Z] o n, V Z E, V Z m]) (fun (p, t, F, o, n, E, m, u, v, w, A, x, C, y, z, D) => [.cells 41 [.str u, V Z v, .ro [W Z, W Z] w A, .ro [W Z, W Z, W Z] x C], .cells 26 [V Z y, V Z z], .row 41 [.str, W Z, .sl [W Z, W Z], .sl [W Z, W Z, W Z]] 1 D]) (fun (_, _, _, _, _, _, _, _, _, _, _, _, _, _, _, _) K => gg_none) ?_ ?_
  · rintro f ⟨p, t, F, o, n, E, m, u, v, w, A, x, C, y, z, D⟩ K hG
    refine ro (fun R => (cnd (decide (m < E))
 (cnd (decide (0 ≤ m ∧ m < ↑o))
 (cnd (decide (0 ≤ m ∧ m < ↑p))
 (cnd (decide (0 ≤ m ∧ m < ↑p))
 (R (XE.normal) [.ptr 1 0, .ro [W Z, W Z] p t, V Z (Z.wrap (F + (Z.wrap ((Z.wrap ((t.ii m.toNat 1) + (n.ii m.toNat 1))) * (Z.wrap ((n.ii m.toNat 0) - (t.ii m.toNat 0))))))), .ro [W Z, W Z] o n, V Z E, V Z (Z.wrap (m + 1))] [.cells 41 [.str u, V Z v, .ro [W Z, W Z] w A, .ro [W Z, W Z, W Z] x C], .cells 26 [V Z y, V Z z], .row 41 [.str, W Z, .sl [W Z, W Z], .sl [W Z, W Z, W Z]] 1 D])
     False)
    False)
   False)
 (R (XE.exit 0) [.ptr 1 0, .ro [W Z, W Z] p t, V Z F] [.cells 41 [.str u, V Z v, .ro [W Z, W Z] w A, .ro [W Z, W Z, W Z] x C], .cells 26 [V Z y, V Z z], .row 41 [.str, W Z, .sl [W Z, W Z], .sl [W Z, W Z, W Z]] 1 D]))) (fun R => by kernel_rfl) ?_
    exact ch hG (fun h0 => cg h0 fun h1 => cg h1 fun h2 => cg h2 fun h3 => ⟨(_, _, _, _, _, _, _, _, _, _, _, _, _, _, _, _), rfl, rfl, h3⟩) (fun h0 => h0.2)
  · intro s k h
    unfold g23_0 at h
    split at h <;> try exact h.elim
    rename_i e1
    rw [needs_iff] at h
    exact ⟨_, e1, _, (_, _, _, _, _, _, _, _, _, _, _, _, _, _, _, _), rfl, rfl, h.1 _ (List.mem_singleton.2 rfl), h.2⟩
noncomputable def m23 (j : ByteArray) (l : Int) (b : Nat) (d : Dat) (g : Nat) (i : Dat) : Int × Int × Int :=
  (cond (bif (decide ((m60 1 (datS [SV.str j, V Z l, SV.ro [Kd.int Z, Kd.int Z] b d, SV.ro [Kd.int Z, Kd.int Z, Kd.int Z] g i] 4)) = 0)) then false else true) (0, 0, (m60 1 (datS [SV.str j, V Z l, SV.ro [Kd.int Z, Kd.int Z] b d, SV.ro [Kd.int Z, Kd.int Z, Kd.int Z] g i] 4))) (cond (decide ((m62 (m61 j l b d g i).1 (m61 j l b d g i).2) = 0)) (0, 0, 0) ((m54 ((o23_0 (m61 j l b d g i).1 (m61 j l b d g i).2 (((↑((m61 j l b d g i).1) : Int) - 1).toNat) ((m61 j l b d g i).2.shift 1) (↑(((↑((m61 j l b d g i).1) : Int) - 1).toNat) : Int) j l b d g i 0 0 (datS [SV.str j, V Z l, SV.ro [Kd.int Z, Kd.int Z] b d, SV.ro [Kd.int Z, Kd.int Z, Kd.int Z] g i] 4) 0 0).getD 0) (Z.wrap (2 * (m62 (m61 j l b d g i).1 (m61 j l b d g i).2)))).1, (m54 ((o23_0 (m61 j l b d g i).1 (m61 j l b d g i).2 (((↑((m61 j l b d g i).1) : Int) - 1).toNat) ((m61 j l b d g i).2.shift 1) (↑(((↑((m61 j l b d g i).1) : Int) - 1).toNat) : Int) j l b d g i 0 0 (datS [SV.str j, V Z l, SV.ro [Kd.int Z, Kd.int Z] b d, SV.ro [Kd.int Z, Kd.int Z, Kd.int Z] g i] 4) 0 0).getD 0) (Z.wrap (2 * (m62 (m61 j l b d g i).1 (m61 j l b d g i).2)))).2, 0)))
noncomputable def n23 (j : ByteArray) (l : Int) (b : Nat) (d : Dat) (g : Nat) (i : Dat) : Bool :=
  ((n60 1 (datS [SV.str j, V Z l, SV.ro [Kd.int Z, Kd.int Z] b d, SV.ro [Kd.int Z, Kd.int Z, Kd.int Z] g i] 4)) && (cond (bif (decide ((m60 1 (datS [SV.str j, V Z l, SV.ro [Kd.int Z, Kd.int Z] b d, SV.ro [Kd.int Z, Kd.int Z, Kd.int Z] g i] 4)) = 0)) then false else true) true ((n61 j l b d g i) && ((n62 (m61 j l b d g i).1 (m61 j l b d g i).2) && (cond (decide ((m62 (m61 j l b d g i).1 (m61 j l b d g i).2) = 0)) true ((decide ((0 : Int) ≤ (1 : Int) ∧ (1 : Int) ≤ (↑(m61 j l b d g i).1 : Int) ∧ (↑(m61 j l b d g i).1 : Int) ≤ (↑(m61 j l b d g i).1 : Int))) && (((o23_0 (m61 j l b d g i).1 (m61 j l b d g i).2 (((↑((m61 j l b d g i).1) : Int) - 1).toNat) ((m61 j l b d g i).2.shift 1) (↑(((↑((m61 j l b d g i).1) : Int) - 1).toNat) : Int) j l b d g i 0 0 (datS [SV.str j, V Z l, SV.ro [Kd.int Z, Kd.int Z] b d, SV.ro [Kd.int Z, Kd.int Z, Kd.int Z] g i] 4) 0 0).isSome) && ((n62 (m61 j l b d g i).1 (m61 j l b d g i).2) && ((n54 ((o23_0 (m61 j l b d g i).1 (m61 j l b d g i).2 (((↑((m61 j l b d g i).1) : Int) - 1).toNat) ((m61 j l b d g i).2.shift 1) (↑(((↑((m61 j l b d g i).1) : Int) - 1).toNat) : Int) j l b d g i 0 0 (datS [SV.str j, V Z l, SV.ro [Kd.int Z, Kd.int Z] b d, SV.ro [Kd.int Z, Kd.int Z, Kd.int Z] g i] 4) 0 0).getD 0) (Z.wrap (2 * (m62 (m61 j l b d g i).1 (m61 j l b d g i).2)))) && true)))))))))
noncomputable def q23 (r : Int × Int × Int) : SV × List Blk × List Blk := (.tup [.agg [V Z r.1, V Z r.2.1], V Z r.2.2], [], [])
noncomputable def g23 : GF := fun vs bs => match vs, bs with
  | [.agg [.str j, V Z l, .ro [W Z, W Z] b d, .ro [W Z, W Z, W Z] g i]], [] => some (rs 0 (q23 (m23 j l b d g i)) [n23 j l b d g i])
  | _, _ => none
noncomputable def c23 : Ctr := genC [.a [.k, .k, .ro [W Z, W Z], .ro [W Z, W Z, W Z]]] g23
theorem k23 : CtrOk Tryd.prog c23 23 := cx (tc k54 (tc k60 (tc k61 (tc k62 tn)))) mix_ok 8 (fn := Tryd.f23) (c := (Tryd.f23.body.getD .skip)) (grs := []) (rh := .k) Tryd.func23 rfl (by kernel_rfl) (lam_of rfl (lc z23_0 ln)) fun vs bs q h hn => by
  unfold g23 at h
  split at h <;> cases h
  rename_i j l b d g i
  have hn := n1 hn
  exact ⟨_, rfl, ca (fun R => (cnd (n60 1 (datS [SV.str j, V Z l, SV.ro [Kd.int Z, Kd.int Z] b d, SV.ro [Kd.int Z, Kd.int Z, Kd.int Z] g i] 4))
 (cnd (bif (decide ((m60 1 (datS [SV.str j, V Z l, SV.ro [Kd.int Z, Kd.int Z] b d, SV.ro [Kd.int Z, Kd.int Z, Kd.int Z] g i] 4)) = 0)) then false else true)
 (R (.tup [.agg [V Z 0, V Z 0], V Z (m60 1 (datS [SV.str j, V Z l, SV.ro [Kd.int Z, Kd.int Z] b d, SV.ro [Kd.int Z, Kd.int Z, Kd.int Z] g i] 4))]) [] [])
 (cnd (n61 j l b d g i)
 (cnd (n62 (m61 j l b d g i).1 (m61 j l b d g i).2)
 (cnd (decide ((m62 (m61 j l b d g i).1 (m61 j l b d g i).2) = 0))
 (R (.tup [.agg [V Z 0, V Z 0], V Z 0]) [] [])
 (cnd (decide ((0 : Int) ≤ (1 : Int) ∧ (1 : Int) ≤ (↑(m61 j l b d g i).1 : Int) ∧ (↑(m61 j l b d g i).1 : Int) ≤ (↑(m61 j l b d g i).1 : Int)))
 (cnd ((o23_0 (m61 j l b d g i).1 (m61 j l b d g i).2 (((↑((m61 j l b d g i).1) : Int) - 1).toNat) ((m61 j l b d g i).2.shift 1) (↑(((↑((m61 j l b d g i).1) : Int) - 1).toNat) : Int) j l b d g i 0 0 (datS [SV.str j, V Z l, SV.ro [Kd.int Z, Kd.int Z] b d, SV.ro [Kd.int Z, Kd.int Z, Kd.int Z] g i] 4) 0 0).isSome)
 (cnd (n62 (m61 j l b d g i).1 (m61 j l b d g i).2)
 (cnd (n54 ((o23_0 (m61 j l b d g i).1 (m61 j l b d g i).2 (((↑((m61 j l b d g i).1) : Int) - 1).toNat) ((m61 j l b d g i).2.shift 1) (↑(((↑((m61 j l b d g i).1) : Int) - 1).toNat) : Int) j l b d g i 0 0 (datS [SV.str j, V Z l, SV.ro [Kd.int Z, Kd.int Z] b d, SV.ro [Kd.int Z, Kd.int Z, Kd.int Z] g i] 4) 0 0).getD 0) (Z.wrap (2 * (m62 (m61 j l b d g i).1 (m61 j l b d g i).2))))
 (R (.tup [.agg [V Z (m54 ((o23_0 (m61 j l b d g i).1 (m61 j l b d g i).2 (((↑((m61 j l b d g i).1) : Int) - 1).toNat) ((m61 j l b d g i).2.shift 1) (↑(((↑((m61 j l b d g i).1) : Int) - 1).toNat) : Int) j l b d g i 0 0 (datS [SV.str j, V Z l, SV.ro [Kd.int Z, Kd.int Z] b d, SV.ro [Kd.int Z, Kd.int Z, Kd.int Z] g i] 4) 0 0).getD 0) (Z.wrap (2 * (m62 (m61 j l b d g i).1 (m61 j l b d g i).2)))).1, V Z (m54 ((o23_0 (m61 j l b d g i).1 (m61 j l b d g i).2 (((↑((m61 j l b d g i).1) : Int) - 1).toNat) ((m61 j l b d g i).2.shift 1) (↑(((↑((m61 j l b d g i).1) : Int) - 1).toNat) : Int) j l b d g i 0 0 (datS [SV.str j, V Z l, SV.ro [Kd.int Z, Kd.int Z] b d, SV.ro [Kd.int Z, Kd.int Z, Kd.int Z] g i] 4) 0 0).getD 0) (Z.wrap (2 * (m62 (m61 j l b d g i).1 (m61 j l b d g i).2)))).2], V Z 0]) [] [])
          False)
         False)
        False)
       False))
     False)
    False))
  False)) (fun R => by kernel_rfl) (cn (al hn) (co (fun h0 => lf (cT h0 rfl) rfl) (fun h0 => cn (al (cf h0 (ar hn))) (cn (al (ar (cf h0 (ar hn)))) (co (fun h1 => lf (cF h0 (cT h1 rfl)) rfl) (fun h1 => cn (al (cf h1 (ar (ar (cf h0 (ar hn)))))) (cn (al (ar (cf h1 (ar (ar (cf h0 (ar hn))))))) (cn (al (ar (ar (cf h1 (ar (ar (cf h0 (ar hn)))))))) (cn (al (ar (ar (ar (cf h1 (ar (ar (cf h0 (ar hn))))))))) (lf (cF h0 (cF h1 rfl)) rfl))))))))))⟩
/-! ### shotline/shotlineref02.Seconds -/
noncomputable def l26_0 (g : ByteArray) (i : Int) (j : Nat) (l : Dat) (b : Nat) (d : Dat) : Nat → Int → Int → Option (Int)
  | 0, _, _ => none
  | f + 1, w, t => (cond (decide (t < (↑b : Int))) (cond (decide (0 ≤ t ∧ t < ↑b)) (l26_0 g i j l b d f (Z.wrap (w + (d.ii t.toNat 0))) (Z.wrap (t + 1))) none) (some w))
noncomputable abbrev o26_0 (g : ByteArray) (i : Int) (j : Nat) (l : Dat) (b : Nat) (d : Dat) (w t : Int) : Option (Int) := l26_0 g i j l b d (w.toNat + t.toNat + g.size + i.toNat + j + b + 8) w t
noncomputable def e26_0 (g : ByteArray) (i : Int) (j : Nat) (l : Dat) (b : Nat) (d : Dat) (r : Int) (K : XR) : Prop := K (XE.exit 0) [V Z r] [.cells 41 [.str g, V Z i, .ro [W Z, W Z] j l, .ro [W Z, W Z, W Z] b d]]
noncomputable def g26_0 : LSum := fun s k => match czv 0 21 [1, 3, 4] 1 [] s with
  | some ([.ptr 0 0, V Z w, V Z t], [.cells 41 [.str g, V Z i, .ro [W Z, W Z] j l, .ro [W Z, W Z, W Z] b d]]) => needs [(o26_0 g i j l b d w t).isSome] (e26_0 g i j l b d ((o26_0 g i j l b d w t).getD default) fun e vs bs => inBlk 0 k e (mkSt 0 21 [3] vs 1 bs))
  | _ => False
theorem z26_0 : LOk Tryd.prog g26_0 (.block 0 (bodyAt (Tryd.f26.body.getD .skip) 0)) := by
  refine lb (ι := Int × Int × ByteArray × Int × Nat × Dat × Nat × Dat) (fuel := 8) (na := 0) (nt := 21) (nx := 1) (Lh := [1, 3, 4]) (Le := [3]) (gl := []) tn mix_ok noLam rfl (fun f (w, t, g, i, j, l, b, d) K => GG default (e26_0 g i j l b d) K (l26_0 g i j l b d f w t)) (fun (w, t, g, i, j, l, b, d) => [.ptr 0 0, V Z w, V Z t]) (fun (w, t, g, i, j, l, b, d) => [.cells 41 [.str g, V Z i, .ro [W Z, W Z] j l, .ro [W Z, W Z, W Z] b d]]) (fun (_, _, _, _, _, _, _, _) K => gg_none) ?_ ?_
  · rintro f ⟨w, t, g, i, j, l, b, d⟩ K hG
    refine ro (fun R => (cnd (decide (t < (↑b : Int)))
 (cnd (decide (0 ≤ t ∧ t < ↑b))
 (R (XE.normal) [.ptr 0 0, V Z (Z.wrap (w + (d.ii t.toNat 0))), V Z (Z.wrap (t + 1))] [.cells 41 [.str g, V Z i, .ro [W Z, W Z] j l, .ro [W Z, W Z, W Z] b d]])
   False)
 (R (XE.exit 0) [V Z w] [.cells 41 [.str g, V Z i, .ro [W Z, W Z] j l, .ro [W Z, W Z, W Z] b d]]))) (fun R => by kernel_rfl) ?_
    exact ch hG (fun h0 => cg h0 fun h1 => ⟨(_, _, _, _, _, _, _, _), rfl, rfl, h1⟩) (fun h0 => h0.2)
  · intro s k h
    unfold g26_0 at h
    split at h <;> try exact h.elim
    rename_i e1
    rw [needs_iff] at h
    exact ⟨_, e1, _, (_, _, _, _, _, _, _, _), rfl, rfl, h.1 _ (List.mem_singleton.2 rfl), h.2⟩
noncomputable def m26 (u : ByteArray) (v : Int) (m : Nat) (n : Dat) (o : Nat) (p : Dat) : Int :=
  ((o26_0 u v m n o p 0 0).getD 0)
noncomputable def n26 (u : ByteArray) (v : Int) (m : Nat) (n : Dat) (o : Nat) (p : Dat) : Bool :=
  (((o26_0 u v m n o p 0 0).isSome) && true)
noncomputable def q26 (r : Int) : SV × List Blk × List Blk := (V Z r, [], [])
noncomputable def g26 : GF := fun vs bs => match vs, bs with
  | [.agg [.str u, V Z v, .ro [W Z, W Z] m n, .ro [W Z, W Z, W Z] o p]], [] => some (rs 0 (q26 (m26 u v m n o p)) [n26 u v m n o p])
  | _, _ => none
noncomputable def c26 : Ctr := genC [.a [.k, .k, .ro [W Z, W Z], .ro [W Z, W Z, W Z]]] g26
theorem k26 : CtrOk Tryd.prog c26 26 := cx tn mix_ok 8 (fn := Tryd.f26) (c := (Tryd.f26.body.getD .skip)) (grs := []) (rh := .k) Tryd.func26 rfl (by kernel_rfl) (lam_of rfl (lc z26_0 ln)) fun vs bs q h hn => by
  unfold g26 at h
  split at h <;> cases h
  rename_i u v m n o p
  have hn := n1 hn
  exact ⟨_, rfl, ca (fun R => (cnd ((o26_0 u v m n o p 0 0).isSome)
 (R (V Z ((o26_0 u v m n o p 0 0).getD 0)) [] [])
  False)) (fun R => by kernel_rfl) (cn (al hn) (lf rfl rfl))⟩
/-! ### shotline/shotlineref02.CheckPlan -/
noncomputable def l25_0 (j : ByteArray) (l : Int) (d : Nat) (g : Dat) (i : Nat) (b : Dat) : Nat → Int → Option (Bool × (Int × Int) × (Unit))
  | 0, _ => none
  | f + 1, w => (cond (decide (w < (↑d : Int))) (cond (decide (0 ≤ w ∧ w < ↑d)) (cond (bif (decide ((m65 (g.ii w.toNat 0) (g.ii w.toNat 1)) = 0)) then false else true) (some (true, (0, (m65 (g.ii w.toNat 0) (g.ii w.toNat 1))), default)) (l25_0 j l d g i b f (Z.wrap (w + 1)))) none) (some (false, default, ())))
noncomputable abbrev o25_0 (j : ByteArray) (l : Int) (d : Nat) (g : Dat) (i : Nat) (b : Dat) (w : Int) : Option (Bool × (Int × Int) × (Unit)) := l25_0 j l d g i b (w.toNat + j.size + l.toNat + d + i + 8) w
noncomputable def e25_0 (j : ByteArray) (l : Int) (d : Nat) (g : Dat) (i : Nat) (b : Dat) (r : Bool × (Int × Int) × (Unit)) (K : XR) : Prop := cnd r.1 (K (XE.ret) [.ptr 0 0, V Z r.2.1.1, V Z r.2.1.2] [.cells 41 [.str j, V Z l, .ro [W Z, W Z] d g, .ro [W Z, W Z, W Z] i b]]) (K (XE.exit 0) [.ptr 0 0, .any, .any] [.cells 41 [.str j, V Z l, .ro [W Z, W Z] d g, .ro [W Z, W Z, W Z] i b]])
noncomputable def g25_0 : LSum := fun s k => match czv 0 84 [1, 4] 1 [] s with
  | some ([.ptr 0 0, V Z w], [.cells 41 [.str j, V Z l, .ro [W Z, W Z] d g, .ro [W Z, W Z, W Z] i b]]) => needs [(o25_0 j l d g i b w).isSome] (e25_0 j l d g i b ((o25_0 j l d g i b w).getD default) fun e vs bs => inBlk 0 k e (mkSt 0 84 [1, 2, 3] vs 1 bs))
  | _ => False
theorem z25_0 : LOk Tryd.prog g25_0 (.block 0 (bodyAt (Tryd.f25.body.getD .skip) 0)) := by
  refine lb (ι := Int × ByteArray × Int × Nat × Dat × Nat × Dat) (fuel := 8) (na := 0) (nt := 84) (nx := 1) (Lh := [1, 4]) (Le := [1, 2, 3]) (gl := []) (tc k16 (tc k64 (tc k65 tn))) mix_ok noLam rfl (fun f (w, j, l, d, g, i, b) K => GG default (e25_0 j l d g i b) K (l25_0 j l d g i b f w)) (fun (w, j, l, d, g, i, b) => [.ptr 0 0, V Z w]) (fun (w, j, l, d, g, i, b) => [.cells 41 [.str j, V Z l, .ro [W Z, W Z] d g, .ro [W Z, W Z, W Z] i b]]) (fun (_, _, _, _, _, _, _) K => gg_none) ?_ ?_
  · rintro f ⟨w, j, l, d, g, i, b⟩ K hG
    refine ro (fun R => (cnd (decide (w < (↑d : Int)))
 (cnd (decide (0 ≤ w ∧ w < ↑d))
 (cnd (bif (decide ((m65 (g.ii w.toNat 0) (g.ii w.toNat 1)) = 0)) then false else true)
 (R (XE.ret) [.ptr 0 0, V Z 0, V Z (m65 (g.ii w.toNat 0) (g.ii w.toNat 1))] [.cells 41 [.str j, V Z l, .ro [W Z, W Z] d g, .ro [W Z, W Z, W Z] i b]])
 (R (XE.normal) [.ptr 0 0, V Z (Z.wrap (w + 1))] [.cells 41 [.str j, V Z l, .ro [W Z, W Z] d g, .ro [W Z, W Z, W Z] i b]]))
   False)
 (R (XE.exit 0) [.ptr 0 0, .any, .any] [.cells 41 [.str j, V Z l, .ro [W Z, W Z] d g, .ro [W Z, W Z, W Z] i b]]))) (fun R => by kernel_rfl) ?_
    exact ch hG (fun h0 => cg h0 fun h1 => ch h1 (fun h2 => h2.2) (fun h2 => ⟨(_, _, _, _, _, _, _), rfl, rfl, h2⟩)) (fun h0 => h0.2)
  · intro s k h
    unfold g25_0 at h
    split at h <;> try exact h.elim
    rename_i e1
    rw [needs_iff] at h
    exact ⟨_, e1, _, (_, _, _, _, _, _, _), rfl, rfl, h.1 _ (List.mem_singleton.2 rfl), h.2⟩
noncomputable def l25_2 (j : ByteArray) (l : Int) (d : Nat) (g : Dat) (i : Nat) (b : Dat) : Nat → Int → Int → Option (Bool × (Int × Int) × (Unit))
  | 0, _, _ => none
  | f + 1, x, v => (cond (decide (v < (↑i : Int))) (cond (decide (0 ≤ v ∧ v < ↑i)) (cond (bif (bif (m16 (b.ii v.toNat 0) 1 1000000) then false else true) then true else (bif (m16 (b.ii v.toNat 1) 0 30000) then false else true)) (some (true, (v, 2), default)) (cond (bif (m16 (b.ii v.toNat 2) 0 (Z.wrap ((↑d : Int) - 1))) then false else true) (some (true, (v, 6), default)) (cond (decide ((1000000 : Int) < (Z.wrap (x + (b.ii v.toNat 0))))) (some (true, (v, 8), default)) (l25_2 j l d g i b f (Z.wrap (x + (b.ii v.toNat 0))) (Z.wrap (v + 1)))))) none) (some (false, default, ())))
noncomputable abbrev o25_2 (j : ByteArray) (l : Int) (d : Nat) (g : Dat) (i : Nat) (b : Dat) (x v : Int) : Option (Bool × (Int × Int) × (Unit)) := l25_2 j l d g i b (x.toNat + v.toNat + j.size + l.toNat + d + i + 8) x v
noncomputable def e25_2 (j : ByteArray) (l : Int) (d : Nat) (g : Dat) (i : Nat) (b : Dat) (r : Bool × (Int × Int) × (Unit)) (K : XR) : Prop := cnd r.1 (K (XE.ret) [V Z r.2.1.1, V Z r.2.1.2] [.cells 41 [.str j, V Z l, .ro [W Z, W Z] d g, .ro [W Z, W Z, W Z] i b]]) (K (XE.exit 2) [.any, .any] [.cells 41 [.str j, V Z l, .ro [W Z, W Z] d g, .ro [W Z, W Z, W Z] i b]])
noncomputable def g25_2 : LSum := fun s k => match czv 0 84 [1, 6, 7] 1 [] s with
  | some ([.ptr 0 0, V Z x, V Z v], [.cells 41 [.str j, V Z l, .ro [W Z, W Z] d g, .ro [W Z, W Z, W Z] i b]]) => needs [(o25_2 j l d g i b x v).isSome] (e25_2 j l d g i b ((o25_2 j l d g i b x v).getD default) fun e vs bs => inBlk 2 k e (mkSt 0 84 [2, 3] vs 1 bs))
  | _ => False
theorem z25_2 : LOk Tryd.prog g25_2 (.block 2 (bodyAt (Tryd.f25.body.getD .skip) 2)) := by
  refine lb (ι := Int × Int × ByteArray × Int × Nat × Dat × Nat × Dat) (fuel := 8) (na := 0) (nt := 84) (nx := 1) (Lh := [1, 6, 7]) (Le := [2, 3]) (gl := []) (tc k16 (tc k64 (tc k65 tn))) mix_ok (lam_of rfl (lc z25_0 ln)) rfl (fun f (x, v, j, l, d, g, i, b) K => GG default (e25_2 j l d g i b) K (l25_2 j l d g i b f x v)) (fun (x, v, j, l, d, g, i, b) => [.ptr 0 0, V Z x, V Z v]) (fun (x, v, j, l, d, g, i, b) => [.cells 41 [.str j, V Z l, .ro [W Z, W Z] d g, .ro [W Z, W Z, W Z] i b]]) (fun (_, _, _, _, _, _, _, _) K => gg_none) ?_ ?_
  · rintro f ⟨x, v, j, l, d, g, i, b⟩ K hG
    refine ro (fun R => (cnd (decide (v < (↑i : Int)))
 (cnd (decide (0 ≤ v ∧ v < ↑i))
 (cnd (bif (bif (m16 (b.ii v.toNat 0) 1 1000000) then false else true) then true else (bif (m16 (b.ii v.toNat 1) 0 30000) then false else true))
 (R (XE.ret) [V Z v, V Z 2] [.cells 41 [.str j, V Z l, .ro [W Z, W Z] d g, .ro [W Z, W Z, W Z] i b]])
 (cnd (bif (m16 (b.ii v.toNat 2) 0 (Z.wrap ((↑d : Int) - 1))) then false else true)
 (R (XE.ret) [V Z v, V Z 6] [.cells 41 [.str j, V Z l, .ro [W Z, W Z] d g, .ro [W Z, W Z, W Z] i b]])
 (cnd (decide ((1000000 : Int) < (Z.wrap (x + (b.ii v.toNat 0)))))
 (R (XE.ret) [V Z v, V Z 8] [.cells 41 [.str j, V Z l, .ro [W Z, W Z] d g, .ro [W Z, W Z, W Z] i b]])
 (R (XE.normal) [.ptr 0 0, V Z (Z.wrap (x + (b.ii v.toNat 0))), V Z (Z.wrap (v + 1))] [.cells 41 [.str j, V Z l, .ro [W Z, W Z] d g, .ro [W Z, W Z, W Z] i b]]))))
   False)
 (R (XE.exit 2) [.any, .any] [.cells 41 [.str j, V Z l, .ro [W Z, W Z] d g, .ro [W Z, W Z, W Z] i b]]))) (fun R => by kernel_rfl) ?_
    exact ch hG (fun h0 => cg h0 fun h1 => ch h1 (fun h2 => h2.2) (fun h2 => ch h2 (fun h3 => h3.2) (fun h3 => ch h3 (fun h4 => h4.2) (fun h4 => ⟨(_, _, _, _, _, _, _, _), rfl, rfl, h4⟩)))) (fun h0 => h0.2)
  · intro s k h
    unfold g25_2 at h
    split at h <;> try exact h.elim
    rename_i e1
    rw [needs_iff] at h
    exact ⟨_, e1, _, (_, _, _, _, _, _, _, _), rfl, rfl, h.1 _ (List.mem_singleton.2 rfl), h.2⟩
noncomputable def m25 (t : ByteArray) (u : Int) (m : Nat) (o : Dat) (n : Nat) (p : Dat) : Int × Int :=
  (cond (bif (m64 t) then false else true) (0, 4) (cond (bif (m16 u 400 1100) then false else true) (0, 2) (cond (decide ((↑m : Int) = 0)) (0, 10) (cond (decide (8 < (↑m : Int))) (0, 8) (cond ((o25_0 t u m o n p 0).getD default).1 (((o25_0 t u m o n p 0).getD default).2.1.1, ((o25_0 t u m o n p 0).getD default).2.1.2) (cond (decide ((60 : Int) < (↑n : Int))) (0, 8) (cond ((o25_2 t u m o n p 0 0).getD default).1 (((o25_2 t u m o n p 0 0).getD default).2.1.1, ((o25_2 t u m o n p 0 0).getD default).2.1.2) (0, 0))))))))
noncomputable def n25 (t : ByteArray) (u : Int) (m : Nat) (o : Dat) (n : Nat) (p : Dat) : Bool :=
  ((n64 t) && (cond (bif (m64 t) then false else true) true (cond (bif (m16 u 400 1100) then false else true) true (cond (decide ((↑m : Int) = 0)) true (cond (decide (8 < (↑m : Int))) true (((o25_0 t u m o n p 0).isSome) && (cond ((o25_0 t u m o n p 0).getD default).1 true (cond (decide ((60 : Int) < (↑n : Int))) true (((o25_2 t u m o n p 0 0).isSome) && true)))))))))
noncomputable def q25 (r : Int × Int) : SV × List Blk × List Blk := (.tup [V Z r.1, V Z r.2], [], [])
noncomputable def g25 : GF := fun vs bs => match vs, bs with
  | [.agg [.str t, V Z u, .ro [W Z, W Z] m o, .ro [W Z, W Z, W Z] n p]], [] => some (rs 0 (q25 (m25 t u m o n p)) [n25 t u m o n p])
  | _, _ => none
noncomputable def c25 : Ctr := genC [.a [.k, .k, .ro [W Z, W Z], .ro [W Z, W Z, W Z]]] g25
theorem k25 : CtrOk Tryd.prog c25 25 := cx (tc k16 (tc k64 (tc k65 tn))) mix_ok 8 (fn := Tryd.f25) (c := (Tryd.f25.body.getD .skip)) (grs := []) (rh := .k) Tryd.func25 rfl (by kernel_rfl) (lam_of rfl (lc z25_0 (lc z25_2 ln))) fun vs bs q h hn => by
  unfold g25 at h
  split at h <;> cases h
  rename_i t u m o n p
  have hn := n1 hn
  exact ⟨_, rfl, ca (fun R => (cnd (n64 t)
 (cnd (bif (m64 t) then false else true)
 (R (.tup [V Z 0, V Z 4]) [] [])
 (cnd (bif (m16 u 400 1100) then false else true)
 (R (.tup [V Z 0, V Z 2]) [] [])
 (cnd (decide ((↑m : Int) = 0))
 (R (.tup [V Z 0, V Z 10]) [] [])
 (cnd (decide (8 < (↑m : Int)))
 (R (.tup [V Z 0, V Z 8]) [] [])
 (cnd ((o25_0 t u m o n p 0).isSome)
 (cnd ((o25_0 t u m o n p 0).getD default).1
 (R (.tup [V Z ((o25_0 t u m o n p 0).getD default).2.1.1, V Z ((o25_0 t u m o n p 0).getD default).2.1.2]) [] [])
 (cnd (decide ((60 : Int) < (↑n : Int)))
 (R (.tup [V Z 0, V Z 8]) [] [])
 (cnd ((o25_2 t u m o n p 0 0).isSome)
 (cnd ((o25_2 t u m o n p 0 0).getD default).1
 (R (.tup [V Z ((o25_2 t u m o n p 0 0).getD default).2.1.1, V Z ((o25_2 t u m o n p 0 0).getD default).2.1.2]) [] [])
 (R (.tup [V Z 0, V Z 0]) [] []))
          False)))
       False)))))
  False)) (fun R => by kernel_rfl) (cn (al hn) (co (fun h0 => lf (cT h0 rfl) rfl) (fun h0 => co (fun h1 => lf (cF h0 (cT h1 rfl)) rfl) (fun h1 => co (fun h2 => lf (cF h0 (cF h1 (cT h2 rfl))) rfl) (fun h2 => co (fun h3 => lf (cF h0 (cF h1 (cF h2 (cT h3 rfl)))) rfl) (fun h3 => cn (al (cf h3 (cf h2 (cf h1 (cf h0 (ar hn)))))) (co (fun h4 => lf (cF h0 (cF h1 (cF h2 (cF h3 (cT h4 rfl))))) rfl) (fun h4 => co (fun h5 => lf (cF h0 (cF h1 (cF h2 (cF h3 (cF h4 (cT h5 rfl)))))) rfl) (fun h5 => cn (al (cf h5 (cf h4 (ar (cf h3 (cf h2 (cf h1 (cf h0 (ar hn))))))))) (co (fun h6 => lf (cF h0 (cF h1 (cF h2 (cF h3 (cF h4 (cF h5 (cT h6 rfl))))))) rfl) (fun h6 => lf (cF h0 (cF h1 (cF h2 (cF h3 (cF h4 (cF h5 (cF h6 rfl))))))) rfl)))))))))))⟩
/-! ### (shotline/profile.ratio).same -/
noncomputable def m77 (a b d e : Int) : Bool :=
  (decide ((Z.wrap (a * e)) = (Z.wrap (d * b))))
noncomputable def q77 (r : Bool) : SV × List Blk × List Blk := (.bool r, [], [])
noncomputable def g77 : GF := fun vs bs => match vs, bs with
  | [.agg [V Z a, V Z b], .agg [V Z d, V Z e]], [] => some (rs 0 (q77 (m77 a b d e)) [])
  | _, _ => none
noncomputable def c77 : Ctr := genC [.k, .k] g77
theorem k77 : CtrOk Tryd.prog c77 77 := cx tn mix_ok 8 (fn := Tryd.f77) (c := (Tryd.f77.body.getD .skip)) (grs := []) (rh := .k) Tryd.func77 rfl (by kernel_rfl) noLam fun vs bs q h hn => by
  unfold g77 at h
  split at h <;> cases h
  rename_i a b d e
  exact ⟨_, rfl, ca (fun R => (R (.bool (decide ((Z.wrap (a * e)) = (Z.wrap (d * b))))) [] [])) (fun R => by kernel_rfl) (lf rfl rfl)⟩
/-! ### slices.Equal[[]shotline/api.Gas,shotline/api.Gas] -/
noncomputable def l75_0 (g : Nat) (b : Dat) (i : Nat) (d : Dat) (l : Int) : Nat → Int → Option (Bool × (Bool) × (Unit))
  | 0, _ => none
  | f + 1, a => (cond (decide (a < l)) (cond (decide (0 ≤ a ∧ a < ↑g)) (cond (decide (0 ≤ a ∧ a < ↑i)) (cond (bif (bif (decide ((b.ii a.toNat 0) = (d.ii a.toNat 0))) then (bif (decide ((b.ii a.toNat 1) = (d.ii a.toNat 1))) then true else false) else false) then false else true) (some (true, false, default)) (l75_0 g b i d l f (Z.wrap (a + 1)))) none) none) (some (false, default, ())))
noncomputable abbrev o75_0 (g : Nat) (b : Dat) (i : Nat) (d : Dat) (l a : Int) : Option (Bool × (Bool) × (Unit)) := l75_0 g b i d l (g + i + l.toNat + a.toNat + 8) a
noncomputable def e75_0 (g : Nat) (b : Dat) (i : Nat) (d : Dat) (l : Int) (r : Bool × (Bool) × (Unit)) (K : XR) : Prop := cnd r.1 (K (XE.ret) [.bool r.2.1] []) (K (XE.exit 0) [.any] [])
noncomputable def g75_0 : LSum := fun s k => match czv 0 26 [0, 1, 12, 13] 0 [] s with
  | some ([.ro [W Z, W Z] g b, .ro [W Z, W Z] i d, V Z l, V Z a], []) => needs [(o75_0 g b i d l a).isSome] (e75_0 g b i d l ((o75_0 g b i d l a).getD default) fun e vs bs => inBlk 0 k e (mkSt 0 26 [4] vs 0 bs))
  | _ => False
theorem z75_0 : LOk Tryd.prog g75_0 (.block 0 (bodyAt (Tryd.f75.body.getD .skip) 0)) := by
  refine lb (ι := Nat × Dat × Nat × Dat × Int × Int) (fuel := 8) (na := 0) (nt := 26) (nx := 0) (Lh := [0, 1, 12, 13]) (Le := [4]) (gl := []) tn mix_ok noLam rfl (fun f (g, b, i, d, l, a) K => GG default (e75_0 g b i d l) K (l75_0 g b i d l f a)) (fun (g, b, i, d, l, a) => [.ro [W Z, W Z] g b, .ro [W Z, W Z] i d, V Z l, V Z a]) (fun (g, b, i, d, l, a) => []) (fun (_, _, _, _, _, _) K => gg_none) ?_ ?_
  · rintro f ⟨g, b, i, d, l, a⟩ K hG
    refine ro (fun R => (cnd (decide (a < l))
 (cnd (decide (0 ≤ a ∧ a < ↑g))
 (cnd (decide (0 ≤ a ∧ a < ↑i))
 (cnd (bif (bif (decide ((b.ii a.toNat 0) = (d.ii a.toNat 0))) then (bif (decide ((b.ii a.toNat 1) = (d.ii a.toNat 1))) then true else false) else false) then false else true)
 (R (XE.ret) [.bool false] [])
 (R (XE.normal) [.ro [W Z, W Z] g b, .ro [W Z, W Z] i d, V Z l, V Z (Z.wrap (a + 1))] []))
    False)
   False)
 (R (XE.exit 0) [.any] []))) (fun R => by kernel_rfl) ?_
    exact ch hG (fun h0 => cg h0 fun h1 => cg h1 fun h2 => ch h2 (fun h3 => h3.2) (fun h3 => ⟨(_, _, _, _, _, _), rfl, rfl, h3⟩)) (fun h0 => h0.2)
  · intro s k h
    unfold g75_0 at h
    split at h <;> try exact h.elim
    rename_i e1
    rw [needs_iff] at h
    exact ⟨_, e1, _, (_, _, _, _, _, _), rfl, rfl, h.1 _ (List.mem_singleton.2 rfl), h.2⟩
noncomputable def m75 (j : Nat) (n : Dat) (m : Nat) (o : Dat) : Bool :=
  (cond (bif (decide ((↑j : Int) = (↑m : Int))) then false else true) false (cond ((o75_0 j n m o (↑j : Int) 0).getD default).1 ((o75_0 j n m o (↑j : Int) 0).getD default).2.1 true))
noncomputable def n75 (j : Nat) (n : Dat) (m : Nat) (o : Dat) : Bool :=
  (cond (bif (decide ((↑j : Int) = (↑m : Int))) then false else true) true (((o75_0 j n m o (↑j : Int) 0).isSome) && true))
noncomputable def q75 (r : Bool) : SV × List Blk × List Blk := (.bool r, [], [])
noncomputable def g75 : GF := fun vs bs => match vs, bs with
  | [.ro [W Z, W Z] j n, .ro [W Z, W Z] m o], [] => some (rs 0 (q75 (m75 j n m o)) [n75 j n m o])
  | _, _ => none
noncomputable def c75 : Ctr := genC [.ro [W Z, W Z], .ro [W Z, W Z]] g75
theorem k75 : CtrOk Tryd.prog c75 75 := cx tn mix_ok 8 (fn := Tryd.f75) (c := (Tryd.f75.body.getD .skip)) (grs := []) (rh := .k) Tryd.func75 rfl (by kernel_rfl) (lam_of rfl (lc z75_0 ln)) fun vs bs q h hn => by
  unfold g75 at h
  split at h <;> cases h
  rename_i j n m o
  have hn := n1 hn
  exact ⟨_, rfl, ca (fun R => (cnd (bif (decide ((↑j : Int) = (↑m : Int))) then false else true)
 (R (.bool false) [] [])
 (cnd ((o75_0 j n m o (↑j : Int) 0).isSome)
 (cnd ((o75_0 j n m o (↑j : Int) 0).getD default).1
 (R (.bool ((o75_0 j n m o (↑j : Int) 0).getD default).2.1) [] [])
 (R (.bool true) [] []))
   False))) (fun R => by kernel_rfl) (co (fun h0 => lf (cT h0 rfl) rfl) (fun h0 => cn (al (cf h0 hn)) (co (fun h1 => lf (cF h0 (cT h1 rfl)) rfl) (fun h1 => lf (cF h0 (cF h1 rfl)) rfl))))⟩
/-! ### slices.Equal[[]shotline/api.DiveLeg,shotline/api.DiveLeg] -/
noncomputable def l76_0 (g : Nat) (b : Dat) (i : Nat) (d : Dat) (l : Int) : Nat → Int → Option (Bool × (Bool) × (Unit))
  | 0, _ => none
  | f + 1, a => (cond (decide (a < l)) (cond (decide (0 ≤ a ∧ a < ↑g)) (cond (decide (0 ≤ a ∧ a < ↑i)) (cond (bif (bif (decide ((b.ii a.toNat 0) = (d.ii a.toNat 0))) then (bif (decide ((b.ii a.toNat 1) = (d.ii a.toNat 1))) then (bif (decide ((b.ii a.toNat 2) = (d.ii a.toNat 2))) then true else false) else false) else false) then false else true) (some (true, false, default)) (l76_0 g b i d l f (Z.wrap (a + 1)))) none) none) (some (false, default, ())))
noncomputable abbrev o76_0 (g : Nat) (b : Dat) (i : Nat) (d : Dat) (l a : Int) : Option (Bool × (Bool) × (Unit)) := l76_0 g b i d l (g + i + l.toNat + a.toNat + 8) a
noncomputable def e76_0 (g : Nat) (b : Dat) (i : Nat) (d : Dat) (l : Int) (r : Bool × (Bool) × (Unit)) (K : XR) : Prop := cnd r.1 (K (XE.ret) [.bool r.2.1] []) (K (XE.exit 0) [.any] [])
noncomputable def g76_0 : LSum := fun s k => match czv 0 26 [0, 1, 12, 13] 0 [] s with
  | some ([.ro [W Z, W Z, W Z] g b, .ro [W Z, W Z, W Z] i d, V Z l, V Z a], []) => needs [(o76_0 g b i d l a).isSome] (e76_0 g b i d l ((o76_0 g b i d l a).getD default) fun e vs bs => inBlk 0 k e (mkSt 0 26 [4] vs 0 bs))
  | _ => False
theorem z76_0 : LOk Tryd.prog g76_0 (.block 0 (bodyAt (Tryd.f76.body.getD .skip) 0)) := by
  refine lb (ι := Nat × Dat × Nat × Dat × Int × Int) (fuel := 8) (na := 0) (nt := 26) (nx := 0) (Lh := [0, 1, 12, 13]) (Le := [4]) (gl := []) tn mix_ok noLam rfl (fun f (g, b, i, d, l, a) K => GG default (e76_0 g b i d l) K (l76_0 g b i d l f a)) (fun (g, b, i, d, l, a) => [.ro [W Z, W Z, W Z] g b, .ro [W Z, W Z, W Z] i d, V Z l, V Z a]) (fun (g, b, i, d, l, a) => []) (fun (_, _, _, _, _, _) K => gg_none) ?_ ?_
  · rintro f ⟨g, b, i, d, l, a⟩ K hG
    refine ro (fun R => (cnd (decide (a < l))
 (cnd (decide (0 ≤ a ∧ a < ↑g))
 (cnd (decide (0 ≤ a ∧ a < ↑i))
 (cnd (bif (bif (decide ((b.ii a.toNat 0) = (d.ii a.toNat 0))) then (bif (decide ((b.ii a.toNat 1) = (d.ii a.toNat 1))) then (bif (decide ((b.ii a.toNat 2) = (d.ii a.toNat 2))) then true else false) else false) else false) then false else true)
 (R (XE.ret) [.bool false] [])
 (R (XE.normal) [.ro [W Z, W Z, W Z] g b, .ro [W Z, W Z, W Z] i d, V Z l, V Z (Z.wrap (a + 1))] []))
    False)
   False)
 (R (XE.exit 0) [.any] []))) (fun R => by kernel_rfl) ?_
    exact ch hG (fun h0 => cg h0 fun h1 => cg h1 fun h2 => ch h2 (fun h3 => h3.2) (fun h3 => ⟨(_, _, _, _, _, _), rfl, rfl, h3⟩)) (fun h0 => h0.2)
  · intro s k h
    unfold g76_0 at h
    split at h <;> try exact h.elim
    rename_i e1
    rw [needs_iff] at h
    exact ⟨_, e1, _, (_, _, _, _, _, _), rfl, rfl, h.1 _ (List.mem_singleton.2 rfl), h.2⟩
noncomputable def m76 (j : Nat) (n : Dat) (m : Nat) (o : Dat) : Bool :=
  (cond (bif (decide ((↑j : Int) = (↑m : Int))) then false else true) false (cond ((o76_0 j n m o (↑j : Int) 0).getD default).1 ((o76_0 j n m o (↑j : Int) 0).getD default).2.1 true))
noncomputable def n76 (j : Nat) (n : Dat) (m : Nat) (o : Dat) : Bool :=
  (cond (bif (decide ((↑j : Int) = (↑m : Int))) then false else true) true (((o76_0 j n m o (↑j : Int) 0).isSome) && true))
noncomputable def q76 (r : Bool) : SV × List Blk × List Blk := (.bool r, [], [])
noncomputable def g76 : GF := fun vs bs => match vs, bs with
  | [.ro [W Z, W Z, W Z] j n, .ro [W Z, W Z, W Z] m o], [] => some (rs 0 (q76 (m76 j n m o)) [n76 j n m o])
  | _, _ => none
noncomputable def c76 : Ctr := genC [.ro [W Z, W Z, W Z], .ro [W Z, W Z, W Z]] g76
theorem k76 : CtrOk Tryd.prog c76 76 := cx tn mix_ok 8 (fn := Tryd.f76) (c := (Tryd.f76.body.getD .skip)) (grs := []) (rh := .k) Tryd.func76 rfl (by kernel_rfl) (lam_of rfl (lc z76_0 ln)) fun vs bs q h hn => by
  unfold g76 at h
  split at h <;> cases h
  rename_i j n m o
  have hn := n1 hn
  exact ⟨_, rfl, ca (fun R => (cnd (bif (decide ((↑j : Int) = (↑m : Int))) then false else true)
 (R (.bool false) [] [])
 (cnd ((o76_0 j n m o (↑j : Int) 0).isSome)
 (cnd ((o76_0 j n m o (↑j : Int) 0).getD default).1
 (R (.bool ((o76_0 j n m o (↑j : Int) 0).getD default).2.1) [] [])
 (R (.bool true) [] []))
   False))) (fun R => by kernel_rfl) (co (fun h0 => lf (cT h0 rfl) rfl) (fun h0 => cn (al (cf h0 hn)) (co (fun h1 => lf (cF h0 (cT h1 rfl)) rfl) (fun h1 => lf (cF h0 (cF h1 rfl)) rfl))))⟩
/-! ### slices.Index[[]shotline/api.Gas,shotline/api.Gas] -/
noncomputable def l98_0 (g : Nat) (d : Dat) (n a b : Int) : Nat → Int → Option (Bool × (Int) × (Unit))
  | 0, _ => none
  | f + 1, i => (cond (decide (i < n)) (cond (decide (0 ≤ i ∧ i < ↑g)) (cond (bif (decide (a = (d.ii i.toNat 0))) then (bif (decide (b = (d.ii i.toNat 1))) then true else false) else false) (some (true, i, default)) (l98_0 g d n a b f (Z.wrap (i + 1)))) none) (some (false, default, ())))
noncomputable abbrev o98_0 (g : Nat) (d : Dat) (n a b i : Int) : Option (Bool × (Int) × (Unit)) := l98_0 g d n a b (g + n.toNat + i.toNat + a.toNat + b.toNat + 8) i
noncomputable def e98_0 (g : Nat) (d : Dat) (n a b : Int) (r : Bool × (Int) × (Unit)) (K : XR) : Prop := cnd r.1 (K (XE.ret) [V Z r.2.1] [.cells 97 [V Z a, V Z b]]) (K (XE.exit 0) [.any] [.cells 97 [V Z a, V Z b]])
noncomputable def g98_0 : LSum := fun s k => match czv 0 19 [0, 3, 7, 8] 1 [] s with
  | some ([.ro [W Z, W Z] g d, .ptr 0 0, V Z n, V Z i], [.cells 97 [V Z a, V Z b]]) => needs [(o98_0 g d n a b i).isSome] (e98_0 g d n a b ((o98_0 g d n a b i).getD default) fun e vs bs => inBlk 0 k e (mkSt 0 19 [4] vs 1 bs))
  | _ => False
theorem z98_0 : LOk Tryd.prog g98_0 (.block 0 (bodyAt (Tryd.f98.body.getD .skip) 0)) := by
  refine lb (ι := Nat × Dat × Int × Int × Int × Int) (fuel := 8) (na := 0) (nt := 19) (nx := 1) (Lh := [0, 3, 7, 8]) (Le := [4]) (gl := []) tn mix_ok noLam rfl (fun f (g, d, n, i, a, b) K => GG default (e98_0 g d n a b) K (l98_0 g d n a b f i)) (fun (g, d, n, i, a, b) => [.ro [W Z, W Z] g d, .ptr 0 0, V Z n, V Z i]) (fun (g, d, n, i, a, b) => [.cells 97 [V Z a, V Z b]]) (fun (_, _, _, _, _, _) K => gg_none) ?_ ?_
  · rintro f ⟨g, d, n, i, a, b⟩ K hG
    refine ro (fun R => (cnd (decide (i < n))
 (cnd (decide (0 ≤ i ∧ i < ↑g))
 (cnd (bif (decide (a = (d.ii i.toNat 0))) then (bif (decide (b = (d.ii i.toNat 1))) then true else false) else false)
 (R (XE.ret) [V Z i] [.cells 97 [V Z a, V Z b]])
 (R (XE.normal) [.ro [W Z, W Z] g d, .ptr 0 0, V Z n, V Z (Z.wrap (i + 1))] [.cells 97 [V Z a, V Z b]]))
   False)
 (R (XE.exit 0) [.any] [.cells 97 [V Z a, V Z b]]))) (fun R => by kernel_rfl) ?_
    exact ch hG (fun h0 => cg h0 fun h1 => ch h1 (fun h2 => h2.2) (fun h2 => ⟨(_, _, _, _, _, _), rfl, rfl, h2⟩)) (fun h0 => h0.2)
  · intro s k h
    unfold g98_0 at h
    split at h <;> try exact h.elim
    rename_i e1
    rw [needs_iff] at h
    exact ⟨_, e1, _, (_, _, _, _, _, _), rfl, rfl, h.1 _ (List.mem_singleton.2 rfl), h.2⟩
noncomputable def m98 (j : Nat) (o : Dat) (l m : Int) : Int :=
  (cond ((o98_0 j o (↑j : Int) l m 0).getD default).1 ((o98_0 j o (↑j : Int) l m 0).getD default).2.1 (-1))
noncomputable def n98 (j : Nat) (o : Dat) (l m : Int) : Bool :=
  (((o98_0 j o (↑j : Int) l m 0).isSome) && true)
noncomputable def q98 (r : Int) : SV × List Blk × List Blk := (V Z r, [], [])
noncomputable def g98 : GF := fun vs bs => match vs, bs with
  | [.ro [W Z, W Z] j o, .agg [V Z l, V Z m]], [] => some (rs 0 (q98 (m98 j o l m)) [n98 j o l m])
  | _, _ => none
noncomputable def c98 : Ctr := genC [.ro [W Z, W Z], .k] g98
theorem k98 : CtrOk Tryd.prog c98 98 := cx tn mix_ok 8 (fn := Tryd.f98) (c := (Tryd.f98.body.getD .skip)) (grs := []) (rh := .k) Tryd.func98 rfl (by kernel_rfl) (lam_of rfl (lc z98_0 ln)) fun vs bs q h hn => by
  unfold g98 at h
  split at h <;> cases h
  rename_i j o l m
  have hn := n1 hn
  exact ⟨_, rfl, ca (fun R => (cnd ((o98_0 j o (↑j : Int) l m 0).isSome)
 (cnd ((o98_0 j o (↑j : Int) l m 0).getD default).1
 (R (V Z ((o98_0 j o (↑j : Int) l m 0).getD default).2.1) [] [])
 (R (V Z (-1)) [] []))
  False)) (fun R => by kernel_rfl) (cn (al hn) (co (fun h0 => lf (cT h0 rfl) rfl) (fun h0 => lf (cF h0 rfl) rfl)))⟩
/-! ### shotline/shotlinebase.Plans -/
noncomputable def l38_0 (o : ByteArray) (p : Int) (b : Nat) (j : Dat) (d : Nat) (g : Dat) (t : ByteArray) (u : Int) (l : Nat) (m : Dat) (n : Nat) (i : Dat) : Nat → Int → Option (Bool × (Bool) × (Unit))
  | 0, _ => none
  | f + 1, J => (cond (decide (J < (↑b : Int))) (cond (decide (0 ≤ J ∧ J < ↑b)) (cond (decide (0 ≤ J ∧ J < ↑l)) (cond (bif (bif (decide ((j.ii J.toNat 0) = (m.ii J.toNat 0))) then (bif (decide ((j.ii J.toNat 1) = (m.ii J.toNat 1))) then true else false) else false) then false else true) (some (true, false, default)) (l38_0 o p b j d g t u l m n i f (Z.wrap (J + 1)))) none) none) (some (false, default, ())))
noncomputable abbrev o38_0 (o : ByteArray) (p : Int) (b : Nat) (j : Dat) (d : Nat) (g : Dat) (t : ByteArray) (u : Int) (l : Nat) (m : Dat) (n : Nat) (i : Dat) (J : Int) : Option (Bool × (Bool) × (Unit)) := l38_0 o p b j d g t u l m n i (J.toNat + o.size + p.toNat + b + d + t.size + u.toNat + l + n + 8) J
noncomputable def e38_0 (o : ByteArray) (p : Int) (b : Nat) (j : Dat) (d : Nat) (g : Dat) (t : ByteArray) (u : Int) (l : Nat) (m : Dat) (n : Nat) (i : Dat) (r : Bool × (Bool) × (Unit)) (K : XR) : Prop := cnd r.1 (K (XE.ret) [.ptr 0 0, .ptr 1 0, .bool r.2.1] [.cells 41 [.str o, V Z p, .ro [W Z, W Z] b j, .ro [W Z, W Z, W Z] d g], .cells 41 [.str t, V Z u, .ro [W Z, W Z] l m, .ro [W Z, W Z, W Z] n i]]) (K (XE.exit 0) [.ptr 0 0, .ptr 1 0, .any] [.cells 41 [.str o, V Z p, .ro [W Z, W Z] b j, .ro [W Z, W Z, W Z] d g], .cells 41 [.str t, V Z u, .ro [W Z, W Z] l m, .ro [W Z, W Z, W Z] n i]])
noncomputable def g38_0 : LSum := fun s k => match czv 0 73 [2, 3, 5] 2 [] s with
  | some ([.ptr 0 0, .ptr 1 0, V Z J], [.cells 41 [.str o, V Z p, .ro [W Z, W Z] b j, .ro [W Z, W Z, W Z] d g], .cells 41 [.str t, V Z u, .ro [W Z, W Z] l m, .ro [W Z, W Z, W Z] n i]]) => needs [(o38_0 o p b j d g t u l m n i J).isSome] (e38_0 o p b j d g t u l m n i ((o38_0 o p b j d g t u l m n i J).getD default) fun e vs bs => inBlk 0 k e (mkSt 0 73 [2, 3, 4] vs 2 bs))
  | _ => False
theorem z38_0 : LOk Tryd.prog g38_0 (.block 0 (bodyAt (Tryd.f38.body.getD .skip) 0)) := by
  refine lb (ι := Int × ByteArray × Int × Nat × Dat × Nat × Dat × ByteArray × Int × Nat × Dat × Nat × Dat) (fuel := 8) (na := 0) (nt := 73) (nx := 2) (Lh := [2, 3, 5]) (Le := [2, 3, 4]) (gl := []) tn mix_ok noLam rfl (fun f (J, o, p, b, j, d, g, t, u, l, m, n, i) K => GG default (e38_0 o p b j d g t u l m n i) K (l38_0 o p b j d g t u l m n i f J)) (fun (J, o, p, b, j, d, g, t, u, l, m, n, i) => [.ptr 0 0, .ptr 1 0, V Z J]) (fun (J, o, p, b, j, d, g, t, u, l, m, n, i) => [.cells 41 [.str o, V Z p, .ro [W Z, W Z] b j, .ro [W Z, W Z, W Z] d g], .cells 41 [.str t, V Z u, .ro [W Z, W Z] l m, .ro [W Z, W Z, W Z] n i]]) (fun (_, _, _, _, _, _, _, _, _, _, _, _, _) K => gg_none) ?_ ?_
  · rintro f ⟨J, o, p, b, j, d, g, t, u, l, m, n, i⟩ K hG
    refine ro (fun R => (cnd (decide (J < (↑b : Int)))
 (cnd (decide (0 ≤ J ∧ J < ↑b))
 (cnd (decide (0 ≤ J ∧ J < ↑l))
 (cnd (bif (bif (decide ((j.ii J.toNat 0) = (m.ii J.toNat 0))) then (bif (decide ((j.ii J.toNat 1) = (m.ii J.toNat 1))) then true else false) else false) then false else true)
 (R (XE.ret) [.ptr 0 0, .ptr 1 0, .bool false] [.cells 41 [.str o, V Z p, .ro [W Z, W Z] b j, .ro [W Z, W Z, W Z] d g], .cells 41 [.str t, V Z u, .ro [W Z, W Z] l m, .ro [W Z, W Z, W Z] n i]])
 (R (XE.normal) [.ptr 0 0, .ptr 1 0, V Z (Z.wrap (J + 1))] [.cells 41 [.str o, V Z p, .ro [W Z, W Z] b j, .ro [W Z, W Z, W Z] d g], .cells 41 [.str t, V Z u, .ro [W Z, W Z] l m, .ro [W Z, W Z, W Z] n i]]))
    False)
   False)
 (R (XE.exit 0) [.ptr 0 0, .ptr 1 0, .any] [.cells 41 [.str o, V Z p, .ro [W Z, W Z] b j, .ro [W Z, W Z, W Z] d g], .cells 41 [.str t, V Z u, .ro [W Z, W Z] l m, .ro [W Z, W Z, W Z] n i]]))) (fun R => by kernel_rfl) ?_
    exact ch hG (fun h0 => cg h0 fun h1 => cg h1 fun h2 => ch h2 (fun h3 => h3.2) (fun h3 => ⟨(_, _, _, _, _, _, _, _, _, _, _, _, _), rfl, rfl, h3⟩)) (fun h0 => h0.2)
  · intro s k h
    unfold g38_0 at h
    split at h <;> try exact h.elim
    rename_i e1
    rw [needs_iff] at h
    exact ⟨_, e1, _, (_, _, _, _, _, _, _, _, _, _, _, _, _), rfl, rfl, h.1 _ (List.mem_singleton.2 rfl), h.2⟩
noncomputable def l38_2 (o : ByteArray) (p : Int) (b : Nat) (j : Dat) (d : Nat) (g : Dat) (t : ByteArray) (u : Int) (l : Nat) (m : Dat) (n : Nat) (i : Dat) : Nat → Int → Option (Bool × (Bool) × (Unit))
  | 0, _ => none
  | f + 1, I => (cond (decide (I < (↑d : Int))) (cond (decide (0 ≤ I ∧ I < ↑d)) (cond (decide (0 ≤ I ∧ I < ↑n)) (cond (bif (bif (decide ((g.ii I.toNat 0) = (i.ii I.toNat 0))) then (bif (decide ((g.ii I.toNat 1) = (i.ii I.toNat 1))) then (bif (decide ((g.ii I.toNat 2) = (i.ii I.toNat 2))) then true else false) else false) else false) then false else true) (some (true, false, default)) (l38_2 o p b j d g t u l m n i f (Z.wrap (I + 1)))) none) none) (some (false, default, ())))
noncomputable abbrev o38_2 (o : ByteArray) (p : Int) (b : Nat) (j : Dat) (d : Nat) (g : Dat) (t : ByteArray) (u : Int) (l : Nat) (m : Dat) (n : Nat) (i : Dat) (I : Int) : Option (Bool × (Bool) × (Unit)) := l38_2 o p b j d g t u l m n i (I.toNat + o.size + p.toNat + b + d + t.size + u.toNat + l + n + 8) I
noncomputable def e38_2 (o : ByteArray) (p : Int) (b : Nat) (j : Dat) (d : Nat) (g : Dat) (t : ByteArray) (u : Int) (l : Nat) (m : Dat) (n : Nat) (i : Dat) (r : Bool × (Bool) × (Unit)) (K : XR) : Prop := cnd r.1 (K (XE.ret) [.bool r.2.1] [.cells 41 [.str o, V Z p, .ro [W Z, W Z] b j, .ro [W Z, W Z, W Z] d g], .cells 41 [.str t, V Z u, .ro [W Z, W Z] l m, .ro [W Z, W Z, W Z] n i]]) (K (XE.exit 2) [.any] [.cells 41 [.str o, V Z p, .ro [W Z, W Z] b j, .ro [W Z, W Z, W Z] d g], .cells 41 [.str t, V Z u, .ro [W Z, W Z] l m, .ro [W Z, W Z, W Z] n i]])
noncomputable def g38_2 : LSum := fun s k => match czv 0 73 [2, 3, 6] 2 [] s with
  | some ([.ptr 0 0, .ptr 1 0, V Z I], [.cells 41 [.str o, V Z p, .ro [W Z, W Z] b j, .ro [W Z, W Z, W Z] d g], .cells 41 [.str t, V Z u, .ro [W Z, W Z] l m, .ro [W Z, W Z, W Z] n i]]) => needs [(o38_2 o p b j d g t u l m n i I).isSome] (e38_2 o p b j d g t u l m n i ((o38_2 o p b j d g t u l m n i I).getD default) fun e vs bs => inBlk 2 k e (mkSt 0 73 [4] vs 2 bs))
  | _ => False
theorem z38_2 : LOk Tryd.prog g38_2 (.block 2 (bodyAt (Tryd.f38.body.getD .skip) 2)) := by
  refine lb (ι := Int × ByteArray × Int × Nat × Dat × Nat × Dat × ByteArray × Int × Nat × Dat × Nat × Dat) (fuel := 8) (na := 0) (nt := 73) (nx := 2) (Lh := [2, 3, 6]) (Le := [4]) (gl := []) tn mix_ok (lam_of rfl (lc z38_0 ln)) rfl (fun f (I, o, p, b, j, d, g, t, u, l, m, n, i) K => GG default (e38_2 o p b j d g t u l m n i) K (l38_2 o p b j d g t u l m n i f I)) (fun (I, o, p, b, j, d, g, t, u, l, m, n, i) => [.ptr 0 0, .ptr 1 0, V Z I]) (fun (I, o, p, b, j, d, g, t, u, l, m, n, i) => [.cells 41 [.str o, V Z p, .ro [W Z, W Z] b j, .ro [W Z, W Z, W Z] d g], .cells 41 [.str t, V Z u, .ro [W Z, W Z] l m, .ro [W Z, W Z, W Z] n i]]) (fun (_, _, _, _, _, _, _, _, _, _, _, _, _) K => gg_none) ?_ ?_
  · rintro f ⟨I, o, p, b, j, d, g, t, u, l, m, n, i⟩ K hG
    refine ro (fun R => (cnd (decide (I < (↑d : Int)))
 (cnd (decide (0 ≤ I ∧ I < ↑d))
 (cnd (decide (0 ≤ I ∧ I < ↑n))
 (cnd (bif (bif (decide ((g.ii I.toNat 0) = (i.ii I.toNat 0))) then (bif (decide ((g.ii I.toNat 1) = (i.ii I.toNat 1))) then (bif (decide ((g.ii I.toNat 2) = (i.ii I.toNat 2))) then true else false) else false) else false) then false else true)
 (R (XE.ret) [.bool false] [.cells 41 [.str o, V Z p, .ro [W Z, W Z] b j, .ro [W Z, W Z, W Z] d g], .cells 41 [.str t, V Z u, .ro [W Z, W Z] l m, .ro [W Z, W Z, W Z] n i]])
 (R (XE.normal) [.ptr 0 0, .ptr 1 0, V Z (Z.wrap (I + 1))] [.cells 41 [.str o, V Z p, .ro [W Z, W Z] b j, .ro [W Z, W Z, W Z] d g], .cells 41 [.str t, V Z u, .ro [W Z, W Z] l m, .ro [W Z, W Z, W Z] n i]]))
    False)
   False)
 (R (XE.exit 2) [.any] [.cells 41 [.str o, V Z p, .ro [W Z, W Z] b j, .ro [W Z, W Z, W Z] d g], .cells 41 [.str t, V Z u, .ro [W Z, W Z] l m, .ro [W Z, W Z, W Z] n i]]))) (fun R => by kernel_rfl) ?_
    exact ch hG (fun h0 => cg h0 fun h1 => cg h1 fun h2 => ch h2 (fun h3 => h3.2) (fun h3 => ⟨(_, _, _, _, _, _, _, _, _, _, _, _, _), rfl, rfl, h3⟩)) (fun h0 => h0.2)
  · intro s k h
    unfold g38_2 at h
    split at h <;> try exact h.elim
    rename_i e1
    rw [needs_iff] at h
    exact ⟨_, e1, _, (_, _, _, _, _, _, _, _, _, _, _, _, _), rfl, rfl, h.1 _ (List.mem_singleton.2 rfl), h.2⟩
noncomputable def m38 (E : ByteArray) (F : Int) (v : Nat) (z : Dat) (w : Nat) (A : Dat) (G : ByteArray) (H : Int) (x : Nat) (C : Dat) (y : Nat) (D : Dat) : Bool :=
  (cond (bif (bif (bif (bif (decide (E = G)) then false else true) then true else (bif (decide (F = H)) then false else true)) then true else (bif (decide ((↑v : Int) = (↑x : Int))) then false else true)) then true else (bif (decide ((↑w : Int) = (↑y : Int))) then false else true)) false (cond ((o38_0 E F v z w A G H x C y D 0).getD default).1 ((o38_0 E F v z w A G H x C y D 0).getD default).2.1 (cond ((o38_2 E F v z w A G H x C y D 0).getD default).1 ((o38_2 E F v z w A G H x C y D 0).getD default).2.1 true)))
noncomputable def n38 (E : ByteArray) (F : Int) (v : Nat) (z : Dat) (w : Nat) (A : Dat) (G : ByteArray) (H : Int) (x : Nat) (C : Dat) (y : Nat) (D : Dat) : Bool :=
  (cond (bif (bif (bif (bif (decide (E = G)) then false else true) then true else (bif (decide (F = H)) then false else true)) then true else (bif (decide ((↑v : Int) = (↑x : Int))) then false else true)) then true else (bif (decide ((↑w : Int) = (↑y : Int))) then false else true)) true (((o38_0 E F v z w A G H x C y D 0).isSome) && (cond ((o38_0 E F v z w A G H x C y D 0).getD default).1 true (((o38_2 E F v z w A G H x C y D 0).isSome) && true))))
noncomputable def q38 (r : Bool) : SV × List Blk × List Blk := (.bool r, [], [])
noncomputable def g38 : GF := fun vs bs => match vs, bs with
  | [.agg [.str E, V Z F, .ro [W Z, W Z] v z, .ro [W Z, W Z, W Z] w A], .agg [.str G, V Z H, .ro [W Z, W Z] x C, .ro [W Z, W Z, W Z] y D]], [] => some (rs 0 (q38 (m38 E F v z w A G H x C y D)) [n38 E F v z w A G H x C y D])
  | _, _ => none
noncomputable def c38 : Ctr := genC [.a [.k, .k, .ro [W Z, W Z], .ro [W Z, W Z, W Z]], .a [.k, .k, .ro [W Z, W Z], .ro [W Z, W Z, W Z]]] g38
theorem k38 : CtrOk Tryd.prog c38 38 := cx tn mix_ok 8 (fn := Tryd.f38) (c := (Tryd.f38.body.getD .skip)) (grs := []) (rh := .k) Tryd.func38 rfl (by kernel_rfl) (lam_of rfl (lc z38_0 (lc z38_2 ln))) fun vs bs q h hn => by
  unfold g38 at h
  split at h <;> cases h
  rename_i E F v z w A G H x C y D
  have hn := n1 hn
  exact ⟨_, rfl, ca (fun R => (cnd (bif (bif (bif (bif (decide (E = G)) then false else true) then true else (bif (decide (F = H)) then false else true)) then true else (bif (decide ((↑v : Int) = (↑x : Int))) then false else true)) then true else (bif (decide ((↑w : Int) = (↑y : Int))) then false else true))
 (R (.bool false) [] [])
 (cnd ((o38_0 E F v z w A G H x C y D 0).isSome)
 (cnd ((o38_0 E F v z w A G H x C y D 0).getD default).1
 (R (.bool ((o38_0 E F v z w A G H x C y D 0).getD default).2.1) [] [])
 (cnd ((o38_2 E F v z w A G H x C y D 0).isSome)
 (cnd ((o38_2 E F v z w A G H x C y D 0).getD default).1
 (R (.bool ((o38_2 E F v z w A G H x C y D 0).getD default).2.1) [] [])
 (R (.bool true) [] []))
     False))
   False))) (fun R => by kernel_rfl) (co (fun h0 => lf (cT h0 rfl) rfl) (fun h0 => cn (al (cf h0 hn)) (co (fun h1 => lf (cF h0 (cT h1 rfl)) rfl) (fun h1 => cn (al (cf h1 (ar (cf h0 hn)))) (co (fun h2 => lf (cF h0 (cF h1 (cT h2 rfl))) rfl) (fun h2 => lf (cF h0 (cF h1 (cF h2 rfl))) rfl))))))⟩
/-! ### shotline/profile.straight -/
noncomputable def m99 (d e a b g i : Int) : Bool :=
  (decide ((Z.wrap ((Z.wrap (b - e)) * (Z.wrap (g - a)))) = (Z.wrap ((Z.wrap (i - b)) * (Z.wrap (a - d))))))
noncomputable def q99 (r : Bool) : SV × List Blk × List Blk := (.bool r, [], [])
noncomputable def g99 : GF := fun vs bs => match vs, bs with
  | [.agg [V Z d, V Z e], .agg [V Z a, V Z b], .agg [V Z g, V Z i]], [] => some (rs 0 (q99 (m99 d e a b g i)) [])
  | _, _ => none
noncomputable def c99 : Ctr := genC [.k, .k, .k] g99
theorem k99 : CtrOk Tryd.prog c99 99 := cx tn mix_ok 8 (fn := Tryd.f99) (c := (Tryd.f99.body.getD .skip)) (grs := []) (rh := .k) Tryd.func99 rfl (by kernel_rfl) noLam fun vs bs q h hn => by
  unfold g99 at h
  split at h <;> cases h
  rename_i d e a b g i
  exact ⟨_, rfl, ca (fun R => (R (.bool (decide ((Z.wrap ((Z.wrap (b - e)) * (Z.wrap (g - a)))) = (Z.wrap ((Z.wrap (i - b)) * (Z.wrap (a - d))))))) [] [])) (fun R => by kernel_rfl) (lf rfl rfl)⟩
/-! ### shotline/profile.followed -/
noncomputable def m78 (i : ByteArray) (j : Int) (b : Nat) (d : Dat) (e : Nat) (g : Dat) (l : Int) : Nat × Dat × Int :=
  (cond (bif (decide ((m60 1 (datS [SV.str i, V Z j, SV.ro [Kd.int Z, Kd.int Z] b d, SV.ro [Kd.int Z, Kd.int Z, Kd.int Z] e g] 4)) = 0)) then false else true) (0, noDat, (m60 1 (datS [SV.str i, V Z j, SV.ro [Kd.int Z, Kd.int Z] b d, SV.ro [Kd.int Z, Kd.int Z, Kd.int Z] e g] 4))) (cond (bif (m52 l 0 (m62 (m61 i j b d e g).1 (m61 i j b d e g).2)) then false else true) (0, noDat, 2) ((m61 i j b d e g).1, (m61 i j b d e g).2, 0)))
noncomputable def n78 (i : ByteArray) (j : Int) (b : Nat) (d : Dat) (e : Nat) (g : Dat) (l : Int) : Bool :=
  ((n60 1 (datS [SV.str i, V Z j, SV.ro [Kd.int Z, Kd.int Z] b d, SV.ro [Kd.int Z, Kd.int Z, Kd.int Z] e g] 4)) && (cond (bif (decide ((m60 1 (datS [SV.str i, V Z j, SV.ro [Kd.int Z, Kd.int Z] b d, SV.ro [Kd.int Z, Kd.int Z, Kd.int Z] e g] 4)) = 0)) then false else true) true ((n61 i j b d e g) && ((n62 (m61 i j b d e g).1 (m61 i j b d e g).2) && true))))
noncomputable def q78 (r : Nat × Dat × Int) : SV × List Blk × List Blk := (.tup [.ro [W Z, W Z] r.1 r.2.1, V Z r.2.2], [], [])
noncomputable def g78 : GF := fun vs bs => match vs, bs with
  | [.agg [.str i, V Z j, .ro [W Z, W Z] b d, .ro [W Z, W Z, W Z] e g], V Z l], [] => some (rs 0 (q78 (m78 i j b d e g l)) [n78 i j b d e g l])
  | _, _ => none
noncomputable def c78 : Ctr := genC [.a [.k, .k, .ro [W Z, W Z], .ro [W Z, W Z, W Z]], .k] g78
theorem k78 : CtrOk Tryd.prog c78 78 := cx (tc k52 (tc k60 (tc k61 (tc k62 tn)))) mix_ok 8 (fn := Tryd.f78) (c := (Tryd.f78.body.getD .skip)) (grs := []) (rh := .t [.ro [W Z, W Z], .k]) Tryd.func78 rfl (by kernel_rfl) noLam fun vs bs q h hn => by
  unfold g78 at h
  split at h <;> cases h
  rename_i i j b d e g l
  have hn := n1 hn
  exact ⟨_, rfl, ca (fun R => (cnd (n60 1 (datS [SV.str i, V Z j, SV.ro [Kd.int Z, Kd.int Z] b d, SV.ro [Kd.int Z, Kd.int Z, Kd.int Z] e g] 4))
 (cnd (bif (decide ((m60 1 (datS [SV.str i, V Z j, SV.ro [Kd.int Z, Kd.int Z] b d, SV.ro [Kd.int Z, Kd.int Z, Kd.int Z] e g] 4)) = 0)) then false else true)
 (R (.tup [.ro [W Z, W Z] 0 noDat, V Z (m60 1 (datS [SV.str i, V Z j, SV.ro [Kd.int Z, Kd.int Z] b d, SV.ro [Kd.int Z, Kd.int Z, Kd.int Z] e g] 4))]) [] [])
 (cnd (n61 i j b d e g)
 (cnd (n62 (m61 i j b d e g).1 (m61 i j b d e g).2)
 (cnd (bif (m52 l 0 (m62 (m61 i j b d e g).1 (m61 i j b d e g).2)) then false else true)
 (R (.tup [.ro [W Z, W Z] 0 noDat, V Z 2]) [] [])
 (R (.tup [.ro [W Z, W Z] (m61 i j b d e g).1 (m61 i j b d e g).2, V Z 0]) [] []))
     False)
    False))
  False)) (fun R => by kernel_rfl) (cn (al hn) (co (fun h0 => lf (cT h0 rfl) rfl) (fun h0 => cn (al (cf h0 (ar hn))) (cn (al (ar (cf h0 (ar hn)))) (co (fun h1 => lf (cF h0 (cT h1 rfl)) rfl) (fun h1 => lf (cF h0 (cF h1 rfl)) rfl))))))⟩
/-! ### shotline/profile.FirstDiffer -/
noncomputable def l42_2 (t7_0 : Nat) (t7_1 : Dat) (l : Nat) (j : Dat) (z y : Int) (t : ByteArray) (u : Int) (m : Nat) (g : Dat) (n : Nat) (b : Dat) (v : ByteArray) (w : Int) (o : Nat) (i : Dat) (p : Nat) (d x : Dat) : Nat → Int → Option (Int)
  | 0, _ => none
  | f + 1, A => (cond (decide (0 ≤ A ∧ A < ↑t7_0)) (cond (decide ((t7_1.ii A.toNat 0) < y)) (l42_2 t7_0 t7_1 l j z y t u m g n b v w o i p d x f (Z.wrap (A + 1))) (some A)) none)
noncomputable abbrev o42_2 (t7_0 : Nat) (t7_1 : Dat) (l : Nat) (j : Dat) (z y : Int) (t : ByteArray) (u : Int) (m : Nat) (g : Dat) (n : Nat) (b : Dat) (v : ByteArray) (w : Int) (o : Nat) (i : Dat) (p : Nat) (d x : Dat) (A : Int) : Option (Int) := l42_2 t7_0 t7_1 l j z y t u m g n b v w o i p d x (t7_0 + l + A.toNat + z.toNat + y.toNat + t.size + u.toNat + m + n + v.size + w.toNat + o + p + 8) A
noncomputable def e42_2 (t7_0 : Nat) (t7_1 : Dat) (l : Nat) (j : Dat) (z y : Int) (t : ByteArray) (u : Int) (m : Nat) (g : Dat) (n : Nat) (b : Dat) (v : ByteArray) (w : Int) (o : Nat) (i : Dat) (p : Nat) (d x : Dat) (r : Int) (K : XR) : Prop := K (XE.exit 2) [.ptr 0 0, .ptr 1 0, .ro [W Z, W Z] t7_0 t7_1, .ro [W Z, W Z] l j, V Z r, V Z z, V Z y] [.cells 41 [.str t, V Z u, .ro [W Z, W Z] m g, .ro [W Z, W Z, W Z] n b], .cells 41 [.str v, V Z w, .ro [W Z, W Z] o i, .ro [W Z, W Z, W Z] p d], .row 41 [.str, W Z, .sl [W Z, W Z], .sl [W Z, W Z, W Z]] 2 x]
noncomputable def g42_2 : LSum := fun s k => match czv 0 107 [2, 3, 7, 8, 9, 10, 11] 3 [] s with
  | some ([.ptr 0 0, .ptr 1 0, .ro [W Z, W Z] t7_0 t7_1, .ro [W Z, W Z] l j, V Z A, V Z z, V Z y], [.cells 41 [.str t, V Z u, .ro [W Z, W Z] m g, .ro [W Z, W Z, W Z] n b], .cells 41 [.str v, V Z w, .ro [W Z, W Z] o i, .ro [W Z, W Z, W Z] p d], .row 41 [.str, W Z, .sl [W Z, W Z], .sl [W Z, W Z, W Z]] 2 x]) => needs [(o42_2 t7_0 t7_1 l j z y t u m g n b v w o i p d x A).isSome] (e42_2 t7_0 t7_1 l j z y t u m g n b v w o i p d x ((o42_2 t7_0 t7_1 l j z y t u m g n b v w o i p d x A).getD default) fun e vs bs => inBlk 2 k e (mkSt 0 107 [2, 3, 7, 8, 9, 10, 11] vs 3 bs))
  | _ => False
theorem z42_2 : LOk Tryd.prog g42_2 (.block 2 (bodyAt (Tryd.f42.body.getD .skip) 2)) := by
  refine lb (ι := Nat × Dat × Nat × Dat × Int × Int × Int × ByteArray × Int × Nat × Dat × Nat × Dat × ByteArray × Int × Nat × Dat × Nat × Dat × Dat) (fuel := 8) (na := 0) (nt := 107) (nx := 3) (Lh := [2, 3, 7, 8, 9, 10, 11]) (Le := [2, 3, 7, 8, 9, 10, 11]) (gl := []) (tc k53 (tc k60 (tc k61 (tc k62 (tc k77 tn))))) mix_ok noLam rfl (fun f (t7_0, t7_1, l, j, A, z, y, t, u, m, g, n, b, v, w, o, i, p, d, x) K => GG default (e42_2 t7_0 t7_1 l j z y t u m g n b v w o i p d x) K (l42_2 t7_0 t7_1 l j z y t u m g n b v w o i p d x f A)) (fun (t7_0, t7_1, l, j, A, z, y, t, u, m, g, n, b, v, w, o, i, p, d, x) => [.ptr 0 0, .ptr 1 0, .ro [W Z, W Z] t7_0 t7_1, .ro [W Z, W Z] l j, V Z A, V Z z, V Z y]) (fun (t7_0, t7_1, l, j, A, z, y, t, u, m, g, n, b, v, w, o, i, p, d, x) => [.cells 41 [.str t, V Z u, .ro [W Z, W Z] m g, .ro [W Z, W Z, W Z] n b], .cells 41 [.str v, V Z w, .ro [W Z, W Z] o i, .ro [W Z, W Z, W Z] p d], .row 41 [.str, W Z, .sl [W Z, W Z], .sl [W Z, W Z, W Z]] 2 x]) (fun (_, _, _, _, _, _, _, _, _, _, _, _, _, _, _, _, _, _, _, _) K => gg_none) ?_ ?_
  · rintro f ⟨t7_0, t7_1, l, j, A, z, y, t, u, m, g, n, b, v, w, o, i, p, d, x⟩ K hG
    refine ro (fun R => (cnd (decide (0 ≤ A ∧ A < ↑t7_0))
 (cnd (decide ((t7_1.ii A.toNat 0) < y))
 (R (XE.normal) [.ptr 0 0, .ptr 1 0, .ro [W Z, W Z] t7_0 t7_1, .ro [W Z, W Z] l j, V Z (Z.wrap (A + 1)), V Z z, V Z y] [.cells 41 [.str t, V Z u, .ro [W Z, W Z] m g, .ro [W Z, W Z, W Z] n b], .cells 41 [.str v, V Z w, .ro [W Z, W Z] o i, .ro [W Z, W Z, W Z] p d], .row 41 [.str, W Z, .sl [W Z, W Z], .sl [W Z, W Z, W Z]] 2 x])
 (R (XE.exit 2) [.ptr 0 0, .ptr 1 0, .ro [W Z, W Z] t7_0 t7_1, .ro [W Z, W Z] l j, V Z A, V Z z, V Z y] [.cells 41 [.str t, V Z u, .ro [W Z, W Z] m g, .ro [W Z, W Z, W Z] n b], .cells 41 [.str v, V Z w, .ro [W Z, W Z] o i, .ro [W Z, W Z, W Z] p d], .row 41 [.str, W Z, .sl [W Z, W Z], .sl [W Z, W Z, W Z]] 2 x]))
  False)) (fun R => by kernel_rfl) ?_
    exact cg hG fun h0 => ch h0 (fun h1 => ⟨(_, _, _, _, _, _, _, _, _, _, _, _, _, _, _, _, _, _, _, _), rfl, rfl, h1⟩) (fun h1 => h1.2)
  · intro s k h
    unfold g42_2 at h
    split at h <;> try exact h.elim
    rename_i e1
    rw [needs_iff] at h
    exact ⟨_, e1, _, (_, _, _, _, _, _, _, _, _, _, _, _, _, _, _, _, _, _, _, _), rfl, rfl, h.1 _ (List.mem_singleton.2 rfl), h.2⟩
noncomputable def l42_4 (t7_0 : Nat) (t7_1 : Dat) (l : Nat) (j : Dat) (A y : Int) (t : ByteArray) (u : Int) (m : Nat) (g : Dat) (n : Nat) (b : Dat) (v : ByteArray) (w : Int) (o : Nat) (i : Dat) (p : Nat) (d x : Dat) : Nat → Int → Option (Int)
  | 0, _ => none
  | f + 1, z => (cond (decide (0 ≤ z ∧ z < ↑l)) (cond (decide ((j.ii z.toNat 0) < y)) (l42_4 t7_0 t7_1 l j A y t u m g n b v w o i p d x f (Z.wrap (z + 1))) (some z)) none)
noncomputable abbrev o42_4 (t7_0 : Nat) (t7_1 : Dat) (l : Nat) (j : Dat) (A y : Int) (t : ByteArray) (u : Int) (m : Nat) (g : Dat) (n : Nat) (b : Dat) (v : ByteArray) (w : Int) (o : Nat) (i : Dat) (p : Nat) (d x : Dat) (z : Int) : Option (Int) := l42_4 t7_0 t7_1 l j A y t u m g n b v w o i p d x (t7_0 + l + A.toNat + z.toNat + y.toNat + t.size + u.toNat + m + n + v.size + w.toNat + o + p + 8) z
noncomputable def e42_4 (t7_0 : Nat) (t7_1 : Dat) (l : Nat) (j : Dat) (A y : Int) (t : ByteArray) (u : Int) (m : Nat) (g : Dat) (n : Nat) (b : Dat) (v : ByteArray) (w : Int) (o : Nat) (i : Dat) (p : Nat) (d x : Dat) (r : Int) (K : XR) : Prop := K (XE.exit 4) [.ptr 0 0, .ptr 1 0, .ro [W Z, W Z] t7_0 t7_1, .ro [W Z, W Z] l j, V Z A, V Z r, V Z y] [.cells 41 [.str t, V Z u, .ro [W Z, W Z] m g, .ro [W Z, W Z, W Z] n b], .cells 41 [.str v, V Z w, .ro [W Z, W Z] o i, .ro [W Z, W Z, W Z] p d], .row 41 [.str, W Z, .sl [W Z, W Z], .sl [W Z, W Z, W Z]] 2 x]
noncomputable def g42_4 : LSum := fun s k => match czv 0 107 [2, 3, 7, 8, 9, 10, 11] 3 [] s with
  | some ([.ptr 0 0, .ptr 1 0, .ro [W Z, W Z] t7_0 t7_1, .ro [W Z, W Z] l j, V Z A, V Z z, V Z y], [.cells 41 [.str t, V Z u, .ro [W Z, W Z] m g, .ro [W Z, W Z, W Z] n b], .cells 41 [.str v, V Z w, .ro [W Z, W Z] o i, .ro [W Z, W Z, W Z] p d], .row 41 [.str, W Z, .sl [W Z, W Z], .sl [W Z, W Z, W Z]] 2 x]) => needs [(o42_4 t7_0 t7_1 l j A y t u m g n b v w o i p d x z).isSome] (e42_4 t7_0 t7_1 l j A y t u m g n b v w o i p d x ((o42_4 t7_0 t7_1 l j A y t u m g n b v w o i p d x z).getD default) fun e vs bs => inBlk 4 k e (mkSt 0 107 [2, 3, 7, 8, 9, 10, 11] vs 3 bs))
  | _ => False
theorem z42_4 : LOk Tryd.prog g42_4 (.block 4 (bodyAt (Tryd.f42.body.getD .skip) 4)) := by
  refine lb (ι := Nat × Dat × Nat × Dat × Int × Int × Int × ByteArray × Int × Nat × Dat × Nat × Dat × ByteArray × Int × Nat × Dat × Nat × Dat × Dat) (fuel := 8) (na := 0) (nt := 107) (nx := 3) (Lh := [2, 3, 7, 8, 9, 10, 11]) (Le := [2, 3, 7, 8, 9, 10, 11]) (gl := []) (tc k53 (tc k60 (tc k61 (tc k62 (tc k77 tn))))) mix_ok (lam_of rfl (lc z42_2 ln)) rfl (fun f (t7_0, t7_1, l, j, A, z, y, t, u, m, g, n, b, v, w, o, i, p, d, x) K => GG default (e42_4 t7_0 t7_1 l j A y t u m g n b v w o i p d x) K (l42_4 t7_0 t7_1 l j A y t u m g n b v w o i p d x f z)) (fun (t7_0, t7_1, l, j, A, z, y, t, u, m, g, n, b, v, w, o, i, p, d, x) => [.ptr 0 0, .ptr 1 0, .ro [W Z, W Z] t7_0 t7_1, .ro [W Z, W Z] l j, V Z A, V Z z, V Z y]) (fun (t7_0, t7_1, l, j, A, z, y, t, u, m, g, n, b, v, w, o, i, p, d, x) => [.cells 41 [.str t, V Z u, .ro [W Z, W Z] m g, .ro [W Z, W Z, W Z] n b], .cells 41 [.str v, V Z w, .ro [W Z, W Z] o i, .ro [W Z, W Z, W Z] p d], .row 41 [.str, W Z, .sl [W Z, W Z], .sl [W Z, W Z, W Z]] 2 x]) (fun (_, _, _, _, _, _, _, _, _, _, _, _, _, _, _, _, _, _, _, _) K => gg_none) ?_ ?_
  · rintro f ⟨t7_0, t7_1, l, j, A, z, y, t, u, m, g, n, b, v, w, o, i, p, d, x⟩ K hG
    refine ro (fun R => (cnd (decide (0 ≤ z ∧ z < ↑l))
 (cnd (decide ((j.ii z.toNat 0) < y))
 (R (XE.normal) [.ptr 0 0, .ptr 1 0, .ro [W Z, W Z] t7_0 t7_1, .ro [W Z, W Z] l j, V Z A, V Z (Z.wrap (z + 1)), V Z y] [.cells 41 [.str t, V Z u, .ro [W Z, W Z] m g, .ro [W Z, W Z, W Z] n b], .cells 41 [.str v, V Z w, .ro [W Z, W Z] o i, .ro [W Z, W Z, W Z] p d], .row 41 [.str, W Z, .sl [W Z, W Z], .sl [W Z, W Z, W Z]] 2 x])
 (R (XE.exit 4) [.ptr 0 0, .ptr 1 0, .ro [W Z, W Z] t7_0 t7_1, .ro [W Z, W Z] l j, V Z A, V Z z, V Z y] [.cells 41 [.str t, V Z u, .ro [W Z, W Z] m g, .ro [W Z, W Z, W Z] n b], .cells 41 [.str v, V Z w, .ro [W Z, W Z] o i, .ro [W Z, W Z, W Z] p d], .row 41 [.str, W Z, .sl [W Z, W Z], .sl [W Z, W Z, W Z]] 2 x]))
  False)) (fun R => by kernel_rfl) ?_
    exact cg hG fun h0 => ch h0 (fun h1 => ⟨(_, _, _, _, _, _, _, _, _, _, _, _, _, _, _, _, _, _, _, _), rfl, rfl, h1⟩) (fun h1 => h1.2)
  · intro s k h
    unfold g42_4 at h
    split at h <;> try exact h.elim
    rename_i e1
    rw [needs_iff] at h
    exact ⟨_, e1, _, (_, _, _, _, _, _, _, _, _, _, _, _, _, _, _, _, _, _, _, _), rfl, rfl, h.1 _ (List.mem_singleton.2 rfl), h.2⟩
noncomputable def l42_0 (t7_0 : Nat) (t7_1 : Dat) (l : Nat) (j : Dat) (t : ByteArray) (u : Int) (m : Nat) (g : Dat) (n : Nat) (b : Dat) (v : ByteArray) (w : Int) (o : Nat) (i : Dat) (p : Nat) (d x : Dat) : Nat → Int → Int → Int → Option (Bool × (Int × Int) × (Unit))
  | 0, _, _, _ => none
  | f + 1, A, z, y => (cond (n62 t7_0 t7_1) (cond (n62 l j) (cond (decide (y ≤ (imax (m62 t7_0 t7_1) (m62 l j)))) (cond (n62 t7_0 t7_1) (cond (bif (bif (bif (decide ((m62 t7_0 t7_1) < y)) then false else true) then false else true) then true else (n62 l j)) (cond (bif (decide ((m62 t7_0 t7_1) < y)) then true else (decide ((m62 l j) < y))) (some (true, (y, 0), default)) (cond (decide (y = 0)) (l42_0 t7_0 t7_1 l j t u m g n b v w o i p d x f A z (Z.wrap (y + 1))) (cond ((o42_2 t7_0 t7_1 l j z y t u m g n b v w o i p d x A).isSome) (cond ((o42_4 t7_0 t7_1 l j ((o42_2 t7_0 t7_1 l j z y t u m g n b v w o i p d x A).getD 0) y t u m g n b v w o i p d x z).isSome) (cond (decide (0 ≤ Z.wrap ((o42_2 t7_0 t7_1 l j z y t u m g n b v w o i p d x A).getD default - 1) ∧ Z.wrap ((o42_2 t7_0 t7_1 l j z y t u m g n b v w o i p d x A).getD default - 1) < (↑n : Int))) (cond (decide (0 ≤ b.ii (Z.wrap ((o42_2 t7_0 t7_1 l j z y t u m g n b v w o i p d x A).getD default - 1)).toNat (0 + 1 + 1) ∧ b.ii (Z.wrap ((o42_2 t7_0 t7_1 l j z y t u m g n b v w o i p d x A).getD default - 1)).toNat (0 + 1 + 1) < (↑m : Int))) (cond (decide (0 ≤ Z.wrap ((o42_4 t7_0 t7_1 l j ((o42_2 t7_0 t7_1 l j z y t u m g n b v w o i p d x A).getD default) y t u m g n b v w o i p d x z).getD default - 1) ∧ Z.wrap ((o42_4 t7_0 t7_1 l j ((o42_2 t7_0 t7_1 l j z y t u m g n b v w o i p d x A).getD default) y t u m g n b v w o i p d x z).getD default - 1) < (↑p : Int))) (cond (decide (0 ≤ d.ii (Z.wrap ((o42_4 t7_0 t7_1 l j ((o42_2 t7_0 t7_1 l j z y t u m g n b v w o i p d x A).getD default) y t u m g n b v w o i p d x z).getD default - 1)).toNat (0 + 1 + 1) ∧ d.ii (Z.wrap ((o42_4 t7_0 t7_1 l j ((o42_2 t7_0 t7_1 l j z y t u m g n b v w o i p d x A).getD default) y t u m g n b v w o i p d x z).getD default - 1)).toNat (0 + 1 + 1) < (↑o : Int))) (cond (bif (bif (bif (bif (bif (decide ((g.ii ((b.ii ((Z.wrap (((o42_2 t7_0 t7_1 l j z y t u m g n b v w o i p d x A).getD 0) - 1)).toNat) 2).toNat) 0) = (i.ii ((d.ii ((Z.wrap (((o42_4 t7_0 t7_1 l j ((o42_2 t7_0 t7_1 l j z y t u m g n b v w o i p d x A).getD 0) y t u m g n b v w o i p d x z).getD 0) - 1)).toNat) 2).toNat) 0))) then (bif (decide ((g.ii ((b.ii ((Z.wrap (((o42_2 t7_0 t7_1 l j z y t u m g n b v w o i p d x A).getD 0) - 1)).toNat) 2).toNat) 1) = (i.ii ((d.ii ((Z.wrap (((o42_4 t7_0 t7_1 l j ((o42_2 t7_0 t7_1 l j z y t u m g n b v w o i p d x A).getD 0) y t u m g n b v w o i p d x z).getD 0) - 1)).toNat) 2).toNat) 1))) then true else false) else false) then false else true) then false else true) then false else true) then true else (decide (0 ≤ Z.wrap ((o42_2 t7_0 t7_1 l j z y t u m g n b v w o i p d x A).getD default - 1) ∧ Z.wrap ((o42_2 t7_0 t7_1 l j z y t u m g n b v w o i p d x A).getD default - 1) ≤ Z.wrap ((o42_2 t7_0 t7_1 l j z y t u m g n b v w o i p d x A).getD default + 1) ∧ Z.wrap ((o42_2 t7_0 t7_1 l j z y t u m g n b v w o i p d x A).getD default + 1) ≤ (↑t7_0 : Int)))) (cond (bif (bif (bif (bif (bif (decide ((g.ii ((b.ii ((Z.wrap (((o42_2 t7_0 t7_1 l j z y t u m g n b v w o i p d x A).getD 0) - 1)).toNat) 2).toNat) 0) = (i.ii ((d.ii ((Z.wrap (((o42_4 t7_0 t7_1 l j ((o42_2 t7_0 t7_1 l j z y t u m g n b v w o i p d x A).getD 0) y t u m g n b v w o i p d x z).getD 0) - 1)).toNat) 2).toNat) 0))) then (bif (decide ((g.ii ((b.ii ((Z.wrap (((o42_2 t7_0 t7_1 l j z y t u m g n b v w o i p d x A).getD 0) - 1)).toNat) 2).toNat) 1) = (i.ii ((d.ii ((Z.wrap (((o42_4 t7_0 t7_1 l j ((o42_2 t7_0 t7_1 l j z y t u m g n b v w o i p d x A).getD 0) y t u m g n b v w o i p d x z).getD 0) - 1)).toNat) 2).toNat) 1))) then true else false) else false) then false else true) then false else true) then false else true) then true else (n53 (((Z.wrap (((o42_2 t7_0 t7_1 l j z y t u m g n b v w o i p d x A).getD 0) + 1)) - (Z.wrap (((o42_2 t7_0 t7_1 l j z y t u m g n b v w o i p d x A).getD 0) - 1))).toNat) (t7_1.shift ((Z.wrap (((o42_2 t7_0 t7_1 l j z y t u m g n b v w o i p d x A).getD 0) - 1)).toNat)) y)) (cond (bif (bif (bif (bif (bif (decide ((g.ii ((b.ii ((Z.wrap (((o42_2 t7_0 t7_1 l j z y t u m g n b v w o i p d x A).getD 0) - 1)).toNat) 2).toNat) 0) = (i.ii ((d.ii ((Z.wrap (((o42_4 t7_0 t7_1 l j ((o42_2 t7_0 t7_1 l j z y t u m g n b v w o i p d x A).getD 0) y t u m g n b v w o i p d x z).getD 0) - 1)).toNat) 2).toNat) 0))) then (bif (decide ((g.ii ((b.ii ((Z.wrap (((o42_2 t7_0 t7_1 l j z y t u m g n b v w o i p d x A).getD 0) - 1)).toNat) 2).toNat) 1) = (i.ii ((d.ii ((Z.wrap (((o42_4 t7_0 t7_1 l j ((o42_2 t7_0 t7_1 l j z y t u m g n b v w o i p d x A).getD 0) y t u m g n b v w o i p d x z).getD 0) - 1)).toNat) 2).toNat) 1))) then true else false) else false) then false else true) then false else true) then false else true) then true else (decide (0 ≤ Z.wrap ((o42_4 t7_0 t7_1 l j ((o42_2 t7_0 t7_1 l j z y t u m g n b v w o i p d x A).getD default) y t u m g n b v w o i p d x z).getD default - 1) ∧ Z.wrap ((o42_4 t7_0 t7_1 l j ((o42_2 t7_0 t7_1 l j z y t u m g n b v w o i p d x A).getD default) y t u m g n b v w o i p d x z).getD default - 1) ≤ Z.wrap ((o42_4 t7_0 t7_1 l j ((o42_2 t7_0 t7_1 l j z y t u m g n b v w o i p d x A).getD default) y t u m g n b v w o i p d x z).getD default + 1) ∧ Z.wrap ((o42_4 t7_0 t7_1 l j ((o42_2 t7_0 t7_1 l j z y t u m g n b v w o i p d x A).getD default) y t u m g n b v w o i p d x z).getD default + 1) ≤ (↑l : Int)))) (cond (bif (bif (bif (bif (bif (decide ((g.ii ((b.ii ((Z.wrap (((o42_2 t7_0 t7_1 l j z y t u m g n b v w o i p d x A).getD 0) - 1)).toNat) 2).toNat) 0) = (i.ii ((d.ii ((Z.wrap (((o42_4 t7_0 t7_1 l j ((o42_2 t7_0 t7_1 l j z y t u m g n b v w o i p d x A).getD 0) y t u m g n b v w o i p d x z).getD 0) - 1)).toNat) 2).toNat) 0))) then (bif (decide ((g.ii ((b.ii ((Z.wrap (((o42_2 t7_0 t7_1 l j z y t u m g n b v w o i p d x A).getD 0) - 1)).toNat) 2).toNat) 1) = (i.ii ((d.ii ((Z.wrap (((o42_4 t7_0 t7_1 l j ((o42_2 t7_0 t7_1 l j z y t u m g n b v w o i p d x A).getD 0) y t u m g n b v w o i p d x z).getD 0) - 1)).toNat) 2).toNat) 1))) then true else false) else false) then false else true) then false else true) then false else true) then true else (n53 (((Z.wrap (((o42_4 t7_0 t7_1 l j ((o42_2 t7_0 t7_1 l j z y t u m g n b v w o i p d x A).getD 0) y t u m g n b v w o i p d x z).getD 0) + 1)) - (Z.wrap (((o42_4 t7_0 t7_1 l j ((o42_2 t7_0 t7_1 l j z y t u m g n b v w o i p d x A).getD 0) y t u m g n b v w o i p d x z).getD 0) - 1))).toNat) (j.shift ((Z.wrap (((o42_4 t7_0 t7_1 l j ((o42_2 t7_0 t7_1 l j z y t u m g n b v w o i p d x A).getD 0) y t u m g n b v w o i p d x z).getD 0) - 1)).toNat)) y)) (cond (bif (bif (bif (decide ((g.ii ((b.ii ((Z.wrap (((o42_2 t7_0 t7_1 l j z y t u m g n b v w o i p d x A).getD 0) - 1)).toNat) 2).toNat) 0) = (i.ii ((d.ii ((Z.wrap (((o42_4 t7_0 t7_1 l j ((o42_2 t7_0 t7_1 l j z y t u m g n b v w o i p d x A).getD 0) y t u m g n b v w o i p d x z).getD 0) - 1)).toNat) 2).toNat) 0))) then (bif (decide ((g.ii ((b.ii ((Z.wrap (((o42_2 t7_0 t7_1 l j z y t u m g n b v w o i p d x A).getD 0) - 1)).toNat) 2).toNat) 1) = (i.ii ((d.ii ((Z.wrap (((o42_4 t7_0 t7_1 l j ((o42_2 t7_0 t7_1 l j z y t u m g n b v w o i p d x A).getD 0) y t u m g n b v w o i p d x z).getD 0) - 1)).toNat) 2).toNat) 1))) then true else false) else false) then false else true) then true else (bif (m77 (m53 (((Z.wrap (((o42_2 t7_0 t7_1 l j z y t u m g n b v w o i p d x A).getD 0) + 1)) - (Z.wrap (((o42_2 t7_0 t7_1 l j z y t u m g n b v w o i p d x A).getD 0) - 1))).toNat) (t7_1.shift ((Z.wrap (((o42_2 t7_0 t7_1 l j z y t u m g n b v w o i p d x A).getD 0) - 1)).toNat)) y).1 (m53 (((Z.wrap (((o42_2 t7_0 t7_1 l j z y t u m g n b v w o i p d x A).getD 0) + 1)) - (Z.wrap (((o42_2 t7_0 t7_1 l j z y t u m g n b v w o i p d x A).getD 0) - 1))).toNat) (t7_1.shift ((Z.wrap (((o42_2 t7_0 t7_1 l j z y t u m g n b v w o i p d x A).getD 0) - 1)).toNat)) y).2 (m53 (((Z.wrap (((o42_4 t7_0 t7_1 l j ((o42_2 t7_0 t7_1 l j z y t u m g n b v w o i p d x A).getD 0) y t u m g n b v w o i p d x z).getD 0) + 1)) - (Z.wrap (((o42_4 t7_0 t7_1 l j ((o42_2 t7_0 t7_1 l j z y t u m g n b v w o i p d x A).getD 0) y t u m g n b v w o i p d x z).getD 0) - 1))).toNat) (j.shift ((Z.wrap (((o42_4 t7_0 t7_1 l j ((o42_2 t7_0 t7_1 l j z y t u m g n b v w o i p d x A).getD 0) y t u m g n b v w o i p d x z).getD 0) - 1)).toNat)) y).1 (m53 (((Z.wrap (((o42_4 t7_0 t7_1 l j ((o42_2 t7_0 t7_1 l j z y t u m g n b v w o i p d x A).getD 0) y t u m g n b v w o i p d x z).getD 0) + 1)) - (Z.wrap (((o42_4 t7_0 t7_1 l j ((o42_2 t7_0 t7_1 l j z y t u m g n b v w o i p d x A).getD 0) y t u m g n b v w o i p d x z).getD 0) - 1))).toNat) (j.shift ((Z.wrap (((o42_4 t7_0 t7_1 l j ((o42_2 t7_0 t7_1 l j z y t u m g n b v w o i p d x A).getD 0) y t u m g n b v w o i p d x z).getD 0) - 1)).toNat)) y).2) then false else true)) (some (true, (y, 0), default)) (l42_0 t7_0 t7_1 l j t u m g n b v w o i p d x f ((o42_2 t7_0 t7_1 l j z y t u m g n b v w o i p d x A).getD 0) ((o42_4 t7_0 t7_1 l j ((o42_2 t7_0 t7_1 l j z y t u m g n b v w o i p d x A).getD 0) y t u m g n b v w o i p d x z).getD 0) (Z.wrap (y + 1)))) none) none) none) none) none) none) none) none) none) none))) none) none) (some (false, default, ()))) none) none)
noncomputable abbrev o42_0 (t7_0 : Nat) (t7_1 : Dat) (l : Nat) (j : Dat) (t : ByteArray) (u : Int) (m : Nat) (g : Dat) (n : Nat) (b : Dat) (v : ByteArray) (w : Int) (o : Nat) (i : Dat) (p : Nat) (d x : Dat) (A z y : Int) : Option (Bool × (Int × Int) × (Unit)) := l42_0 t7_0 t7_1 l j t u m g n b v w o i p d x ((m62 t7_0 t7_1).toNat + (m62 l j).toNat + 8) A z y
noncomputable def e42_0 (t7_0 : Nat) (t7_1 : Dat) (l : Nat) (j : Dat) (t : ByteArray) (u : Int) (m : Nat) (g : Dat) (n : Nat) (b : Dat) (v : ByteArray) (w : Int) (o : Nat) (i : Dat) (p : Nat) (d x : Dat) (r : Bool × (Int × Int) × (Unit)) (K : XR) : Prop := cnd r.1 (K (XE.ret) [V Z r.2.1.1, V Z r.2.1.2] [.cells 41 [.str t, V Z u, .ro [W Z, W Z] m g, .ro [W Z, W Z, W Z] n b], .cells 41 [.str v, V Z w, .ro [W Z, W Z] o i, .ro [W Z, W Z, W Z] p d], .row 41 [.str, W Z, .sl [W Z, W Z], .sl [W Z, W Z, W Z]] 2 x]) (K (XE.exit 0) [.any, .any] [.cells 41 [.str t, V Z u, .ro [W Z, W Z] m g, .ro [W Z, W Z, W Z] n b], .cells 41 [.str v, V Z w, .ro [W Z, W Z] o i, .ro [W Z, W Z, W Z] p d], .row 41 [.str, W Z, .sl [W Z, W Z], .sl [W Z, W Z, W Z]] 2 x])
noncomputable def g42_0 : LSum := fun s k => match czv 0 107 [2, 3, 7, 8, 9, 10, 11] 3 [] s with
  | some ([.ptr 0 0, .ptr 1 0, .ro [W Z, W Z] t7_0 t7_1, .ro [W Z, W Z] l j, V Z A, V Z z, V Z y], [.cells 41 [.str t, V Z u, .ro [W Z, W Z] m g, .ro [W Z, W Z, W Z] n b], .cells 41 [.str v, V Z w, .ro [W Z, W Z] o i, .ro [W Z, W Z, W Z] p d], .row 41 [.str, W Z, .sl [W Z, W Z], .sl [W Z, W Z, W Z]] 2 x]) => needs [(o42_0 t7_0 t7_1 l j t u m g n b v w o i p d x A z y).isSome] (e42_0 t7_0 t7_1 l j t u m g n b v w o i p d x ((o42_0 t7_0 t7_1 l j t u m g n b v w o i p d x A z y).getD default) fun e vs bs => inBlk 0 k e (mkSt 0 107 [4, 5] vs 3 bs))
  | _ => False
theorem z42_0 : LOk Tryd.prog g42_0 (.block 0 (bodyAt (Tryd.f42.body.getD .skip) 0)) := by
  refine lb (ι := Nat × Dat × Nat × Dat × Int × Int × Int × ByteArray × Int × Nat × Dat × Nat × Dat × ByteArray × Int × Nat × Dat × Nat × Dat × Dat) (fuel := 8) (na := 0) (nt := 107) (nx := 3) (Lh := [2, 3, 7, 8, 9, 10, 11]) (Le := [4, 5]) (gl := []) (tc k53 (tc k60 (tc k61 (tc k62 (tc k77 tn))))) mix_ok (lam_of rfl (lc z42_2 (lc z42_4 ln))) rfl (fun f (t7_0, t7_1, l, j, A, z, y, t, u, m, g, n, b, v, w, o, i, p, d, x) K => GG default (e42_0 t7_0 t7_1 l j t u m g n b v w o i p d x) K (l42_0 t7_0 t7_1 l j t u m g n b v w o i p d x f A z y)) (fun (t7_0, t7_1, l, j, A, z, y, t, u, m, g, n, b, v, w, o, i, p, d, x) => [.ptr 0 0, .ptr 1 0, .ro [W Z, W Z] t7_0 t7_1, .ro [W Z, W Z] l j, V Z A, V Z z, V Z y]) (fun (t7_0, t7_1, l, j, A, z, y, t, u, m, g, n, b, v, w, o, i, p, d, x) => [.cells 41 [.str t, V Z u, .ro [W Z, W Z] m g, .ro [W Z, W Z, W Z] n b], .cells 41 [.str v, V Z w, .ro [W Z, W Z] o i, .ro [W Z, W Z, W Z] p d], .row 41 [.str, W Z, .sl [W Z, W Z], .sl [W Z, W Z, W Z]] 2 x]) (fun (_, _, _, _, _, _, _, _, _, _, _, _, _, _, _, _, _, _, _, _) K => gg_none) ?_ ?_
  · rintro f ⟨t7_0, t7_1, l, j, A, z, y, t, u, m, g, n, b, v, w, o, i, p, d, x⟩ K hG
    refine ro (fun R => (cnd (n62 t7_0 t7_1)
 (cnd (n62 l j)
 (cnd (decide (y ≤ (imax (m62 t7_0 t7_1) (m62 l j))))
 (cnd (n62 t7_0 t7_1)
 (cnd (bif (bif (bif (decide ((m62 t7_0 t7_1) < y)) then false else true) then false else true) then true else (n62 l j))
 (cnd (bif (decide ((m62 t7_0 t7_1) < y)) then true else (decide ((m62 l j) < y)))
 (R (XE.ret) [V Z y, V Z 0] [.cells 41 [.str t, V Z u, .ro [W Z, W Z] m g, .ro [W Z, W Z, W Z] n b], .cells 41 [.str v, V Z w, .ro [W Z, W Z] o i, .ro [W Z, W Z, W Z] p d], .row 41 [.str, W Z, .sl [W Z, W Z], .sl [W Z, W Z, W Z]] 2 x])
 (cnd (decide (y = 0))
 (R (XE.normal) [.ptr 0 0, .ptr 1 0, .ro [W Z, W Z] t7_0 t7_1, .ro [W Z, W Z] l j, V Z A, V Z z, V Z (Z.wrap (y + 1))] [.cells 41 [.str t, V Z u, .ro [W Z, W Z] m g, .ro [W Z, W Z, W Z] n b], .cells 41 [.str v, V Z w, .ro [W Z, W Z] o i, .ro [W Z, W Z, W Z] p d], .row 41 [.str, W Z, .sl [W Z, W Z], .sl [W Z, W Z, W Z]] 2 x])
 (cnd ((o42_2 t7_0 t7_1 l j z y t u m g n b v w o i p d x A).isSome)
 (cnd ((o42_4 t7_0 t7_1 l j ((o42_2 t7_0 t7_1 l j z y t u m g n b v w o i p d x A).getD 0) y t u m g n b v w o i p d x z).isSome)
 (cnd (decide (0 ≤ Z.wrap ((o42_2 t7_0 t7_1 l j z y t u m g n b v w o i p d x A).getD default - 1) ∧ Z.wrap ((o42_2 t7_0 t7_1 l j z y t u m g n b v w o i p d x A).getD default - 1) < (↑n : Int)))
 (cnd (decide (0 ≤ b.ii (Z.wrap ((o42_2 t7_0 t7_1 l j z y t u m g n b v w o i p d x A).getD default - 1)).toNat (0 + 1 + 1) ∧ b.ii (Z.wrap ((o42_2 t7_0 t7_1 l j z y t u m g n b v w o i p d x A).getD default - 1)).toNat (0 + 1 + 1) < (↑m : Int)))
 (cnd (decide (0 ≤ Z.wrap ((o42_4 t7_0 t7_1 l j ((o42_2 t7_0 t7_1 l j z y t u m g n b v w o i p d x A).getD default) y t u m g n b v w o i p d x z).getD default - 1) ∧ Z.wrap ((o42_4 t7_0 t7_1 l j ((o42_2 t7_0 t7_1 l j z y t u m g n b v w o i p d x A).getD default) y t u m g n b v w o i p d x z).getD default - 1) < (↑p : Int)))
 (cnd (decide (0 ≤ d.ii (Z.wrap ((o42_4 t7_0 t7_1 l j ((o42_2 t7_0 t7_1 l j z y t u m g n b v w o i p d x A).getD default) y t u m g n b v w o i p d x z).getD default - 1)).toNat (0 + 1 + 1) ∧ d.ii (Z.wrap ((o42_4 t7_0 t7_1 l j ((o42_2 t7_0 t7_1 l j z y t u m g n b v w o i p d x A).getD default) y t u m g n b v w o i p d x z).getD default - 1)).toNat (0 + 1 + 1) < (↑o : Int)))
 (cnd (bif (bif (bif (bif (bif (decide ((g.ii ((b.ii ((Z.wrap (((o42_2 t7_0 t7_1 l j z y t u m g n b v w o i p d x A).getD 0) - 1)).toNat) 2).toNat) 0) = (i.ii ((d.ii ((Z.wrap (((o42_4 t7_0 t7_1 l j ((o42_2 t7_0 t7_1 l j z y t u m g n b v w o i p d x A).getD 0) y t u m g n b v w o i p d x z).getD 0) - 1)).toNat) 2).toNat) 0))) then (bif (decide ((g.ii ((b.ii ((Z.wrap (((o42_2 t7_0 t7_1 l j z y t u m g n b v w o i p d x A).getD 0) - 1)).toNat) 2).toNat) 1) = (i.ii ((d.ii ((Z.wrap (((o42_4 t7_0 t7_1 l j ((o42_2 t7_0 t7_1 l j z y t u m g n b v w o i p d x A).getD 0) y t u m g n b v w o i p d x z).getD 0) - 1)).toNat) 2).toNat) 1))) then true else false) else false) then false else true) then false else true) then false else true) then true else (decide (0 ≤ Z.wrap ((o42_2 t7_0 t7_1 l j z y t u m g n b v w o i p d x A).getD default - 1) ∧ Z.wrap ((o42_2 t7_0 t7_1 l j z y t u m g n b v w o i p d x A).getD default - 1) ≤ Z.wrap ((o42_2 t7_0 t7_1 l j z y t u m g n b v w o i p d x A).getD default + 1) ∧ Z.wrap ((o42_2 t7_0 t7_1 l j z y t u m g n b v w o i p d x A).getD default + 1) ≤ (↑t7_0 : Int))))
 (cnd (bif (bif (bif (bif (bif (decide ((g.ii ((b.ii ((Z.wrap (((o42_2 t7_0 t7_1 l j z y t u m g n b v w o i p d x A).getD 0) - 1)).toNat) 2).toNat) 0) = (i.ii ((d.ii ((Z.wrap (((o42_4 t7_0 t7_1 l j ((o42_2 t7_0 t7_1 l j z y t u m g n b v w o i p d x A).getD 0) y t u m g n b v w o i p d x z).getD 0) - 1)).toNat) 2).toNat) 0))) then (bif (decide ((g.ii ((b.ii ((Z.wrap (((o42_2 t7_0 t7_1 l j z y t u m g n b v w o i p d x A).getD 0) - 1)).toNat) 2).toNat) 1) = (i.ii ((d.ii ((Z.wrap (((o42_4 t7_0 t7_1 l j ((o42_2 t7_0 t7_1 l j z y t u m g n b v w o i p d x A).getD 0) y t u m g n b v w o i p d x z).getD 0) - 1)).toNat) 2).toNat) 1))) then true else false) else false) then false else true) then false else true) then false else true) then true else (n53 (((Z.wrap (((o42_2 t7_0 t7_1 l j z y t u m g n b v w o i p d x A).getD 0) + 1)) - (Z.wrap (((o42_2 t7_0 t7_1 l j z y t u m g n b v w o i p d x A).getD 0) - 1))).toNat) (t7_1.shift ((Z.wrap (((o42_2 t7_0 t7_1 l j z y t u m g n b v w o i p d x A).getD 0) - 1)).toNat)) y))
 (cnd (bif (bif (bif (bif (bif (decide ((g.ii ((b.ii ((Z.wrap (((o42_2 t7_0 t7_1 l j z y t u m g n b v w o i p d x A).getD 0) - 1)).toNat) 2).toNat) 0) = (i.ii ((d.ii ((Z.wrap (((o42_4 t7_0 t7_1 l j ((o42_2 t7_0 t7_1 l j z y t u m g n b v w o i p d x A).getD 0) y t u m g n b v w o i p d x z).getD 0) - 1)).toNat) 2).toNat) 0))) then (bif (decide ((g.ii ((b.ii ((Z.wrap (((o42_2 t7_0 t7_1 l j z y t u m g n b v w o i p d x A).getD 0) - 1)).toNat) 2).toNat) 1) = (i.ii ((d.ii ((Z.wrap (((o42_4 t7_0 t7_1 l j ((o42_2 t7_0 t7_1 l j z y t u m g n b v w o i p d x A).getD 0) y t u m g n b v w o i p d x z).getD 0) - 1)).toNat) 2).toNat) 1))) then true else false) else false) then false else true) then false else true) then false else true) then true else (decide (0 ≤ Z.wrap ((o42_4 t7_0 t7_1 l j ((o42_2 t7_0 t7_1 l j z y t u m g n b v w o i p d x A).getD default) y t u m g n b v w o i p d x z).getD default - 1) ∧ Z.wrap ((o42_4 t7_0 t7_1 l j ((o42_2 t7_0 t7_1 l j z y t u m g n b v w o i p d x A).getD default) y t u m g n b v w o i p d x z).getD default - 1) ≤ Z.wrap ((o42_4 t7_0 t7_1 l j ((o42_2 t7_0 t7_1 l j z y t u m g n b v w o i p d x A).getD default) y t u m g n b v w o i p d x z).getD default + 1) ∧ Z.wrap ((o42_4 t7_0 t7_1 l j ((o42_2 t7_0 t7_1 l j z y t u m g n b v w o i p d x A).getD default) y t u m g n b v w o i p d x z).getD default + 1) ≤ (↑l : Int))))
 (cnd (bif (bif (bif (bif (bif (decide ((g.ii ((b.ii ((Z.wrap (((o42_2 t7_0 t7_1 l j z y t u m g n b v w o i p d x A).getD 0) - 1)).toNat) 2).toNat) 0) = (i.ii ((d.ii ((Z.wrap (((o42_4 t7_0 t7_1 l j ((o42_2 t7_0 t7_1 l j z y t u m g n b v w o i p d x A).getD 0) y t u m g n b v w o i p d x z).getD 0) - 1)).toNat) 2).toNat) 0))) then (bif (decide ((g.ii ((b.ii ((Z.wrap (((o42_2 t7_0 t7_1 l j z y t u m g n b v w o i p d x A).getD 0) - 1)).toNat) 2).toNat) 1) = (i.ii ((d.ii ((Z.wrap (((o42_4 t7_0 t7_1 l j ((o42_2 t7_0 t7_1 l j z y t u m g n b v w o i p d x A).getD 0) y t u m g n b v w o i p d x z).getD 0) - 1)).toNat) 2).toNat) 1))) then true else false) else false) then false else true) then false else true) then false else true) then true else (n53 (((Z.wrap (((o42_4 t7_0 t7_1 l j ((o42_2 t7_0 t7_1 l j z y t u m g n b v w o i p d x A).getD 0) y t u m g n b v w o i p d x z).getD 0) + 1)) - (Z.wrap (((o42_4 t7_0 t7_1 l j ((o42_2 t7_0 t7_1 l j z y t u m g n b v w o i p d x A).getD 0) y t u m g n b v w o i p d x z).getD 0) - 1))).toNat) (j.shift ((Z.wrap (((o42_4 t7_0 t7_1 l j ((o42_2 t7_0 t7_1 l j z y t u m g n b v w o i p d x A).getD 0) y t u m g n b v w o i p d x z).getD 0) - 1)).toNat)) y))
 (cnd (bif (bif (bif (decide ((g.ii ((b.ii ((Z.wrap (((o42_2 t7_0 t7_1 l j z y t u m g n b v w o i p d x A).getD 0) - 1)).toNat) 2).toNat) 0) = (i.ii ((d.ii ((Z.wrap (((o42_4 t7_0 t7_1 l j ((o42_2 t7_0 t7_1 l j z y t u m g n b v w o i p d x A).getD 0) y t u m g n b v w o i p d x z).getD 0) - 1)).toNat) 2).toNat) 0))) then (bif (decide ((g.ii ((b.ii ((Z.wrap (((o42_2 t7_0 t7_1 l j z y t u m g n b v w o i p d x A).getD 0) - 1)).toNat) 2).toNat) 1) = (i.ii ((d.ii ((Z.wrap (((o42_4 t7_0 t7_1 l j ((o42_2 t7_0 t7_1 l j z y t u m g n b v w o i p d x A).getD 0) y t u m g n b v w o i p d x z).getD 0) - 1)).toNat) 2).toNat) 1))) then true else false) else false) then false else true) then true else (bif (m77 (m53 (((Z.wrap (((o42_2 t7_0 t7_1 l j z y t u m g n b v w o i p d x A).getD 0) + 1)) - (Z.wrap (((o42_2 t7_0 t7_1 l j z y t u m g n b v w o i p d x A).getD 0) - 1))).toNat) (t7_1.shift ((Z.wrap (((o42_2 t7_0 t7_1 l j z y t u m g n b v w o i p d x A).getD 0) - 1)).toNat)) y).1 (m53 (((Z.wrap (((o42_2 t7_0 t7_1 l j z y t u m g n b v w o i p d x A).getD 0) + 1)) - (Z.wrap (((o42_2 t7_0 t7_1 l j z y t u m g n b v w o i p d x A).getD 0) - 1))).toNat) (t7_1.shift ((Z.wrap (((o42_2 t7_0 t7_1 l j z y t u m g n b v w o i p d x A).getD 0) - 1)).toNat)) y).2 (m53 (((Z.wrap (((o42_4 t7_0 t7_1 l j ((o42_2 t7_0 t7_1 l j z y t u m g n b v w o i p d x A).getD 0) y t u m g n b v w o i p d x z).getD 0) + 1)) - (Z.wrap (((o42_4 t7_0 t7_1 l j ((o42_2 t7_0 t7_1 l j z y t u m g n b v w o i p d x A).getD 0) y t u m g n b v w o i p d x z).getD 0) - 1))).toNat) (j.shift ((Z.wrap (((o42_4 t7_0 t7_1 l j ((o42_2 t7_0 t7_1 l j z y t u m g n b v w o i p d x A).getD 0) y t u m g n b v w o i p d x z).getD 0) - 1)).toNat)) y).1 (m53 (((Z.wrap (((o42_4 t7_0 t7_1 l j ((o42_2 t7_0 t7_1 l j z y t u m g n b v w o i p d x A).getD 0) y t u m g n b v w o i p d x z).getD 0) + 1)) - (Z.wrap (((o42_4 t7_0 t7_1 l j ((o42_2 t7_0 t7_1 l j z y t u m g n b v w o i p d x A).getD 0) y t u m g n b v w o i p d x z).getD 0) - 1))).toNat) (j.shift ((Z.wrap (((o42_4 t7_0 t7_1 l j ((o42_2 t7_0 t7_1 l j z y t u m g n b v w o i p d x A).getD 0) y t u m g n b v w o i p d x z).getD 0) - 1)).toNat)) y).2) then false else true))
 (R (XE.ret) [V Z y, V Z 0] [.cells 41 [.str t, V Z u, .ro [W Z, W Z] m g, .ro [W Z, W Z, W Z] n b], .cells 41 [.str v, V Z w, .ro [W Z, W Z] o i, .ro [W Z, W Z, W Z] p d], .row 41 [.str, W Z, .sl [W Z, W Z], .sl [W Z, W Z, W Z]] 2 x])
 (R (XE.normal) [.ptr 0 0, .ptr 1 0, .ro [W Z, W Z] t7_0 t7_1, .ro [W Z, W Z] l j, V Z ((o42_2 t7_0 t7_1 l j z y t u m g n b v w o i p d x A).getD 0), V Z ((o42_4 t7_0 t7_1 l j ((o42_2 t7_0 t7_1 l j z y t u m g n b v w o i p d x A).getD 0) y t u m g n b v w o i p d x z).getD 0), V Z (Z.wrap (y + 1))] [.cells 41 [.str t, V Z u, .ro [W Z, W Z] m g, .ro [W Z, W Z, W Z] n b], .cells 41 [.str v, V Z w, .ro [W Z, W Z] o i, .ro [W Z, W Z, W Z] p d], .row 41 [.str, W Z, .sl [W Z, W Z], .sl [W Z, W Z, W Z]] 2 x]))
                  False)
                 False)
                False)
               False)
              False)
             False)
            False)
           False)
          False)
         False)))
      False)
     False)
 (R (XE.exit 0) [.any, .any] [.cells 41 [.str t, V Z u, .ro [W Z, W Z] m g, .ro [W Z, W Z, W Z] n b], .cells 41 [.str v, V Z w, .ro [W Z, W Z] o i, .ro [W Z, W Z, W Z] p d], .row 41 [.str, W Z, .sl [W Z, W Z], .sl [W Z, W Z, W Z]] 2 x]))
   False)
  False)) (fun R => by kernel_rfl) ?_
    exact cg hG fun h0 => cg h0 fun h1 => ch h1 (fun h2 => cg h2 fun h3 => cg h3 fun h4 => ch h4 (fun h5 => h5.2) (fun h5 => ch h5 (fun h6 => ⟨(_, _, _, _, _, _, _, _, _, _, _, _, _, _, _, _, _, _, _, _), rfl, rfl, h6⟩) (fun h6 => cg h6 fun h7 => cg h7 fun h8 => cg h8 fun h9 => cg h9 fun h10 => cg h10 fun h11 => cg h11 fun h12 => cg h12 fun h13 => cg h13 fun h14 => cg h14 fun h15 => cg h15 fun h16 => ch h16 (fun h17 => h17.2) (fun h17 => ⟨(_, _, _, _, _, _, _, _, _, _, _, _, _, _, _, _, _, _, _, _), rfl, rfl, h17⟩)))) (fun h2 => h2.2)
  · intro s k h
    unfold g42_0 at h
    split at h <;> try exact h.elim
    rename_i e1
    rw [needs_iff] at h
    exact ⟨_, e1, _, (_, _, _, _, _, _, _, _, _, _, _, _, _, _, _, _, _, _, _, _), rfl, rfl, h.1 _ (List.mem_singleton.2 rfl), h.2⟩
noncomputable def m42 (L : ByteArray) (M : Int) (C : Nat) (D : Dat) (E : Nat) (F : Dat) (N : ByteArray) (O : Int) (G : Nat) (H : Dat) (I : Nat) (J : Dat) : Int × Int :=
  (cond (bif (decide ((m60 2 (datS [SV.str L, V Z M, SV.ro [Kd.int Z, Kd.int Z] C D, SV.ro [Kd.int Z, Kd.int Z, Kd.int Z] E F, SV.str N, V Z O, SV.ro [Kd.int Z, Kd.int Z] G H, SV.ro [Kd.int Z, Kd.int Z, Kd.int Z] I J] 4)) = 0)) then false else true) (0, (m60 2 (datS [SV.str L, V Z M, SV.ro [Kd.int Z, Kd.int Z] C D, SV.ro [Kd.int Z, Kd.int Z, Kd.int Z] E F, SV.str N, V Z O, SV.ro [Kd.int Z, Kd.int Z] G H, SV.ro [Kd.int Z, Kd.int Z, Kd.int Z] I J] 4))) (cond ((o42_0 (m61 L M C D E F).1 (m61 L M C D E F).2 (m61 N O G H I J).1 (m61 N O G H I J).2 L M C D E F N O G H I J (datS [SV.str L, V Z M, SV.ro [Kd.int Z, Kd.int Z] C D, SV.ro [Kd.int Z, Kd.int Z, Kd.int Z] E F, SV.str N, V Z O, SV.ro [Kd.int Z, Kd.int Z] G H, SV.ro [Kd.int Z, Kd.int Z, Kd.int Z] I J] 4) 1 1 0).getD default).1 (((o42_0 (m61 L M C D E F).1 (m61 L M C D E F).2 (m61 N O G H I J).1 (m61 N O G H I J).2 L M C D E F N O G H I J (datS [SV.str L, V Z M, SV.ro [Kd.int Z, Kd.int Z] C D, SV.ro [Kd.int Z, Kd.int Z, Kd.int Z] E F, SV.str N, V Z O, SV.ro [Kd.int Z, Kd.int Z] G H, SV.ro [Kd.int Z, Kd.int Z, Kd.int Z] I J] 4) 1 1 0).getD default).2.1.1, ((o42_0 (m61 L M C D E F).1 (m61 L M C D E F).2 (m61 N O G H I J).1 (m61 N O G H I J).2 L M C D E F N O G H I J (datS [SV.str L, V Z M, SV.ro [Kd.int Z, Kd.int Z] C D, SV.ro [Kd.int Z, Kd.int Z, Kd.int Z] E F, SV.str N, V Z O, SV.ro [Kd.int Z, Kd.int Z] G H, SV.ro [Kd.int Z, Kd.int Z, Kd.int Z] I J] 4) 1 1 0).getD default).2.1.2) (0, 12)))
noncomputable def n42 (L : ByteArray) (M : Int) (C : Nat) (D : Dat) (E : Nat) (F : Dat) (N : ByteArray) (O : Int) (G : Nat) (H : Dat) (I : Nat) (J : Dat) : Bool :=
  ((n60 2 (datS [SV.str L, V Z M, SV.ro [Kd.int Z, Kd.int Z] C D, SV.ro [Kd.int Z, Kd.int Z, Kd.int Z] E F, SV.str N, V Z O, SV.ro [Kd.int Z, Kd.int Z] G H, SV.ro [Kd.int Z, Kd.int Z, Kd.int Z] I J] 4)) && (cond (bif (decide ((m60 2 (datS [SV.str L, V Z M, SV.ro [Kd.int Z, Kd.int Z] C D, SV.ro [Kd.int Z, Kd.int Z, Kd.int Z] E F, SV.str N, V Z O, SV.ro [Kd.int Z, Kd.int Z] G H, SV.ro [Kd.int Z, Kd.int Z, Kd.int Z] I J] 4)) = 0)) then false else true) true ((n61 L M C D E F) && ((n61 N O G H I J) && (((o42_0 (m61 L M C D E F).1 (m61 L M C D E F).2 (m61 N O G H I J).1 (m61 N O G H I J).2 L M C D E F N O G H I J (datS [SV.str L, V Z M, SV.ro [Kd.int Z, Kd.int Z] C D, SV.ro [Kd.int Z, Kd.int Z, Kd.int Z] E F, SV.str N, V Z O, SV.ro [Kd.int Z, Kd.int Z] G H, SV.ro [Kd.int Z, Kd.int Z, Kd.int Z] I J] 4) 1 1 0).isSome) && true)))))
noncomputable def q42 (r : Int × Int) : SV × List Blk × List Blk := (.tup [V Z r.1, V Z r.2], [], [])
noncomputable def g42 : GF := fun vs bs => match vs, bs with
  | [.agg [.str L, V Z M, .ro [W Z, W Z] C D, .ro [W Z, W Z, W Z] E F], .agg [.str N, V Z O, .ro [W Z, W Z] G H, .ro [W Z, W Z, W Z] I J]], [] => some (rs 0 (q42 (m42 L M C D E F N O G H I J)) [n42 L M C D E F N O G H I J])
  | _, _ => none
noncomputable def c42 : Ctr := genC [.a [.k, .k, .ro [W Z, W Z], .ro [W Z, W Z, W Z]], .a [.k, .k, .ro [W Z, W Z], .ro [W Z, W Z, W Z]]] g42
theorem k42 : CtrOk Tryd.prog c42 42 := cx (tc k53 (tc k60 (tc k61 (tc k62 (tc k77 tn))))) mix_ok 8 (fn := Tryd.f42) (c := (Tryd.f42.body.getD .skip)) (grs := []) (rh := .k) Tryd.func42 rfl (by kernel_rfl) (lam_of rfl (lc z42_2 (lc z42_4 (lc z42_0 ln)))) fun vs bs q h hn => by
  unfold g42 at h
  split at h <;> cases h
  rename_i L M C D E F N O G H I J
  have hn := n1 hn
  exact ⟨_, rfl, ca (fun R => (cnd (n60 2 (datS [SV.str L, V Z M, SV.ro [Kd.int Z, Kd.int Z] C D, SV.ro [Kd.int Z, Kd.int Z, Kd.int Z] E F, SV.str N, V Z O, SV.ro [Kd.int Z, Kd.int Z] G H, SV.ro [Kd.int Z, Kd.int Z, Kd.int Z] I J] 4))
 (cnd (bif (decide ((m60 2 (datS [SV.str L, V Z M, SV.ro [Kd.int Z, Kd.int Z] C D, SV.ro [Kd.int Z, Kd.int Z, Kd.int Z] E F, SV.str N, V Z O, SV.ro [Kd.int Z, Kd.int Z] G H, SV.ro [Kd.int Z, Kd.int Z, Kd.int Z] I J] 4)) = 0)) then false else true)
 (R (.tup [V Z 0, V Z (m60 2 (datS [SV.str L, V Z M, SV.ro [Kd.int Z, Kd.int Z] C D, SV.ro [Kd.int Z, Kd.int Z, Kd.int Z] E F, SV.str N, V Z O, SV.ro [Kd.int Z, Kd.int Z] G H, SV.ro [Kd.int Z, Kd.int Z, Kd.int Z] I J] 4))]) [] [])
 (cnd (n61 L M C D E F)
 (cnd (n61 N O G H I J)
 (cnd ((o42_0 (m61 L M C D E F).1 (m61 L M C D E F).2 (m61 N O G H I J).1 (m61 N O G H I J).2 L M C D E F N O G H I J (datS [SV.str L, V Z M, SV.ro [Kd.int Z, Kd.int Z] C D, SV.ro [Kd.int Z, Kd.int Z, Kd.int Z] E F, SV.str N, V Z O, SV.ro [Kd.int Z, Kd.int Z] G H, SV.ro [Kd.int Z, Kd.int Z, Kd.int Z] I J] 4) 1 1 0).isSome)
 (cnd ((o42_0 (m61 L M C D E F).1 (m61 L M C D E F).2 (m61 N O G H I J).1 (m61 N O G H I J).2 L M C D E F N O G H I J (datS [SV.str L, V Z M, SV.ro [Kd.int Z, Kd.int Z] C D, SV.ro [Kd.int Z, Kd.int Z, Kd.int Z] E F, SV.str N, V Z O, SV.ro [Kd.int Z, Kd.int Z] G H, SV.ro [Kd.int Z, Kd.int Z, Kd.int Z] I J] 4) 1 1 0).getD default).1
 (R (.tup [V Z ((o42_0 (m61 L M C D E F).1 (m61 L M C D E F).2 (m61 N O G H I J).1 (m61 N O G H I J).2 L M C D E F N O G H I J (datS [SV.str L, V Z M, SV.ro [Kd.int Z, Kd.int Z] C D, SV.ro [Kd.int Z, Kd.int Z, Kd.int Z] E F, SV.str N, V Z O, SV.ro [Kd.int Z, Kd.int Z] G H, SV.ro [Kd.int Z, Kd.int Z, Kd.int Z] I J] 4) 1 1 0).getD default).2.1.1, V Z ((o42_0 (m61 L M C D E F).1 (m61 L M C D E F).2 (m61 N O G H I J).1 (m61 N O G H I J).2 L M C D E F N O G H I J (datS [SV.str L, V Z M, SV.ro [Kd.int Z, Kd.int Z] C D, SV.ro [Kd.int Z, Kd.int Z, Kd.int Z] E F, SV.str N, V Z O, SV.ro [Kd.int Z, Kd.int Z] G H, SV.ro [Kd.int Z, Kd.int Z, Kd.int Z] I J] 4) 1 1 0).getD default).2.1.2]) [] [])
 (R (.tup [V Z 0, V Z 12]) [] []))
      False)
     False)
    False))
  False)) (fun R => by kernel_rfl) (cn (al hn) (co (fun h0 => lf (cT h0 rfl) rfl) (fun h0 => cn (al (cf h0 (ar hn))) (cn (al (ar (cf h0 (ar hn)))) (cn (al (ar (ar (cf h0 (ar hn))))) (co (fun h1 => lf (cF h0 (cT h1 rfl)) rfl) (fun h1 => lf (cF h0 (cF h1 rfl)) rfl)))))))⟩
end Go.Proofs.YtchhhoamnagbfaaDoor
