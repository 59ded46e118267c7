/-
  Contracts of functions: models, equations by the kernel, contracts. Conditions: none.
-/
import Derived.Test.YtchhhoamnagbfaaDoorJSyY
import Derived.Test.YtchhhoamnagbfaaDoorJSyKo
import Derived.Test.YtchhhoamnagbfaaDoorJSyHd
import Derived.Test.YtchhhoamnagbfaaDoorJSySc
import Derived.Test.YtchhhoamnagbfaaDoorJSyOr
import Derived.Test.YtchhhoamnagbfaaDoorJSySo
import Derived.Test.YtchhhoamnagbfaaDoorJBase
import Derived.Test.YtchhhoamnagbfaaDoorJPLoop
import Derived.KernelRfl
namespace Go.Proofs.YtchhhoamnagbfaaDoor
open Go Go.Sy
set_option linter.unusedVariables false
set_option linter.unusedSimpArgs false
set_option maxRecDepth 100000
set_option maxHeartbeats 2000000
attribute [local irreducible] Go.IntKind.wrap Int.tdiv Int.tmod Int.fdiv
open Go.Sy renaming tabOk_cons → tc, tabOk_nil → tn, cnd_need → cn, leaf_of → lf, cnd_gg → cg, cnd_gg2 → ch, cond_f → cf, cond_t → ct, cnd_of → co, callOf → ca, roundOf → ro, cnd_not → nn, lams_cons → lc, lams_nil → ln, condT → cT, condF → cF, need1 → n1, resOf → rs, and_l → al, and_r → ar, or_gg → og, ctr_of → cx, loop_blk → lb
open Go.IntKind renaming i64 → Z
open Go.Sy.SV renaming int → V
open Go.Sy.Kd renaming int → W
/-! ### shotline/shotlinebase.Within -/
noncomputable def m16 (a b d : Int) : Bool :=
  (bif (decide (b ≤ a)) then (decide (a ≤ d)) else false)
noncomputable def q16 (r : Bool) : SV × List Blk × List Blk := (.bool r, [], [])
noncomputable def g16 : GF := fun vs bs => match vs, bs with
  | [V Z a, V Z b, V Z d], [] => some (rs 0 (q16 (m16 a b d)) [])
  | _, _ => none
noncomputable def c16 : Ctr := genC [.k, .k, .k] g16
theorem k16 : CtrOk Tryd.prog c16 16 := cx tn mix_ok 8 (fn := Tryd.f16) (c := (Tryd.f16.body.getD .skip)) (grs := []) (rh := .k) Tryd.func16 rfl (by kernel_rfl) noLam fun vs bs q h hn => by
  unfold g16 at h
  split at h <;> cases h
  rename_i a b d
  exact ⟨_, rfl, ca (fun R => (R (.bool (bif (decide (b ≤ a)) then (decide (a ≤ d)) else false)) [] [])) (fun R => by kernel_rfl) (lf rfl rfl)⟩
/-! ### shotline/profile.within -/
noncomputable def m52 (a b d : Int) : Bool :=
  (bif (decide (b ≤ a)) then (decide (a ≤ d)) else false)
noncomputable def q52 (r : Bool) : SV × List Blk × List Blk := (.bool r, [], [])
noncomputable def g52 : GF := fun vs bs => match vs, bs with
  | [V Z a, V Z b, V Z d], [] => some (rs 0 (q52 (m52 a b d)) [])
  | _, _ => none
noncomputable def c52 : Ctr := genC [.k, .k, .k] g52
theorem k52 : CtrOk Tryd.prog c52 52 := cx tn mix_ok 8 (fn := Tryd.f52) (c := (Tryd.f52.body.getD .skip)) (grs := []) (rh := .k) Tryd.func52 rfl (by kernel_rfl) noLam fun vs bs q h hn => by
  unfold g52 at h
  split at h <;> cases h
  rename_i a b d
  exact ⟨_, rfl, ca (fun R => (R (.bool (bif (decide (b ≤ a)) then (decide (a ≤ d)) else false)) [] [])) (fun R => by kernel_rfl) (lf rfl rfl)⟩
/-! ### shotline/gas.within -/
noncomputable def m111 (a b d : Int) : Bool :=
  (bif (decide (b ≤ a)) then (decide (a ≤ d)) else false)
noncomputable def q111 (r : Bool) : SV × List Blk × List Blk := (.bool r, [], [])
noncomputable def g111 : GF := fun vs bs => match vs, bs with
  | [V Z a, V Z b, V Z d], [] => some (rs 0 (q111 (m111 a b d)) [])
  | _, _ => none
noncomputable def c111 : Ctr := genC [.k, .k, .k] g111
theorem k111 : CtrOk Tryd.prog c111 111 := cx tn mix_ok 8 (fn := Tryd.f111) (c := (Tryd.f111.body.getD .skip)) (grs := []) (rh := .k) Tryd.func111 rfl (by kernel_rfl) noLam fun vs bs q h hn => by
  unfold g111 at h
  split at h <;> cases h
  rename_i a b d
  exact ⟨_, rfl, ca (fun R => (R (.bool (bif (decide (b ≤ a)) then (decide (a ≤ d)) else false)) [] [])) (fun R => by kernel_rfl) (lf rfl rfl)⟩
/-! ### (shotline/profile.ratio).less -/
noncomputable def m63 (a b d e : Int) : Bool :=
  (decide ((Z.wrap (a * e)) < (Z.wrap (d * b))))
noncomputable def q63 (r : Bool) : SV × List Blk × List Blk := (.bool r, [], [])
noncomputable def g63 : GF := fun vs bs => match vs, bs with
  | [.agg [V Z a, V Z b], .agg [V Z d, V Z e]], [] => some (rs 0 (q63 (m63 a b d e)) [])
  | _, _ => none
noncomputable def c63 : Ctr := genC [.k, .k] g63
theorem k63 : CtrOk Tryd.prog c63 63 := cx tn mix_ok 8 (fn := Tryd.f63) (c := (Tryd.f63.body.getD .skip)) (grs := []) (rh := .k) Tryd.func63 rfl (by kernel_rfl) noLam fun vs bs q h hn => by
  unfold g63 at h
  split at h <;> cases h
  rename_i a b d e
  exact ⟨_, rfl, ca (fun R => (R (.bool (decide ((Z.wrap (a * e)) < (Z.wrap (d * b))))) [] [])) (fun R => by kernel_rfl) (lf rfl rfl)⟩
/-! ### (shotline/profile.ratio).rounded -/
noncomputable def m54 (b a : Int) : Int × Int :=
  ((Z.wrap (b.tdiv a)), (Z.wrap ((Z.wrap ((Z.wrap (b + a)) - 1)).tdiv a)))
noncomputable def n54 (b a : Int) : Bool :=
  ((bif (decide (a = 0)) then false else true) && ((bif (decide (a = 0)) then false else true) && true))
noncomputable def q54 (r : Int × Int) : SV × List Blk × List Blk := (.agg [V Z r.1, V Z r.2], [], [])
noncomputable def g54 : GF := fun vs bs => match vs, bs with
  | [.agg [V Z b, V Z a]], [] => some (rs 0 (q54 (m54 b a)) [n54 b a])
  | _, _ => none
noncomputable def c54 : Ctr := genC [.k] g54
theorem k54 : CtrOk Tryd.prog c54 54 := cx tn mix_ok 8 (fn := Tryd.f54) (c := (Tryd.f54.body.getD .skip)) (grs := []) (rh := .k) Tryd.func54 rfl (by kernel_rfl) noLam fun vs bs q h hn => by
  unfold g54 at h
  split at h <;> cases h
  rename_i b a
  have hn := n1 hn
  exact ⟨_, rfl, ca (fun R => (cnd (bif (decide (a = 0)) then false else true)
 (cnd (bif (decide (a = 0)) then false else true)
 (R (.agg [V Z (Z.wrap (b.tdiv a)), V Z (Z.wrap ((Z.wrap ((Z.wrap (b + a)) - 1)).tdiv a))]) [] [])
   False)
  False)) (fun R => by kernel_rfl) (cn (al hn) (cn (al (ar hn)) (lf rfl rfl)))⟩
/-! ### (shotline/profile.track).end -/
noncomputable def m62 (a : Nat) (b : Dat) : Int :=
  (b.ii ((Z.wrap ((↑a : Int) - 1)).toNat) 0)
noncomputable def n62 (a : Nat) (b : Dat) : Bool :=
  ((decide (0 ≤ Z.wrap ((↑a : Int) - 1) ∧ Z.wrap ((↑a : Int) - 1) < (↑a : Int))) && true)
noncomputable def q62 (r : Int) : SV × List Blk × List Blk := (V Z r, [], [])
noncomputable def g62 : GF := fun vs bs => match vs, bs with
  | [.ro [W Z, W Z] a b], [] => some (rs 0 (q62 (m62 a b)) [n62 a b])
  | _, _ => none
noncomputable def c62 : Ctr := genC [.ro [W Z, W Z]] g62
theorem k62 : CtrOk Tryd.prog c62 62 := cx tn mix_ok 8 (fn := Tryd.f62) (c := (Tryd.f62.body.getD .skip)) (grs := []) (rh := .k) Tryd.func62 rfl (by kernel_rfl) noLam fun vs bs q h hn => by
  unfold g62 at h
  split at h <;> cases h
  rename_i a b
  have hn := n1 hn
  exact ⟨_, rfl, ca (fun R => (cnd (decide (0 ≤ Z.wrap ((↑a : Int) - 1) ∧ Z.wrap ((↑a : Int) - 1) < (↑a : Int)))
 (R (V Z (b.ii ((Z.wrap ((↑a : Int) - 1)).toNat) 0)) [] [])
  False)) (fun R => by kernel_rfl) (cn (al hn) (lf rfl rfl))⟩
/-! ### (shotline/profile.track).leg$1 -/
noncomputable def m101 (a d : Int) (b : Dat) : Bool :=
  (decide ((b.ii 0 0) ≤ a))
noncomputable def q101 (r : Bool) : SV × List Blk × List Blk := (.bool r, [], [])
noncomputable def g101 : GF := fun vs bs => match vs, bs with
  | [.agg [V Z a, V Z d], .rp [W Z] b 0 0], [] => some (rs 0 (q101 (m101 a d b)) [])
  | _, _ => none
noncomputable def c101 : Ctr := genC [.k, .rp [W Z]] g101
theorem k101 : CtrOk Tryd.prog c101 101 := cx tn mix_ok 8 (fn := Tryd.f101) (c := (Tryd.f101.body.getD .skip)) (grs := []) (rh := .k) Tryd.func101 rfl (by kernel_rfl) noLam fun vs bs q h hn => by
  unfold g101 at h
  split at h <;> cases h
  rename_i a d b
  exact ⟨_, rfl, ca (fun R => (R (.bool (decide ((b.ii 0 0) ≤ a))) [] [])) (fun R => by kernel_rfl) (lf rfl rfl)⟩
/-! ### shotline/gas.first -/
noncomputable def l93_0 (b : Nat) (a : Dat) (i : Int) : Nat → Int → Option (Bool × (Int) × (Unit))
  | 0, _ => none
  | f + 1, g => (cond (decide (g < i)) (cond (decide (0 ≤ g ∧ g < ↑b)) (cond (bif (decide ((a.ii g.toNat 0) = 0)) then false else true) (some (true, (a.ii g.toNat 0), default)) (l93_0 b a i f (Z.wrap (g + 1)))) none) (some (false, default, ())))
noncomputable abbrev o93_0 (b : Nat) (a : Dat) (i g : Int) : Option (Bool × (Int) × (Unit)) := l93_0 b a i (b + i.toNat + g.toNat + 8) g
noncomputable def e93_0 (b : Nat) (a : Dat) (i : Int) (r : Bool × (Int) × (Unit)) (K : XR) : Prop := cnd r.1 (K (XE.ret) [V Z r.2.1] []) (K (XE.exit 0) [.any] [])
noncomputable def g93_0 : LSum := fun s k => match czv 0 15 [5, 6, 7] 0 [] s with
  | some ([.ro [W Z] b a, V Z i, V Z g], []) => needs [(o93_0 b a i g).isSome] (e93_0 b a i ((o93_0 b a i g).getD default) fun e vs bs => inBlk 0 k e (mkSt 0 15 [2] vs 0 bs))
  | _ => False
theorem z93_0 : LOk Tryd.prog g93_0 (.block 0 (bodyAt (Tryd.f93.body.getD .skip) 0)) := by
  refine lb (ι := Nat × Dat × Int × Int) (fuel := 8) (na := 0) (nt := 15) (nx := 0) (Lh := [5, 6, 7]) (Le := [2]) (gl := []) tn mix_ok noLam rfl (fun f (b, a, i, g) K => GG default (e93_0 b a i) K (l93_0 b a i f g)) (fun (b, a, i, g) => [.ro [W Z] b a, V Z i, V Z g]) (fun (b, a, i, g) => []) (fun (_, _, _, _) K => gg_none) ?_ ?_
  · rintro f ⟨b, a, i, g⟩ K hG
    refine ro (fun R => (cnd (decide (g < i))
 (cnd (decide (0 ≤ g ∧ g < ↑b))
 (cnd (bif (decide ((a.ii g.toNat 0) = 0)) then false else true)
 (R (XE.ret) [V Z (a.ii g.toNat 0)] [])
 (R (XE.normal) [.ro [W Z] b a, V Z i, V Z (Z.wrap (g + 1))] []))
   False)
 (R (XE.exit 0) [.any] []))) (fun R => by kernel_rfl) ?_
    exact ch hG (fun h0 => cg h0 fun h1 => ch h1 (fun h2 => h2.2) (fun h2 => ⟨(_, _, _, _), rfl, rfl, h2⟩)) (fun h0 => h0.2)
  · intro s k h
    unfold g93_0 at h
    split at h <;> try exact h.elim
    rename_i e1
    rw [needs_iff] at h
    exact ⟨_, e1, _, (_, _, _, _), rfl, rfl, h.1 _ (List.mem_singleton.2 rfl), h.2⟩
noncomputable def m93 (d : Nat) (j : Dat) : Int :=
  (cond ((o93_0 d j (↑d : Int) 0).getD default).1 ((o93_0 d j (↑d : Int) 0).getD default).2.1 0)
noncomputable def n93 (d : Nat) (j : Dat) : Bool :=
  (((o93_0 d j (↑d : Int) 0).isSome) && true)
noncomputable def q93 (r : Int) : SV × List Blk × List Blk := (V Z r, [], [])
noncomputable def g93 : GF := fun vs bs => match vs, bs with
  | [.ro [W Z] d j], [] => some (rs 0 (q93 (m93 d j)) [n93 d j])
  | _, _ => none
noncomputable def c93 : Ctr := genC [.ro [W Z]] g93
theorem k93 : CtrOk Tryd.prog c93 93 := cx tn mix_ok 8 (fn := Tryd.f93) (c := (Tryd.f93.body.getD .skip)) (grs := []) (rh := .k) Tryd.func93 rfl (by kernel_rfl) (lam_of rfl (lc z93_0 ln)) fun vs bs q h hn => by
  unfold g93 at h
  split at h <;> cases h
  rename_i d j
  have hn := n1 hn
  exact ⟨_, rfl, ca (fun R => (cnd ((o93_0 d j (↑d : Int) 0).isSome)
 (cnd ((o93_0 d j (↑d : Int) 0).getD default).1
 (R (V Z ((o93_0 d j (↑d : Int) 0).getD default).2.1) [] [])
 (R (V Z 0) [] []))
  False)) (fun R => by kernel_rfl) (cn (al hn) (co (fun h0 => lf (cT h0 rfl) rfl) (fun h0 => lf (cF h0 rfl) rfl)))⟩
/-! ### shotline/profile.trackOf -/
noncomputable def l61_0 (g : Nat) (i : Dat) (z : Int) (j : ByteArray) (l : Int) (m : Nat) (t u : Dat) : Nat → Nat → Int → Dat → Option (Nat × Nat × Dat)
  | 0, _, _, _ => none
  | f + 1, n, v, w => (cond (decide (v < z)) (cond (decide (0 ≤ v ∧ v < ↑g)) (cond (decide (0 ≤ Z.wrap ((↑n : Int) - 1) ∧ Z.wrap ((↑n : Int) - 1) < (↑n : Int))) (cond (decide (((Z.wrap ((↑n : Int) - 1)).toNat) < n)) (cond (decide ((n + 1) ≤ 1073741824)) (l61_0 g i z j l m t u f (n + 1) (Z.wrap (v + 1)) (w.app n (datS [V Z (Z.wrap ((w.ii ((Z.wrap ((↑n : Int) - 1)).toNat) 0) + (i.ii v.toNat 0))), V Z (i.ii v.toNat 1)] 2))) none) none) none) none) (some (n, n, w)))
noncomputable abbrev o61_0 (g : Nat) (i : Dat) (z : Int) (j : ByteArray) (l : Int) (m : Nat) (t u : Dat) (n : Nat) (v : Int) (w : Dat) : Option (Nat × Nat × Dat) := l61_0 g i z j l m t u (n + g + z.toNat + v.toNat + j.size + l.toNat + m + 8) n v w
noncomputable def e61_0 (g : Nat) (i : Dat) (z : Int) (j : ByteArray) (l : Int) (m : Nat) (t u : Dat) (r : Nat × Nat × Dat) (K : XR) : Prop := K (XE.exit 0) [.gr 1 2 r.1] [.cells 41 [.str j, V Z l, .ro [W Z, W Z] m t, .ro [W Z, W Z, W Z] g u], .row 35 [W Z, W Z] r.2.1 r.2.2]
noncomputable def g61_0 : LSum := fun s k => match czv 0 33 [3, 9, 10, 11] 2 [⟨true, 3, 0, 1, 35, [W Z, W Z]⟩] s with
  | some ([.gr 1 2 n, .ro [W Z, W Z, W Z] g i, V Z z, V Z v], [.cells 41 [.str j, V Z l, .ro [W Z, W Z] m t, .ro [W Z, W Z, W Z] b0_4 u], .row 35 [W Z, W Z] b1_0 w]) => needs [decide (g = b0_4), decide (n = b1_0), (o61_0 g i z j l m t u n v w).isSome] (e61_0 g i z j l m t u ((o61_0 g i z j l m t u n v w).getD default) fun e vs bs => inBlk 0 k e (mkSt 0 33 [3] vs 2 bs))
  | _ => False
theorem z61_0 : LOk Tryd.prog g61_0 (.block 0 (bodyAt (Tryd.f61.body.getD .skip) 0)) := by
  refine lb (ι := Nat × Nat × Dat × Int × Int × ByteArray × Int × Nat × Dat × Dat × Dat) (fuel := 8) (na := 0) (nt := 33) (nx := 2) (Lh := [3, 9, 10, 11]) (Le := [3]) (gl := [⟨true, 3, 0, 1, 35, [W Z, W Z]⟩]) tn mix_ok noLam rfl (fun f (n, g, i, z, v, j, l, m, t, u, w) K => GG default (e61_0 g i z j l m t u) K (l61_0 g i z j l m t u f n v w)) (fun (n, g, i, z, v, j, l, m, t, u, w) => [.gr 1 2 n, .ro [W Z, W Z, W Z] g i, V Z z, V Z v]) (fun (n, g, i, z, v, j, l, m, t, u, w) => [.cells 41 [.str j, V Z l, .ro [W Z, W Z] m t, .ro [W Z, W Z, W Z] g u], .row 35 [W Z, W Z] n w]) (fun (_, _, _, _, _, _, _, _, _, _, _) K => gg_none) ?_ ?_
  · rintro f ⟨n, g, i, z, v, j, l, m, t, u, w⟩ K hG
    refine ro (fun R => (cnd (decide (v < z))
 (cnd (decide (0 ≤ v ∧ v < ↑g))
 (cnd (decide (0 ≤ Z.wrap ((↑n : Int) - 1) ∧ Z.wrap ((↑n : Int) - 1) < (↑n : Int)))
 (cnd (decide (((Z.wrap ((↑n : Int) - 1)).toNat) < n))
 (cnd (decide (n ≤ n))
 (cnd (decide ((n + 1) ≤ 1073741824))
 (R (XE.normal) [.gr 1 2 (n + 1), .ro [W Z, W Z, W Z] g i, V Z z, V Z (Z.wrap (v + 1))] [.cells 41 [.str j, V Z l, .ro [W Z, W Z] m t, .ro [W Z, W Z, W Z] g u], .row 35 [W Z, W Z] (n + 1) (w.app n (datS [V Z (Z.wrap ((w.ii ((Z.wrap ((↑n : Int) - 1)).toNat) 0) + (i.ii v.toNat 0))), V Z (i.ii v.toNat 1)] 2))])
       False)
      False)
     False)
    False)
   False)
 (R (XE.exit 0) [.gr 1 2 n] [.cells 41 [.str j, V Z l, .ro [W Z, W Z] m t, .ro [W Z, W Z, W Z] g u], .row 35 [W Z, W Z] n w]))) (fun R => by kernel_rfl) ?_
    exact ch hG (fun h0 => cg h0 fun h1 => cg h1 fun h2 => cg h2 fun h3 => cn (decide_eq_true (Nat.le_refl _)) (cg h3 fun h4 => ⟨(_, _, _, _, _, _, _, _, _, _, _), rfl, rfl, h4⟩)) (fun h0 => h0.2)
  · intro s k h
    unfold g61_0 at h
    split at h <;> try exact h.elim
    rename_i e1
    rw [needs_iff] at h
    have hq := h.1
    simp only [List.mem_cons, forall_eq_or_imp, decide_eq_true_eq, List.not_mem_nil, false_imp_iff, implies_true, and_true] at hq
    obtain ⟨rfl, rfl, hq⟩ := hq
    exact ⟨_, e1, _, (_, _, _, _, _, _, _, _, _, _, _), rfl, rfl, hq, h.2⟩
noncomputable def m61 (x : ByteArray) (y : Int) (o : Nat) (p : Dat) (b : Nat) (d : Dat) : Nat × Dat :=
  (((o61_0 b d (↑b : Int) x y o p d 1 0 (datS [V Z 0, V Z 0] 2)).getD default).1, ((o61_0 b d (↑b : Int) x y o p d 1 0 (datS [V Z 0, V Z 0] 2)).getD default).2.2)
noncomputable def n61 (x : ByteArray) (y : Int) (o : Nat) (p : Dat) (b : Nat) (d : Dat) : Bool :=
  (((o61_0 b d (↑b : Int) x y o p d 1 0 (datS [V Z 0, V Z 0] 2)).isSome) && ((decide ((0 + ((o61_0 b d (↑b : Int) x y o p d 1 0 (datS [V Z 0, V Z 0] 2)).getD default).1) ≤ ((o61_0 b d (↑b : Int) x y o p d 1 0 (datS [V Z 0, V Z 0] 2)).getD default).2.1)) && true))
noncomputable def q61 (r : Nat × Dat) : SV × List Blk × List Blk := (.ro [W Z, W Z] r.1 r.2, [], [])
noncomputable def g61 : GF := fun vs bs => match vs, bs with
  | [.agg [.str x, V Z y, .ro [W Z, W Z] o p, .ro [W Z, W Z, W Z] b d]], [] => some (rs 0 (q61 (m61 x y o p b d)) [n61 x y o p b d])
  | _, _ => none
noncomputable def c61 : Ctr := genC [.a [.k, .k, .ro [W Z, W Z], .ro [W Z, W Z, W Z]]] g61
theorem k61 : CtrOk Tryd.prog c61 61 := cx tn mix_ok 8 (fn := Tryd.f61) (c := (Tryd.f61.body.getD .skip)) (grs := []) (rh := .ro [W Z, W Z]) Tryd.func61 rfl (by kernel_rfl) (lam_of rfl (lc z61_0 ln)) fun vs bs q h hn => by
  unfold g61 at h
  split at h <;> cases h
  rename_i x y o p b d
  have hn := n1 hn
  exact ⟨_, rfl, ca (fun R => (cnd (decide (b = b))
 (cnd ((o61_0 b d (↑b : Int) x y o p d 1 0 (datS [V Z 0, V Z 0] 2)).isSome)
 (cnd (decide ((0 + ((o61_0 b d (↑b : Int) x y o p d 1 0 (datS [V Z 0, V Z 0] 2)).getD default).1) ≤ ((o61_0 b d (↑b : Int) x y o p d 1 0 (datS [V Z 0, V Z 0] 2)).getD default).2.1))
 (R (.ro [W Z, W Z] ((o61_0 b d (↑b : Int) x y o p d 1 0 (datS [V Z 0, V Z 0] 2)).getD default).1 ((o61_0 b d (↑b : Int) x y o p d 1 0 (datS [V Z 0, V Z 0] 2)).getD default).2.2) [] [])
    False)
   False)
  False)) (fun R => by kernel_rfl) (cn (decide_eq_true rfl) (cn (al hn) (cn (al (ar hn)) (lf rfl rfl))))⟩

/-! ### shotline/gas.bound -/
noncomputable def m94 (a b d : Int) : Int :=
  (cond (bif (m111 a b d) then false else true) 2 0)
noncomputable def q94 (r : Int) : SV × List Blk × List Blk := (V Z r, [], [])
noncomputable def g94 : GF := fun vs bs => match vs, bs with
  | [V Z a, V Z b, V Z d], [] => some (rs 0 (q94 (m94 a b d)) [])
  | _, _ => none
noncomputable def c94 : Ctr := genC [.k, .k, .k] g94
theorem k94 : CtrOk Tryd.prog c94 94 := cx (tc k111 tn) mix_ok 8 (fn := Tryd.f94) (c := (Tryd.f94.body.getD .skip)) (grs := []) (rh := .k) Tryd.func94 rfl (by kernel_rfl) noLam fun vs bs q h hn => by
  unfold g94 at h
  split at h <;> cases h
  rename_i a b d
  exact ⟨_, rfl, ca (fun R => (cnd (bif (m111 a b d) then false else true)
 (R (V Z 2) [] [])
 (R (V Z 0) [] []))) (fun R => by kernel_rfl) (co (fun h0 => lf (cT h0 rfl) rfl) (fun h0 => lf (cF h0 rfl) rfl))⟩
/-! ### shotline/profile.isError -/
noncomputable def m69 (a : Int) : Bool :=
  (m52 a 0 30000)
noncomputable def q69 (r : Bool) : SV × List Blk × List Blk := (.bool r, [], [])
noncomputable def g69 : GF := fun vs bs => match vs, bs with
  | [V Z a], [] => some (rs 0 (q69 (m69 a)) [])
  | _, _ => none
noncomputable def c69 : Ctr := genC [.k] g69
theorem k69 : CtrOk Tryd.prog c69 69 := cx (tc k52 tn) mix_ok 8 (fn := Tryd.f69) (c := (Tryd.f69.body.getD .skip)) (grs := []) (rh := .k) Tryd.func69 rfl (by kernel_rfl) noLam fun vs bs q h hn => by
  unfold g69 at h
  split at h <;> cases h
  rename_i a
  exact ⟨_, rfl, ca (fun R => (R (.bool (m52 a 0 30000)) [] [])) (fun R => by kernel_rfl) (lf rfl rfl)⟩
/-! ### shotline/profile.isName -/
noncomputable def l57_0 (b : ByteArray) (g : Int) : Nat → Int → Option (Bool × (Bool) × (Unit))
  | 0, _ => none
  | f + 1, a => (cond (decide (a < g)) (cond (decide (0 ≤ a ∧ a < (↑b.size : Int))) (cond (bif (bif (decide (97 ≤ (byteAt b a.toNat))) then false else true) then true else (decide (0 ≤ a ∧ a < (↑b.size : Int)))) (cond (bif (bif (bif (bif (decide (97 ≤ (byteAt b a.toNat))) then (decide ((byteAt b a.toNat) ≤ 122)) else false) then false else true) then false else true) then true else (decide (0 ≤ a ∧ a < (↑b.size : Int)))) (cond (bif (bif (bif (bif (bif (decide (97 ≤ (byteAt b a.toNat))) then (decide ((byteAt b a.toNat) ≤ 122)) else false) then false else true) then (decide (65 ≤ (byteAt b a.toNat))) else false) then false else true) then true else (decide (0 ≤ a ∧ a < (↑b.size : Int)))) (cond (bif (bif (bif (bif (bif (bif (decide (97 ≤ (byteAt b a.toNat))) then (decide ((byteAt b a.toNat) ≤ 122)) else false) then true else (bif (decide (65 ≤ (byteAt b a.toNat))) then (decide ((byteAt b a.toNat) ≤ 90)) else false)) then false else true) then (bif (decide (a = 0)) then false else true) else false) then false else true) then true else (decide (0 ≤ a ∧ a < (↑b.size : Int)))) (cond (bif (bif (bif (bif (bif (bif (bif (decide (97 ≤ (byteAt b a.toNat))) then (decide ((byteAt b a.toNat) ≤ 122)) else false) then true else (bif (decide (65 ≤ (byteAt b a.toNat))) then (decide ((byteAt b a.toNat) ≤ 90)) else false)) then false else true) then (bif (decide (a = 0)) then false else true) else false) then (bif (decide ((byteAt b a.toNat) = 45)) then false else true) else false) then false else true) then true else (decide (0 ≤ a ∧ a < (↑b.size : Int)))) (cond (bif (bif (bif (bif (bif (bif (bif (bif (decide (97 ≤ (byteAt b a.toNat))) then (decide ((byteAt b a.toNat) ≤ 122)) else false) then true else (bif (decide (65 ≤ (byteAt b a.toNat))) then (decide ((byteAt b a.toNat) ≤ 90)) else false)) then false else true) then (bif (decide (a = 0)) then false else true) else false) then (bif (decide ((byteAt b a.toNat) = 45)) then false else true) else false) then (bif (decide ((byteAt b a.toNat) < 48)) then false else true) else false) then false else true) then true else (decide (0 ≤ a ∧ a < (↑b.size : Int)))) (cond (bif (bif (bif (bif (decide (97 ≤ (byteAt b a.toNat))) then (decide ((byteAt b a.toNat) ≤ 122)) else false) then true else (bif (decide (65 ≤ (byteAt b a.toNat))) then (decide ((byteAt b a.toNat) ≤ 90)) else false)) then false else true) then (bif (decide (a = 0)) then true else (bif (bif (decide ((byteAt b a.toNat) = 45)) then false else true) then (bif (decide ((byteAt b a.toNat) < 48)) then true else (decide (57 < (byteAt b a.toNat)))) else false)) else false) (some (true, false, default)) (l57_0 b g f (Z.wrap (a + 1)))) none) none) none) none) none) none) none) (some (false, default, ())))
noncomputable abbrev o57_0 (b : ByteArray) (g a : Int) : Option (Bool × (Bool) × (Unit)) := l57_0 b g (b.size + g.toNat + a.toNat + 8) a
noncomputable def e57_0 (b : ByteArray) (g : Int) (r : Bool × (Bool) × (Unit)) (K : XR) : Prop := cnd r.1 (K (XE.ret) [.str b, .bool r.2.1] []) (K (XE.exit 0) [.str b, .any] [])
noncomputable def g57_0 : LSum := fun s k => match czv 0 64 [0, 6, 7] 0 [] s with
  | some ([.str b, V Z g, V Z a], []) => needs [(o57_0 b g a).isSome] (e57_0 b g ((o57_0 b g a).getD default) fun e vs bs => inBlk 0 k e (mkSt 0 64 [0, 2] vs 0 bs))
  | _ => False
theorem z57_0 : LOk Tryd.prog g57_0 (.block 0 (bodyAt (Tryd.f57.body.getD .skip) 0)) := by
  refine lb (ι := ByteArray × Int × Int) (fuel := 8) (na := 0) (nt := 64) (nx := 0) (Lh := [0, 6, 7]) (Le := [0, 2]) (gl := []) tn mix_ok noLam rfl (fun f (b, g, a) K => GG default (e57_0 b g) K (l57_0 b g f a)) (fun (b, g, a) => [.str b, V Z g, V Z a]) (fun (b, g, a) => []) (fun (_, _, _) K => gg_none) ?_ ?_
  · rintro f ⟨b, g, a⟩ K hG
    refine ro (fun R => (cnd (decide (a < g))
 (cnd (decide (0 ≤ a ∧ a < (↑b.size : Int)))
 (cnd (bif (bif (decide (97 ≤ (byteAt b a.toNat))) then false else true) then true else (decide (0 ≤ a ∧ a < (↑b.size : Int))))
 (cnd (bif (bif (bif (bif (decide (97 ≤ (byteAt b a.toNat))) then (decide ((byteAt b a.toNat) ≤ 122)) else false) then false else true) then false else true) then true else (decide (0 ≤ a ∧ a < (↑b.size : Int))))
 (cnd (bif (bif (bif (bif (bif (decide (97 ≤ (byteAt b a.toNat))) then (decide ((byteAt b a.toNat) ≤ 122)) else false) then false else true) then (decide (65 ≤ (byteAt b a.toNat))) else false) then false else true) then true else (decide (0 ≤ a ∧ a < (↑b.size : Int))))
 (cnd (bif (bif (bif (bif (bif (bif (decide (97 ≤ (byteAt b a.toNat))) then (decide ((byteAt b a.toNat) ≤ 122)) else false) then true else (bif (decide (65 ≤ (byteAt b a.toNat))) then (decide ((byteAt b a.toNat) ≤ 90)) else false)) then false else true) then (bif (decide (a = 0)) then false else true) else false) then false else true) then true else (decide (0 ≤ a ∧ a < (↑b.size : Int))))
 (cnd (bif (bif (bif (bif (bif (bif (bif (decide (97 ≤ (byteAt b a.toNat))) then (decide ((byteAt b a.toNat) ≤ 122)) else false) then true else (bif (decide (65 ≤ (byteAt b a.toNat))) then (decide ((byteAt b a.toNat) ≤ 90)) else false)) then false else true) then (bif (decide (a = 0)) then false else true) else false) then (bif (decide ((byteAt b a.toNat) = 45)) then false else true) else false) then false else true) then true else (decide (0 ≤ a ∧ a < (↑b.size : Int))))
 (cnd (bif (bif (bif (bif (bif (bif (bif (bif (decide (97 ≤ (byteAt b a.toNat))) then (decide ((byteAt b a.toNat) ≤ 122)) else false) then true else (bif (decide (65 ≤ (byteAt b a.toNat))) then (decide ((byteAt b a.toNat) ≤ 90)) else false)) then false else true) then (bif (decide (a = 0)) then false else true) else false) then (bif (decide ((byteAt b a.toNat) = 45)) then false else true) else false) then (bif (decide ((byteAt b a.toNat) < 48)) then false else true) else false) then false else true) then true else (decide (0 ≤ a ∧ a < (↑b.size : Int))))
 (cnd (bif (bif (bif (bif (decide (97 ≤ (byteAt b a.toNat))) then (decide ((byteAt b a.toNat) ≤ 122)) else false) then true else (bif (decide (65 ≤ (byteAt b a.toNat))) then (decide ((byteAt b a.toNat) ≤ 90)) else false)) then false else true) then (bif (decide (a = 0)) then true else (bif (bif (decide ((byteAt b a.toNat) = 45)) then false else true) then (bif (decide ((byteAt b a.toNat) < 48)) then true else (decide (57 < (byteAt b a.toNat)))) else false)) else false)
 (R (XE.ret) [.str b, .bool false] [])
 (R (XE.normal) [.str b, V Z g, V Z (Z.wrap (a + 1))] []))
         False)
        False)
       False)
      False)
     False)
    False)
   False)
 (R (XE.exit 0) [.str b, .any] []))) (fun R => by kernel_rfl) ?_
    exact ch hG (fun h0 => cg h0 fun h1 => cg h1 fun h2 => cg h2 fun h3 => cg h3 fun h4 => cg h4 fun h5 => cg h5 fun h6 => cg h6 fun h7 => ch h7 (fun h8 => h8.2) (fun h8 => ⟨(_, _, _), rfl, rfl, h8⟩)) (fun h0 => h0.2)
  · intro s k h
    unfold g57_0 at h
    split at h <;> try exact h.elim
    rename_i e1
    rw [needs_iff] at h
    exact ⟨_, e1, _, (_, _, _), rfl, rfl, h.1 _ (List.mem_singleton.2 rfl), h.2⟩
noncomputable def m57 (d : ByteArray) : Bool :=
  (cond ((o57_0 d (↑d.size : Int) 0).getD default).1 ((o57_0 d (↑d.size : Int) 0).getD default).2.1 (bif (bif (decide (d = ({ data := #[] } : ByteArray))) then false else true) then (decide ((↑d.size : Int) ≤ 12)) else false))
noncomputable def n57 (d : ByteArray) : Bool :=
  (((o57_0 d (↑d.size : Int) 0).isSome) && true)
noncomputable def q57 (r : Bool) : SV × List Blk × List Blk := (.bool r, [], [])
noncomputable def g57 : GF := fun vs bs => match vs, bs with
  | [.str d], [] => some (rs 0 (q57 (m57 d)) [n57 d])
  | _, _ => none
noncomputable def c57 : Ctr := genC [.k] g57
theorem k57 : CtrOk Tryd.prog c57 57 := cx tn mix_ok 8 (fn := Tryd.f57) (c := (Tryd.f57.body.getD .skip)) (grs := []) (rh := .k) Tryd.func57 rfl (by kernel_rfl) (lam_of rfl (lc z57_0 ln)) fun vs bs q h hn => by
  unfold g57 at h
  split at h <;> cases h
  rename_i d
  have hn := n1 hn
  exact ⟨_, rfl, ca (fun R => (cnd ((o57_0 d (↑d.size : Int) 0).isSome)
 (cnd ((o57_0 d (↑d.size : Int) 0).getD default).1
 (R (.bool ((o57_0 d (↑d.size : Int) 0).getD default).2.1) [] [])
 (R (.bool (bif (bif (decide (d = ({ data := #[] } : ByteArray))) then false else true) then (decide ((↑d.size : Int) ≤ 12)) else false)) [] []))
  False)) (fun R => by kernel_rfl) (cn (al hn) (co (fun h0 => lf (cT h0 rfl) rfl) (fun h0 => lf (cF h0 rfl) rfl)))⟩
/-! ### slices.IndexFunc[shotline/profile.track,shotline/api.DivePoint] -/
noncomputable def l100c101_0 (b : Nat) (a j : Dat) (i : Int) : Nat → Int → Option (Bool × (Int) × (Unit))
  | 0, _ => none
  | f + 1, d => (cond (decide (d < i)) (cond (decide (0 ≤ d ∧ d < ↑b)) (cond (m101 (a.ii d.toNat 0) (a.ii d.toNat 1) j) (some (true, d, default)) (l100c101_0 b a j i f (Z.wrap (d + 1)))) none) (some (false, default, ())))
noncomputable abbrev o100c101_0 (b : Nat) (a j : Dat) (i d : Int) : Option (Bool × (Int) × (Unit)) := l100c101_0 b a j i (b + i.toNat + d.toNat + 8) d
noncomputable def e100c101_0 (b : Nat) (a j : Dat) (i : Int) (r : Bool × (Int) × (Unit)) (K : XR) : Prop := cnd r.1 (K (XE.ret) [V Z r.2.1] []) (K (XE.exit 0) [.any] [])
noncomputable def g100c101_0 : LSum := fun s k => match czv 0 19 [0, 1, 7, 8] 0 [] s with
  | some ([.ro [W Z, W Z] b a, .fn 101 [.rp [W Z] j 0 0], V Z i, V Z d], []) => needs [(o100c101_0 b a j i d).isSome] (e100c101_0 b a j i ((o100c101_0 b a j i d).getD default) fun e vs bs => inBlk 0 k e (mkSt 0 19 [4] vs 0 bs))
  | _ => False
theorem z100c101_0 : LOk Tryd.prog g100c101_0 (.block 0 (bodyAt (Tryd.f100.body.getD .skip) 0)) := by
  refine lb (ι := Nat × Dat × Dat × Int × Int) (fuel := 8) (na := 0) (nt := 19) (nx := 0) (Lh := [0, 1, 7, 8]) (Le := [4]) (gl := []) (tc k101 tn) mix_ok noLam rfl (fun f (b, a, j, i, d) K => GG default (e100c101_0 b a j i) K (l100c101_0 b a j i f d)) (fun (b, a, j, i, d) => [.ro [W Z, W Z] b a, .fn 101 [.rp [W Z] j 0 0], V Z i, V Z d]) (fun (b, a, j, i, d) => []) (fun (_, _, _, _, _) K => gg_none) ?_ ?_
  · rintro f ⟨b, a, j, i, d⟩ K hG
    refine ro (fun R => (cnd (decide (d < i))
 (cnd (decide (0 ≤ d ∧ d < ↑b))
 (cnd (m101 (a.ii d.toNat 0) (a.ii d.toNat 1) j)
 (R (XE.ret) [V Z d] [])
 (R (XE.normal) [.ro [W Z, W Z] b a, .fn 101 [.rp [W Z] j 0 0], V Z i, V Z (Z.wrap (d + 1))] []))
   False)
 (R (XE.exit 0) [.any] []))) (fun R => by kernel_rfl) ?_
    exact ch hG (fun h0 => cg h0 fun h1 => ch h1 (fun h2 => h2.2) (fun h2 => ⟨(_, _, _, _, _), rfl, rfl, h2⟩)) (fun h0 => h0.2)
  · intro s k h
    unfold g100c101_0 at h
    split at h <;> try exact h.elim
    rename_i e1
    rw [needs_iff] at h
    exact ⟨_, e1, _, (_, _, _, _, _), rfl, rfl, h.1 _ (List.mem_singleton.2 rfl), h.2⟩
noncomputable def m100c101 (g : Nat) (l da1c0 : Dat) : Int :=
  (cond ((o100c101_0 g l da1c0 (↑g : Int) 0).getD default).1 ((o100c101_0 g l da1c0 (↑g : Int) 0).getD default).2.1 (-1))
noncomputable def n100c101 (g : Nat) (l da1c0 : Dat) : Bool :=
  (((o100c101_0 g l da1c0 (↑g : Int) 0).isSome) && true)
noncomputable def q100c101 (r : Int) : SV × List Blk × List Blk := (V Z r, [], [])
noncomputable def g100c101 : GF := fun vs bs => match vs, bs with
  | [.ro [W Z, W Z] g l, .fn 101 [.rp [W Z] da1c0 0 0]], [] => some (rs 0 (q100c101 (m100c101 g l da1c0)) [n100c101 g l da1c0])
  | _, _ => none
noncomputable def c100c101 : Ctr := genC [.ro [W Z, W Z], .f [.rp [W Z]]] g100c101
theorem k100c101 : CtrOk Tryd.prog c100c101 100 := cx (tc k101 tn) mix_ok 8 (fn := Tryd.f100) (c := (Tryd.f100.body.getD .skip)) (grs := []) (rh := .k) Tryd.func100 rfl (by kernel_rfl) (lam_of rfl (lc z100c101_0 ln)) fun vs bs q h hn => by
  unfold g100c101 at h
  split at h <;> cases h
  rename_i g l da1c0
  have hn := n1 hn
  exact ⟨_, rfl, ca (fun R => (cnd ((o100c101_0 g l da1c0 (↑g : Int) 0).isSome)
 (cnd ((o100c101_0 g l da1c0 (↑g : Int) 0).getD default).1
 (R (V Z ((o100c101_0 g l da1c0 (↑g : Int) 0).getD default).2.1) [] [])
 (R (V Z (-1)) [] []))
  False)) (fun R => by kernel_rfl) (cn (al hn) (co (fun h0 => lf (cT h0 rfl) rfl) (fun h0 => lf (cF h0 rfl) rfl)))⟩
/-! ### shotline/profile.CheckPoints -/
noncomputable def l15_1 (d : Nat) (i a : Dat) (j : Int) : Nat → Int → Option (Bool × (Int) × (Unit))
  | 0, _ => none
  | f + 1, b => (cond (decide (b < j)) (cond (decide (0 ≤ b ∧ b < ↑d)) (cond (bif (bif (m52 (a.ii b.toNat 0) 0 1000000) then false else true) then true else (bif (m52 (a.ii b.toNat 1) 0 30000) then false else true)) (some (true, 2, default)) (cond (bif (bif (decide ((0 : Int) < b)) then false else true) then true else (decide (0 ≤ Z.wrap (b - 1) ∧ Z.wrap (b - 1) < (↑d : Int)))) (cond (bif (decide ((0 : Int) < b)) then (decide ((a.ii b.toNat 0) ≤ (i.ii ((Z.wrap (b - 1)).toNat) 0))) else false) (some (true, 9, default)) (l15_1 d i a j f (Z.wrap (b + 1)))) none)) none) (some (false, default, ())))
noncomputable abbrev o15_1 (d : Nat) (i a : Dat) (j b : Int) : Option (Bool × (Int) × (Unit)) := l15_1 d i a j (d + j.toNat + b.toNat + 8) b
noncomputable def e15_1 (d : Nat) (i a : Dat) (j : Int) (r : Bool × (Int) × (Unit)) (K : XR) : Prop := cnd r.1 (K (XE.ret) [V Z r.2.1] []) (K (XE.exit 1) [.any] [])
noncomputable def g15_1 : LSum := fun s k => match czv 0 46 [0, 13, 14, 15] 0 [] s with
  | some ([.ro [W Z, W Z] d i, .ro [W Z, W Z] t13_0 a, V Z j, V Z b], []) => needs [decide (d = t13_0), (o15_1 d i a j b).isSome] (e15_1 d i a j ((o15_1 d i a j b).getD default) fun e vs bs => inBlk 1 k e (mkSt 0 46 [2] vs 0 bs))
  | _ => False
theorem z15_1 : LOk Tryd.prog g15_1 (.block 1 (bodyAt (Tryd.f15.body.getD .skip) 1)) := by
  refine lb (ι := Nat × Dat × Dat × Int × Int) (fuel := 8) (na := 0) (nt := 46) (nx := 0) (Lh := [0, 13, 14, 15]) (Le := [2]) (gl := []) (tc k52 tn) mix_ok noLam rfl (fun f (d, i, a, j, b) K => GG default (e15_1 d i a j) K (l15_1 d i a j f b)) (fun (d, i, a, j, b) => [.ro [W Z, W Z] d i, .ro [W Z, W Z] d a, V Z j, V Z b]) (fun (d, i, a, j, b) => []) (fun (_, _, _, _, _) K => gg_none) ?_ ?_
  · rintro f ⟨d, i, a, j, b⟩ K hG
    refine ro (fun R => (cnd (decide (b < j))
 (cnd (decide (0 ≤ b ∧ b < ↑d))
 (cnd (bif (bif (m52 (a.ii b.toNat 0) 0 1000000) then false else true) then true else (bif (m52 (a.ii b.toNat 1) 0 30000) then false else true))
 (R (XE.ret) [V Z 2] [])
 (cnd (bif (bif (decide ((0 : Int) < b)) then false else true) then true else (decide (0 ≤ Z.wrap (b - 1) ∧ Z.wrap (b - 1) < (↑d : Int))))
 (cnd (bif (decide ((0 : Int) < b)) then (decide ((a.ii b.toNat 0) ≤ (i.ii ((Z.wrap (b - 1)).toNat) 0))) else false)
 (R (XE.ret) [V Z 9] [])
 (R (XE.normal) [.ro [W Z, W Z] d i, .ro [W Z, W Z] d a, V Z j, V Z (Z.wrap (b + 1))] []))
     False))
   False)
 (R (XE.exit 1) [.any] []))) (fun R => by kernel_rfl) ?_
    exact ch hG (fun h0 => cg h0 fun h1 => ch h1 (fun h2 => h2.2) (fun h2 => cg h2 fun h3 => ch h3 (fun h4 => h4.2) (fun h4 => ⟨(_, _, _, _, _), rfl, rfl, h4⟩))) (fun h0 => h0.2)
  · intro s k h
    unfold g15_1 at h
    split at h <;> try exact h.elim
    rename_i e1
    rw [needs_iff] at h
    have hq := h.1
    simp only [List.mem_cons, forall_eq_or_imp, decide_eq_true_eq, List.not_mem_nil, false_imp_iff, implies_true, and_true] at hq
    obtain ⟨rfl, hq⟩ := hq
    exact ⟨_, e1, _, (_, _, _, _, _), rfl, rfl, hq, h.2⟩
noncomputable def m15 (g : Nat) (l : Dat) : Int :=
  (cond (decide ((↑g : Int) < 2)) 10 (cond (decide ((200 : Int) < (↑g : Int))) 8 (cond ((o15_1 g l l (↑g : Int) 0).getD default).1 ((o15_1 g l l (↑g : Int) 0).getD default).2.1 0)))
noncomputable def n15 (g : Nat) (l : Dat) : Bool :=
  (cond (decide ((↑g : Int) < 2)) true (cond (decide ((200 : Int) < (↑g : Int))) true (((o15_1 g l l (↑g : Int) 0).isSome) && true)))
noncomputable def q15 (r : Int) : SV × List Blk × List Blk := (V Z r, [], [])
noncomputable def g15 : GF := fun vs bs => match vs, bs with
  | [.ro [W Z, W Z] g l], [] => some (rs 0 (q15 (m15 g l)) [n15 g l])
  | _, _ => none
noncomputable def c15 : Ctr := genC [.ro [W Z, W Z]] g15
theorem k15 : CtrOk Tryd.prog c15 15 := cx (tc k52 tn) mix_ok 8 (fn := Tryd.f15) (c := (Tryd.f15.body.getD .skip)) (grs := []) (rh := .k) Tryd.func15 rfl (by kernel_rfl) (lam_of rfl (lc z15_1 ln)) fun vs bs q h hn => by
  unfold g15 at h
  split at h <;> cases h
  rename_i g l
  have hn := n1 hn
  exact ⟨_, rfl, ca (fun R => (cnd (decide ((↑g : Int) < 2))
 (R (V Z 10) [] [])
 (cnd (decide ((200 : Int) < (↑g : Int)))
 (R (V Z 8) [] [])
 (cnd (decide (g = g))
 (cnd ((o15_1 g l l (↑g : Int) 0).isSome)
 (cnd ((o15_1 g l l (↑g : Int) 0).getD default).1
 (R (V Z ((o15_1 g l l (↑g : Int) 0).getD default).2.1) [] [])
 (R (V Z 0) [] []))
     False)
    False)))) (fun R => by kernel_rfl) (co (fun h0 => lf (cT h0 rfl) rfl) (fun h0 => co (fun h1 => lf (cF h0 (cT h1 rfl)) rfl) (fun h1 => cn (decide_eq_true rfl) (cn (al (cf h1 (cf h0 hn))) (co (fun h2 => lf (cF h0 (cF h1 (cT h2 rfl))) rfl) (fun h2 => lf (cF h0 (cF h1 (cF h2 rfl))) rfl))))))⟩
/-! ### shotline/shotlinelaw02.Reef -/
noncomputable def m47  : ByteArray × Int × Dat × Dat :=
  (({ data := #[OfNat.ofNat 112] } : ByteArray), 1013, (datS [V Z 210, V Z 0, V Z 500, V Z 0] 2), (datS [V Z 60, V Z 1800, V Z 0, V Z 600, V Z 1800, V Z 0, V Z 120, V Z 600, V Z 0, V Z 300, V Z 600, V Z 1] 3))
noncomputable def q47 (r : ByteArray × Int × Dat × Dat) : SV × List Blk × List Blk := (.agg [.str r.1, V Z r.2.1, .ro [W Z, W Z] 2 r.2.2.1, .ro [W Z, W Z, W Z] 4 r.2.2.2], [], [])
noncomputable def g47 : GF := fun vs bs => match vs, bs with
  | [], [] => some (rs 0 (q47 (m47)) [])
  | _, _ => none
noncomputable def c47 : Ctr := genC [] g47
theorem k47 : CtrOk Tryd.prog c47 47 := cx tn mix_ok 8 (fn := Tryd.f47) (c := (Tryd.f47.body.getD .skip)) (grs := []) (rh := .t [.k, .k, .ro [W Z, W Z], .ro [W Z, W Z, W Z]]) Tryd.func47 rfl (by kernel_rfl) noLam fun vs bs q h hn => by
  unfold g47 at h
  split at h <;> cases h
  exact ⟨_, rfl, ca (fun R => (R (.agg [.str ({ data := #[OfNat.ofNat 112] } : ByteArray), V Z 1013, .ro [W Z, W Z] 2 (datS [V Z 210, V Z 0, V Z 500, V Z 0] 2), .ro [W Z, W Z, W Z] 4 (datS [V Z 60, V Z 1800, V Z 0, V Z 600, V Z 1800, V Z 0, V Z 120, V Z 600, V Z 0, V Z 300, V Z 600, V Z 1] 3)]) [] [])) (fun R => by kernel_rfl) (lf rfl rfl)⟩
/-! ### shotline/shotlinelaw02.Four -/
noncomputable def m50  : Dat :=
  (datS [V Z 0, V Z 0, V Z 10, V Z 100, V Z 20, V Z 190, V Z 30, V Z 300] 2)
noncomputable def q50 (r : Dat) : SV × List Blk × List Blk := (.ro [W Z, W Z] 4 r, [], [])
noncomputable def g50 : GF := fun vs bs => match vs, bs with
  | [], [] => some (rs 0 (q50 (m50)) [])
  | _, _ => none
noncomputable def c50 : Ctr := genC [] g50
theorem k50 : CtrOk Tryd.prog c50 50 := cx tn mix_ok 8 (fn := Tryd.f50) (c := (Tryd.f50.body.getD .skip)) (grs := []) (rh := .ro [W Z, W Z]) Tryd.func50 rfl (by kernel_rfl) noLam fun vs bs q h hn => by
  unfold g50 at h
  split at h <;> cases h
  exact ⟨_, rfl, ca (fun R => (R (.ro [W Z, W Z] 4 (datS [V Z 0, V Z 0, V Z 10, V Z 100, V Z 20, V Z 190, V Z 30, V Z 300] 2)) [] [])) (fun R => by kernel_rfl) (lf rfl rfl)⟩
/-! ### (shotline/profile.track).leg -/
noncomputable def m79 (a : Nat) (b : Dat) (d : Int) : Int :=
  (Z.wrap (1 + (m100c101 (((↑a : Int) - 1).toNat) (b.shift 1) (datC [V Z d]))))
noncomputable def n79 (a : Nat) (b : Dat) (d : Int) : Bool :=
  ((decide ((0 : Int) ≤ (1 : Int) ∧ (1 : Int) ≤ (↑a : Int) ∧ (↑a : Int) ≤ (↑a : Int))) && ((n100c101 (((↑a : Int) - 1).toNat) (b.shift 1) (datC [V Z d])) && true))
noncomputable def q79 (r : Int) : SV × List Blk × List Blk := (V Z r, [], [])
noncomputable def g79 : GF := fun vs bs => match vs, bs with
  | [.ro [W Z, W Z] a b, V Z d], [] => some (rs 0 (q79 (m79 a b d)) [n79 a b d])
  | _, _ => none
noncomputable def c79 : Ctr := genC [.ro [W Z, W Z], .k] g79
theorem k79 : CtrOk Tryd.prog c79 79 := cx (tc k100c101 (tc k101 tn)) mix_ok 8 (fn := Tryd.f79) (c := (Tryd.f79.body.getD .skip)) (grs := []) (rh := .k) Tryd.func79 rfl (by kernel_rfl) noLam fun vs bs q h hn => by
  unfold g79 at h
  split at h <;> cases h
  rename_i a b d
  have hn := n1 hn
  exact ⟨_, rfl, ca (fun R => (cnd (decide ((0 : Int) ≤ (1 : Int) ∧ (1 : Int) ≤ (↑a : Int) ∧ (↑a : Int) ≤ (↑a : Int)))
 (cnd (n100c101 (((↑a : Int) - 1).toNat) (b.shift 1) (datC [V Z d]))
 (R (V Z (Z.wrap (1 + (m100c101 (((↑a : Int) - 1).toNat) (b.shift 1) (datC [V Z d]))))) [] [])
   False)
  False)) (fun R => by kernel_rfl) (cn (al hn) (cn (al (ar hn)) (lf rfl rfl)))⟩
/-! ### shotline/gas.CheckGas -/
noncomputable def m58 (a b : Int) : Int :=
  (cond (bif (decide ((m93 2 (datS [V Z (m94 a 0 1000), V Z (m94 b 0 1000)] 1)) = 0)) then false else true) (m93 2 (datS [V Z (m94 a 0 1000), V Z (m94 b 0 1000)] 1)) (cond (decide ((1000 : Int) < (Z.wrap (a + b)))) 23 0))
noncomputable def n58 (a b : Int) : Bool :=
  ((n93 2 (datS [V Z (m94 a 0 1000), V Z (m94 b 0 1000)] 1)) && true)
noncomputable def q58 (r : Int) : SV × List Blk × List Blk := (V Z r, [], [])
noncomputable def g58 : GF := fun vs bs => match vs, bs with
  | [.agg [V Z a, V Z b]], [] => some (rs 0 (q58 (m58 a b)) [n58 a b])
  | _, _ => none
noncomputable def c58 : Ctr := genC [.k] g58
theorem k58 : CtrOk Tryd.prog c58 58 := cx (tc k93 (tc k94 tn)) mix_ok 8 (fn := Tryd.f58) (c := (Tryd.f58.body.getD .skip)) (grs := []) (rh := .k) Tryd.func58 rfl (by kernel_rfl) noLam fun vs bs q h hn => by
  unfold g58 at h
  split at h <;> cases h
  rename_i a b
  have hn := n1 hn
  exact ⟨_, rfl, ca (fun R => (cnd (n93 2 (datS [V Z (m94 a 0 1000), V Z (m94 b 0 1000)] 1))
 (cnd (bif (decide ((m93 2 (datS [V Z (m94 a 0 1000), V Z (m94 b 0 1000)] 1)) = 0)) then false else true)
 (R (V Z (m93 2 (datS [V Z (m94 a 0 1000), V Z (m94 b 0 1000)] 1))) [] [])
 (cnd (decide ((1000 : Int) < (Z.wrap (a + b))))
 (R (V Z 23) [] [])
 (R (V Z 0) [] [])))
  False)) (fun R => by kernel_rfl) (cn (al hn) (co (fun h0 => lf (cT h0 rfl) rfl) (fun h0 => co (fun h1 => lf (cF h0 (cT h1 rfl)) rfl) (fun h1 => lf (cF h0 (cF h1 rfl)) rfl))))⟩
/-! ### shotline/profile.checkThin -/
noncomputable def m81 (a : Nat) (b : Dat) (d : Int) : Int :=
  (cond (bif (decide ((m15 a b) = 0)) then false else true) (m15 a b) (cond (bif (m69 d) then false else true) 2 0))
noncomputable def n81 (a : Nat) (b : Dat) (d : Int) : Bool :=
  ((n15 a b) && true)
noncomputable def q81 (r : Int) : SV × List Blk × List Blk := (V Z r, [], [])
noncomputable def g81 : GF := fun vs bs => match vs, bs with
  | [.ro [W Z, W Z] a b, V Z d], [] => some (rs 0 (q81 (m81 a b d)) [n81 a b d])
  | _, _ => none
noncomputable def c81 : Ctr := genC [.ro [W Z, W Z], .k] g81
theorem k81 : CtrOk Tryd.prog c81 81 := cx (tc k69 (tc k15 tn)) mix_ok 8 (fn := Tryd.f81) (c := (Tryd.f81.body.getD .skip)) (grs := []) (rh := .k) Tryd.func81 rfl (by kernel_rfl) noLam fun vs bs q h hn => by
  unfold g81 at h
  split at h <;> cases h
  rename_i a b d
  have hn := n1 hn
  exact ⟨_, rfl, ca (fun R => (cnd (n15 a b)
 (cnd (bif (decide ((m15 a b) = 0)) then false else true)
 (R (V Z (m15 a b)) [] [])
 (cnd (bif (m69 d) then false else true)
 (R (V Z 2) [] [])
 (R (V Z 0) [] [])))
  False)) (fun R => by kernel_rfl) (cn (al hn) (co (fun h0 => lf (cT h0 rfl) rfl) (fun h0 => co (fun h1 => lf (cF h0 (cT h1 rfl)) rfl) (fun h1 => lf (cF h0 (cF h1 rfl)) rfl))))⟩
/-! ### (shotline/profile.track).at -/
noncomputable def m53 (b : Nat) (a : Dat) (d : Int) : Int × Int :=
  (cond (bif (decide ((m79 b a d) = 0)) then true else (decide (d = (a.ii 0 0)))) ((a.ii 0 1), 1) (cond (decide (d = (a.ii ((m79 b a d).toNat) 0))) ((a.ii ((m79 b a d).toNat) 1), 1) ((Z.wrap ((Z.wrap ((a.ii ((Z.wrap ((m79 b a d) - 1)).toNat) 1) * (Z.wrap ((a.ii ((m79 b a d).toNat) 0) - d)))) + (Z.wrap ((a.ii ((m79 b a d).toNat) 1) * (Z.wrap (d - (a.ii ((Z.wrap ((m79 b a d) - 1)).toNat) 0))))))), (Z.wrap ((a.ii ((m79 b a d).toNat) 0) - (a.ii ((Z.wrap ((m79 b a d) - 1)).toNat) 0))))))
noncomputable def n53 (b : Nat) (a : Dat) (d : Int) : Bool :=
  ((n79 b a d) && ((bif (bif (bif (decide ((m79 b a d) = 0)) then false else true) then false else true) then true else (decide ((0 : Int) ≤ (0 : Int) ∧ (0 : Int) < (↑b : Int)))) && (cond (bif (decide ((m79 b a d) = 0)) then true else (decide (d = (a.ii 0 0)))) ((decide ((0 : Int) ≤ (0 : Int) ∧ (0 : Int) < (↑b : Int))) && true) ((decide (0 ≤ Z.wrap (m79 b a d - 1) ∧ Z.wrap (m79 b a d - 1) < (↑b : Int))) && ((decide (0 ≤ m79 b a d ∧ m79 b a d < (↑b : Int))) && true)))))
noncomputable def q53 (r : Int × Int) : SV × List Blk × List Blk := (.agg [V Z r.1, V Z r.2], [], [])
noncomputable def g53 : GF := fun vs bs => match vs, bs with
  | [.ro [W Z, W Z] b a, V Z d], [] => some (rs 0 (q53 (m53 b a d)) [n53 b a d])
  | _, _ => none
noncomputable def c53 : Ctr := genC [.ro [W Z, W Z], .k] g53
theorem k53 : CtrOk Tryd.prog c53 53 := cx (tc k79 tn) mix_ok 8 (fn := Tryd.f53) (c := (Tryd.f53.body.getD .skip)) (grs := []) (rh := .k) Tryd.func53 rfl (by kernel_rfl) noLam fun vs bs q h hn => by
  unfold g53 at h
  split at h <;> cases h
  rename_i b a d
  have hn := n1 hn
  exact ⟨_, rfl, ca (fun R => (cnd (n79 b a d)
 (cnd (bif (bif (bif (decide ((m79 b a d) = 0)) then false else true) then false else true) then true else (decide ((0 : Int) ≤ (0 : Int) ∧ (0 : Int) < (↑b : Int))))
 (cnd (bif (decide ((m79 b a d) = 0)) then true else (decide (d = (a.ii 0 0))))
 (cnd (decide ((0 : Int) ≤ (0 : Int) ∧ (0 : Int) < (↑b : Int)))
 (R (.agg [V Z (a.ii 0 1), V Z 1]) [] [])
     False)
 (cnd (decide (0 ≤ Z.wrap (m79 b a d - 1) ∧ Z.wrap (m79 b a d - 1) < (↑b : Int)))
 (cnd (decide (0 ≤ m79 b a d ∧ m79 b a d < (↑b : Int)))
 (cnd (decide (d = (a.ii ((m79 b a d).toNat) 0)))
 (R (.agg [V Z (a.ii ((m79 b a d).toNat) 1), V Z 1]) [] [])
 (R (.agg [V Z (Z.wrap ((Z.wrap ((a.ii ((Z.wrap ((m79 b a d) - 1)).toNat) 1) * (Z.wrap ((a.ii ((m79 b a d).toNat) 0) - d)))) + (Z.wrap ((a.ii ((m79 b a d).toNat) 1) * (Z.wrap (d - (a.ii ((Z.wrap ((m79 b a d) - 1)).toNat) 0))))))), V Z (Z.wrap ((a.ii ((m79 b a d).toNat) 0) - (a.ii ((Z.wrap ((m79 b a d) - 1)).toNat) 0)))]) [] []))
      False)
     False))
   False)
  False)) (fun R => by kernel_rfl) (cn (al hn) (cn (al (ar hn)) (co (fun h0 => cn (al (ct h0 (ar (ar hn)))) (lf (cT h0 rfl) rfl)) (fun h0 => cn (al (cf h0 (ar (ar hn)))) (cn (al (ar (cf h0 (ar (ar hn))))) (co (fun h1 => lf (cF h0 (cT h1 rfl)) rfl) (fun h1 => lf (cF h0 (cF h1 rfl)) rfl)))))))⟩
/-! ### shotline/profile.CheckPlan -/
noncomputable def l19_1 (t : Nat) (o : Dat) (C : Int) (d : ByteArray) (g : Int) (j : Dat) (A : Nat) (l : Dat) : Nat → Int → Option (Bool × (Int × Int) × (Unit))
  | 0, _ => none
  | f + 1, z => (cond (decide (z < C)) (cond (decide (0 ≤ z ∧ z < ↑t)) (cond (n58 (o.ii z.toNat 0) (o.ii z.toNat 1)) (cond (bif (decide ((m58 (o.ii z.toNat 0) (o.ii z.toNat 1)) = 0)) then false else true) (some (true, (0, (m58 (o.ii z.toNat 0) (o.ii z.toNat 1))), default)) (l19_1 t o C d g j A l f (Z.wrap (z + 1)))) none) none) (some (false, default, ())))
noncomputable abbrev o19_1 (t : Nat) (o : Dat) (C : Int) (d : ByteArray) (g : Int) (j : Dat) (A : Nat) (l : Dat) (z : Int) : Option (Bool × (Int × Int) × (Unit)) := l19_1 t o C d g j A l (t + C.toNat + z.toNat + d.size + g.toNat + A + 8) z
noncomputable def e19_1 (t : Nat) (o : Dat) (C : Int) (d : ByteArray) (g : Int) (j : Dat) (A : Nat) (l : Dat) (r : Bool × (Int × Int) × (Unit)) (K : XR) : Prop := cnd r.1 (K (XE.ret) [.ptr 0 0, V Z r.2.1.1, V Z r.2.1.2] [.cells 41 [.str d, V Z g, .ro [W Z, W Z] t j, .ro [W Z, W Z, W Z] A l]]) (K (XE.exit 1) [.ptr 0 0, .any, .any] [.cells 41 [.str d, V Z g, .ro [W Z, W Z] t j, .ro [W Z, W Z, W Z] A l]])
noncomputable def g19_1 : LSum := fun s k => match czv 0 85 [1, 31, 32, 33] 1 [] s with
  | some ([.ptr 0 0, .ro [W Z, W Z] t o, V Z C, V Z z], [.cells 41 [.str d, V Z g, .ro [W Z, W Z] v j, .ro [W Z, W Z, W Z] A l]]) => needs [decide (t = v), (o19_1 t o C d g j A l z).isSome] (e19_1 t o C d g j A l ((o19_1 t o C d g j A l z).getD default) fun e vs bs => inBlk 1 k e (mkSt 0 85 [1, 2, 3] vs 1 bs))
  | _ => False
theorem z19_1 : LOk Tryd.prog g19_1 (.block 1 (bodyAt (Tryd.f19.body.getD .skip) 1)) := by
  refine lb (ι := Nat × Dat × Int × Int × ByteArray × Int × Dat × Nat × Dat) (fuel := 8) (na := 0) (nt := 85) (nx := 1) (Lh := [1, 31, 32, 33]) (Le := [1, 2, 3]) (gl := []) (tc k52 (tc k57 (tc k58 tn))) mix_ok noLam rfl (fun f (t, o, C, z, d, g, j, A, l) K => GG default (e19_1 t o C d g j A l) K (l19_1 t o C d g j A l f z)) (fun (t, o, C, z, d, g, j, A, l) => [.ptr 0 0, .ro [W Z, W Z] t o, V Z C, V Z z]) (fun (t, o, C, z, d, g, j, A, l) => [.cells 41 [.str d, V Z g, .ro [W Z, W Z] t j, .ro [W Z, W Z, W Z] A l]]) (fun (_, _, _, _, _, _, _, _, _) K => gg_none) ?_ ?_
  · rintro f ⟨t, o, C, z, d, g, j, A, l⟩ K hG
    refine ro (fun R => (cnd (decide (z < C))
 (cnd (decide (0 ≤ z ∧ z < ↑t))
 (cnd (n58 (o.ii z.toNat 0) (o.ii z.toNat 1))
 (cnd (bif (decide ((m58 (o.ii z.toNat 0) (o.ii z.toNat 1)) = 0)) then false else true)
 (R (XE.ret) [.ptr 0 0, V Z 0, V Z (m58 (o.ii z.toNat 0) (o.ii z.toNat 1))] [.cells 41 [.str d, V Z g, .ro [W Z, W Z] t j, .ro [W Z, W Z, W Z] A l]])
 (R (XE.normal) [.ptr 0 0, .ro [W Z, W Z] t o, V Z C, V Z (Z.wrap (z + 1))] [.cells 41 [.str d, V Z g, .ro [W Z, W Z] t j, .ro [W Z, W Z, W Z] A l]]))
    False)
   False)
 (R (XE.exit 1) [.ptr 0 0, .any, .any] [.cells 41 [.str d, V Z g, .ro [W Z, W Z] t j, .ro [W Z, W Z, W Z] A l]]))) (fun R => by kernel_rfl) ?_
    exact ch hG (fun h0 => cg h0 fun h1 => cg h1 fun h2 => ch h2 (fun h3 => h3.2) (fun h3 => ⟨(_, _, _, _, _, _, _, _, _), rfl, rfl, h3⟩)) (fun h0 => h0.2)
  · intro s k h
    unfold g19_1 at h
    split at h <;> try exact h.elim
    rename_i e1
    rw [needs_iff] at h
    have hq := h.1
    simp only [List.mem_cons, forall_eq_or_imp, decide_eq_true_eq, List.not_mem_nil, false_imp_iff, implies_true, and_true] at hq
    obtain ⟨rfl, hq⟩ := hq
    exact ⟨_, e1, _, (_, _, _, _, _, _, _, _, _), rfl, rfl, hq, h.2⟩
noncomputable def l19_3 (p : Nat) (u : Dat) (D : Int) (d : ByteArray) (g : Int) (v : Nat) (j l : Dat) : Nat → Int → Int → Option (Bool × (Int × Int) × (Unit))
  | 0, _, _ => none
  | f + 1, E, x => (cond (decide (x < D)) (cond (decide (0 ≤ x ∧ x < ↑p)) (cond (bif (bif (m52 (u.ii x.toNat 0) 1 1000000) then false else true) then true else (bif (m52 (u.ii x.toNat 1) 0 30000) then false else true)) (some (true, (x, 2), default)) (cond (bif (m52 (u.ii x.toNat 2) 0 (Z.wrap ((↑v : Int) - 1))) then false else true) (some (true, (x, 6), default)) (cond (decide ((1000000 : Int) < (Z.wrap (E + (u.ii x.toNat 0))))) (some (true, (x, 8), default)) (l19_3 p u D d g v j l f (Z.wrap (E + (u.ii x.toNat 0))) (Z.wrap (x + 1)))))) none) (some (false, default, ())))
noncomputable abbrev o19_3 (p : Nat) (u : Dat) (D : Int) (d : ByteArray) (g : Int) (v : Nat) (j l : Dat) (E x : Int) : Option (Bool × (Int × Int) × (Unit)) := l19_3 p u D d g v j l (E.toNat + p + D.toNat + x.toNat + d.size + g.toNat + v + 8) E x
noncomputable def e19_3 (p : Nat) (u : Dat) (D : Int) (d : ByteArray) (g : Int) (v : Nat) (j l : Dat) (r : Bool × (Int × Int) × (Unit)) (K : XR) : Prop := cnd r.1 (K (XE.ret) [V Z r.2.1.1, V Z r.2.1.2] [.cells 41 [.str d, V Z g, .ro [W Z, W Z] v j, .ro [W Z, W Z, W Z] p l]]) (K (XE.exit 3) [.any, .any] [.cells 41 [.str d, V Z g, .ro [W Z, W Z] v j, .ro [W Z, W Z, W Z] p l]])
noncomputable def g19_3 : LSum := fun s k => match czv 0 85 [1, 7, 48, 49, 50] 1 [] s with
  | some ([.ptr 0 0, V Z E, .ro [W Z, W Z, W Z] p u, V Z D, V Z x], [.cells 41 [.str d, V Z g, .ro [W Z, W Z] v j, .ro [W Z, W Z, W Z] A l]]) => needs [decide (p = A), (o19_3 p u D d g v j l E x).isSome] (e19_3 p u D d g v j l ((o19_3 p u D d g v j l E x).getD default) fun e vs bs => inBlk 3 k e (mkSt 0 85 [2, 3] vs 1 bs))
  | _ => False
theorem z19_3 : LOk Tryd.prog g19_3 (.block 3 (bodyAt (Tryd.f19.body.getD .skip) 3)) := by
  refine lb (ι := Int × Nat × Dat × Int × Int × ByteArray × Int × Nat × Dat × Dat) (fuel := 8) (na := 0) (nt := 85) (nx := 1) (Lh := [1, 7, 48, 49, 50]) (Le := [2, 3]) (gl := []) (tc k52 (tc k57 (tc k58 tn))) mix_ok (lam_of rfl (lc z19_1 ln)) rfl (fun f (E, p, u, D, x, d, g, v, j, l) K => GG default (e19_3 p u D d g v j l) K (l19_3 p u D d g v j l f E x)) (fun (E, p, u, D, x, d, g, v, j, l) => [.ptr 0 0, V Z E, .ro [W Z, W Z, W Z] p u, V Z D, V Z x]) (fun (E, p, u, D, x, d, g, v, j, l) => [.cells 41 [.str d, V Z g, .ro [W Z, W Z] v j, .ro [W Z, W Z, W Z] p l]]) (fun (_, _, _, _, _, _, _, _, _, _) K => gg_none) ?_ ?_
  · rintro f ⟨E, p, u, D, x, d, g, v, j, l⟩ K hG
    refine ro (fun R => (cnd (decide (x < D))
 (cnd (decide (0 ≤ x ∧ x < ↑p))
 (cnd (bif (bif (m52 (u.ii x.toNat 0) 1 1000000) then false else true) then true else (bif (m52 (u.ii x.toNat 1) 0 30000) then false else true))
 (R (XE.ret) [V Z x, V Z 2] [.cells 41 [.str d, V Z g, .ro [W Z, W Z] v j, .ro [W Z, W Z, W Z] p l]])
 (cnd (bif (m52 (u.ii x.toNat 2) 0 (Z.wrap ((↑v : Int) - 1))) then false else true)
 (R (XE.ret) [V Z x, V Z 6] [.cells 41 [.str d, V Z g, .ro [W Z, W Z] v j, .ro [W Z, W Z, W Z] p l]])
 (cnd (decide ((1000000 : Int) < (Z.wrap (E + (u.ii x.toNat 0)))))
 (R (XE.ret) [V Z x, V Z 8] [.cells 41 [.str d, V Z g, .ro [W Z, W Z] v j, .ro [W Z, W Z, W Z] p l]])
 (R (XE.normal) [.ptr 0 0, V Z (Z.wrap (E + (u.ii x.toNat 0))), .ro [W Z, W Z, W Z] p u, V Z D, V Z (Z.wrap (x + 1))] [.cells 41 [.str d, V Z g, .ro [W Z, W Z] v j, .ro [W Z, W Z, W Z] p l]]))))
   False)
 (R (XE.exit 3) [.any, .any] [.cells 41 [.str d, V Z g, .ro [W Z, W Z] v j, .ro [W Z, W Z, W Z] p l]]))) (fun R => by kernel_rfl) ?_
    exact ch hG (fun h0 => cg h0 fun h1 => ch h1 (fun h2 => h2.2) (fun h2 => ch h2 (fun h3 => h3.2) (fun h3 => ch h3 (fun h4 => h4.2) (fun h4 => ⟨(_, _, _, _, _, _, _, _, _, _), rfl, rfl, h4⟩)))) (fun h0 => h0.2)
  · intro s k h
    unfold g19_3 at h
    split at h <;> try exact h.elim
    rename_i e1
    rw [needs_iff] at h
    have hq := h.1
    simp only [List.mem_cons, forall_eq_or_imp, decide_eq_true_eq, List.not_mem_nil, false_imp_iff, implies_true, and_true] at hq
    obtain ⟨rfl, hq⟩ := hq
    exact ⟨_, e1, _, (_, _, _, _, _, _, _, _, _, _), rfl, rfl, hq, h.2⟩
noncomputable def m19 (w : ByteArray) (y : Int) (b : Nat) (m : Dat) (i : Nat) (n : Dat) : Int × Int :=
  (cond (bif (m57 w) then false else true) (0, 4) (cond (bif (m52 y 400 1100) then false else true) (0, 2) (cond (decide ((↑b : Int) = 0)) (0, 10) (cond (decide (8 < (↑b : Int))) (0, 8) (cond ((o19_1 b m (↑b : Int) w y m i n 0).getD default).1 (((o19_1 b m (↑b : Int) w y m i n 0).getD default).2.1.1, ((o19_1 b m (↑b : Int) w y m i n 0).getD default).2.1.2) (cond (decide ((60 : Int) < (↑i : Int))) (0, 8) (cond ((o19_3 i n (↑i : Int) w y b m n 0 0).getD default).1 (((o19_3 i n (↑i : Int) w y b m n 0 0).getD default).2.1.1, ((o19_3 i n (↑i : Int) w y b m n 0 0).getD default).2.1.2) (0, 0))))))))
noncomputable def n19 (w : ByteArray) (y : Int) (b : Nat) (m : Dat) (i : Nat) (n : Dat) : Bool :=
  ((n57 w) && (cond (bif (m57 w) then false else true) true (cond (bif (m52 y 400 1100) then false else true) true (cond (decide ((↑b : Int) = 0)) true (cond (decide (8 < (↑b : Int))) true (((o19_1 b m (↑b : Int) w y m i n 0).isSome) && (cond ((o19_1 b m (↑b : Int) w y m i n 0).getD default).1 true (cond (decide ((60 : Int) < (↑i : Int))) true (((o19_3 i n (↑i : Int) w y b m n 0 0).isSome) && true)))))))))
noncomputable def q19 (r : Int × Int) : SV × List Blk × List Blk := (.tup [V Z r.1, V Z r.2], [], [])
noncomputable def g19 : GF := fun vs bs => match vs, bs with
  | [.agg [.str w, V Z y, .ro [W Z, W Z] b m, .ro [W Z, W Z, W Z] i n]], [] => some (rs 0 (q19 (m19 w y b m i n)) [n19 w y b m i n])
  | _, _ => none
noncomputable def c19 : Ctr := genC [.a [.k, .k, .ro [W Z, W Z], .ro [W Z, W Z, W Z]]] g19
theorem k19 : CtrOk Tryd.prog c19 19 := cx (tc k52 (tc k57 (tc k58 tn))) mix_ok 8 (fn := Tryd.f19) (c := (Tryd.f19.body.getD .skip)) (grs := []) (rh := .k) Tryd.func19 rfl (by kernel_rfl) (lam_of rfl (lc z19_1 (lc z19_3 ln))) fun vs bs q h hn => by
  unfold g19 at h
  split at h <;> cases h
  rename_i w y b m i n
  have hn := n1 hn
  exact ⟨_, rfl, ca (fun R => (cnd (n57 w)
 (cnd (bif (m57 w) then false else true)
 (R (.tup [V Z 0, V Z 4]) [] [])
 (cnd (bif (m52 y 400 1100) then false else true)
 (R (.tup [V Z 0, V Z 2]) [] [])
 (cnd (decide ((↑b : Int) = 0))
 (R (.tup [V Z 0, V Z 10]) [] [])
 (cnd (decide (8 < (↑b : Int)))
 (R (.tup [V Z 0, V Z 8]) [] [])
 (cnd (decide (b = b))
 (cnd ((o19_1 b m (↑b : Int) w y m i n 0).isSome)
 (cnd ((o19_1 b m (↑b : Int) w y m i n 0).getD default).1
 (R (.tup [V Z ((o19_1 b m (↑b : Int) w y m i n 0).getD default).2.1.1, V Z ((o19_1 b m (↑b : Int) w y m i n 0).getD default).2.1.2]) [] [])
 (cnd (decide ((60 : Int) < (↑i : Int)))
 (R (.tup [V Z 0, V Z 8]) [] [])
 (cnd (decide (i = i))
 (cnd ((o19_3 i n (↑i : Int) w y b m n 0 0).isSome)
 (cnd ((o19_3 i n (↑i : Int) w y b m n 0 0).getD default).1
 (R (.tup [V Z ((o19_3 i n (↑i : Int) w y b m n 0 0).getD default).2.1.1, V Z ((o19_3 i n (↑i : Int) w y b m n 0 0).getD default).2.1.2]) [] [])
 (R (.tup [V Z 0, V Z 0]) [] []))
            False)
           False)))
        False)
       False)))))
  False)) (fun R => by kernel_rfl) (cn (al hn) (co (fun h0 => lf (cT h0 rfl) rfl) (fun h0 => co (fun h1 => lf (cF h0 (cT h1 rfl)) rfl) (fun h1 => co (fun h2 => lf (cF h0 (cF h1 (cT h2 rfl))) rfl) (fun h2 => co (fun h3 => lf (cF h0 (cF h1 (cF h2 (cT h3 rfl)))) rfl) (fun h3 => cn (decide_eq_true rfl) (cn (al (cf h3 (cf h2 (cf h1 (cf h0 (ar hn)))))) (co (fun h4 => lf (cF h0 (cF h1 (cF h2 (cF h3 (cT h4 rfl))))) rfl) (fun h4 => co (fun h5 => lf (cF h0 (cF h1 (cF h2 (cF h3 (cF h4 (cT h5 rfl)))))) rfl) (fun h5 => cn (decide_eq_true rfl) (cn (al (cf h5 (cf h4 (ar (cf h3 (cf h2 (cf h1 (cf h0 (ar hn))))))))) (co (fun h6 => lf (cF h0 (cF h1 (cF h2 (cF h3 (cF h4 (cF h5 (cT h6 rfl))))))) rfl) (fun h6 => lf (cF h0 (cF h1 (cF h2 (cF h3 (cF h4 (cF h5 (cF h6 rfl))))))) rfl)))))))))))))⟩

/-! ### shotline/profile.apart -/
noncomputable def m95 (b : Nat) (d : Dat) (e : Nat) (g : Dat) (a : Int) : Int × Int :=
  ((imax (Z.wrap ((Z.wrap ((m53 b d a).1 * (m53 e g a).2)) - (Z.wrap ((m53 e g a).1 * (m53 b d a).2)))) (Z.wrap (0 - (Z.wrap ((Z.wrap ((m53 b d a).1 * (m53 e g a).2)) - (Z.wrap ((m53 e g a).1 * (m53 b d a).2))))))), (Z.wrap ((m53 b d a).2 * (m53 e g a).2)))
noncomputable def n95 (b : Nat) (d : Dat) (e : Nat) (g : Dat) (a : Int) : Bool :=
  ((n53 b d a) && ((n53 e g a) && true))
noncomputable def q95 (r : Int × Int) : SV × List Blk × List Blk := (.agg [V Z r.1, V Z r.2], [], [])
noncomputable def g95 : GF := fun vs bs => match vs, bs with
  | [.ro [W Z, W Z] b d, .ro [W Z, W Z] e g, V Z a], [] => some (rs 0 (q95 (m95 b d e g a)) [n95 b d e g a])
  | _, _ => none
noncomputable def c95 : Ctr := genC [.ro [W Z, W Z], .ro [W Z, W Z], .k] g95
theorem k95 : CtrOk Tryd.prog c95 95 := cx (tc k53 tn) mix_ok 8 (fn := Tryd.f95) (c := (Tryd.f95.body.getD .skip)) (grs := []) (rh := .k) Tryd.func95 rfl (by kernel_rfl) noLam fun vs bs q h hn => by
  unfold g95 at h
  split at h <;> cases h
  rename_i b d e g a
  have hn := n1 hn
  exact ⟨_, rfl, ca (fun R => (cnd (n53 b d a)
 (cnd (n53 e g a)
 (R (.agg [V Z (imax (Z.wrap ((Z.wrap ((m53 b d a).1 * (m53 e g a).2)) - (Z.wrap ((m53 e g a).1 * (m53 b d a).2)))) (Z.wrap (0 - (Z.wrap ((Z.wrap ((m53 b d a).1 * (m53 e g a).2)) - (Z.wrap ((m53 e g a).1 * (m53 b d a).2))))))), V Z (Z.wrap ((m53 b d a).2 * (m53 e g a).2))]) [] [])
   False)
  False)) (fun R => by kernel_rfl) (cn (al hn) (cn (al (ar hn)) (lf rfl rfl)))⟩
/-! ### shotline/profile.check -/
noncomputable def l60_0 (d : Nat) (a : Dat) (i : Int) : Nat → Int → Option (Bool × (Int) × (Unit))
  | 0, _ => none
  | f + 1, b => (cond (decide (b < i)) (cond (decide (0 ≤ b ∧ b < ↑d)) (cond (n19 (a.ss b.toNat 0) (a.ii b.toNat 1) (a.sn b.toNat 2) (a.sub b.toNat 2) (a.sn b.toNat 3) (a.sub b.toNat 3)) (cond (bif (decide ((m19 (a.ss b.toNat 0) (a.ii b.toNat 1) (a.sn b.toNat 2) (a.sub b.toNat 2) (a.sn b.toNat 3) (a.sub b.toNat 3)).2 = 0)) then false else true) (some (true, (m19 (a.ss b.toNat 0) (a.ii b.toNat 1) (a.sn b.toNat 2) (a.sub b.toNat 2) (a.sn b.toNat 3) (a.sub b.toNat 3)).2, default)) (l60_0 d a i f (Z.wrap (b + 1)))) none) none) (some (false, default, ())))
noncomputable abbrev o60_0 (d : Nat) (a : Dat) (i b : Int) : Option (Bool × (Int) × (Unit)) := l60_0 d a i (d + i.toNat + b.toNat + 8) b
noncomputable def e60_0 (d : Nat) (a : Dat) (i : Int) (r : Bool × (Int) × (Unit)) (K : XR) : Prop := cnd r.1 (K (XE.ret) [V Z r.2.1] []) (K (XE.exit 0) [.any] [])
noncomputable def g60_0 : LSum := fun s k => match czv 0 22 [7, 8, 9] 0 [] s with
  | some ([.ro [.str, W Z, .sl [W Z, W Z], .sl [W Z, W Z, W Z]] d a, V Z i, V Z b], []) => needs [(o60_0 d a i b).isSome] (e60_0 d a i ((o60_0 d a i b).getD default) fun e vs bs => inBlk 0 k e (mkSt 0 22 [2] vs 0 bs))
  | _ => False
theorem z60_0 : LOk Tryd.prog g60_0 (.block 0 (bodyAt (Tryd.f60.body.getD .skip) 0)) := by
  refine lb (ι := Nat × Dat × Int × Int) (fuel := 8) (na := 0) (nt := 22) (nx := 0) (Lh := [7, 8, 9]) (Le := [2]) (gl := []) (tc k19 tn) mix_ok noLam rfl (fun f (d, a, i, b) K => GG default (e60_0 d a i) K (l60_0 d a i f b)) (fun (d, a, i, b) => [.ro [.str, W Z, .sl [W Z, W Z], .sl [W Z, W Z, W Z]] d a, V Z i, V Z b]) (fun (d, a, i, b) => []) (fun (_, _, _, _) K => gg_none) ?_ ?_
  · rintro f ⟨d, a, i, b⟩ K hG
    refine ro (fun R => (cnd (decide (b < i))
 (cnd (decide (0 ≤ b ∧ b < ↑d))
 (cnd (n19 (a.ss b.toNat 0) (a.ii b.toNat 1) (a.sn b.toNat 2) (a.sub b.toNat 2) (a.sn b.toNat 3) (a.sub b.toNat 3))
 (cnd (bif (decide ((m19 (a.ss b.toNat 0) (a.ii b.toNat 1) (a.sn b.toNat 2) (a.sub b.toNat 2) (a.sn b.toNat 3) (a.sub b.toNat 3)).2 = 0)) then false else true)
 (R (XE.ret) [V Z (m19 (a.ss b.toNat 0) (a.ii b.toNat 1) (a.sn b.toNat 2) (a.sub b.toNat 2) (a.sn b.toNat 3) (a.sub b.toNat 3)).2] [])
 (R (XE.normal) [.ro [.str, W Z, .sl [W Z, W Z], .sl [W Z, W Z, W Z]] d a, V Z i, V Z (Z.wrap (b + 1))] []))
    False)
   False)
 (R (XE.exit 0) [.any] []))) (fun R => by kernel_rfl) ?_
    exact ch hG (fun h0 => cg h0 fun h1 => cg h1 fun h2 => ch h2 (fun h3 => h3.2) (fun h3 => ⟨(_, _, _, _), rfl, rfl, h3⟩)) (fun h0 => h0.2)
  · intro s k h
    unfold g60_0 at h
    split at h <;> try exact h.elim
    rename_i e1
    rw [needs_iff] at h
    exact ⟨_, e1, _, (_, _, _, _), rfl, rfl, h.1 _ (List.mem_singleton.2 rfl), h.2⟩
noncomputable def m60 (g : Nat) (j : Dat) : Int :=
  (cond ((o60_0 g j (↑g : Int) 0).getD default).1 ((o60_0 g j (↑g : Int) 0).getD default).2.1 0)
noncomputable def n60 (g : Nat) (j : Dat) : Bool :=
  (((o60_0 g j (↑g : Int) 0).isSome) && true)
noncomputable def q60 (r : Int) : SV × List Blk × List Blk := (V Z r, [], [])
noncomputable def g60 : GF := fun vs bs => match vs, bs with
  | [.ro [.str, W Z, .sl [W Z, W Z], .sl [W Z, W Z, W Z]] g j], [] => some (rs 0 (q60 (m60 g j)) [n60 g j])
  | _, _ => none
noncomputable def c60 : Ctr := genC [.ro [.str, W Z, .sl [W Z, W Z], .sl [W Z, W Z, W Z]]] g60
theorem k60 : CtrOk Tryd.prog c60 60 := cx (tc k19 tn) mix_ok 8 (fn := Tryd.f60) (c := (Tryd.f60.body.getD .skip)) (grs := []) (rh := .k) Tryd.func60 rfl (by kernel_rfl) (lam_of rfl (lc z60_0 ln)) fun vs bs q h hn => by
  unfold g60 at h
  split at h <;> cases h
  rename_i g j
  have hn := n1 hn
  exact ⟨_, rfl, ca (fun R => (cnd ((o60_0 g j (↑g : Int) 0).isSome)
 (cnd ((o60_0 g j (↑g : Int) 0).getD default).1
 (R (V Z ((o60_0 g j (↑g : Int) 0).getD default).2.1) [] [])
 (R (V Z 0) [] []))
  False)) (fun R => by kernel_rfl) (cn (al hn) (co (fun h0 => lf (cT h0 rfl) rfl) (fun h0 => lf (cF h0 rfl) rfl)))⟩
/-! ### shotline/profile.PlanSeconds -/
noncomputable def m21 (i : ByteArray) (j : Int) (b : Nat) (d : Dat) (e : Nat) (g : Dat) : Int × Int :=
  (cond (bif (decide ((m60 1 (datS [SV.str i, V Z j, SV.ro [Kd.int Z, Kd.int Z] b d, SV.ro [Kd.int Z, Kd.int Z, Kd.int Z] e g] 4)) = 0)) then false else true) (0, (m60 1 (datS [SV.str i, V Z j, SV.ro [Kd.int Z, Kd.int Z] b d, SV.ro [Kd.int Z, Kd.int Z, Kd.int Z] e g] 4))) ((m62 (m61 i j b d e g).1 (m61 i j b d e g).2), 0))
noncomputable def n21 (i : ByteArray) (j : Int) (b : Nat) (d : Dat) (e : Nat) (g : Dat) : Bool :=
  ((n60 1 (datS [SV.str i, V Z j, SV.ro [Kd.int Z, Kd.int Z] b d, SV.ro [Kd.int Z, Kd.int Z, Kd.int Z] e g] 4)) && (cond (bif (decide ((m60 1 (datS [SV.str i, V Z j, SV.ro [Kd.int Z, Kd.int Z] b d, SV.ro [Kd.int Z, Kd.int Z, Kd.int Z] e g] 4)) = 0)) then false else true) true ((n61 i j b d e g) && ((n62 (m61 i j b d e g).1 (m61 i j b d e g).2) && true))))
noncomputable def q21 (r : Int × Int) : SV × List Blk × List Blk := (.tup [V Z r.1, V Z r.2], [], [])
noncomputable def g21 : GF := fun vs bs => match vs, bs with
  | [.agg [.str i, V Z j, .ro [W Z, W Z] b d, .ro [W Z, W Z, W Z] e g]], [] => some (rs 0 (q21 (m21 i j b d e g)) [n21 i j b d e g])
  | _, _ => none
noncomputable def c21 : Ctr := genC [.a [.k, .k, .ro [W Z, W Z], .ro [W Z, W Z, W Z]]] g21
theorem k21 : CtrOk Tryd.prog c21 21 := cx (tc k60 (tc k61 (tc k62 tn))) mix_ok 8 (fn := Tryd.f21) (c := (Tryd.f21.body.getD .skip)) (grs := []) (rh := .k) Tryd.func21 rfl (by kernel_rfl) noLam fun vs bs q h hn => by
  unfold g21 at h
  split at h <;> cases h
  rename_i i j b d e g
  have hn := n1 hn
  exact ⟨_, rfl, ca (fun R => (cnd (n60 1 (datS [SV.str i, V Z j, SV.ro [Kd.int Z, Kd.int Z] b d, SV.ro [Kd.int Z, Kd.int Z, Kd.int Z] e g] 4))
 (cnd (bif (decide ((m60 1 (datS [SV.str i, V Z j, SV.ro [Kd.int Z, Kd.int Z] b d, SV.ro [Kd.int Z, Kd.int Z, Kd.int Z] e g] 4)) = 0)) then false else true)
 (R (.tup [V Z 0, V Z (m60 1 (datS [SV.str i, V Z j, SV.ro [Kd.int Z, Kd.int Z] b d, SV.ro [Kd.int Z, Kd.int Z, Kd.int Z] e g] 4))]) [] [])
 (cnd (n61 i j b d e g)
 (cnd (n62 (m61 i j b d e g).1 (m61 i j b d e g).2)
 (R (.tup [V Z (m62 (m61 i j b d e g).1 (m61 i j b d e g).2), V Z 0]) [] [])
     False)
    False))
  False)) (fun R => by kernel_rfl) (cn (al hn) (co (fun h0 => lf (cT h0 rfl) rfl) (fun h0 => cn (al (cf h0 (ar hn))) (cn (al (ar (cf h0 (ar hn)))) (lf (cF h0 rfl) rfl)))))⟩
/-! ### (shotline/profile.track).allowed$1 -/
noncomputable def m106 (a d : Int) (e b : Dat) : Bool :=
  (m63 (e.ii 0 0) 1 (m95 (b.sn 0 0) (b.sub 0 0) 2 (datS [V Z a, V Z d, V Z (Z.wrap (a + 1)), V Z 0] 2) a).1 (m95 (b.sn 0 0) (b.sub 0 0) 2 (datS [V Z a, V Z d, V Z (Z.wrap (a + 1)), V Z 0] 2) a).2)
noncomputable def n106 (a d : Int) (e b : Dat) : Bool :=
  ((n95 (b.sn 0 0) (b.sub 0 0) 2 (datS [V Z a, V Z d, V Z (Z.wrap (a + 1)), V Z 0] 2) a) && true)
noncomputable def q106 (r : Bool) : SV × List Blk × List Blk := (.bool r, [], [])
noncomputable def g106 : GF := fun vs bs => match vs, bs with
  | [.agg [V Z a, V Z d], .rp [W Z] e 0 0, .rp [.sl [W Z, W Z]] b 0 0], [] => some (rs 0 (q106 (m106 a d e b)) [n106 a d e b])
  | _, _ => none
noncomputable def c106 : Ctr := genC [.k, .rp [W Z], .rp [.sl [W Z, W Z]]] g106
theorem k106 : CtrOk Tryd.prog c106 106 := cx (tc k63 (tc k95 tn)) mix_ok 8 (fn := Tryd.f106) (c := (Tryd.f106.body.getD .skip)) (grs := []) (rh := .k) Tryd.func106 rfl (by kernel_rfl) noLam fun vs bs q h hn => by
  unfold g106 at h
  split at h <;> cases h
  rename_i a d e b
  have hn := n1 hn
  exact ⟨_, rfl, ca (fun R => (cnd (n95 (b.sn 0 0) (b.sub 0 0) 2 (datS [V Z a, V Z d, V Z (Z.wrap (a + 1)), V Z 0] 2) a)
 (R (.bool (m63 (e.ii 0 0) 1 (m95 (b.sn 0 0) (b.sub 0 0) 2 (datS [V Z a, V Z d, V Z (Z.wrap (a + 1)), V Z 0] 2) a).1 (m95 (b.sn 0 0) (b.sub 0 0) 2 (datS [V Z a, V Z d, V Z (Z.wrap (a + 1)), V Z 0] 2) a).2)) [] [])
  False)) (fun R => by kernel_rfl) (cn (al hn) (lf rfl rfl))⟩

/-! ### slices.IndexFunc[shotline/profile.track,shotline/api.DivePoint] -/
noncomputable def l100c106_0 (g : Nat) (a b d : Dat) (l : Int) : Nat → Int → Option (Bool × (Int) × (Unit))
  | 0, _ => none
  | f + 1, i => (cond (decide (i < l)) (cond (decide (0 ≤ i ∧ i < ↑g)) (cond (n106 (a.ii i.toNat 0) (a.ii i.toNat 1) b d) (cond (m106 (a.ii i.toNat 0) (a.ii i.toNat 1) b d) (some (true, i, default)) (l100c106_0 g a b d l f (Z.wrap (i + 1)))) none) none) (some (false, default, ())))
noncomputable abbrev o100c106_0 (g : Nat) (a b d : Dat) (l i : Int) : Option (Bool × (Int) × (Unit)) := l100c106_0 g a b d l (g + l.toNat + i.toNat + 8) i
noncomputable def e100c106_0 (g : Nat) (a b d : Dat) (l : Int) (r : Bool × (Int) × (Unit)) (K : XR) : Prop := cnd r.1 (K (XE.ret) [V Z r.2.1] []) (K (XE.exit 0) [.any] [])
noncomputable def g100c106_0 : LSum := fun s k => match czv 0 19 [0, 1, 7, 8] 0 [] s with
  | some ([.ro [W Z, W Z] g a, .fn 106 [.rp [W Z] b 0 0, .rp [.sl [W Z, W Z]] d 0 0], V Z l, V Z i], []) => needs [(o100c106_0 g a b d l i).isSome] (e100c106_0 g a b d l ((o100c106_0 g a b d l i).getD default) fun e vs bs => inBlk 0 k e (mkSt 0 19 [4] vs 0 bs))
  | _ => False
theorem z100c106_0 : LOk Tryd.prog g100c106_0 (.block 0 (bodyAt (Tryd.f100.body.getD .skip) 0)) := by
  refine lb (ι := Nat × Dat × Dat × Dat × Int × Int) (fuel := 8) (na := 0) (nt := 19) (nx := 0) (Lh := [0, 1, 7, 8]) (Le := [4]) (gl := []) (tc k106 tn) mix_ok noLam rfl (fun f (g, a, b, d, l, i) K => GG default (e100c106_0 g a b d l) K (l100c106_0 g a b d l f i)) (fun (g, a, b, d, l, i) => [.ro [W Z, W Z] g a, .fn 106 [.rp [W Z] b 0 0, .rp [.sl [W Z, W Z]] d 0 0], V Z l, V Z i]) (fun (g, a, b, d, l, i) => []) (fun (_, _, _, _, _, _) K => gg_none) ?_ ?_
  · rintro f ⟨g, a, b, d, l, i⟩ K hG
    refine ro (fun R => (cnd (decide (i < l))
 (cnd (decide (0 ≤ i ∧ i < ↑g))
 (cnd (n106 (a.ii i.toNat 0) (a.ii i.toNat 1) b d)
 (cnd (m106 (a.ii i.toNat 0) (a.ii i.toNat 1) b d)
 (R (XE.ret) [V Z i] [])
 (R (XE.normal) [.ro [W Z, W Z] g a, .fn 106 [.rp [W Z] b 0 0, .rp [.sl [W Z, W Z]] d 0 0], V Z l, V Z (Z.wrap (i + 1))] []))
    False)
   False)
 (R (XE.exit 0) [.any] []))) (fun R => by kernel_rfl) ?_
    exact ch hG (fun h0 => cg h0 fun h1 => cg h1 fun h2 => ch h2 (fun h3 => h3.2) (fun h3 => ⟨(_, _, _, _, _, _), rfl, rfl, h3⟩)) (fun h0 => h0.2)
  · intro s k h
    unfold g100c106_0 at h
    split at h <;> try exact h.elim
    rename_i e1
    rw [needs_iff] at h
    exact ⟨_, e1, _, (_, _, _, _, _, _), rfl, rfl, h.1 _ (List.mem_singleton.2 rfl), h.2⟩
noncomputable def m100c106 (j : Nat) (m da1c0 da1c1 : Dat) : Int :=
  (cond ((o100c106_0 j m da1c0 da1c1 (↑j : Int) 0).getD default).1 ((o100c106_0 j m da1c0 da1c1 (↑j : Int) 0).getD default).2.1 (-1))
noncomputable def n100c106 (j : Nat) (m da1c0 da1c1 : Dat) : Bool :=
  (((o100c106_0 j m da1c0 da1c1 (↑j : Int) 0).isSome) && true)
noncomputable def q100c106 (r : Int) : SV × List Blk × List Blk := (V Z r, [], [])
noncomputable def g100c106 : GF := fun vs bs => match vs, bs with
  | [.ro [W Z, W Z] j m, .fn 106 [.rp [W Z] da1c0 0 0, .rp [.sl [W Z, W Z]] da1c1 0 0]], [] => some (rs 0 (q100c106 (m100c106 j m da1c0 da1c1)) [n100c106 j m da1c0 da1c1])
  | _, _ => none
noncomputable def c100c106 : Ctr := genC [.ro [W Z, W Z], .f [.rp [W Z], .rp [.sl [W Z, W Z]]]] g100c106
theorem k100c106 : CtrOk Tryd.prog c100c106 100 := cx (tc k106 tn) mix_ok 8 (fn := Tryd.f100) (c := (Tryd.f100.body.getD .skip)) (grs := []) (rh := .k) Tryd.func100 rfl (by kernel_rfl) (lam_of rfl (lc z100c106_0 ln)) fun vs bs q h hn => by
  unfold g100c106 at h
  split at h <;> cases h
  rename_i j m da1c0 da1c1
  have hn := n1 hn
  exact ⟨_, rfl, ca (fun R => (cnd ((o100c106_0 j m da1c0 da1c1 (↑j : Int) 0).isSome)
 (cnd ((o100c106_0 j m da1c0 da1c1 (↑j : Int) 0).getD default).1
 (R (V Z ((o100c106_0 j m da1c0 da1c1 (↑j : Int) 0).getD default).2.1) [] [])
 (R (V Z (-1)) [] []))
  False)) (fun R => by kernel_rfl) (cn (al hn) (co (fun h0 => lf (cT h0 rfl) rfl) (fun h0 => lf (cF h0 rfl) rfl)))⟩

/-! ### slices.ContainsFunc[shotline/profile.track,shotline/api.DivePoint] -/
noncomputable def m105c106 (a : Nat) (b da1c0 da1c1 : Dat) : Bool :=
  (decide (0 ≤ (m100c106 a b da1c0 da1c1)))
noncomputable def n105c106 (a : Nat) (b da1c0 da1c1 : Dat) : Bool :=
  ((n100c106 a b da1c0 da1c1) && true)
noncomputable def q105c106 (r : Bool) : SV × List Blk × List Blk := (.bool r, [], [])
noncomputable def g105c106 : GF := fun vs bs => match vs, bs with
  | [.ro [W Z, W Z] a b, .fn 106 [.rp [W Z] da1c0 0 0, .rp [.sl [W Z, W Z]] da1c1 0 0]], [] => some (rs 0 (q105c106 (m105c106 a b da1c0 da1c1)) [n105c106 a b da1c0 da1c1])
  | _, _ => none
noncomputable def c105c106 : Ctr := genC [.ro [W Z, W Z], .f [.rp [W Z], .rp [.sl [W Z, W Z]]]] g105c106
theorem k105c106 : CtrOk Tryd.prog c105c106 105 := cx (tc k106 (tc k100c106 tn)) mix_ok 8 (fn := Tryd.f105) (c := (Tryd.f105.body.getD .skip)) (grs := []) (rh := .k) Tryd.func105 rfl (by kernel_rfl) noLam fun vs bs q h hn => by
  unfold g105c106 at h
  split at h <;> cases h
  rename_i a b da1c0 da1c1
  have hn := n1 hn
  exact ⟨_, rfl, ca (fun R => (cnd (n100c106 a b da1c0 da1c1)
 (R (.bool (decide (0 ≤ (m100c106 a b da1c0 da1c1)))) [] [])
  False)) (fun R => by kernel_rfl) (cn (al hn) (lf rfl rfl))⟩
/-! ### (shotline/profile.track).allowed -/
noncomputable def m84 (e : Nat) (a : Dat) (b d g : Int) : Bool :=
  (bif (m105c106 ((d - (Z.wrap (b + 1))).toNat) (a.shift ((Z.wrap (b + 1)).toNat)) (datC [V Z g]) (datC [SV.ro [Kd.int Z, Kd.int Z] 2 (datS [V Z (a.ii b.toNat 0), V Z (a.ii b.toNat 1), V Z (a.ii d.toNat 0), V Z (a.ii d.toNat 1)] 2)])) then false else true)
noncomputable def n84 (e : Nat) (a : Dat) (b d g : Int) : Bool :=
  ((decide (0 ≤ b ∧ b < ↑e)) && ((decide (0 ≤ d ∧ d < ↑e)) && ((decide (0 ≤ Z.wrap (b + 1) ∧ Z.wrap (b + 1) ≤ d ∧ d ≤ (↑e : Int))) && ((n105c106 ((d - (Z.wrap (b + 1))).toNat) (a.shift ((Z.wrap (b + 1)).toNat)) (datC [V Z g]) (datC [SV.ro [Kd.int Z, Kd.int Z] 2 (datS [V Z (a.ii b.toNat 0), V Z (a.ii b.toNat 1), V Z (a.ii d.toNat 0), V Z (a.ii d.toNat 1)] 2)])) && true))))
noncomputable def q84 (r : Bool) : SV × List Blk × List Blk := (.bool r, [], [])
noncomputable def g84 : GF := fun vs bs => match vs, bs with
  | [.ro [W Z, W Z] e a, V Z b, V Z d, V Z g], [] => some (rs 0 (q84 (m84 e a b d g)) [n84 e a b d g])
  | _, _ => none
noncomputable def c84 : Ctr := genC [.ro [W Z, W Z], .k, .k, .k] g84
theorem k84 : CtrOk Tryd.prog c84 84 := cx (tc k105c106 (tc k106 tn)) mix_ok 8 (fn := Tryd.f84) (c := (Tryd.f84.body.getD .skip)) (grs := []) (rh := .k) Tryd.func84 rfl (by kernel_rfl) noLam fun vs bs q h hn => by
  unfold g84 at h
  split at h <;> cases h
  rename_i e a b d g
  have hn := n1 hn
  exact ⟨_, rfl, ca (fun R => (cnd (decide (0 ≤ b ∧ b < ↑e))
 (cnd (decide (0 ≤ d ∧ d < ↑e))
 (cnd (decide (0 ≤ Z.wrap (b + 1) ∧ Z.wrap (b + 1) ≤ d ∧ d ≤ (↑e : Int)))
 (cnd (n105c106 ((d - (Z.wrap (b + 1))).toNat) (a.shift ((Z.wrap (b + 1)).toNat)) (datC [V Z g]) (datC [SV.ro [Kd.int Z, Kd.int Z] 2 (datS [V Z (a.ii b.toNat 0), V Z (a.ii b.toNat 1), V Z (a.ii d.toNat 0), V Z (a.ii d.toNat 1)] 2)]))
 (R (.bool (bif (m105c106 ((d - (Z.wrap (b + 1))).toNat) (a.shift ((Z.wrap (b + 1)).toNat)) (datC [V Z g]) (datC [SV.ro [Kd.int Z, Kd.int Z] 2 (datS [V Z (a.ii b.toNat 0), V Z (a.ii b.toNat 1), V Z (a.ii d.toNat 0), V Z (a.ii d.toNat 1)] 2)])) then false else true)) [] [])
     False)
    False)
   False)
  False)) (fun R => by kernel_rfl) (cn (al hn) (cn (al (ar hn)) (cn (al (ar (ar hn))) (cn (al (ar (ar (ar hn)))) (lf rfl rfl)))))⟩
/-! ### (shotline/profile.track).steps -/
noncomputable def m82 (a : Nat) (b : Dat) (d : Int) : Dat × Dat :=
  ((datC [SV.ro [Kd.int Z, Kd.int Z] a b]), (datC [V Z d]))
noncomputable def q82 (r : Dat × Dat) : SV × List Blk × List Blk := (.fn 102 [.rp [.sl [W Z, W Z]] r.1 0 0, .rp [W Z] r.2 0 0], [], [])
noncomputable def g82 : GF := fun vs bs => match vs, bs with
  | [.ro [W Z, W Z] a b, V Z d], [] => some (rs 0 (q82 (m82 a b d)) [])
  | _, _ => none
noncomputable def c82 : Ctr := genC [.ro [W Z, W Z], .k] g82
theorem k82 : CtrOk Tryd.prog c82 82 := cx tn mix_ok 8 (fn := Tryd.f82) (c := (Tryd.f82.body.getD .skip)) (grs := []) (rh := .f [.rp [.sl [W Z, W Z]], .rp [W Z]]) Tryd.func82 rfl (by kernel_rfl) noLam fun vs bs q h hn => by
  unfold g82 at h
  split at h <;> cases h
  rename_i a b d
  exact ⟨_, rfl, ca (fun R => (R (.fn 102 [.rp [.sl [W Z, W Z]] (datC [SV.ro [Kd.int Z, Kd.int Z] a b]) 0 0, .rp [W Z] (datC [V Z d]) 0 0]) [] [])) (fun R => by kernel_rfl) (lf rfl rfl)⟩
/-! ### (shotline/profile.track).steps$1 -/
noncomputable def l102_2 (b d : Dat) (a i : Int) (l N : Nat) (Y : Dat) : Nat → Nat → Int → Option (Nat)
  | 0, _, _ => none
  | f + 1, k, g => (cond (decide (g < i)) (cond (n84 (b.sn 0 0) (b.sub 0 0) g a (d.ii 0 0)) (cond (m84 (b.sn 0 0) (b.sub 0 0) g a (d.ii 0 0)) (cond (decide (k < N)) (cond (decide (g = (Y.ii k 0))) (cond (decide (a = (Y.ii k 1))) (l102_2 b d a i l N Y f (k + 1) (Z.wrap (g + 1))) none) none) none) (l102_2 b d a i l N Y f (k) (Z.wrap (g + 1)))) none) (some (k)))
noncomputable abbrev o102_2 (b d : Dat) (a i : Int) (l N : Nat) (Y : Dat) (k : Nat) (g : Int) : Option (Nat) := l102_2 b d a i l N Y (a.toNat + i.toNat + g.toNat + 8) k g
noncomputable def e102_2 (b d : Dat) (a i : Int) (l N : Nat) (Y : Dat) (r : Nat) (K : XRY) : Prop := K (XE.exit 2) r [.val (Value.func (Fn.yield l) #[] #[]), .rp [.sl [W Z, W Z]] b 0 0, .rp [W Z] d 0 0, V Z a] []
noncomputable def g102_2 (l N : Nat) (Y : Dat) : SumY := fun k s κ => match k, czv 0 29 [0, 1, 2, 4, 12, 13] 0 [] s with
  | some k, some ([.val vq, .rp [.sl [W Z, W Z]] b 0 0, .rp [W Z] d 0 0, V Z a, V Z i, V Z g], []) => needs [(o102_2 b d a i l N Y k g).isSome, isYl vq l] (e102_2 b d a i l N Y ((o102_2 b d a i l N Y k g).getD default) fun e k vs bs => inBlkY 2 κ e (some k) (mkSt 0 29 [0, 1, 2, 4] vs 0 bs))
  | _, _ => False
theorem y102_2 (b d : Dat) (a i g : Int) (l N : Nat) (Y : Dat) (k : Nat) (R : XRY) : execY Tryd.prog [(84, c84)] (fun _ => none) l N (fun k => [V Z (Y.ii k 0), V Z (Y.ii k 1)]) (lamY []) 8 (unloop (bodyAt (Tryd.f102.body.getD .skip) 2)) (some k) (mkSt 0 29 [0, 1, 2, 4, 12, 13] [.val (Value.func (Fn.yield l) #[] #[]), .rp [.sl [W Z, W Z]] b 0 0, .rp [W Z] d 0 0, V Z a, V Z i, V Z g] 0 []) (canonKY 0 29 [0, 1, 2, 4, 12, 13] [0, 1, 2, 4] 0 [] R) =
 (cnd (decide (g < i))
 (cnd (n84 (b.sn 0 0) (b.sub 0 0) g a (d.ii 0 0))
 (cnd (m84 (b.sn 0 0) (b.sub 0 0) g a (d.ii 0 0))
 (cnd (decide (l = l))
 (cnd (decide (k < N))
 (cnd (decide (g = (Y.ii k 0)))
 (cnd (decide (a = (Y.ii k 1)))
        ((R (XE.normal) (k + 1) [.val (Value.func (Fn.yield l) #[] #[]), .rp [.sl [W Z, W Z]] b 0 0, .rp [W Z] d 0 0, V Z a, V Z i, V Z (Z.wrap (g + 1))] []) ∧
         True)
        False)
       False)
      False)
     False)
 (R (XE.normal) (k) [.val (Value.func (Fn.yield l) #[] #[]), .rp [.sl [W Z, W Z]] b 0 0, .rp [W Z] d 0 0, V Z a, V Z i, V Z (Z.wrap (g + 1))] []))
   False)
 (R (XE.exit 2) (k) [.val (Value.func (Fn.yield l) #[] #[]), .rp [.sl [W Z, W Z]] b 0 0, .rp [W Z] d 0 0, V Z a] [])) := by kernel_rfl
theorem z102_2 {C : YC Tryd.prog} {N : Nat} {Y : Dat} (hN : C.N = N) (hy : C.y = fun k => [V Z (Y.ii k 0), V Z (Y.ii k 1)]) : LOkJ C (g102_2 C.l N Y) (.block 2 (bodyAt (Tryd.f102.body.getD .skip) 2)) := by
  refine loopY_blk (ι := Dat × Dat × Int × Int × Nat × Int) (L := [(84, c84)]) (Λ := (fun _ => none)) (ΛY := (lamY [])) (fuel := 8) (na := 0) (nt := 29) (nx := 0) (Lh := [0, 1, 2, 4, 12, 13]) (Le := [0, 1, 2, 4]) (gl := []) (tc k84 tn) mix_ok noLam noLamY rfl (fun f x K => GG default (e102_2 x.1 x.2.1 x.2.2.1 x.2.2.2.1 C.l N Y) K (l102_2 x.1 x.2.1 x.2.2.1 x.2.2.2.1 C.l N Y f x.2.2.2.2.1 x.2.2.2.2.2)) (fun x => x.2.2.2.2.1) (fun x => [.val (Value.func (Fn.yield C.l) #[] #[]), .rp [.sl [W Z, W Z]] x.1 0 0, .rp [W Z] x.2.1 0 0, V Z x.2.2.1, V Z x.2.2.2.1, V Z x.2.2.2.2.2]) (fun x => []) (fun x K => gg_none) ?_ ?_
  · rintro f ⟨b, d, a, i, k, g⟩ K hG
    rw [hN, hy]
    refine propOf (y102_2 b d a i g C.l N Y k _) ?_
    exact ch hG (fun h0 => cg h0 fun h1 => ch h1 (fun h2 => cn (decide_eq_true rfl) (cg h2 fun h3 => cg h3 fun h4 => cg h4 fun h5 => ⟨⟨(b, d, a, i, (k + 1), (Z.wrap (g + 1))), rfl, rfl, rfl, h5⟩, trivial⟩)) (fun h2 => ⟨(b, d, a, i, (k), (Z.wrap (g + 1))), rfl, rfl, rfl, h2⟩)) (fun h0 => h0.2)
  · intro k s κ h
    unfold g102_2 at h
    split at h <;> try exact h.elim
    rename_i e1
    rw [needs_iff] at h
    have hl := h.1 _ (List.mem_cons_of_mem _ (List.mem_singleton.2 rfl))
    obtain rfl := isYl_eq hl
    exact ⟨_, (_, _, _, _, _, _), rfl, e1, h.1 _ (List.mem_cons_self ..), h.2⟩
noncomputable def l102_0 (b d : Dat) (l N : Nat) (Y : Dat) : Nat → Nat → Int → Option (Nat)
  | 0, _, _ => none
  | f + 1, k, a => (cond (decide (a < (↑(b.sn 0 0) : Int))) (cond ((o102_2 b d a a l N Y k 0).isSome) (l102_0 b d l N Y f ((o102_2 b d a a l N Y k 0).getD 0) (Z.wrap (a + 1))) none) (some (k)))
noncomputable abbrev o102_0 (b d : Dat) (l N : Nat) (Y : Dat) (k : Nat) (a : Int) : Option (Nat) := l102_0 b d l N Y (a.toNat + 8 + b.sn 0 0) k a
noncomputable def e102_0 (b d : Dat) (l N : Nat) (Y : Dat) (r : Nat) (K : XRY) : Prop := K (XE.exit 0) r [] []
noncomputable def g102_0 (l N : Nat) (Y : Dat) : SumY := fun k s κ => match k, czv 0 29 [0, 1, 2, 4] 0 [] s with
  | some k, some ([.val vq, .rp [.sl [W Z, W Z]] b 0 0, .rp [W Z] d 0 0, V Z a], []) => needs [(o102_0 b d l N Y k a).isSome, isYl vq l] (e102_0 b d l N Y ((o102_0 b d l N Y k a).getD default) fun e k vs bs => inBlkY 0 κ e (some k) (mkSt 0 29 [] vs 0 bs))
  | _, _ => False
theorem y102_0 (b d : Dat) (a : Int) (l N : Nat) (Y : Dat) (k : Nat) (R : XRY) : execY Tryd.prog [(84, c84)] (fun _ => none) l N (fun k => [V Z (Y.ii k 0), V Z (Y.ii k 1)]) (lamY [(2, (g102_2 l N Y))]) 8 (unloop (bodyAt (Tryd.f102.body.getD .skip) 0)) (some k) (mkSt 0 29 [0, 1, 2, 4] [.val (Value.func (Fn.yield l) #[] #[]), .rp [.sl [W Z, W Z]] b 0 0, .rp [W Z] d 0 0, V Z a] 0 []) (canonKY 0 29 [0, 1, 2, 4] [] 0 [] R) =
 (cnd (decide (a < (↑(b.sn 0 0) : Int)))
 (cnd ((o102_2 b d a a l N Y k 0).isSome)
 (cnd (decide (l = l))
 (R (XE.normal) ((o102_2 b d a a l N Y k 0).getD 0) [.val (Value.func (Fn.yield l) #[] #[]), .rp [.sl [W Z, W Z]] b 0 0, .rp [W Z] d 0 0, V Z (Z.wrap (a + 1))] [])
    False)
   False)
 (R (XE.exit 0) (k) [] [])) := by kernel_rfl
theorem z102_0 {C : YC Tryd.prog} {N : Nat} {Y : Dat} (hN : C.N = N) (hy : C.y = fun k => [V Z (Y.ii k 0), V Z (Y.ii k 1)]) : LOkJ C (g102_0 C.l N Y) (.block 0 (bodyAt (Tryd.f102.body.getD .skip) 0)) := by
  refine loopY_blk (ι := Dat × Dat × Nat × Int) (L := [(84, c84)]) (Λ := (fun _ => none)) (ΛY := (lamY [(2, (g102_2 C.l N Y))])) (fuel := 8) (na := 0) (nt := 29) (nx := 0) (Lh := [0, 1, 2, 4]) (Le := []) (gl := []) (tc k84 tn) mix_ok noLam (lamY_of rfl (lamsY_cons (z102_2 hN hy) lamsY_nil)) rfl (fun f x K => GG default (e102_0 x.1 x.2.1 C.l N Y) K (l102_0 x.1 x.2.1 C.l N Y f x.2.2.1 x.2.2.2)) (fun x => x.2.2.1) (fun x => [.val (Value.func (Fn.yield C.l) #[] #[]), .rp [.sl [W Z, W Z]] x.1 0 0, .rp [W Z] x.2.1 0 0, V Z x.2.2.2]) (fun x => []) (fun x K => gg_none) ?_ ?_
  · rintro f ⟨b, d, k, a⟩ K hG
    rw [hN, hy]
    refine propOf (y102_0 b d a C.l N Y k _) ?_
    exact ch hG (fun h0 => cg h0 fun h1 => cn (decide_eq_true rfl) (⟨(b, d, ((o102_2 b d a a C.l N Y k 0).getD 0), (Z.wrap (a + 1))), rfl, rfl, rfl, h1⟩)) (fun h0 => h0.2)
  · intro k s κ h
    unfold g102_0 at h
    split at h <;> try exact h.elim
    rename_i e1
    rw [needs_iff] at h
    have hl := h.1 _ (List.mem_cons_of_mem _ (List.mem_singleton.2 rfl))
    obtain rfl := isYl_eq hl
    exact ⟨_, (_, _, _, _), rfl, e1, h.1 _ (List.mem_cons_self ..), h.2⟩
theorem x102 (j m : Dat) (l N : Nat) (Y : Dat) (R : XE → Option Nat → Prop) : execY Tryd.prog [(84, c84)] (fun _ => none) l N (fun k => [V Z (Y.ii k 0), V Z (Y.ii k 1)]) (lamY [(2, (g102_2 l N Y)), (0, (g102_0 l N Y))]) 8 (Tryd.f102.body.getD .skip) (some 0) (initS Tryd.f102.ntmps ([.val (.func (.yield l) #[] #[]), .rp [.sl [W Z, W Z]] j 0 0, .rp [W Z] m 0 0]) 0 (memOf [])) (fun e k s => R e k) =
 (cnd ((o102_0 j m l N Y 0 1).isSome)
 (cnd (decide (l = l))
 (R (XE.normal) (.some ((o102_0 j m l N Y 0 1).getD 0)))
   False)
  False) := by kernel_rfl
noncomputable def n102 (j m : Dat) (l N : Nat) (Y : Dat) : Bool :=
  (((o102_0 j m l N Y 0 1).isSome) && (decide ((o102_0 j m l N Y 0 1).getD 0 = N)))
theorem it102 (j m : Dat) (N : Nat) (Y : Dat) (hn : ∀ l, n102 j m l N Y = true) : SIter Tryd.prog 102 [.rp [.sl [W Z, W Z]] j 0 0, .rp [W Z] m 0 0] [] N (fun k => [V Z (Y.ii k 0), V Z (Y.ii k 1)]) := iter_of (tc k84 tn) mix_ok 8 (fn := Tryd.f102) (c := (Tryd.f102.body.getD .skip)) (Λ := (fun _ => none)) (ΛY := fun l => (lamY [(2, (g102_2 l N Y)), (0, (g102_0 l N Y))])) Tryd.func102 rfl noLam rfl (fun k _ => rfl) (fun C hN hy => (lamY_of rfl (lamsY_cons (z102_2 hN hy) (lamsY_cons (z102_0 hN hy) lamsY_nil)))) fun l => by
  refine propOf (x102 j m l N Y fun e k => match e with | .exit _ => False | _ => k = some N) ?_
  exact cn (al (hn l)) (cn (decide_eq_true rfl) (congrArg some (of_decide_eq_true (ar (hn l)))))

/-! ### shotline/shotlinelaw02.Few -/
noncomputable def m18 (e : ByteArray) (j : Int) (d : Nat) (g : Dat) (b : Nat) (i : Dat) : Bool :=
  (bif (bif (decide ((↑e.size : Int) ≤ 20)) then (decide ((↑d : Int) ≤ 10)) else false) then (bif (decide ((↑b : Int) ≤ 10)) then true else (bif (decide ((60 : Int) < (↑b : Int))) then (decide ((↑b : Int) ≤ 62)) else false)) else false)
noncomputable def q18 (r : Bool) : SV × List Blk × List Blk := (.bool r, [], [])
noncomputable def g18 : GF := fun vs bs => match vs, bs with
  | [.agg [.str e, V Z j, .ro [W Z, W Z] d g, .ro [W Z, W Z, W Z] b i]], [] => some (rs 0 (q18 (m18 e j d g b i)) [])
  | _, _ => none
noncomputable def c18 : Ctr := genC [.a [.k, .k, .ro [W Z, W Z], .ro [W Z, W Z, W Z]]] g18
theorem k18 : CtrOk Tryd.prog c18 18 := cx tn mix_ok 8 (fn := Tryd.f18) (c := (Tryd.f18.body.getD .skip)) (grs := []) (rh := .k) Tryd.func18 rfl (by kernel_rfl) noLam fun vs bs q h hn => by
  unfold g18 at h
  split at h <;> cases h
  rename_i e j d g b i
  exact ⟨_, rfl, ca (fun R => (R (.bool (bif (bif (decide ((↑e.size : Int) ≤ 20)) then (decide ((↑d : Int) ≤ 10)) else false) then (bif (decide ((↑b : Int) ≤ 10)) then true else (bif (decide ((60 : Int) < (↑b : Int))) then (decide ((↑b : Int) ≤ 62)) else false)) else false)) [] [])) (fun R => by kernel_rfl) (lf rfl rfl)⟩
/-! ### shotline/shotlinelaw02.none -/
noncomputable def m37 (e : ByteArray) (g : Int) (b : Nat) (i : Dat) (d : Nat) (j : Dat) : Bool :=
  (bif (bif (decide (e = ({ data := #[] } : ByteArray))) then (decide (g = 0)) else false) then (decide ((Z.wrap ((↑b : Int) + (↑d : Int))) = 0)) else false)
noncomputable def q37 (r : Bool) : SV × List Blk × List Blk := (.bool r, [], [])
noncomputable def g37 : GF := fun vs bs => match vs, bs with
  | [.agg [.str e, V Z g, .ro [W Z, W Z] b i, .ro [W Z, W Z, W Z] d j]], [] => some (rs 0 (q37 (m37 e g b i d j)) [])
  | _, _ => none
noncomputable def c37 : Ctr := genC [.a [.k, .k, .ro [W Z, W Z], .ro [W Z, W Z, W Z]]] g37
theorem k37 : CtrOk Tryd.prog c37 37 := cx tn mix_ok 8 (fn := Tryd.f37) (c := (Tryd.f37.body.getD .skip)) (grs := []) (rh := .k) Tryd.func37 rfl (by kernel_rfl) noLam fun vs bs q h hn => by
  unfold g37 at h
  split at h <;> cases h
  rename_i e g b i d j
  exact ⟨_, rfl, ca (fun R => (R (.bool (bif (bif (decide (e = ({ data := #[] } : ByteArray))) then (decide (g = 0)) else false) then (decide ((Z.wrap ((↑b : Int) + (↑d : Int))) = 0)) else false)) [] [])) (fun R => by kernel_rfl) (lf rfl rfl)⟩
/-! ### shotline/shotlinebase.CopyLegs -/
noncomputable def m36 (a : Nat) (b : Dat) : Nat × Dat :=
  ((0 + a), ((datS [] 3).app 0 b))
noncomputable def n36 (a : Nat) (b : Dat) : Bool :=
  ((decide ((0 + a) ≤ 1073741824)) && ((decide ((0 + (0 + a)) ≤ (0 + a))) && true))
noncomputable def q36 (r : Nat × Dat) : SV × List Blk × List Blk := (.ro [W Z, W Z, W Z] r.1 r.2, [], [])
noncomputable def g36 : GF := fun vs bs => match vs, bs with
  | [.ro [W Z, W Z, W Z] a b], [] => some (rs 0 (q36 (m36 a b)) [n36 a b])
  | _, _ => none
noncomputable def c36 : Ctr := genC [.ro [W Z, W Z, W Z]] g36
theorem k36 : CtrOk Tryd.prog c36 36 := cx tn mix_ok 8 (fn := Tryd.f36) (c := (Tryd.f36.body.getD .skip)) (grs := []) (rh := .ro [W Z, W Z, W Z]) Tryd.func36 rfl (by kernel_rfl) noLam fun vs bs q h hn => by
  unfold g36 at h
  split at h <;> cases h
  rename_i a b
  have hn := n1 hn
  exact ⟨_, rfl, ca (fun R => (cnd (decide ((0 + a) ≤ 1073741824))
 (cnd (decide ((0 + (0 + a)) ≤ (0 + a)))
 (R (.ro [W Z, W Z, W Z] (0 + a) ((datS [] 3).app 0 b)) [] [])
   False)
  False)) (fun R => by kernel_rfl) (cn (al hn) (cn (al (ar hn)) (lf rfl rfl)))⟩
/-! ### shotline/shotlinebase.CopyGases -/
noncomputable def m59 (a : Nat) (b : Dat) : Nat × Dat :=
  ((0 + a), ((datS [] 2).app 0 b))
noncomputable def n59 (a : Nat) (b : Dat) : Bool :=
  ((decide ((0 + a) ≤ 1073741824)) && ((decide ((0 + (0 + a)) ≤ (0 + a))) && true))
noncomputable def q59 (r : Nat × Dat) : SV × List Blk × List Blk := (.ro [W Z, W Z] r.1 r.2, [], [])
noncomputable def g59 : GF := fun vs bs => match vs, bs with
  | [.ro [W Z, W Z] a b], [] => some (rs 0 (q59 (m59 a b)) [n59 a b])
  | _, _ => none
noncomputable def c59 : Ctr := genC [.ro [W Z, W Z]] g59
theorem k59 : CtrOk Tryd.prog c59 59 := cx tn mix_ok 8 (fn := Tryd.f59) (c := (Tryd.f59.body.getD .skip)) (grs := []) (rh := .ro [W Z, W Z]) Tryd.func59 rfl (by kernel_rfl) noLam fun vs bs q h hn => by
  unfold g59 at h
  split at h <;> cases h
  rename_i a b
  have hn := n1 hn
  exact ⟨_, rfl, ca (fun R => (cnd (decide ((0 + a) ≤ 1073741824))
 (cnd (decide ((0 + (0 + a)) ≤ (0 + a)))
 (R (.ro [W Z, W Z] (0 + a) ((datS [] 2).app 0 b)) [] [])
   False)
  False)) (fun R => by kernel_rfl) (cn (al hn) (cn (al (ar hn)) (lf rfl rfl)))⟩
/-! ### shotline/shotlinebase.CopyPlan -/
noncomputable def m20 (i : ByteArray) (j : Int) (b : Nat) (d : Dat) (e : Nat) (g : Dat) : ByteArray × Int × Nat × Dat × Nat × Dat :=
  (i, j, (m59 b d).1, (m59 b d).2, (m36 e g).1, (m36 e g).2)
noncomputable def n20 (i : ByteArray) (j : Int) (b : Nat) (d : Dat) (e : Nat) (g : Dat) : Bool :=
  ((n59 b d) && ((n36 e g) && true))
noncomputable def q20 (r : ByteArray × Int × Nat × Dat × Nat × Dat) : SV × List Blk × List Blk := (.agg [.str r.1, V Z r.2.1, .ro [W Z, W Z] r.2.2.1 r.2.2.2.1, .ro [W Z, W Z, W Z] r.2.2.2.2.1 r.2.2.2.2.2], [], [])
noncomputable def g20 : GF := fun vs bs => match vs, bs with
  | [.agg [.str i, V Z j, .ro [W Z, W Z] b d, .ro [W Z, W Z, W Z] e g]], [] => some (rs 0 (q20 (m20 i j b d e g)) [n20 i j b d e g])
  | _, _ => none
noncomputable def c20 : Ctr := genC [.a [.k, .k, .ro [W Z, W Z], .ro [W Z, W Z, W Z]]] g20
theorem k20 : CtrOk Tryd.prog c20 20 := cx (tc k36 (tc k59 tn)) mix_ok 8 (fn := Tryd.f20) (c := (Tryd.f20.body.getD .skip)) (grs := []) (rh := .t [.k, .k, .ro [W Z, W Z], .ro [W Z, W Z, W Z]]) Tryd.func20 rfl (by kernel_rfl) noLam fun vs bs q h hn => by
  unfold g20 at h
  split at h <;> cases h
  rename_i i j b d e g
  have hn := n1 hn
  exact ⟨_, rfl, ca (fun R => (cnd (n59 b d)
 (cnd (n36 e g)
 (R (.agg [.str i, V Z j, .ro [W Z, W Z] (m59 b d).1 (m59 b d).2, .ro [W Z, W Z, W Z] (m36 e g).1 (m36 e g).2]) [] [])
   False)
  False)) (fun R => by kernel_rfl) (cn (al hn) (cn (al (ar hn)) (lf rfl rfl)))⟩
/-! ### shotline/shotlinebase.Floor -/
noncomputable def m91 (b a : Int) : Int :=
  (cond (decide ((b.tmod a) < 0)) (Z.wrap ((Z.wrap (b.tdiv a)) - 1)) (Z.wrap (b.tdiv a)))
noncomputable def n91 (b a : Int) : Bool :=
  ((bif (decide (a = 0)) then false else true) && ((bif (decide (a = 0)) then false else true) && true))
noncomputable def q91 (r : Int) : SV × List Blk × List Blk := (V Z r, [], [])
noncomputable def g91 : GF := fun vs bs => match vs, bs with
  | [V Z b, V Z a], [] => some (rs 0 (q91 (m91 b a)) [n91 b a])
  | _, _ => none
noncomputable def c91 : Ctr := genC [.k, .k] g91
theorem k91 : CtrOk Tryd.prog c91 91 := cx tn mix_ok 8 (fn := Tryd.f91) (c := (Tryd.f91.body.getD .skip)) (grs := []) (rh := .k) Tryd.func91 rfl (by kernel_rfl) noLam fun vs bs q h hn => by
  unfold g91 at h
  split at h <;> cases h
  rename_i b a
  have hn := n1 hn
  exact ⟨_, rfl, ca (fun R => (cnd (bif (decide (a = 0)) then false else true)
 (cnd (bif (decide (a = 0)) then false else true)
 (cnd (decide ((b.tmod a) < 0))
 (R (V Z (Z.wrap ((Z.wrap (b.tdiv a)) - 1))) [] [])
 (R (V Z (Z.wrap (b.tdiv a))) [] []))
   False)
  False)) (fun R => by kernel_rfl) (cn (al hn) (cn (al (ar hn)) (co (fun h0 => lf (cT h0 rfl) rfl) (fun h0 => lf (cF h0 rfl) rfl))))⟩
/-! ### shotline/shotlinebase.Ceil -/
noncomputable def m92 (a b : Int) : Int :=
  (Z.wrap (0 - (m91 (Z.wrap (0 - a)) b)))
noncomputable def n92 (a b : Int) : Bool :=
  ((n91 (Z.wrap (0 - a)) b) && true)
noncomputable def q92 (r : Int) : SV × List Blk × List Blk := (V Z r, [], [])
noncomputable def g92 : GF := fun vs bs => match vs, bs with
  | [V Z a, V Z b], [] => some (rs 0 (q92 (m92 a b)) [n92 a b])
  | _, _ => none
noncomputable def c92 : Ctr := genC [.k, .k] g92
theorem k92 : CtrOk Tryd.prog c92 92 := cx (tc k91 tn) mix_ok 8 (fn := Tryd.f92) (c := (Tryd.f92.body.getD .skip)) (grs := []) (rh := .k) Tryd.func92 rfl (by kernel_rfl) noLam fun vs bs q h hn => by
  unfold g92 at h
  split at h <;> cases h
  rename_i a b
  have hn := n1 hn
  exact ⟨_, rfl, ca (fun R => (cnd (n91 (Z.wrap (0 - a)) b)
 (R (V Z (Z.wrap (0 - (m91 (Z.wrap (0 - a)) b)))) [] [])
  False)) (fun R => by kernel_rfl) (cn (al hn) (lf rfl rfl))⟩
/-! ### shotline/shotlinebase.IsName -/
noncomputable def l64_0 (b : ByteArray) : Nat → Int → Option (Bool × (Bool) × (Unit))
  | 0, _ => none
  | f + 1, a => (cond (decide (a < (↑b.size : Int))) (cond (decide (0 ≤ a ∧ a < (↑b.size : Int))) (cond (bif (bif (bif (bif (decide (97 ≤ (byteAt b a.toNat))) then (decide ((byteAt b a.toNat) ≤ 122)) else false) then true else (bif (decide (65 ≤ (byteAt b a.toNat))) then (decide ((byteAt b a.toNat) ≤ 90)) else false)) then false else true) then (bif (decide (a = 0)) then true else (bif (bif (decide ((byteAt b a.toNat) = 45)) then false else true) then (bif (decide ((byteAt b a.toNat) < 48)) then true else (decide (57 < (byteAt b a.toNat)))) else false)) else false) (some (true, false, default)) (l64_0 b f (Z.wrap (a + 1)))) none) (some (false, default, ())))
noncomputable abbrev o64_0 (b : ByteArray) (a : Int) : Option (Bool × (Bool) × (Unit)) := l64_0 b (b.size + a.toNat + 8) a
noncomputable def e64_0 (b : ByteArray) (r : Bool × (Bool) × (Unit)) (K : XR) : Prop := cnd r.1 (K (XE.ret) [.bool r.2.1] []) (K (XE.exit 0) [.any] [])
noncomputable def g64_0 : LSum := fun s k => match czv 0 55 [0, 3] 0 [] s with
  | some ([.str b, V Z a], []) => needs [(o64_0 b a).isSome] (e64_0 b ((o64_0 b a).getD default) fun e vs bs => inBlk 0 k e (mkSt 0 55 [2] vs 0 bs))
  | _ => False
theorem z64_0 : LOk Tryd.prog g64_0 (.block 0 (bodyAt (Tryd.f64.body.getD .skip) 0)) := by
  refine lb (ι := ByteArray × Int) (fuel := 8) (na := 0) (nt := 55) (nx := 0) (Lh := [0, 3]) (Le := [2]) (gl := []) tn mix_ok noLam rfl (fun f (b, a) K => GG default (e64_0 b) K (l64_0 b f a)) (fun (b, a) => [.str b, V Z a]) (fun (b, a) => []) (fun (_, _) K => gg_none) ?_ ?_
  · rintro f ⟨b, a⟩ K hG
    refine ro (fun R => (cnd (decide (a < (↑b.size : Int)))
 (cnd (decide (0 ≤ a ∧ a < (↑b.size : Int)))
 (cnd (bif (bif (bif (bif (decide (97 ≤ (byteAt b a.toNat))) then (decide ((byteAt b a.toNat) ≤ 122)) else false) then true else (bif (decide (65 ≤ (byteAt b a.toNat))) then (decide ((byteAt b a.toNat) ≤ 90)) else false)) then false else true) then (bif (decide (a = 0)) then true else (bif (bif (decide ((byteAt b a.toNat) = 45)) then false else true) then (bif (decide ((byteAt b a.toNat) < 48)) then true else (decide (57 < (byteAt b a.toNat)))) else false)) else false)
 (R (XE.ret) [.bool false] [])
 (R (XE.normal) [.str b, V Z (Z.wrap (a + 1))] []))
   False)
 (R (XE.exit 0) [.any] []))) (fun R => by kernel_rfl) ?_
    exact ch hG (fun h0 => cg h0 fun h1 => ch h1 (fun h2 => h2.2) (fun h2 => ⟨(_, _), rfl, rfl, h2⟩)) (fun h0 => h0.2)
  · intro s k h
    unfold g64_0 at h
    split at h <;> try exact h.elim
    rename_i e1
    rw [needs_iff] at h
    exact ⟨_, e1, _, (_, _), rfl, rfl, h.1 _ (List.mem_singleton.2 rfl), h.2⟩
noncomputable def m64 (d : ByteArray) : Bool :=
  (cond (bif (decide ((↑d.size : Int) < 1)) then true else (decide (12 < (↑d.size : Int)))) false (cond ((o64_0 d 0).getD default).1 ((o64_0 d 0).getD default).2.1 true))
noncomputable def n64 (d : ByteArray) : Bool :=
  (cond (bif (decide ((↑d.size : Int) < 1)) then true else (decide (12 < (↑d.size : Int)))) true (((o64_0 d 0).isSome) && true))
noncomputable def q64 (r : Bool) : SV × List Blk × List Blk := (.bool r, [], [])
noncomputable def g64 : GF := fun vs bs => match vs, bs with
  | [.str d], [] => some (rs 0 (q64 (m64 d)) [n64 d])
  | _, _ => none
noncomputable def c64 : Ctr := genC [.k] g64
theorem k64 : CtrOk Tryd.prog c64 64 := cx tn mix_ok 8 (fn := Tryd.f64) (c := (Tryd.f64.body.getD .skip)) (grs := []) (rh := .k) Tryd.func64 rfl (by kernel_rfl) (lam_of rfl (lc z64_0 ln)) fun vs bs q h hn => by
  unfold g64 at h
  split at h <;> cases h
  rename_i d
  have hn := n1 hn
  exact ⟨_, rfl, ca (fun R => (cnd (bif (decide ((↑d.size : Int) < 1)) then true else (decide (12 < (↑d.size : Int))))
 (R (.bool false) [] [])
 (cnd ((o64_0 d 0).isSome)
 (cnd ((o64_0 d 0).getD default).1
 (R (.bool ((o64_0 d 0).getD default).2.1) [] [])
 (R (.bool true) [] []))
   False))) (fun R => by kernel_rfl) (co (fun h0 => lf (cT h0 rfl) rfl) (fun h0 => cn (al (cf h0 hn)) (co (fun h1 => lf (cF h0 (cT h1 rfl)) rfl) (fun h1 => lf (cF h0 (cF h1 rfl)) rfl))))⟩
/-! ### shotline/shotlineref01.CheckGas -/
noncomputable def m65 (a b : Int) : Int :=
  (cond (bif (bif (m16 a 0 1000) then false else true) then true else (bif (m16 b 0 1000) then false else true)) 2 (cond (decide ((1000 : Int) < (Z.wrap (a + b)))) 23 0))
noncomputable def q65 (r : Int) : SV × List Blk × List Blk := (V Z r, [], [])
noncomputable def g65 : GF := fun vs bs => match vs, bs with
  | [.agg [V Z a, V Z b]], [] => some (rs 0 (q65 (m65 a b)) [])
  | _, _ => none
noncomputable def c65 : Ctr := genC [.k] g65
theorem k65 : CtrOk Tryd.prog c65 65 := cx (tc k16 tn) mix_ok 8 (fn := Tryd.f65) (c := (Tryd.f65.body.getD .skip)) (grs := []) (rh := .k) Tryd.func65 rfl (by kernel_rfl) noLam fun vs bs q h hn => by
  unfold g65 at h
  split at h <;> cases h
  rename_i a b
  exact ⟨_, rfl, ca (fun R => (cnd (bif (bif (m16 a 0 1000) then false else true) then true else (bif (m16 b 0 1000) then false else true))
 (R (V Z 2) [] [])
 (cnd (decide ((1000 : Int) < (Z.wrap (a + b))))
 (R (V Z 23) [] [])
 (R (V Z 0) [] [])))) (fun R => by kernel_rfl) (co (fun h0 => lf (cT h0 rfl) rfl) (fun h0 => co (fun h1 => lf (cF h0 (cT h1 rfl)) rfl) (fun h1 => lf (cF h0 (cF h1 rfl)) rfl)))⟩
/-! ### shotline/profile.MeanDepth -/
noncomputable def l23_0 (p : Nat) (t : Dat) (o : Nat) (n : Dat) (E : Int) (u : ByteArray) (v : Int) (w : Nat) (A : Dat) (x : Nat) (C : Dat) (y z : Int) (D : Dat) : Nat → Int → Int → Option (Int)
  | 0, _, _ => none
  | f + 1, F, m => (cond (decide (m < E)) (cond (decide (0 ≤ m ∧ m < ↑o)) (cond (decide (0 ≤ m ∧ m < ↑p)) (cond (decide (0 ≤ m ∧ m < ↑p)) (l23_0 p t o n E u v w A x C y z D f (Z.wrap (F + (Z.wrap ((Z.wrap ((t.ii m.toNat 1) + (n.ii m.toNat 1))) * (Z.wrap ((n.ii m.toNat 0) - (t.ii m.toNat 0))))))) (Z.wrap (m + 1))) none) none) none) (some F))
noncomputable abbrev o23_0 (p : Nat) (t : Dat) (o : Nat) (n : Dat) (E : Int) (u : ByteArray) (v : Int) (w : Nat) (A : Dat) (x : Nat) (C : Dat) (y z : Int) (D : Dat) (F m : Int) : Option (Int) := l23_0 p t o n E u v w A x C y z D (p + F.toNat + o + E.toNat + m.toNat + u.size + v.toNat + w + x + y.toNat + z.toNat + 8) F m
noncomputable def e23_0 (p : Nat) (t : Dat) (o : Nat) (n : Dat) (E : Int) (u : ByteArray) (v : Int) (w : Nat) (A : Dat) (x : Nat) (C : Dat) (y z : Int) (D : Dat) (r : Int) (K : XR) : Prop := K (XE.exit 0) [.ptr 1 0, .ro [W Z, W Z] p t, V Z r] [.cells 41 [.str u, V Z v, .ro [W Z, W Z] w A, .ro [W Z, W Z, W Z] x C], .cells 26 [V Z y, V Z z], .row 41 [.str, W Z, .sl [W Z, W Z], .sl [W Z, W Z, W Z]] 1 D]
noncomputable def g23_0 : LSum := fun s k => match czv 0 56 [2, 5, 6, 23, 24, 25] 3 [] s with
  | some ([.ptr 1 0, .ro [W Z, W Z] p t, V Z F, .ro [W Z, W Z] o n, V Z E, V Z m], [.cells 41 [.str u, V Z v, .ro [W Z, W Z] w A, .ro [W Z, W Z, W Z] x C], .cells 26 [V Z y, V Z z], .row 41 [.str, W Z, .sl [W Z, W Z], .sl [W Z, W Z, W Z]] 1 D]) => needs [(o23_0 p t o n E u v w A x C y z D F m).isSome] (e23_0 p t o n E u v w A x C y z D ((o23_0 p t o n E u v w A x C y z D F m).getD default) fun e vs bs => inBlk 0 k e (mkSt 0 56 [2, 5, 6] vs 3 bs))
  | _ => False
theorem z23_0 : LOk Tryd.prog g23_0 (.block 0 (bodyAt (Tryd.f23.body.getD .skip) 0)) := by
  refine lb (ι := Nat × Dat × Int × Nat × Dat × Int × Int × ByteArray × Int × Nat × Dat × Nat × Dat × Int × Int × Dat) (fuel := 8) (na := 0) (nt := 56) (nx := 3) (Lh := [2, 5, 6, 23, 24, 25]) (Le := [2, 5, 6]) (gl := []) (tc k54 (tc k60 (tc k61 (tc k62 tn)))) mix_ok noLam rfl (fun f (p, t, F, o, n, E, m, u, v, w, A, x, C, y, z, D) K => GG default (e23_0 p t o n E u v w A x C y z D) K (l23_0 p t o n E u v w A x C y z D f F m)) (fun (p, t, F, o, n, E, m, u, v, w, A, x, C, y, z, D) => [.ptr 1 0, .ro [W Z, W Z] p t, V Z F, .ro [W Z, W Z] o n, V Z E, V Z m]) (fun (p, t, F, o, n, E, m, u, v, w, A, x, C, y, z, D) => [.cells 41 [.str u, V Z v, .ro [W Z, W Z] w A, .ro [W Z, W Z, W Z] x C], .cells 26 [V Z y, V Z z], .row 41 [.str, W Z, .sl [W Z, W Z], .sl [W Z, W Z, W Z]] 1 D]) (fun (_, _, _, _, _, _, _, _, _, _, _, _, _, _, _, _) K => gg_none) ?_ ?_
  · rintro f ⟨p, t, F, o, n, E, m, u, v, w, A, x, C, y, z, D⟩ K hG
    refine ro (fun R => (cnd (decide (m < E))
 (cnd (decide (0 ≤ m ∧ m < ↑o))
 (cnd (decide (0 ≤ m ∧ m < ↑p))
 (cnd (decide (0 ≤ m ∧ m < ↑p))
 (R (XE.normal) [.ptr 1 0, .ro [W Z, W Z] p t, V Z (Z.wrap (F + (Z.wrap ((Z.wrap ((t.ii m.toNat 1) + (n.ii m.toNat 1))) * (Z.wrap ((n.ii m.toNat 0) - (t.ii m.toNat 0))))))), .ro [W Z, W Z] o n, V Z E, V Z (Z.wrap (m + 1))] [.cells 41 [.str u, V Z v, .ro [W Z, W Z] w A, .ro [W Z, W Z, W Z] x C], .cells 26 [V Z y, V Z z], .row 41 [.str, W Z, .sl [W Z, W Z], .sl [W Z, W Z, W Z]] 1 D])
     False)
    False)
   False)
 (R (XE.exit 0) [.ptr 1 0, .ro [W Z, W Z] p t, V Z F] [.cells 41 [.str u, V Z v, .ro [W Z, W Z] w A, .ro [W Z, W Z, W Z] x C], .cells 26 [V Z y, V Z z], .row 41 [.str, W Z, .sl [W Z, W Z], .sl [W Z, W Z, W Z]] 1 D]))) (fun R => by kernel_rfl) ?_
    exact ch hG (fun h0 => cg h0 fun h1 => cg h1 fun h2 => cg h2 fun h3 => ⟨(_, _, _, _, _, _, _, _, _, _, _, _, _, _, _, _), rfl, rfl, h3⟩) (fun h0 => h0.2)
  · intro s k h
    unfold g23_0 at h
    split at h <;> try exact h.elim
    rename_i e1
    rw [needs_iff] at h
    exact ⟨_, e1, _, (_, _, _, _, _, _, _, _, _, _, _, _, _, _, _, _), rfl, rfl, h.1 _ (List.mem_singleton.2 rfl), h.2⟩
noncomputable def m23 (j : ByteArray) (l : Int) (b : Nat) (d : Dat) (g : Nat) (i : Dat) : Int × Int × Int :=
  (cond (bif (decide ((m60 1 (datS [SV.str j, V Z l, SV.ro [Kd.int Z, Kd.int Z] b d, SV.ro [Kd.int Z, Kd.int Z, Kd.int Z] g i] 4)) = 0)) then false else true) (0, 0, (m60 1 (datS [SV.str j, V Z l, SV.ro [Kd.int Z, Kd.int Z] b d, SV.ro [Kd.int Z, Kd.int Z, Kd.int Z] g i] 4))) (cond (decide ((m62 (m61 j l b d g i).1 (m61 j l b d g i).2) = 0)) (0, 0, 0) ((m54 ((o23_0 (m61 j l b d g i).1 (m61 j l b d g i).2 (((↑((m61 j l b d g i).1) : Int) - 1).toNat) ((m61 j l b d g i).2.shift 1) (↑(((↑((m61 j l b d g i).1) : Int) - 1).toNat) : Int) j l b d g i 0 0 (datS [SV.str j, V Z l, SV.ro [Kd.int Z, Kd.int Z] b d, SV.ro [Kd.int Z, Kd.int Z, Kd.int Z] g i] 4) 0 0).getD 0) (Z.wrap (2 * (m62 (m61 j l b d g i).1 (m61 j l b d g i).2)))).1, (m54 ((o23_0 (m61 j l b d g i).1 (m61 j l b d g i).2 (((↑((m61 j l b d g i).1) : Int) - 1).toNat) ((m61 j l b d g i).2.shift 1) (↑(((↑((m61 j l b d g i).1) : Int) - 1).toNat) : Int) j l b d g i 0 0 (datS [SV.str j, V Z l, SV.ro [Kd.int Z, Kd.int Z] b d, SV.ro [Kd.int Z, Kd.int Z, Kd.int Z] g i] 4) 0 0).getD 0) (Z.wrap (2 * (m62 (m61 j l b d g i).1 (m61 j l b d g i).2)))).2, 0)))
noncomputable def n23 (j : ByteArray) (l : Int) (b : Nat) (d : Dat) (g : Nat) (i : Dat) : Bool :=
  ((n60 1 (datS [SV.str j, V Z l, SV.ro [Kd.int Z, Kd.int Z] b d, SV.ro [Kd.int Z, Kd.int Z, Kd.int Z] g i] 4)) && (cond (bif (decide ((m60 1 (datS [SV.str j, V Z l, SV.ro [Kd.int Z, Kd.int Z] b d, SV.ro [Kd.int Z, Kd.int Z, Kd.int Z] g i] 4)) = 0)) then false else true) true ((n61 j l b d g i) && ((n62 (m61 j l b d g i).1 (m61 j l b d g i).2) && (cond (decide ((m62 (m61 j l b d g i).1 (m61 j l b d g i).2) = 0)) true ((decide ((0 : Int) ≤ (1 : Int) ∧ (1 : Int) ≤ (↑(m61 j l b d g i).1 : Int) ∧ (↑(m61 j l b d g i).1 : Int) ≤ (↑(m61 j l b d g i).1 : Int))) && (((o23_0 (m61 j l b d g i).1 (m61 j l b d g i).2 (((↑((m61 j l b d g i).1) : Int) - 1).toNat) ((m61 j l b d g i).2.shift 1) (↑(((↑((m61 j l b d g i).1) : Int) - 1).toNat) : Int) j l b d g i 0 0 (datS [SV.str j, V Z l, SV.ro [Kd.int Z, Kd.int Z] b d, SV.ro [Kd.int Z, Kd.int Z, Kd.int Z] g i] 4) 0 0).isSome) && ((n62 (m61 j l b d g i).1 (m61 j l b d g i).2) && ((n54 ((o23_0 (m61 j l b d g i).1 (m61 j l b d g i).2 (((↑((m61 j l b d g i).1) : Int) - 1).toNat) ((m61 j l b d g i).2.shift 1) (↑(((↑((m61 j l b d g i).1) : Int) - 1).toNat) : Int) j l b d g i 0 0 (datS [SV.str j, V Z l, SV.ro [Kd.int Z, Kd.int Z] b d, SV.ro [Kd.int Z, Kd.int Z, Kd.int Z] g i] 4) 0 0).getD 0) (Z.wrap (2 * (m62 (m61 j l b d g i).1 (m61 j l b d g i).2)))) && true)))))))))
noncomputable def q23 (r : Int × Int × Int) : SV × List Blk × List Blk := (.tup [.agg [V Z r.1, V Z r.2.1], V Z r.2.2], [], [])
noncomputable def g23 : GF := fun vs bs => match vs, bs with
  | [.agg [.str j, V Z l, .ro [W Z, W Z] b d, .ro [W Z, W Z, W Z] g i]], [] => some (rs 0 (q23 (m23 j l b d g i)) [n23 j l b d g i])
  | _, _ => none
noncomputable def c23 : Ctr := genC [.a [.k, .k, .ro [W Z, W Z], .ro [W Z, W Z, W Z]]] g23
theorem k23 : CtrOk Tryd.prog c23 23 := cx (tc k54 (tc k60 (tc k61 (tc k62 tn)))) mix_ok 8 (fn := Tryd.f23) (c := (Tryd.f23.body.getD .skip)) (grs := []) (rh := .k) Tryd.func23 rfl (by kernel_rfl) (lam_of rfl (lc z23_0 ln)) fun vs bs q h hn => by
  unfold g23 at h
  split at h <;> cases h
  rename_i j l b d g i
  have hn := n1 hn
  exact ⟨_, rfl, ca (fun R => (cnd (n60 1 (datS [SV.str j, V Z l, SV.ro [Kd.int Z, Kd.int Z] b d, SV.ro [Kd.int Z, Kd.int Z, Kd.int Z] g i] 4))
 (cnd (bif (decide ((m60 1 (datS [SV.str j, V Z l, SV.ro [Kd.int Z, Kd.int Z] b d, SV.ro [Kd.int Z, Kd.int Z, Kd.int Z] g i] 4)) = 0)) then false else true)
 (R (.tup [.agg [V Z 0, V Z 0], V Z (m60 1 (datS [SV.str j, V Z l, SV.ro [Kd.int Z, Kd.int Z] b d, SV.ro [Kd.int Z, Kd.int Z, Kd.int Z] g i] 4))]) [] [])
 (cnd (n61 j l b d g i)
 (cnd (n62 (m61 j l b d g i).1 (m61 j l b d g i).2)
 (cnd (decide ((m62 (m61 j l b d g i).1 (m61 j l b d g i).2) = 0))
 (R (.tup [.agg [V Z 0, V Z 0], V Z 0]) [] [])
 (cnd (decide ((0 : Int) ≤ (1 : Int) ∧ (1 : Int) ≤ (↑(m61 j l b d g i).1 : Int) ∧ (↑(m61 j l b d g i).1 : Int) ≤ (↑(m61 j l b d g i).1 : Int)))
 (cnd ((o23_0 (m61 j l b d g i).1 (m61 j l b d g i).2 (((↑((m61 j l b d g i).1) : Int) - 1).toNat) ((m61 j l b d g i).2.shift 1) (↑(((↑((m61 j l b d g i).1) : Int) - 1).toNat) : Int) j l b d g i 0 0 (datS [SV.str j, V Z l, SV.ro [Kd.int Z, Kd.int Z] b d, SV.ro [Kd.int Z, Kd.int Z, Kd.int Z] g i] 4) 0 0).isSome)
 (cnd (n62 (m61 j l b d g i).1 (m61 j l b d g i).2)
 (cnd (n54 ((o23_0 (m61 j l b d g i).1 (m61 j l b d g i).2 (((↑((m61 j l b d g i).1) : Int) - 1).toNat) ((m61 j l b d g i).2.shift 1) (↑(((↑((m61 j l b d g i).1) : Int) - 1).toNat) : Int) j l b d g i 0 0 (datS [SV.str j, V Z l, SV.ro [Kd.int Z, Kd.int Z] b d, SV.ro [Kd.int Z, Kd.int Z, Kd.int Z] g i] 4) 0 0).getD 0) (Z.wrap (2 * (m62 (m61 j l b d g i).1 (m61 j l b d g i).2))))
 (R (.tup [.agg [V Z (m54 ((o23_0 (m61 j l b d g i).1 (m61 j l b d g i).2 (((↑((m61 j l b d g i).1) : Int) - 1).toNat) ((m61 j l b d g i).2.shift 1) (↑(((↑((m61 j l b d g i).1) : Int) - 1).toNat) : Int) j l b d g i 0 0 (datS [SV.str j, V Z l, SV.ro [Kd.int Z, Kd.int Z] b d, SV.ro [Kd.int Z, Kd.int Z, Kd.int Z] g i] 4) 0 0).getD 0) (Z.wrap (2 * (m62 (m61 j l b d g i).1 (m61 j l b d g i).2)))).1, V Z (m54 ((o23_0 (m61 j l b d g i).1 (m61 j l b d g i).2 (((↑((m61 j l b d g i).1) : Int) - 1).toNat) ((m61 j l b d g i).2.shift 1) (↑(((↑((m61 j l b d g i).1) : Int) - 1).toNat) : Int) j l b d g i 0 0 (datS [SV.str j, V Z l, SV.ro [Kd.int Z, Kd.int Z] b d, SV.ro [Kd.int Z, Kd.int Z, Kd.int Z] g i] 4) 0 0).getD 0) (Z.wrap (2 * (m62 (m61 j l b d g i).1 (m61 j l b d g i).2)))).2], V Z 0]) [] [])
          False)
         False)
        False)
       False))
     False)
    False))
  False)) (fun R => by kernel_rfl) (cn (al hn) (co (fun h0 => lf (cT h0 rfl) rfl) (fun h0 => cn (al (cf h0 (ar hn))) (cn (al (ar (cf h0 (ar hn)))) (co (fun h1 => lf (cF h0 (cT h1 rfl)) rfl) (fun h1 => cn (al (cf h1 (ar (ar (cf h0 (ar hn)))))) (cn (al (ar (cf h1 (ar (ar (cf h0 (ar hn))))))) (cn (al (ar (ar (cf h1 (ar (ar (cf h0 (ar hn)))))))) (cn (al (ar (ar (ar (cf h1 (ar (ar (cf h0 (ar hn))))))))) (lf (cF h0 (cF h1 rfl)) rfl))))))))))⟩
/-! ### shotline/shotlineref02.rounded -/
noncomputable def m56 (a b : Int) : Int × Int :=
  ((m91 a b), (m92 a b))
noncomputable def n56 (a b : Int) : Bool :=
  ((n91 a b) && ((n92 a b) && true))
noncomputable def q56 (r : Int × Int) : SV × List Blk × List Blk := (.agg [V Z r.1, V Z r.2], [], [])
noncomputable def g56 : GF := fun vs bs => match vs, bs with
  | [V Z a, V Z b], [] => some (rs 0 (q56 (m56 a b)) [n56 a b])
  | _, _ => none
noncomputable def c56 : Ctr := genC [.k, .k] g56
theorem k56 : CtrOk Tryd.prog c56 56 := cx (tc k91 (tc k92 tn)) mix_ok 8 (fn := Tryd.f56) (c := (Tryd.f56.body.getD .skip)) (grs := []) (rh := .k) Tryd.func56 rfl (by kernel_rfl) noLam fun vs bs q h hn => by
  unfold g56 at h
  split at h <;> cases h
  rename_i a b
  have hn := n1 hn
  exact ⟨_, rfl, ca (fun R => (cnd (n91 a b)
 (cnd (n92 a b)
 (R (.agg [V Z (m91 a b), V Z (m92 a b)]) [] [])
   False)
  False)) (fun R => by kernel_rfl) (cn (al hn) (cn (al (ar hn)) (lf rfl rfl)))⟩
/-! ### shotline/shotlineref02.CheckPlan -/
noncomputable def l25_0 (j : ByteArray) (l : Int) (d : Nat) (g : Dat) (i : Nat) (b : Dat) : Nat → Int → Option (Bool × (Int × Int) × (Unit))
  | 0, _ => none
  | f + 1, w => (cond (decide (w < (↑d : Int))) (cond (decide (0 ≤ w ∧ w < ↑d)) (cond (bif (decide ((m65 (g.ii w.toNat 0) (g.ii w.toNat 1)) = 0)) then false else true) (some (true, (0, (m65 (g.ii w.toNat 0) (g.ii w.toNat 1))), default)) (l25_0 j l d g i b f (Z.wrap (w + 1)))) none) (some (false, default, ())))
noncomputable abbrev o25_0 (j : ByteArray) (l : Int) (d : Nat) (g : Dat) (i : Nat) (b : Dat) (w : Int) : Option (Bool × (Int × Int) × (Unit)) := l25_0 j l d g i b (w.toNat + j.size + l.toNat + d + i + 8) w
noncomputable def e25_0 (j : ByteArray) (l : Int) (d : Nat) (g : Dat) (i : Nat) (b : Dat) (r : Bool × (Int × Int) × (Unit)) (K : XR) : Prop := cnd r.1 (K (XE.ret) [.ptr 0 0, V Z r.2.1.1, V Z r.2.1.2] [.cells 41 [.str j, V Z l, .ro [W Z, W Z] d g, .ro [W Z, W Z, W Z] i b]]) (K (XE.exit 0) [.ptr 0 0, .any, .any] [.cells 41 [.str j, V Z l, .ro [W Z, W Z] d g, .ro [W Z, W Z, W Z] i b]])
noncomputable def g25_0 : LSum := fun s k => match czv 0 84 [1, 4] 1 [] s with
  | some ([.ptr 0 0, V Z w], [.cells 41 [.str j, V Z l, .ro [W Z, W Z] d g, .ro [W Z, W Z, W Z] i b]]) => needs [(o25_0 j l d g i b w).isSome] (e25_0 j l d g i b ((o25_0 j l d g i b w).getD default) fun e vs bs => inBlk 0 k e (mkSt 0 84 [1, 2, 3] vs 1 bs))
  | _ => False
theorem z25_0 : LOk Tryd.prog g25_0 (.block 0 (bodyAt (Tryd.f25.body.getD .skip) 0)) := by
  refine lb (ι := Int × ByteArray × Int × Nat × Dat × Nat × Dat) (fuel := 8) (na := 0) (nt := 84) (nx := 1) (Lh := [1, 4]) (Le := [1, 2, 3]) (gl := []) (tc k16 (tc k64 (tc k65 tn))) mix_ok noLam rfl (fun f (w, j, l, d, g, i, b) K => GG default (e25_0 j l d g i b) K (l25_0 j l d g i b f w)) (fun (w, j, l, d, g, i, b) => [.ptr 0 0, V Z w]) (fun (w, j, l, d, g, i, b) => [.cells 41 [.str j, V Z l, .ro [W Z, W Z] d g, .ro [W Z, W Z, W Z] i b]]) (fun (_, _, _, _, _, _, _) K => gg_none) ?_ ?_
  · rintro f ⟨w, j, l, d, g, i, b⟩ K hG
    refine ro (fun R => (cnd (decide (w < (↑d : Int)))
 (cnd (decide (0 ≤ w ∧ w < ↑d))
 (cnd (bif (decide ((m65 (g.ii w.toNat 0) (g.ii w.toNat 1)) = 0)) then false else true)
 (R (XE.ret) [.ptr 0 0, V Z 0, V Z (m65 (g.ii w.toNat 0) (g.ii w.toNat 1))] [.cells 41 [.str j, V Z l, .ro [W Z, W Z] d g, .ro [W Z, W Z, W Z] i b]])
 (R (XE.normal) [.ptr 0 0, V Z (Z.wrap (w + 1))] [.cells 41 [.str j, V Z l, .ro [W Z, W Z] d g, .ro [W Z, W Z, W Z] i b]]))
   False)
 (R (XE.exit 0) [.ptr 0 0, .any, .any] [.cells 41 [.str j, V Z l, .ro [W Z, W Z] d g, .ro [W Z, W Z, W Z] i b]]))) (fun R => by kernel_rfl) ?_
    exact ch hG (fun h0 => cg h0 fun h1 => ch h1 (fun h2 => h2.2) (fun h2 => ⟨(_, _, _, _, _, _, _), rfl, rfl, h2⟩)) (fun h0 => h0.2)
  · intro s k h
    unfold g25_0 at h
    split at h <;> try exact h.elim
    rename_i e1
    rw [needs_iff] at h
    exact ⟨_, e1, _, (_, _, _, _, _, _, _), rfl, rfl, h.1 _ (List.mem_singleton.2 rfl), h.2⟩
noncomputable def l25_2 (j : ByteArray) (l : Int) (d : Nat) (g : Dat) (i : Nat) (b : Dat) : Nat → Int → Int → Option (Bool × (Int × Int) × (Unit))
  | 0, _, _ => none
  | f + 1, x, v => (cond (decide (v < (↑i : Int))) (cond (decide (0 ≤ v ∧ v < ↑i)) (cond (bif (bif (m16 (b.ii v.toNat 0) 1 1000000) then false else true) then true else (bif (m16 (b.ii v.toNat 1) 0 30000) then false else true)) (some (true, (v, 2), default)) (cond (bif (m16 (b.ii v.toNat 2) 0 (Z.wrap ((↑d : Int) - 1))) then false else true) (some (true, (v, 6), default)) (cond (decide ((1000000 : Int) < (Z.wrap (x + (b.ii v.toNat 0))))) (some (true, (v, 8), default)) (l25_2 j l d g i b f (Z.wrap (x + (b.ii v.toNat 0))) (Z.wrap (v + 1)))))) none) (some (false, default, ())))
noncomputable abbrev o25_2 (j : ByteArray) (l : Int) (d : Nat) (g : Dat) (i : Nat) (b : Dat) (x v : Int) : Option (Bool × (Int × Int) × (Unit)) := l25_2 j l d g i b (x.toNat + v.toNat + j.size + l.toNat + d + i + 8) x v
noncomputable def e25_2 (j : ByteArray) (l : Int) (d : Nat) (g : Dat) (i : Nat) (b : Dat) (r : Bool × (Int × Int) × (Unit)) (K : XR) : Prop := cnd r.1 (K (XE.ret) [V Z r.2.1.1, V Z r.2.1.2] [.cells 41 [.str j, V Z l, .ro [W Z, W Z] d g, .ro [W Z, W Z, W Z] i b]]) (K (XE.exit 2) [.any, .any] [.cells 41 [.str j, V Z l, .ro [W Z, W Z] d g, .ro [W Z, W Z, W Z] i b]])
noncomputable def g25_2 : LSum := fun s k => match czv 0 84 [1, 6, 7] 1 [] s with
  | some ([.ptr 0 0, V Z x, V Z v], [.cells 41 [.str j, V Z l, .ro [W Z, W Z] d g, .ro [W Z, W Z, W Z] i b]]) => needs [(o25_2 j l d g i b x v).isSome] (e25_2 j l d g i b ((o25_2 j l d g i b x v).getD default) fun e vs bs => inBlk 2 k e (mkSt 0 84 [2, 3] vs 1 bs))
  | _ => False
theorem z25_2 : LOk Tryd.prog g25_2 (.block 2 (bodyAt (Tryd.f25.body.getD .skip) 2)) := by
  refine lb (ι := Int × Int × ByteArray × Int × Nat × Dat × Nat × Dat) (fuel := 8) (na := 0) (nt := 84) (nx := 1) (Lh := [1, 6, 7]) (Le := [2, 3]) (gl := []) (tc k16 (tc k64 (tc k65 tn))) mix_ok (lam_of rfl (lc z25_0 ln)) rfl (fun f (x, v, j, l, d, g, i, b) K => GG default (e25_2 j l d g i b) K (l25_2 j l d g i b f x v)) (fun (x, v, j, l, d, g, i, b) => [.ptr 0 0, V Z x, V Z v]) (fun (x, v, j, l, d, g, i, b) => [.cells 41 [.str j, V Z l, .ro [W Z, W Z] d g, .ro [W Z, W Z, W Z] i b]]) (fun (_, _, _, _, _, _, _, _) K => gg_none) ?_ ?_
  · rintro f ⟨x, v, j, l, d, g, i, b⟩ K hG
    refine ro (fun R => (cnd (decide (v < (↑i : Int)))
 (cnd (decide (0 ≤ v ∧ v < ↑i))
 (cnd (bif (bif (m16 (b.ii v.toNat 0) 1 1000000) then false else true) then true else (bif (m16 (b.ii v.toNat 1) 0 30000) then false else true))
 (R (XE.ret) [V Z v, V Z 2] [.cells 41 [.str j, V Z l, .ro [W Z, W Z] d g, .ro [W Z, W Z, W Z] i b]])
 (cnd (bif (m16 (b.ii v.toNat 2) 0 (Z.wrap ((↑d : Int) - 1))) then false else true)
 (R (XE.ret) [V Z v, V Z 6] [.cells 41 [.str j, V Z l, .ro [W Z, W Z] d g, .ro [W Z, W Z, W Z] i b]])
 (cnd (decide ((1000000 : Int) < (Z.wrap (x + (b.ii v.toNat 0)))))
 (R (XE.ret) [V Z v, V Z 8] [.cells 41 [.str j, V Z l, .ro [W Z, W Z] d g, .ro [W Z, W Z, W Z] i b]])
 (R (XE.normal) [.ptr 0 0, V Z (Z.wrap (x + (b.ii v.toNat 0))), V Z (Z.wrap (v + 1))] [.cells 41 [.str j, V Z l, .ro [W Z, W Z] d g, .ro [W Z, W Z, W Z] i b]]))))
   False)
 (R (XE.exit 2) [.any, .any] [.cells 41 [.str j, V Z l, .ro [W Z, W Z] d g, .ro [W Z, W Z, W Z] i b]]))) (fun R => by kernel_rfl) ?_
    exact ch hG (fun h0 => cg h0 fun h1 => ch h1 (fun h2 => h2.2) (fun h2 => ch h2 (fun h3 => h3.2) (fun h3 => ch h3 (fun h4 => h4.2) (fun h4 => ⟨(_, _, _, _, _, _, _, _), rfl, rfl, h4⟩)))) (fun h0 => h0.2)
  · intro s k h
    unfold g25_2 at h
    split at h <;> try exact h.elim
    rename_i e1
    rw [needs_iff] at h
    exact ⟨_, e1, _, (_, _, _, _, _, _, _, _), rfl, rfl, h.1 _ (List.mem_singleton.2 rfl), h.2⟩
noncomputable def m25 (t : ByteArray) (u : Int) (m : Nat) (o : Dat) (n : Nat) (p : Dat) : Int × Int :=
  (cond (bif (m64 t) then false else true) (0, 4) (cond (bif (m16 u 400 1100) then false else true) (0, 2) (cond (decide ((↑m : Int) = 0)) (0, 10) (cond (decide (8 < (↑m : Int))) (0, 8) (cond ((o25_0 t u m o n p 0).getD default).1 (((o25_0 t u m o n p 0).getD default).2.1.1, ((o25_0 t u m o n p 0).getD default).2.1.2) (cond (decide ((60 : Int) < (↑n : Int))) (0, 8) (cond ((o25_2 t u m o n p 0 0).getD default).1 (((o25_2 t u m o n p 0 0).getD default).2.1.1, ((o25_2 t u m o n p 0 0).getD default).2.1.2) (0, 0))))))))
noncomputable def n25 (t : ByteArray) (u : Int) (m : Nat) (o : Dat) (n : Nat) (p : Dat) : Bool :=
  ((n64 t) && (cond (bif (m64 t) then false else true) true (cond (bif (m16 u 400 1100) then false else true) true (cond (decide ((↑m : Int) = 0)) true (cond (decide (8 < (↑m : Int))) true (((o25_0 t u m o n p 0).isSome) && (cond ((o25_0 t u m o n p 0).getD default).1 true (cond (decide ((60 : Int) < (↑n : Int))) true (((o25_2 t u m o n p 0 0).isSome) && true)))))))))
noncomputable def q25 (r : Int × Int) : SV × List Blk × List Blk := (.tup [V Z r.1, V Z r.2], [], [])
noncomputable def g25 : GF := fun vs bs => match vs, bs with
  | [.agg [.str t, V Z u, .ro [W Z, W Z] m o, .ro [W Z, W Z, W Z] n p]], [] => some (rs 0 (q25 (m25 t u m o n p)) [n25 t u m o n p])
  | _, _ => none
noncomputable def c25 : Ctr := genC [.a [.k, .k, .ro [W Z, W Z], .ro [W Z, W Z, W Z]]] g25
theorem k25 : CtrOk Tryd.prog c25 25 := cx (tc k16 (tc k64 (tc k65 tn))) mix_ok 8 (fn := Tryd.f25) (c := (Tryd.f25.body.getD .skip)) (grs := []) (rh := .k) Tryd.func25 rfl (by kernel_rfl) (lam_of rfl (lc z25_0 (lc z25_2 ln))) fun vs bs q h hn => by
  unfold g25 at h
  split at h <;> cases h
  rename_i t u m o n p
  have hn := n1 hn
  exact ⟨_, rfl, ca (fun R => (cnd (n64 t)
 (cnd (bif (m64 t) then false else true)
 (R (.tup [V Z 0, V Z 4]) [] [])
 (cnd (bif (m16 u 400 1100) then false else true)
 (R (.tup [V Z 0, V Z 2]) [] [])
 (cnd (decide ((↑m : Int) = 0))
 (R (.tup [V Z 0, V Z 10]) [] [])
 (cnd (decide (8 < (↑m : Int)))
 (R (.tup [V Z 0, V Z 8]) [] [])
 (cnd ((o25_0 t u m o n p 0).isSome)
 (cnd ((o25_0 t u m o n p 0).getD default).1
 (R (.tup [V Z ((o25_0 t u m o n p 0).getD default).2.1.1, V Z ((o25_0 t u m o n p 0).getD default).2.1.2]) [] [])
 (cnd (decide ((60 : Int) < (↑n : Int)))
 (R (.tup [V Z 0, V Z 8]) [] [])
 (cnd ((o25_2 t u m o n p 0 0).isSome)
 (cnd ((o25_2 t u m o n p 0 0).getD default).1
 (R (.tup [V Z ((o25_2 t u m o n p 0 0).getD default).2.1.1, V Z ((o25_2 t u m o n p 0 0).getD default).2.1.2]) [] [])
 (R (.tup [V Z 0, V Z 0]) [] []))
          False)))
       False)))))
  False)) (fun R => by kernel_rfl) (cn (al hn) (co (fun h0 => lf (cT h0 rfl) rfl) (fun h0 => co (fun h1 => lf (cF h0 (cT h1 rfl)) rfl) (fun h1 => co (fun h2 => lf (cF h0 (cF h1 (cT h2 rfl))) rfl) (fun h2 => co (fun h3 => lf (cF h0 (cF h1 (cF h2 (cT h3 rfl)))) rfl) (fun h3 => cn (al (cf h3 (cf h2 (cf h1 (cf h0 (ar hn)))))) (co (fun h4 => lf (cF h0 (cF h1 (cF h2 (cF h3 (cT h4 rfl))))) rfl) (fun h4 => co (fun h5 => lf (cF h0 (cF h1 (cF h2 (cF h3 (cF h4 (cT h5 rfl)))))) rfl) (fun h5 => cn (al (cf h5 (cf h4 (ar (cf h3 (cf h2 (cf h1 (cf h0 (ar hn))))))))) (co (fun h6 => lf (cF h0 (cF h1 (cF h2 (cF h3 (cF h4 (cF h5 (cT h6 rfl))))))) rfl) (fun h6 => lf (cF h0 (cF h1 (cF h2 (cF h3 (cF h4 (cF h5 (cF h6 rfl))))))) rfl)))))))))))⟩
/-! ### slices.Equal[[]shotline/api.Gas,shotline/api.Gas] -/
noncomputable def l75_0 (g : Nat) (b : Dat) (i : Nat) (d : Dat) (l : Int) : Nat → Int → Option (Bool × (Bool) × (Unit))
  | 0, _ => none
  | f + 1, a => (cond (decide (a < l)) (cond (decide (0 ≤ a ∧ a < ↑g)) (cond (decide (0 ≤ a ∧ a < ↑i)) (cond (bif (bif (decide ((b.ii a.toNat 0) = (d.ii a.toNat 0))) then (bif (decide ((b.ii a.toNat 1) = (d.ii a.toNat 1))) then true else false) else false) then false else true) (some (true, false, default)) (l75_0 g b i d l f (Z.wrap (a + 1)))) none) none) (some (false, default, ())))
noncomputable abbrev o75_0 (g : Nat) (b : Dat) (i : Nat) (d : Dat) (l a : Int) : Option (Bool × (Bool) × (Unit)) := l75_0 g b i d l (g + i + l.toNat + a.toNat + 8) a
noncomputable def e75_0 (g : Nat) (b : Dat) (i : Nat) (d : Dat) (l : Int) (r : Bool × (Bool) × (Unit)) (K : XR) : Prop := cnd r.1 (K (XE.ret) [.bool r.2.1] []) (K (XE.exit 0) [.any] [])
noncomputable def g75_0 : LSum := fun s k => match czv 0 26 [0, 1, 12, 13] 0 [] s with
  | some ([.ro [W Z, W Z] g b, .ro [W Z, W Z] i d, V Z l, V Z a], []) => needs [(o75_0 g b i d l a).isSome] (e75_0 g b i d l ((o75_0 g b i d l a).getD default) fun e vs bs => inBlk 0 k e (mkSt 0 26 [4] vs 0 bs))
  | _ => False
theorem z75_0 : LOk Tryd.prog g75_0 (.block 0 (bodyAt (Tryd.f75.body.getD .skip) 0)) := by
  refine lb (ι := Nat × Dat × Nat × Dat × Int × Int) (fuel := 8) (na := 0) (nt := 26) (nx := 0) (Lh := [0, 1, 12, 13]) (Le := [4]) (gl := []) tn mix_ok noLam rfl (fun f (g, b, i, d, l, a) K => GG default (e75_0 g b i d l) K (l75_0 g b i d l f a)) (fun (g, b, i, d, l, a) => [.ro [W Z, W Z] g b, .ro [W Z, W Z] i d, V Z l, V Z a]) (fun (g, b, i, d, l, a) => []) (fun (_, _, _, _, _, _) K => gg_none) ?_ ?_
  · rintro f ⟨g, b, i, d, l, a⟩ K hG
    refine ro (fun R => (cnd (decide (a < l))
 (cnd (decide (0 ≤ a ∧ a < ↑g))
 (cnd (decide (0 ≤ a ∧ a < ↑i))
 (cnd (bif (bif (decide ((b.ii a.toNat 0) = (d.ii a.toNat 0))) then (bif (decide ((b.ii a.toNat 1) = (d.ii a.toNat 1))) then true else false) else false) then false else true)
 (R (XE.ret) [.bool false] [])
 (R (XE.normal) [.ro [W Z, W Z] g b, .ro [W Z, W Z] i d, V Z l, V Z (Z.wrap (a + 1))] []))
    False)
   False)
 (R (XE.exit 0) [.any] []))) (fun R => by kernel_rfl) ?_
    exact ch hG (fun h0 => cg h0 fun h1 => cg h1 fun h2 => ch h2 (fun h3 => h3.2) (fun h3 => ⟨(_, _, _, _, _, _), rfl, rfl, h3⟩)) (fun h0 => h0.2)
  · intro s k h
    unfold g75_0 at h
    split at h <;> try exact h.elim
    rename_i e1
    rw [needs_iff] at h
    exact ⟨_, e1, _, (_, _, _, _, _, _), rfl, rfl, h.1 _ (List.mem_singleton.2 rfl), h.2⟩
noncomputable def m75 (j : Nat) (n : Dat) (m : Nat) (o : Dat) : Bool :=
  (cond (bif (decide ((↑j : Int) = (↑m : Int))) then false else true) false (cond ((o75_0 j n m o (↑j : Int) 0).getD default).1 ((o75_0 j n m o (↑j : Int) 0).getD default).2.1 true))
noncomputable def n75 (j : Nat) (n : Dat) (m : Nat) (o : Dat) : Bool :=
  (cond (bif (decide ((↑j : Int) = (↑m : Int))) then false else true) true (((o75_0 j n m o (↑j : Int) 0).isSome) && true))
noncomputable def q75 (r : Bool) : SV × List Blk × List Blk := (.bool r, [], [])
noncomputable def g75 : GF := fun vs bs => match vs, bs with
  | [.ro [W Z, W Z] j n, .ro [W Z, W Z] m o], [] => some (rs 0 (q75 (m75 j n m o)) [n75 j n m o])
  | _, _ => none
noncomputable def c75 : Ctr := genC [.ro [W Z, W Z], .ro [W Z, W Z]] g75
theorem k75 : CtrOk Tryd.prog c75 75 := cx tn mix_ok 8 (fn := Tryd.f75) (c := (Tryd.f75.body.getD .skip)) (grs := []) (rh := .k) Tryd.func75 rfl (by kernel_rfl) (lam_of rfl (lc z75_0 ln)) fun vs bs q h hn => by
  unfold g75 at h
  split at h <;> cases h
  rename_i j n m o
  have hn := n1 hn
  exact ⟨_, rfl, ca (fun R => (cnd (bif (decide ((↑j : Int) = (↑m : Int))) then false else true)
 (R (.bool false) [] [])
 (cnd ((o75_0 j n m o (↑j : Int) 0).isSome)
 (cnd ((o75_0 j n m o (↑j : Int) 0).getD default).1
 (R (.bool ((o75_0 j n m o (↑j : Int) 0).getD default).2.1) [] [])
 (R (.bool true) [] []))
   False))) (fun R => by kernel_rfl) (co (fun h0 => lf (cT h0 rfl) rfl) (fun h0 => cn (al (cf h0 hn)) (co (fun h1 => lf (cF h0 (cT h1 rfl)) rfl) (fun h1 => lf (cF h0 (cF h1 rfl)) rfl))))⟩
/-! ### slices.Equal[[]shotline/api.DiveLeg,shotline/api.DiveLeg] -/
noncomputable def l76_0 (g : Nat) (b : Dat) (i : Nat) (d : Dat) (l : Int) : Nat → Int → Option (Bool × (Bool) × (Unit))
  | 0, _ => none
  | f + 1, a => (cond (decide (a < l)) (cond (decide (0 ≤ a ∧ a < ↑g)) (cond (decide (0 ≤ a ∧ a < ↑i)) (cond (bif (bif (decide ((b.ii a.toNat 0) = (d.ii a.toNat 0))) then (bif (decide ((b.ii a.toNat 1) = (d.ii a.toNat 1))) then (bif (decide ((b.ii a.toNat 2) = (d.ii a.toNat 2))) then true else false) else false) else false) then false else true) (some (true, false, default)) (l76_0 g b i d l f (Z.wrap (a + 1)))) none) none) (some (false, default, ())))
noncomputable abbrev o76_0 (g : Nat) (b : Dat) (i : Nat) (d : Dat) (l a : Int) : Option (Bool × (Bool) × (Unit)) := l76_0 g b i d l (g + i + l.toNat + a.toNat + 8) a
noncomputable def e76_0 (g : Nat) (b : Dat) (i : Nat) (d : Dat) (l : Int) (r : Bool × (Bool) × (Unit)) (K : XR) : Prop := cnd r.1 (K (XE.ret) [.bool r.2.1] []) (K (XE.exit 0) [.any] [])
noncomputable def g76_0 : LSum := fun s k => match czv 0 26 [0, 1, 12, 13] 0 [] s with
  | some ([.ro [W Z, W Z, W Z] g b, .ro [W Z, W Z, W Z] i d, V Z l, V Z a], []) => needs [(o76_0 g b i d l a).isSome] (e76_0 g b i d l ((o76_0 g b i d l a).getD default) fun e vs bs => inBlk 0 k e (mkSt 0 26 [4] vs 0 bs))
  | _ => False
theorem z76_0 : LOk Tryd.prog g76_0 (.block 0 (bodyAt (Tryd.f76.body.getD .skip) 0)) := by
  refine lb (ι := Nat × Dat × Nat × Dat × Int × Int) (fuel := 8) (na := 0) (nt := 26) (nx := 0) (Lh := [0, 1, 12, 13]) (Le := [4]) (gl := []) tn mix_ok noLam rfl (fun f (g, b, i, d, l, a) K => GG default (e76_0 g b i d l) K (l76_0 g b i d l f a)) (fun (g, b, i, d, l, a) => [.ro [W Z, W Z, W Z] g b, .ro [W Z, W Z, W Z] i d, V Z l, V Z a]) (fun (g, b, i, d, l, a) => []) (fun (_, _, _, _, _, _) K => gg_none) ?_ ?_
  · rintro f ⟨g, b, i, d, l, a⟩ K hG
    refine ro (fun R => (cnd (decide (a < l))
 (cnd (decide (0 ≤ a ∧ a < ↑g))
 (cnd (decide (0 ≤ a ∧ a < ↑i))
 (cnd (bif (bif (decide ((b.ii a.toNat 0) = (d.ii a.toNat 0))) then (bif (decide ((b.ii a.toNat 1) = (d.ii a.toNat 1))) then (bif (decide ((b.ii a.toNat 2) = (d.ii a.toNat 2))) then true else false) else false) else false) then false else true)
 (R (XE.ret) [.bool false] [])
 (R (XE.normal) [.ro [W Z, W Z, W Z] g b, .ro [W Z, W Z, W Z] i d, V Z l, V Z (Z.wrap (a + 1))] []))
    False)
   False)
 (R (XE.exit 0) [.any] []))) (fun R => by kernel_rfl) ?_
    exact ch hG (fun h0 => cg h0 fun h1 => cg h1 fun h2 => ch h2 (fun h3 => h3.2) (fun h3 => ⟨(_, _, _, _, _, _), rfl, rfl, h3⟩)) (fun h0 => h0.2)
  · intro s k h
    unfold g76_0 at h
    split at h <;> try exact h.elim
    rename_i e1
    rw [needs_iff] at h
    exact ⟨_, e1, _, (_, _, _, _, _, _), rfl, rfl, h.1 _ (List.mem_singleton.2 rfl), h.2⟩
noncomputable def m76 (j : Nat) (n : Dat) (m : Nat) (o : Dat) : Bool :=
  (cond (bif (decide ((↑j : Int) = (↑m : Int))) then false else true) false (cond ((o76_0 j n m o (↑j : Int) 0).getD default).1 ((o76_0 j n m o (↑j : Int) 0).getD default).2.1 true))
noncomputable def n76 (j : Nat) (n : Dat) (m : Nat) (o : Dat) : Bool :=
  (cond (bif (decide ((↑j : Int) = (↑m : Int))) then false else true) true (((o76_0 j n m o (↑j : Int) 0).isSome) && true))
noncomputable def q76 (r : Bool) : SV × List Blk × List Blk := (.bool r, [], [])
noncomputable def g76 : GF := fun vs bs => match vs, bs with
  | [.ro [W Z, W Z, W Z] j n, .ro [W Z, W Z, W Z] m o], [] => some (rs 0 (q76 (m76 j n m o)) [n76 j n m o])
  | _, _ => none
noncomputable def c76 : Ctr := genC [.ro [W Z, W Z, W Z], .ro [W Z, W Z, W Z]] g76
theorem k76 : CtrOk Tryd.prog c76 76 := cx tn mix_ok 8 (fn := Tryd.f76) (c := (Tryd.f76.body.getD .skip)) (grs := []) (rh := .k) Tryd.func76 rfl (by kernel_rfl) (lam_of rfl (lc z76_0 ln)) fun vs bs q h hn => by
  unfold g76 at h
  split at h <;> cases h
  rename_i j n m o
  have hn := n1 hn
  exact ⟨_, rfl, ca (fun R => (cnd (bif (decide ((↑j : Int) = (↑m : Int))) then false else true)
 (R (.bool false) [] [])
 (cnd ((o76_0 j n m o (↑j : Int) 0).isSome)
 (cnd ((o76_0 j n m o (↑j : Int) 0).getD default).1
 (R (.bool ((o76_0 j n m o (↑j : Int) 0).getD default).2.1) [] [])
 (R (.bool true) [] []))
   False))) (fun R => by kernel_rfl) (co (fun h0 => lf (cT h0 rfl) rfl) (fun h0 => cn (al (cf h0 hn)) (co (fun h1 => lf (cF h0 (cT h1 rfl)) rfl) (fun h1 => lf (cF h0 (cF h1 rfl)) rfl))))⟩
/-! ### slices.Index[[]shotline/api.Gas,shotline/api.Gas] -/
noncomputable def l98_0 (g : Nat) (d : Dat) (n a b : Int) : Nat → Int → Option (Bool × (Int) × (Unit))
  | 0, _ => none
  | f + 1, i => (cond (decide (i < n)) (cond (decide (0 ≤ i ∧ i < ↑g)) (cond (bif (decide (a = (d.ii i.toNat 0))) then (bif (decide (b = (d.ii i.toNat 1))) then true else false) else false) (some (true, i, default)) (l98_0 g d n a b f (Z.wrap (i + 1)))) none) (some (false, default, ())))
noncomputable abbrev o98_0 (g : Nat) (d : Dat) (n a b i : Int) : Option (Bool × (Int) × (Unit)) := l98_0 g d n a b (g + n.toNat + i.toNat + a.toNat + b.toNat + 8) i
noncomputable def e98_0 (g : Nat) (d : Dat) (n a b : Int) (r : Bool × (Int) × (Unit)) (K : XR) : Prop := cnd r.1 (K (XE.ret) [V Z r.2.1] [.cells 97 [V Z a, V Z b]]) (K (XE.exit 0) [.any] [.cells 97 [V Z a, V Z b]])
noncomputable def g98_0 : LSum := fun s k => match czv 0 19 [0, 3, 7, 8] 1 [] s with
  | some ([.ro [W Z, W Z] g d, .ptr 0 0, V Z n, V Z i], [.cells 97 [V Z a, V Z b]]) => needs [(o98_0 g d n a b i).isSome] (e98_0 g d n a b ((o98_0 g d n a b i).getD default) fun e vs bs => inBlk 0 k e (mkSt 0 19 [4] vs 1 bs))
  | _ => False
theorem z98_0 : LOk Tryd.prog g98_0 (.block 0 (bodyAt (Tryd.f98.body.getD .skip) 0)) := by
  refine lb (ι := Nat × Dat × Int × Int × Int × Int) (fuel := 8) (na := 0) (nt := 19) (nx := 1) (Lh := [0, 3, 7, 8]) (Le := [4]) (gl := []) tn mix_ok noLam rfl (fun f (g, d, n, i, a, b) K => GG default (e98_0 g d n a b) K (l98_0 g d n a b f i)) (fun (g, d, n, i, a, b) => [.ro [W Z, W Z] g d, .ptr 0 0, V Z n, V Z i]) (fun (g, d, n, i, a, b) => [.cells 97 [V Z a, V Z b]]) (fun (_, _, _, _, _, _) K => gg_none) ?_ ?_
  · rintro f ⟨g, d, n, i, a, b⟩ K hG
    refine ro (fun R => (cnd (decide (i < n))
 (cnd (decide (0 ≤ i ∧ i < ↑g))
 (cnd (bif (decide (a = (d.ii i.toNat 0))) then (bif (decide (b = (d.ii i.toNat 1))) then true else false) else false)
 (R (XE.ret) [V Z i] [.cells 97 [V Z a, V Z b]])
 (R (XE.normal) [.ro [W Z, W Z] g d, .ptr 0 0, V Z n, V Z (Z.wrap (i + 1))] [.cells 97 [V Z a, V Z b]]))
   False)
 (R (XE.exit 0) [.any] [.cells 97 [V Z a, V Z b]]))) (fun R => by kernel_rfl) ?_
    exact ch hG (fun h0 => cg h0 fun h1 => ch h1 (fun h2 => h2.2) (fun h2 => ⟨(_, _, _, _, _, _), rfl, rfl, h2⟩)) (fun h0 => h0.2)
  · intro s k h
    unfold g98_0 at h
    split at h <;> try exact h.elim
    rename_i e1
    rw [needs_iff] at h
    exact ⟨_, e1, _, (_, _, _, _, _, _), rfl, rfl, h.1 _ (List.mem_singleton.2 rfl), h.2⟩
noncomputable def m98 (j : Nat) (o : Dat) (l m : Int) : Int :=
  (cond ((o98_0 j o (↑j : Int) l m 0).getD default).1 ((o98_0 j o (↑j : Int) l m 0).getD default).2.1 (-1))
noncomputable def n98 (j : Nat) (o : Dat) (l m : Int) : Bool :=
  (((o98_0 j o (↑j : Int) l m 0).isSome) && true)
noncomputable def q98 (r : Int) : SV × List Blk × List Blk := (V Z r, [], [])
noncomputable def g98 : GF := fun vs bs => match vs, bs with
  | [.ro [W Z, W Z] j o, .agg [V Z l, V Z m]], [] => some (rs 0 (q98 (m98 j o l m)) [n98 j o l m])
  | _, _ => none
noncomputable def c98 : Ctr := genC [.ro [W Z, W Z], .k] g98
theorem k98 : CtrOk Tryd.prog c98 98 := cx tn mix_ok 8 (fn := Tryd.f98) (c := (Tryd.f98.body.getD .skip)) (grs := []) (rh := .k) Tryd.func98 rfl (by kernel_rfl) (lam_of rfl (lc z98_0 ln)) fun vs bs q h hn => by
  unfold g98 at h
  split at h <;> cases h
  rename_i j o l m
  have hn := n1 hn
  exact ⟨_, rfl, ca (fun R => (cnd ((o98_0 j o (↑j : Int) l m 0).isSome)
 (cnd ((o98_0 j o (↑j : Int) l m 0).getD default).1
 (R (V Z ((o98_0 j o (↑j : Int) l m 0).getD default).2.1) [] [])
 (R (V Z (-1)) [] []))
  False)) (fun R => by kernel_rfl) (cn (al hn) (co (fun h0 => lf (cT h0 rfl) rfl) (fun h0 => lf (cF h0 rfl) rfl)))⟩
/-! ### shotline/profile.straight -/
noncomputable def m99 (d e a b g i : Int) : Bool :=
  (decide ((Z.wrap ((Z.wrap (b - e)) * (Z.wrap (g - a)))) = (Z.wrap ((Z.wrap (i - b)) * (Z.wrap (a - d))))))
noncomputable def q99 (r : Bool) : SV × List Blk × List Blk := (.bool r, [], [])
noncomputable def g99 : GF := fun vs bs => match vs, bs with
  | [.agg [V Z d, V Z e], .agg [V Z a, V Z b], .agg [V Z g, V Z i]], [] => some (rs 0 (q99 (m99 d e a b g i)) [])
  | _, _ => none
noncomputable def c99 : Ctr := genC [.k, .k, .k] g99
theorem k99 : CtrOk Tryd.prog c99 99 := cx tn mix_ok 8 (fn := Tryd.f99) (c := (Tryd.f99.body.getD .skip)) (grs := []) (rh := .k) Tryd.func99 rfl (by kernel_rfl) noLam fun vs bs q h hn => by
  unfold g99 at h
  split at h <;> cases h
  rename_i d e a b g i
  exact ⟨_, rfl, ca (fun R => (R (.bool (decide ((Z.wrap ((Z.wrap (b - e)) * (Z.wrap (g - a)))) = (Z.wrap ((Z.wrap (i - b)) * (Z.wrap (a - d))))))) [] [])) (fun R => by kernel_rfl) (lf rfl rfl)⟩
/-! ### shotline/profile.followed -/
noncomputable def m78 (i : ByteArray) (j : Int) (b : Nat) (d : Dat) (e : Nat) (g : Dat) (l : Int) : Nat × Dat × Int :=
  (cond (bif (decide ((m60 1 (datS [SV.str i, V Z j, SV.ro [Kd.int Z, Kd.int Z] b d, SV.ro [Kd.int Z, Kd.int Z, Kd.int Z] e g] 4)) = 0)) then false else true) (0, noDat, (m60 1 (datS [SV.str i, V Z j, SV.ro [Kd.int Z, Kd.int Z] b d, SV.ro [Kd.int Z, Kd.int Z, Kd.int Z] e g] 4))) (cond (bif (m52 l 0 (m62 (m61 i j b d e g).1 (m61 i j b d e g).2)) then false else true) (0, noDat, 2) ((m61 i j b d e g).1, (m61 i j b d e g).2, 0)))
noncomputable def n78 (i : ByteArray) (j : Int) (b : Nat) (d : Dat) (e : Nat) (g : Dat) (l : Int) : Bool :=
  ((n60 1 (datS [SV.str i, V Z j, SV.ro [Kd.int Z, Kd.int Z] b d, SV.ro [Kd.int Z, Kd.int Z, Kd.int Z] e g] 4)) && (cond (bif (decide ((m60 1 (datS [SV.str i, V Z j, SV.ro [Kd.int Z, Kd.int Z] b d, SV.ro [Kd.int Z, Kd.int Z, Kd.int Z] e g] 4)) = 0)) then false else true) true ((n61 i j b d e g) && ((n62 (m61 i j b d e g).1 (m61 i j b d e g).2) && true))))
noncomputable def q78 (r : Nat × Dat × Int) : SV × List Blk × List Blk := (.tup [.ro [W Z, W Z] r.1 r.2.1, V Z r.2.2], [], [])
noncomputable def g78 : GF := fun vs bs => match vs, bs with
  | [.agg [.str i, V Z j, .ro [W Z, W Z] b d, .ro [W Z, W Z, W Z] e g], V Z l], [] => some (rs 0 (q78 (m78 i j b d e g l)) [n78 i j b d e g l])
  | _, _ => none
noncomputable def c78 : Ctr := genC [.a [.k, .k, .ro [W Z, W Z], .ro [W Z, W Z, W Z]], .k] g78
theorem k78 : CtrOk Tryd.prog c78 78 := cx (tc k52 (tc k60 (tc k61 (tc k62 tn)))) mix_ok 8 (fn := Tryd.f78) (c := (Tryd.f78.body.getD .skip)) (grs := []) (rh := .t [.ro [W Z, W Z], .k]) Tryd.func78 rfl (by kernel_rfl) noLam fun vs bs q h hn => by
  unfold g78 at h
  split at h <;> cases h
  rename_i i j b d e g l
  have hn := n1 hn
  exact ⟨_, rfl, ca (fun R => (cnd (n60 1 (datS [SV.str i, V Z j, SV.ro [Kd.int Z, Kd.int Z] b d, SV.ro [Kd.int Z, Kd.int Z, Kd.int Z] e g] 4))
 (cnd (bif (decide ((m60 1 (datS [SV.str i, V Z j, SV.ro [Kd.int Z, Kd.int Z] b d, SV.ro [Kd.int Z, Kd.int Z, Kd.int Z] e g] 4)) = 0)) then false else true)
 (R (.tup [.ro [W Z, W Z] 0 noDat, V Z (m60 1 (datS [SV.str i, V Z j, SV.ro [Kd.int Z, Kd.int Z] b d, SV.ro [Kd.int Z, Kd.int Z, Kd.int Z] e g] 4))]) [] [])
 (cnd (n61 i j b d e g)
 (cnd (n62 (m61 i j b d e g).1 (m61 i j b d e g).2)
 (cnd (bif (m52 l 0 (m62 (m61 i j b d e g).1 (m61 i j b d e g).2)) then false else true)
 (R (.tup [.ro [W Z, W Z] 0 noDat, V Z 2]) [] [])
 (R (.tup [.ro [W Z, W Z] (m61 i j b d e g).1 (m61 i j b d e g).2, V Z 0]) [] []))
     False)
    False))
  False)) (fun R => by kernel_rfl) (cn (al hn) (co (fun h0 => lf (cT h0 rfl) rfl) (fun h0 => cn (al (cf h0 (ar hn))) (cn (al (ar (cf h0 (ar hn)))) (co (fun h1 => lf (cF h0 (cT h1 rfl)) rfl) (fun h1 => lf (cF h0 (cF h1 rfl)) rfl))))))⟩
/-! ### slices.Clone[[]shotline/api.DiveLeg,shotline/api.DiveLeg] -/
theorem x80 (R : SV → List Blk → List Blk → Prop) : exec Tryd.prog [] (fun _ => none) 8 (Tryd.f80.body.getD .skip) (initS Tryd.f80.ntmps [.nsl] 0 (memOf [])) (retK Tryd.prog Tryd.f80.results.toList (outK 0 (List.range 0) [] .k fun v U N => R v U N)) = R .nsl [] [] := by kernel_rfl
theorem y80 (n : Nat) (d : Dat) (R : SV → List Blk → List Blk → Prop) : exec Tryd.prog [] (fun _ => none) 8 (Tryd.f80.body.getD .skip) (initS Tryd.f80.ntmps [.rn [W Z, W Z, W Z] n d] 0 (memOf [])) (retK Tryd.prog Tryd.f80.results.toList (outK 0 (List.range 0) [] .k fun v U N => R v U N)) = cnd (decide (0 ≤ 0)) (cnd (decide (0 + n ≤ 1073741824)) (R (.own 0 3 (0 + n)) [] [.row 74 [W Z, W Z, W Z] (0 + n) ((datS [] 3).app 0 d)]) False) False := by kernel_rfl
noncomputable def c80 : Ctr := genC [.ro [W Z, W Z, W Z]] (cloneG 74 [W Z, W Z, W Z])
theorem k80 : CtrOk Tryd.prog c80 80 := ctr_clone tn mix_ok 8 (fn := Tryd.f80) (c := (Tryd.f80.body.getD .skip)) (Λ := fun _ => none) Tryd.func80 rfl (by kernel_rfl) noLam (propOf (x80 _) rfl) fun n d hn => propOf (y80 n d _) (cn (by simp) (cn (by simpa using hn) ⟨datS [] 3, rfl⟩))
/-! ### slices.Clone[[]shotline/api.Gas,shotline/api.Gas] -/
theorem x71 (R : SV → List Blk → List Blk → Prop) : exec Tryd.prog [] (fun _ => none) 8 (Tryd.f71.body.getD .skip) (initS Tryd.f71.ntmps [.nsl] 0 (memOf [])) (retK Tryd.prog Tryd.f71.results.toList (outK 0 (List.range 0) [] .k fun v U N => R v U N)) = R .nsl [] [] := by kernel_rfl
theorem y71 (n : Nat) (d : Dat) (R : SV → List Blk → List Blk → Prop) : exec Tryd.prog [] (fun _ => none) 8 (Tryd.f71.body.getD .skip) (initS Tryd.f71.ntmps [.rn [W Z, W Z] n d] 0 (memOf [])) (retK Tryd.prog Tryd.f71.results.toList (outK 0 (List.range 0) [] .k fun v U N => R v U N)) = cnd (decide (0 ≤ 0)) (cnd (decide (0 + n ≤ 1073741824)) (R (.own 0 2 (0 + n)) [] [.row 97 [W Z, W Z] (0 + n) ((datS [] 2).app 0 d)]) False) False := by kernel_rfl
noncomputable def c71 : Ctr := genC [.ro [W Z, W Z]] (cloneG 97 [W Z, W Z])
theorem k71 : CtrOk Tryd.prog c71 71 := ctr_clone tn mix_ok 8 (fn := Tryd.f71) (c := (Tryd.f71.body.getD .skip)) (Λ := fun _ => none) Tryd.func71 rfl (by kernel_rfl) noLam (propOf (x71 _) rfl) fun n d hn => propOf (y71 n d _) (cn (by simp) (cn (by simpa using hn) ⟨datS [] 2, rfl⟩))
/-! ### shotline/profile.normal -/
noncomputable def l73_0 (y : Nat) (d : Dat) (J : Int) (C : ByteArray) (D : Int) (A : Nat) (o I : Dat) (E : ByteArray) (F : Int) (G : ByteArray) (H : Int) : Nat → Nat → Int → Nat → Nat → Dat → Dat → Dat → Option (Nat × Nat × Nat × Dat × Nat × Dat × Nat × Dat)
  | 0, _, _, _, _, _, _, _ => none
  | f + 1, x, g, l, b, p, z, w => (cond (decide (g < J)) (cond (decide (0 ≤ g ∧ g < ↑y)) (cond (decide (0 ≤ d.ii g.toNat (0 + 1 + 1) ∧ d.ii g.toNat (0 + 1 + 1) < (↑A : Int))) (cond (decide ((0 + l) ≤ l)) (cond (n98 l z (o.ii ((d.ii g.toNat 2).toNat) 0) (o.ii ((d.ii g.toNat 2).toNat) 1)) (cond (decide ((m98 l z (o.ii ((d.ii g.toNat 2).toNat) 0) (o.ii ((d.ii g.toNat 2).toNat) 1)) < 0)) (cond (decide ((l + 1) ≤ 1073741824)) (cond (decide ((0 + x) ≤ x)) (cond (n62 x p) (cond (bif (bif (decide ((0 : Int) < (↑b : Int))) then false else true) then true else (decide (0 ≤ Z.wrap ((↑b : Int) - 1) ∧ Z.wrap ((↑b : Int) - 1) < (↑b : Int)))) (cond (bif (bif (decide ((0 : Int) < (↑b : Int))) then false else true) then true else (decide (((Z.wrap ((↑b : Int) - 1)).toNat) < b))) (cond (bif (bif (bif (decide ((0 : Int) < (↑b : Int))) then (decide ((w.ii ((Z.wrap ((↑b : Int) - 1)).toNat) 2) = (↑l : Int))) else false) then false else true) then true else (decide (0 ≤ Z.wrap ((↑b : Int) - 1) ∧ Z.wrap ((↑b : Int) - 1) < (↑x : Int)))) (cond (bif (bif (bif (decide ((0 : Int) < (↑b : Int))) then (decide ((w.ii ((Z.wrap ((↑b : Int) - 1)).toNat) 2) = (↑l : Int))) else false) then false else true) then true else (decide (((Z.wrap ((↑b : Int) - 1)).toNat) < x))) (cond (bif (bif (bif (decide ((0 : Int) < (↑b : Int))) then (decide ((w.ii ((Z.wrap ((↑b : Int) - 1)).toNat) 2) = (↑l : Int))) else false) then false else true) then true else (decide (0 ≤ (↑b : Int) ∧ (↑b : Int) < (↑x : Int)))) (cond (bif (bif (bif (decide ((0 : Int) < (↑b : Int))) then (decide ((w.ii ((Z.wrap ((↑b : Int) - 1)).toNat) 2) = (↑l : Int))) else false) then false else true) then true else (decide (((↑b : Int).toNat) < x))) (cond (bif (bif (decide ((0 : Int) < (↑b : Int))) then (decide ((w.ii ((Z.wrap ((↑b : Int) - 1)).toNat) 2) = (↑l : Int))) else false) then (m99 (p.ii ((Z.wrap ((↑b : Int) - 1)).toNat) 0) (p.ii ((Z.wrap ((↑b : Int) - 1)).toNat) 1) (p.ii ((↑b : Int).toNat) 0) (p.ii ((↑b : Int).toNat) 1) (Z.wrap ((m62 x p) + (d.ii g.toNat 0))) (d.ii g.toNat 1)) else false) (cond (decide (0 ≤ Z.wrap ((↑b : Int) - 1) ∧ Z.wrap ((↑b : Int) - 1) < (↑b : Int))) (cond (decide (((Z.wrap ((↑b : Int) - 1)).toNat) < b)) (cond (decide (0 ≤ Z.wrap ((↑b : Int) - 1) ∧ Z.wrap ((↑b : Int) - 1) < (↑b : Int))) (cond (decide (((Z.wrap ((↑b : Int) - 1)).toNat) < b)) (cond (decide (0 ≤ Z.wrap ((↑b : Int) - 1) ∧ Z.wrap ((↑b : Int) - 1) < (↑b : Int))) (cond (decide (((Z.wrap ((↑b : Int) - 1)).toNat) < b)) (cond (decide (0 ≤ (↑b : Int) ∧ (↑b : Int) < (↑x : Int))) (cond (decide (((↑b : Int).toNat) < x)) (l73_0 y d J C D A o I E F G H f x (Z.wrap (g + 1)) (l + 1) b (p.upd ((↑b : Int).toNat) 0 [V Z (Z.wrap ((m62 x p) + (d.ii g.toNat 0))), V Z (d.ii g.toNat 1)]) (z.app l (datS [V Z (o.ii ((d.ii g.toNat 2).toNat) 0), V Z (o.ii ((d.ii g.toNat 2).toNat) 1)] 2)) ((w.upd ((Z.wrap ((↑b : Int) - 1)).toNat) 0 [V Z (Z.wrap ((w.ii ((Z.wrap ((↑b : Int) - 1)).toNat) 0) + (d.ii g.toNat 0)))]).upd ((Z.wrap ((↑b : Int) - 1)).toNat) 1 [V Z (d.ii g.toNat 1)])) none) none) none) none) none) none) none) none) (cond (decide ((b + 1) ≤ 1073741824)) (cond (decide ((x + 1) ≤ 1073741824)) (l73_0 y d J C D A o I E F G H f (x + 1) (Z.wrap (g + 1)) (l + 1) (b + 1) (p.app x (datS [V Z (Z.wrap ((m62 x p) + (d.ii g.toNat 0))), V Z (d.ii g.toNat 1)] 2)) (z.app l (datS [V Z (o.ii ((d.ii g.toNat 2).toNat) 0), V Z (o.ii ((d.ii g.toNat 2).toNat) 1)] 2)) (w.app b (datS [V Z (d.ii g.toNat 0), V Z (d.ii g.toNat 1), V Z (↑l : Int)] 3))) none) none)) none) none) none) none) none) none) none) none) none) (cond (decide ((0 + x) ≤ x)) (cond (n62 x p) (cond (bif (bif (decide ((0 : Int) < (↑b : Int))) then false else true) then true else (decide (0 ≤ Z.wrap ((↑b : Int) - 1) ∧ Z.wrap ((↑b : Int) - 1) < (↑b : Int)))) (cond (bif (bif (decide ((0 : Int) < (↑b : Int))) then false else true) then true else (decide (((Z.wrap ((↑b : Int) - 1)).toNat) < b))) (cond (bif (bif (bif (decide ((0 : Int) < (↑b : Int))) then (decide ((w.ii ((Z.wrap ((↑b : Int) - 1)).toNat) 2) = (m98 l z (o.ii ((d.ii g.toNat 2).toNat) 0) (o.ii ((d.ii g.toNat 2).toNat) 1)))) else false) then false else true) then true else (decide (0 ≤ Z.wrap ((↑b : Int) - 1) ∧ Z.wrap ((↑b : Int) - 1) < (↑x : Int)))) (cond (bif (bif (bif (decide ((0 : Int) < (↑b : Int))) then (decide ((w.ii ((Z.wrap ((↑b : Int) - 1)).toNat) 2) = (m98 l z (o.ii ((d.ii g.toNat 2).toNat) 0) (o.ii ((d.ii g.toNat 2).toNat) 1)))) else false) then false else true) then true else (decide (((Z.wrap ((↑b : Int) - 1)).toNat) < x))) (cond (bif (bif (bif (decide ((0 : Int) < (↑b : Int))) then (decide ((w.ii ((Z.wrap ((↑b : Int) - 1)).toNat) 2) = (m98 l z (o.ii ((d.ii g.toNat 2).toNat) 0) (o.ii ((d.ii g.toNat 2).toNat) 1)))) else false) then false else true) then true else (decide (0 ≤ (↑b : Int) ∧ (↑b : Int) < (↑x : Int)))) (cond (bif (bif (bif (decide ((0 : Int) < (↑b : Int))) then (decide ((w.ii ((Z.wrap ((↑b : Int) - 1)).toNat) 2) = (m98 l z (o.ii ((d.ii g.toNat 2).toNat) 0) (o.ii ((d.ii g.toNat 2).toNat) 1)))) else false) then false else true) then true else (decide (((↑b : Int).toNat) < x))) (cond (bif (bif (decide ((0 : Int) < (↑b : Int))) then (decide ((w.ii ((Z.wrap ((↑b : Int) - 1)).toNat) 2) = (m98 l z (o.ii ((d.ii g.toNat 2).toNat) 0) (o.ii ((d.ii g.toNat 2).toNat) 1)))) else false) then (m99 (p.ii ((Z.wrap ((↑b : Int) - 1)).toNat) 0) (p.ii ((Z.wrap ((↑b : Int) - 1)).toNat) 1) (p.ii ((↑b : Int).toNat) 0) (p.ii ((↑b : Int).toNat) 1) (Z.wrap ((m62 x p) + (d.ii g.toNat 0))) (d.ii g.toNat 1)) else false) (cond (decide (0 ≤ Z.wrap ((↑b : Int) - 1) ∧ Z.wrap ((↑b : Int) - 1) < (↑b : Int))) (cond (decide (((Z.wrap ((↑b : Int) - 1)).toNat) < b)) (cond (decide (0 ≤ Z.wrap ((↑b : Int) - 1) ∧ Z.wrap ((↑b : Int) - 1) < (↑b : Int))) (cond (decide (((Z.wrap ((↑b : Int) - 1)).toNat) < b)) (cond (decide (0 ≤ Z.wrap ((↑b : Int) - 1) ∧ Z.wrap ((↑b : Int) - 1) < (↑b : Int))) (cond (decide (((Z.wrap ((↑b : Int) - 1)).toNat) < b)) (cond (decide (0 ≤ (↑b : Int) ∧ (↑b : Int) < (↑x : Int))) (cond (decide (((↑b : Int).toNat) < x)) (l73_0 y d J C D A o I E F G H f x (Z.wrap (g + 1)) l b (p.upd ((↑b : Int).toNat) 0 [V Z (Z.wrap ((m62 x p) + (d.ii g.toNat 0))), V Z (d.ii g.toNat 1)]) z ((w.upd ((Z.wrap ((↑b : Int) - 1)).toNat) 0 [V Z (Z.wrap ((w.ii ((Z.wrap ((↑b : Int) - 1)).toNat) 0) + (d.ii g.toNat 0)))]).upd ((Z.wrap ((↑b : Int) - 1)).toNat) 1 [V Z (d.ii g.toNat 1)])) none) none) none) none) none) none) none) none) (cond (decide ((b + 1) ≤ 1073741824)) (cond (decide ((x + 1) ≤ 1073741824)) (l73_0 y d J C D A o I E F G H f (x + 1) (Z.wrap (g + 1)) l (b + 1) (p.app x (datS [V Z (Z.wrap ((m62 x p) + (d.ii g.toNat 0))), V Z (d.ii g.toNat 1)] 2)) z (w.app b (datS [V Z (d.ii g.toNat 0), V Z (d.ii g.toNat 1), V Z (m98 l z (o.ii ((d.ii g.toNat 2).toNat) 0) (o.ii ((d.ii g.toNat 2).toNat) 1))] 3))) none) none)) none) none) none) none) none) none) none) none)) none) none) none) none) (some (l, b, x, p, l, z, b, w)))
noncomputable abbrev o73_0 (y : Nat) (d : Dat) (J : Int) (C : ByteArray) (D : Int) (A : Nat) (o I : Dat) (E : ByteArray) (F : Int) (G : ByteArray) (H : Int) (x : Nat) (g : Int) (l b : Nat) (p z w : Dat) : Option (Nat × Nat × Nat × Dat × Nat × Dat × Nat × Dat) := l73_0 y d J C D A o I E F G H (x + y + J.toNat + g.toNat + C.size + D.toNat + A + E.size + F.toNat + G.size + H.toNat + l + b + 8) x g l b p z w
noncomputable def e73_0 (y : Nat) (d : Dat) (J : Int) (C : ByteArray) (D : Int) (A : Nat) (o I : Dat) (E : ByteArray) (F : Int) (G : ByteArray) (H : Int) (r : Nat × Nat × Nat × Dat × Nat × Dat × Nat × Dat) (K : XR) : Prop := K (XE.exit 0) [.ptr 0 0, .ptr 1 0, .ptr 2 0] [.cells 41 [.str C, V Z D, .ro [W Z, W Z] A o, .ro [W Z, W Z, W Z] y I], .cells 41 [.str E, V Z F, .nsl, .nsl], .cells 41 [.str G, V Z H, .gr 4 2 r.1, .gr 5 3 r.2.1], .row 35 [W Z, W Z] r.2.2.1 r.2.2.2.1, .row 97 [W Z, W Z] r.2.2.2.2.1 r.2.2.2.2.2.1, .row 74 [W Z, W Z, W Z] r.2.2.2.2.2.2.1 r.2.2.2.2.2.2.2]
noncomputable def g73_0 : LSum := fun s k => match czv 0 132 [1, 2, 3, 4, 18, 19, 20] 6 [⟨true, 4, 0, 3, 35, [W Z, W Z]⟩, ⟨false, 2, 2, 4, 97, [W Z, W Z]⟩, ⟨false, 2, 3, 5, 74, [W Z, W Z, W Z]⟩] s with
  | some ([.ptr 0 0, .ptr 1 0, .ptr 2 0, .gr 3 2 x, .ro [W Z, W Z, W Z] y d, V Z J, V Z g], [.cells 41 [.str C, V Z D, .ro [W Z, W Z] A o, .ro [W Z, W Z, W Z] b0_4 I], .cells 41 [.str E, V Z F, .nsl, .nsl], .cells 41 [.str G, V Z H, .gr 4 2 l, .gr 5 3 b], .row 35 [W Z, W Z] b3_0 p, .row 97 [W Z, W Z] b4_0 z, .row 74 [W Z, W Z, W Z] b5_0 w]) => needs [decide (y = b0_4), decide (x = b3_0), decide (l = b4_0), decide (b = b5_0), (o73_0 y d J C D A o I E F G H x g l b p z w).isSome] (e73_0 y d J C D A o I E F G H ((o73_0 y d J C D A o I E F G H x g l b p z w).getD default) fun e vs bs => inBlk 0 k e (mkSt 0 132 [1, 2, 3] vs 6 bs))
  | _ => False
theorem z73_0 : LOk Tryd.prog g73_0 (.block 0 (bodyAt (Tryd.f73.body.getD .skip) 0)) := by
  refine lb (ι := Nat × Nat × Dat × Int × Int × ByteArray × Int × Nat × Dat × Dat × ByteArray × Int × ByteArray × Int × Nat × Nat × Dat × Dat × Dat) (fuel := 8) (na := 0) (nt := 132) (nx := 6) (Lh := [1, 2, 3, 4, 18, 19, 20]) (Le := [1, 2, 3]) (gl := [⟨true, 4, 0, 3, 35, [W Z, W Z]⟩, ⟨false, 2, 2, 4, 97, [W Z, W Z]⟩, ⟨false, 2, 3, 5, 74, [W Z, W Z, W Z]⟩]) (tc k62 (tc k98 (tc k99 tn))) mix_ok noLam rfl (fun f (x, y, d, J, g, C, D, A, o, I, E, F, G, H, l, b, p, z, w) K => GG default (e73_0 y d J C D A o I E F G H) K (l73_0 y d J C D A o I E F G H f x g l b p z w)) (fun (x, y, d, J, g, C, D, A, o, I, E, F, G, H, l, b, p, z, w) => [.ptr 0 0, .ptr 1 0, .ptr 2 0, .gr 3 2 x, .ro [W Z, W Z, W Z] y d, V Z J, V Z g]) (fun (x, y, d, J, g, C, D, A, o, I, E, F, G, H, l, b, p, z, w) => [.cells 41 [.str C, V Z D, .ro [W Z, W Z] A o, .ro [W Z, W Z, W Z] y I], .cells 41 [.str E, V Z F, .nsl, .nsl], .cells 41 [.str G, V Z H, .gr 4 2 l, .gr 5 3 b], .row 35 [W Z, W Z] x p, .row 97 [W Z, W Z] l z, .row 74 [W Z, W Z, W Z] b w]) (fun (_, _, _, _, _, _, _, _, _, _, _, _, _, _, _, _, _, _, _) K => gg_none) ?_ ?_
  · rintro f ⟨x, y, d, J, g, C, D, A, o, I, E, F, G, H, l, b, p, z, w⟩ K hG
    refine ro (fun R => (cnd (decide (g < J))
 (cnd (decide (0 ≤ g ∧ g < ↑y))
 (cnd (decide (0 ≤ d.ii g.toNat (0 + 1 + 1) ∧ d.ii g.toNat (0 + 1 + 1) < (↑A : Int)))
 (cnd (decide ((0 + l) ≤ l))
 (cnd (n98 l z (o.ii ((d.ii g.toNat 2).toNat) 0) (o.ii ((d.ii g.toNat 2).toNat) 1))
 (cnd (decide ((m98 l z (o.ii ((d.ii g.toNat 2).toNat) 0) (o.ii ((d.ii g.toNat 2).toNat) 1)) < 0))
 (cnd (decide (l ≤ l))
 (cnd (decide ((l + 1) ≤ 1073741824))
 (cnd (decide ((0 + x) ≤ x))
 (cnd (n62 x p)
 (cnd (bif (bif (decide ((0 : Int) < (↑b : Int))) then false else true) then true else (decide (0 ≤ Z.wrap ((↑b : Int) - 1) ∧ Z.wrap ((↑b : Int) - 1) < (↑b : Int))))
 (cnd (bif (bif (decide ((0 : Int) < (↑b : Int))) then false else true) then true else (decide (((Z.wrap ((↑b : Int) - 1)).toNat) < b)))
 (cnd (bif (bif (bif (decide ((0 : Int) < (↑b : Int))) then (decide ((w.ii ((Z.wrap ((↑b : Int) - 1)).toNat) 2) = (↑l : Int))) else false) then false else true) then true else (decide (0 ≤ Z.wrap ((↑b : Int) - 1) ∧ Z.wrap ((↑b : Int) - 1) < (↑x : Int))))
 (cnd (bif (bif (bif (decide ((0 : Int) < (↑b : Int))) then (decide ((w.ii ((Z.wrap ((↑b : Int) - 1)).toNat) 2) = (↑l : Int))) else false) then false else true) then true else (decide (((Z.wrap ((↑b : Int) - 1)).toNat) < x)))
 (cnd (bif (bif (bif (decide ((0 : Int) < (↑b : Int))) then (decide ((w.ii ((Z.wrap ((↑b : Int) - 1)).toNat) 2) = (↑l : Int))) else false) then false else true) then true else (decide (0 ≤ (↑b : Int) ∧ (↑b : Int) < (↑x : Int))))
 (cnd (bif (bif (bif (decide ((0 : Int) < (↑b : Int))) then (decide ((w.ii ((Z.wrap ((↑b : Int) - 1)).toNat) 2) = (↑l : Int))) else false) then false else true) then true else (decide (((↑b : Int).toNat) < x)))
 (cnd (bif (bif (decide ((0 : Int) < (↑b : Int))) then (decide ((w.ii ((Z.wrap ((↑b : Int) - 1)).toNat) 2) = (↑l : Int))) else false) then (m99 (p.ii ((Z.wrap ((↑b : Int) - 1)).toNat) 0) (p.ii ((Z.wrap ((↑b : Int) - 1)).toNat) 1) (p.ii ((↑b : Int).toNat) 0) (p.ii ((↑b : Int).toNat) 1) (Z.wrap ((m62 x p) + (d.ii g.toNat 0))) (d.ii g.toNat 1)) else false)
 (cnd (decide (0 ≤ Z.wrap ((↑b : Int) - 1) ∧ Z.wrap ((↑b : Int) - 1) < (↑b : Int)))
 (cnd (decide (((Z.wrap ((↑b : Int) - 1)).toNat) < b))
 (cnd (decide (0 ≤ Z.wrap ((↑b : Int) - 1) ∧ Z.wrap ((↑b : Int) - 1) < (↑b : Int)))
 (cnd (decide (((Z.wrap ((↑b : Int) - 1)).toNat) < b))
 (cnd (decide (0 ≤ Z.wrap ((↑b : Int) - 1) ∧ Z.wrap ((↑b : Int) - 1) < (↑b : Int)))
 (cnd (decide (((Z.wrap ((↑b : Int) - 1)).toNat) < b))
 (cnd (decide (0 ≤ (↑b : Int) ∧ (↑b : Int) < (↑x : Int)))
 (cnd (decide (((↑b : Int).toNat) < x))
 (R (XE.normal) [.ptr 0 0, .ptr 1 0, .ptr 2 0, .gr 3 2 x, .ro [W Z, W Z, W Z] y d, V Z J, V Z (Z.wrap (g + 1))] [.cells 41 [.str C, V Z D, .ro [W Z, W Z] A o, .ro [W Z, W Z, W Z] y I], .cells 41 [.str E, V Z F, .nsl, .nsl], .cells 41 [.str G, V Z H, .gr 4 2 (l + 1), .gr 5 3 b], .row 35 [W Z, W Z] x (p.upd ((↑b : Int).toNat) 0 [V Z (Z.wrap ((m62 x p) + (d.ii g.toNat 0))), V Z (d.ii g.toNat 1)]), .row 97 [W Z, W Z] (l + 1) (z.app l (datS [V Z (o.ii ((d.ii g.toNat 2).toNat) 0), V Z (o.ii ((d.ii g.toNat 2).toNat) 1)] 2)), .row 74 [W Z, W Z, W Z] b ((w.upd ((Z.wrap ((↑b : Int) - 1)).toNat) 0 [V Z (Z.wrap ((w.ii ((Z.wrap ((↑b : Int) - 1)).toNat) 0) + (d.ii g.toNat 0)))]).upd ((Z.wrap ((↑b : Int) - 1)).toNat) 1 [V Z (d.ii g.toNat 1)])])
                          False)
                         False)
                        False)
                       False)
                      False)
                     False)
                    False)
                   False)
 (cnd (decide (b ≤ b))
 (cnd (decide ((b + 1) ≤ 1073741824))
 (cnd (decide (x ≤ x))
 (cnd (decide ((x + 1) ≤ 1073741824))
 (R (XE.normal) [.ptr 0 0, .ptr 1 0, .ptr 2 0, .gr 3 2 (x + 1), .ro [W Z, W Z, W Z] y d, V Z J, V Z (Z.wrap (g + 1))] [.cells 41 [.str C, V Z D, .ro [W Z, W Z] A o, .ro [W Z, W Z, W Z] y I], .cells 41 [.str E, V Z F, .nsl, .nsl], .cells 41 [.str G, V Z H, .gr 4 2 (l + 1), .gr 5 3 (b + 1)], .row 35 [W Z, W Z] (x + 1) (p.app x (datS [V Z (Z.wrap ((m62 x p) + (d.ii g.toNat 0))), V Z (d.ii g.toNat 1)] 2)), .row 97 [W Z, W Z] (l + 1) (z.app l (datS [V Z (o.ii ((d.ii g.toNat 2).toNat) 0), V Z (o.ii ((d.ii g.toNat 2).toNat) 1)] 2)), .row 74 [W Z, W Z, W Z] (b + 1) (w.app b (datS [V Z (d.ii g.toNat 0), V Z (d.ii g.toNat 1), V Z (↑l : Int)] 3))])
                      False)
                     False)
                    False)
                   False))
                 False)
                False)
               False)
              False)
             False)
            False)
           False)
          False)
         False)
        False)
 (cnd (decide ((0 + x) ≤ x))
 (cnd (n62 x p)
 (cnd (bif (bif (decide ((0 : Int) < (↑b : Int))) then false else true) then true else (decide (0 ≤ Z.wrap ((↑b : Int) - 1) ∧ Z.wrap ((↑b : Int) - 1) < (↑b : Int))))
 (cnd (bif (bif (decide ((0 : Int) < (↑b : Int))) then false else true) then true else (decide (((Z.wrap ((↑b : Int) - 1)).toNat) < b)))
 (cnd (bif (bif (bif (decide ((0 : Int) < (↑b : Int))) then (decide ((w.ii ((Z.wrap ((↑b : Int) - 1)).toNat) 2) = (m98 l z (o.ii ((d.ii g.toNat 2).toNat) 0) (o.ii ((d.ii g.toNat 2).toNat) 1)))) else false) then false else true) then true else (decide (0 ≤ Z.wrap ((↑b : Int) - 1) ∧ Z.wrap ((↑b : Int) - 1) < (↑x : Int))))
 (cnd (bif (bif (bif (decide ((0 : Int) < (↑b : Int))) then (decide ((w.ii ((Z.wrap ((↑b : Int) - 1)).toNat) 2) = (m98 l z (o.ii ((d.ii g.toNat 2).toNat) 0) (o.ii ((d.ii g.toNat 2).toNat) 1)))) else false) then false else true) then true else (decide (((Z.wrap ((↑b : Int) - 1)).toNat) < x)))
 (cnd (bif (bif (bif (decide ((0 : Int) < (↑b : Int))) then (decide ((w.ii ((Z.wrap ((↑b : Int) - 1)).toNat) 2) = (m98 l z (o.ii ((d.ii g.toNat 2).toNat) 0) (o.ii ((d.ii g.toNat 2).toNat) 1)))) else false) then false else true) then true else (decide (0 ≤ (↑b : Int) ∧ (↑b : Int) < (↑x : Int))))
 (cnd (bif (bif (bif (decide ((0 : Int) < (↑b : Int))) then (decide ((w.ii ((Z.wrap ((↑b : Int) - 1)).toNat) 2) = (m98 l z (o.ii ((d.ii g.toNat 2).toNat) 0) (o.ii ((d.ii g.toNat 2).toNat) 1)))) else false) then false else true) then true else (decide (((↑b : Int).toNat) < x)))
 (cnd (bif (bif (decide ((0 : Int) < (↑b : Int))) then (decide ((w.ii ((Z.wrap ((↑b : Int) - 1)).toNat) 2) = (m98 l z (o.ii ((d.ii g.toNat 2).toNat) 0) (o.ii ((d.ii g.toNat 2).toNat) 1)))) else false) then (m99 (p.ii ((Z.wrap ((↑b : Int) - 1)).toNat) 0) (p.ii ((Z.wrap ((↑b : Int) - 1)).toNat) 1) (p.ii ((↑b : Int).toNat) 0) (p.ii ((↑b : Int).toNat) 1) (Z.wrap ((m62 x p) + (d.ii g.toNat 0))) (d.ii g.toNat 1)) else false)
 (cnd (decide (0 ≤ Z.wrap ((↑b : Int) - 1) ∧ Z.wrap ((↑b : Int) - 1) < (↑b : Int)))
 (cnd (decide (((Z.wrap ((↑b : Int) - 1)).toNat) < b))
 (cnd (decide (0 ≤ Z.wrap ((↑b : Int) - 1) ∧ Z.wrap ((↑b : Int) - 1) < (↑b : Int)))
 (cnd (decide (((Z.wrap ((↑b : Int) - 1)).toNat) < b))
 (cnd (decide (0 ≤ Z.wrap ((↑b : Int) - 1) ∧ Z.wrap ((↑b : Int) - 1) < (↑b : Int)))
 (cnd (decide (((Z.wrap ((↑b : Int) - 1)).toNat) < b))
 (cnd (decide (0 ≤ (↑b : Int) ∧ (↑b : Int) < (↑x : Int)))
 (cnd (decide (((↑b : Int).toNat) < x))
 (R (XE.normal) [.ptr 0 0, .ptr 1 0, .ptr 2 0, .gr 3 2 x, .ro [W Z, W Z, W Z] y d, V Z J, V Z (Z.wrap (g + 1))] [.cells 41 [.str C, V Z D, .ro [W Z, W Z] A o, .ro [W Z, W Z, W Z] y I], .cells 41 [.str E, V Z F, .nsl, .nsl], .cells 41 [.str G, V Z H, .gr 4 2 l, .gr 5 3 b], .row 35 [W Z, W Z] x (p.upd ((↑b : Int).toNat) 0 [V Z (Z.wrap ((m62 x p) + (d.ii g.toNat 0))), V Z (d.ii g.toNat 1)]), .row 97 [W Z, W Z] l z, .row 74 [W Z, W Z, W Z] b ((w.upd ((Z.wrap ((↑b : Int) - 1)).toNat) 0 [V Z (Z.wrap ((w.ii ((Z.wrap ((↑b : Int) - 1)).toNat) 0) + (d.ii g.toNat 0)))]).upd ((Z.wrap ((↑b : Int) - 1)).toNat) 1 [V Z (d.ii g.toNat 1)])])
                        False)
                       False)
                      False)
                     False)
                    False)
                   False)
                  False)
                 False)
 (cnd (decide (b ≤ b))
 (cnd (decide ((b + 1) ≤ 1073741824))
 (cnd (decide (x ≤ x))
 (cnd (decide ((x + 1) ≤ 1073741824))
 (R (XE.normal) [.ptr 0 0, .ptr 1 0, .ptr 2 0, .gr 3 2 (x + 1), .ro [W Z, W Z, W Z] y d, V Z J, V Z (Z.wrap (g + 1))] [.cells 41 [.str C, V Z D, .ro [W Z, W Z] A o, .ro [W Z, W Z, W Z] y I], .cells 41 [.str E, V Z F, .nsl, .nsl], .cells 41 [.str G, V Z H, .gr 4 2 l, .gr 5 3 (b + 1)], .row 35 [W Z, W Z] (x + 1) (p.app x (datS [V Z (Z.wrap ((m62 x p) + (d.ii g.toNat 0))), V Z (d.ii g.toNat 1)] 2)), .row 97 [W Z, W Z] l z, .row 74 [W Z, W Z, W Z] (b + 1) (w.app b (datS [V Z (d.ii g.toNat 0), V Z (d.ii g.toNat 1), V Z (m98 l z (o.ii ((d.ii g.toNat 2).toNat) 0) (o.ii ((d.ii g.toNat 2).toNat) 1))] 3))])
                    False)
                   False)
                  False)
                 False))
               False)
              False)
             False)
            False)
           False)
          False)
         False)
        False))
      False)
     False)
    False)
   False)
 (R (XE.exit 0) [.ptr 0 0, .ptr 1 0, .ptr 2 0] [.cells 41 [.str C, V Z D, .ro [W Z, W Z] A o, .ro [W Z, W Z, W Z] y I], .cells 41 [.str E, V Z F, .nsl, .nsl], .cells 41 [.str G, V Z H, .gr 4 2 l, .gr 5 3 b], .row 35 [W Z, W Z] x p, .row 97 [W Z, W Z] l z, .row 74 [W Z, W Z, W Z] b w]))) (fun R => by kernel_rfl) ?_
    exact ch hG (fun h0 => cg h0 fun h1 => cg h1 fun h2 => cg h2 fun h3 => cg h3 fun h4 => ch h4 (fun h5 => cn (decide_eq_true (Nat.le_refl _)) (cg h5 fun h6 => cg h6 fun h7 => cg h7 fun h8 => cg h8 fun h9 => cg h9 fun h10 => cg h10 fun h11 => cg h11 fun h12 => cg h12 fun h13 => cg h13 fun h14 => ch h14 (fun h15 => cg h15 fun h16 => cg h16 fun h17 => cg h17 fun h18 => cg h18 fun h19 => cg h19 fun h20 => cg h20 fun h21 => cg h21 fun h22 => cg h22 fun h23 => ⟨(_, _, _, _, _, _, _, _, _, _, _, _, _, _, _, _, _, _, _), rfl, rfl, h23⟩) (fun h15 => cn (decide_eq_true (Nat.le_refl _)) (cg h15 fun h16 => cn (decide_eq_true (Nat.le_refl _)) (cg h16 fun h17 => ⟨(_, _, _, _, _, _, _, _, _, _, _, _, _, _, _, _, _, _, _), rfl, rfl, h17⟩))))) (fun h5 => cg h5 fun h6 => cg h6 fun h7 => cg h7 fun h8 => cg h8 fun h9 => cg h9 fun h10 => cg h10 fun h11 => cg h11 fun h12 => cg h12 fun h13 => ch h13 (fun h14 => cg h14 fun h15 => cg h15 fun h16 => cg h16 fun h17 => cg h17 fun h18 => cg h18 fun h19 => cg h19 fun h20 => cg h20 fun h21 => cg h21 fun h22 => ⟨(_, _, _, _, _, _, _, _, _, _, _, _, _, _, _, _, _, _, _), rfl, rfl, h22⟩) (fun h14 => cn (decide_eq_true (Nat.le_refl _)) (cg h14 fun h15 => cn (decide_eq_true (Nat.le_refl _)) (cg h15 fun h16 => ⟨(_, _, _, _, _, _, _, _, _, _, _, _, _, _, _, _, _, _, _), rfl, rfl, h16⟩))))) (fun h0 => h0.2)
  · intro s k h
    unfold g73_0 at h
    split at h <;> try exact h.elim
    rename_i e1
    rw [needs_iff] at h
    have hq := h.1
    simp only [List.mem_cons, forall_eq_or_imp, decide_eq_true_eq, List.not_mem_nil, false_imp_iff, implies_true, and_true] at hq
    obtain ⟨rfl, rfl, rfl, rfl, hq⟩ := hq
    exact ⟨_, e1, _, (_, _, _, _, _, _, _, _, _, _, _, _, _, _, _, _, _, _, _), rfl, rfl, hq, h.2⟩
noncomputable def m73 (m : ByteArray) (n : Int) (v : Nat) (u : Dat) (i : Nat) (j : Dat) : ByteArray × Int × Nat × Dat × Nat × Dat :=
  (cond (decide ((↑(((o73_0 i j (↑i : Int) m n v u j ({ data := #[] } : ByteArray) 0 m n 1 0 0 0 (datS [V Z 0, V Z 0] 2) noDat noDat).getD default).2.1) : Int) = 0)) (m, n, 1, (datS [V Z (u.ii 0 0), V Z (u.ii 0 1)] 2), ((o73_0 i j (↑i : Int) m n v u j ({ data := #[] } : ByteArray) 0 m n 1 0 0 0 (datS [V Z 0, V Z 0] 2) noDat noDat).getD default).2.1, ((o73_0 i j (↑i : Int) m n v u j ({ data := #[] } : ByteArray) 0 m n 1 0 0 0 (datS [V Z 0, V Z 0] 2) noDat noDat).getD default).2.2.2.2.2.2.2) (m, n, ((o73_0 i j (↑i : Int) m n v u j ({ data := #[] } : ByteArray) 0 m n 1 0 0 0 (datS [V Z 0, V Z 0] 2) noDat noDat).getD default).1, ((o73_0 i j (↑i : Int) m n v u j ({ data := #[] } : ByteArray) 0 m n 1 0 0 0 (datS [V Z 0, V Z 0] 2) noDat noDat).getD default).2.2.2.2.2.1, ((o73_0 i j (↑i : Int) m n v u j ({ data := #[] } : ByteArray) 0 m n 1 0 0 0 (datS [V Z 0, V Z 0] 2) noDat noDat).getD default).2.1, ((o73_0 i j (↑i : Int) m n v u j ({ data := #[] } : ByteArray) 0 m n 1 0 0 0 (datS [V Z 0, V Z 0] 2) noDat noDat).getD default).2.2.2.2.2.2.2))
noncomputable def n73 (m : ByteArray) (n : Int) (v : Nat) (u : Dat) (i : Nat) (j : Dat) : Bool :=
  (((o73_0 i j (↑i : Int) m n v u j ({ data := #[] } : ByteArray) 0 m n 1 0 0 0 (datS [V Z 0, V Z 0] 2) noDat noDat).isSome) && (cond (decide ((↑(((o73_0 i j (↑i : Int) m n v u j ({ data := #[] } : ByteArray) 0 m n 1 0 0 0 (datS [V Z 0, V Z 0] 2) noDat noDat).getD default).2.1) : Int) = 0)) ((decide ((0 : Int) ≤ (0 : Int) ∧ (0 : Int) < (↑v : Int))) && ((decide ((0 + ((o73_0 i j (↑i : Int) m n v u j ({ data := #[] } : ByteArray) 0 m n 1 0 0 0 (datS [V Z 0, V Z 0] 2) noDat noDat).getD default).2.1) ≤ ((o73_0 i j (↑i : Int) m n v u j ({ data := #[] } : ByteArray) 0 m n 1 0 0 0 (datS [V Z 0, V Z 0] 2) noDat noDat).getD default).2.2.2.2.2.2.1)) && true)) ((decide ((0 + ((o73_0 i j (↑i : Int) m n v u j ({ data := #[] } : ByteArray) 0 m n 1 0 0 0 (datS [V Z 0, V Z 0] 2) noDat noDat).getD default).1) ≤ ((o73_0 i j (↑i : Int) m n v u j ({ data := #[] } : ByteArray) 0 m n 1 0 0 0 (datS [V Z 0, V Z 0] 2) noDat noDat).getD default).2.2.2.2.1)) && ((decide ((0 + ((o73_0 i j (↑i : Int) m n v u j ({ data := #[] } : ByteArray) 0 m n 1 0 0 0 (datS [V Z 0, V Z 0] 2) noDat noDat).getD default).2.1) ≤ ((o73_0 i j (↑i : Int) m n v u j ({ data := #[] } : ByteArray) 0 m n 1 0 0 0 (datS [V Z 0, V Z 0] 2) noDat noDat).getD default).2.2.2.2.2.2.1)) && true))))
noncomputable def q73 (r : ByteArray × Int × Nat × Dat × Nat × Dat) : SV × List Blk × List Blk := (.agg [.str r.1, V Z r.2.1, .ro [W Z, W Z] r.2.2.1 r.2.2.2.1, .ro [W Z, W Z, W Z] r.2.2.2.2.1 r.2.2.2.2.2], [], [])
noncomputable def g73 : GF := fun vs bs => match vs, bs with
  | [.agg [.str m, V Z n, .ro [W Z, W Z] v u, .ro [W Z, W Z, W Z] i j]], [] => some (rs 0 (q73 (m73 m n v u i j)) [n73 m n v u i j])
  | _, _ => none
noncomputable def c73 : Ctr := genC [.a [.k, .k, .ro [W Z, W Z], .ro [W Z, W Z, W Z]]] g73
theorem k73 : CtrOk Tryd.prog c73 73 := cx (tc k62 (tc k98 (tc k99 tn))) mix_ok 8 (fn := Tryd.f73) (c := (Tryd.f73.body.getD .skip)) (grs := []) (rh := .t [.k, .k, .ro [W Z, W Z], .ro [W Z, W Z, W Z]]) Tryd.func73 rfl (by kernel_rfl) (lam_of rfl (lc z73_0 ln)) fun vs bs q h hn => by
  unfold g73 at h
  split at h <;> cases h
  rename_i m n v u i j
  have hn := n1 hn
  exact ⟨_, rfl, ca (fun R => (cnd (decide (i = i))
 (cnd ((o73_0 i j (↑i : Int) m n v u j ({ data := #[] } : ByteArray) 0 m n 1 0 0 0 (datS [V Z 0, V Z 0] 2) noDat noDat).isSome)
 (cnd (decide ((↑(((o73_0 i j (↑i : Int) m n v u j ({ data := #[] } : ByteArray) 0 m n 1 0 0 0 (datS [V Z 0, V Z 0] 2) noDat noDat).getD default).2.1) : Int) = 0))
 (cnd (decide ((0 : Int) ≤ (0 : Int) ∧ (0 : Int) < (↑v : Int)))
 (cnd (decide ((0 + ((o73_0 i j (↑i : Int) m n v u j ({ data := #[] } : ByteArray) 0 m n 1 0 0 0 (datS [V Z 0, V Z 0] 2) noDat noDat).getD default).2.1) ≤ ((o73_0 i j (↑i : Int) m n v u j ({ data := #[] } : ByteArray) 0 m n 1 0 0 0 (datS [V Z 0, V Z 0] 2) noDat noDat).getD default).2.2.2.2.2.2.1))
 (R (.agg [.str m, V Z n, .ro [W Z, W Z] 1 (datS [V Z (u.ii 0 0), V Z (u.ii 0 1)] 2), .ro [W Z, W Z, W Z] ((o73_0 i j (↑i : Int) m n v u j ({ data := #[] } : ByteArray) 0 m n 1 0 0 0 (datS [V Z 0, V Z 0] 2) noDat noDat).getD default).2.1 ((o73_0 i j (↑i : Int) m n v u j ({ data := #[] } : ByteArray) 0 m n 1 0 0 0 (datS [V Z 0, V Z 0] 2) noDat noDat).getD default).2.2.2.2.2.2.2]) [] [])
      False)
     False)
 (cnd (decide ((0 + ((o73_0 i j (↑i : Int) m n v u j ({ data := #[] } : ByteArray) 0 m n 1 0 0 0 (datS [V Z 0, V Z 0] 2) noDat noDat).getD default).1) ≤ ((o73_0 i j (↑i : Int) m n v u j ({ data := #[] } : ByteArray) 0 m n 1 0 0 0 (datS [V Z 0, V Z 0] 2) noDat noDat).getD default).2.2.2.2.1))
 (cnd (decide ((0 + ((o73_0 i j (↑i : Int) m n v u j ({ data := #[] } : ByteArray) 0 m n 1 0 0 0 (datS [V Z 0, V Z 0] 2) noDat noDat).getD default).2.1) ≤ ((o73_0 i j (↑i : Int) m n v u j ({ data := #[] } : ByteArray) 0 m n 1 0 0 0 (datS [V Z 0, V Z 0] 2) noDat noDat).getD default).2.2.2.2.2.2.1))
 (R (.agg [.str m, V Z n, .ro [W Z, W Z] ((o73_0 i j (↑i : Int) m n v u j ({ data := #[] } : ByteArray) 0 m n 1 0 0 0 (datS [V Z 0, V Z 0] 2) noDat noDat).getD default).1 ((o73_0 i j (↑i : Int) m n v u j ({ data := #[] } : ByteArray) 0 m n 1 0 0 0 (datS [V Z 0, V Z 0] 2) noDat noDat).getD default).2.2.2.2.2.1, .ro [W Z, W Z, W Z] ((o73_0 i j (↑i : Int) m n v u j ({ data := #[] } : ByteArray) 0 m n 1 0 0 0 (datS [V Z 0, V Z 0] 2) noDat noDat).getD default).2.1 ((o73_0 i j (↑i : Int) m n v u j ({ data := #[] } : ByteArray) 0 m n 1 0 0 0 (datS [V Z 0, V Z 0] 2) noDat noDat).getD default).2.2.2.2.2.2.2]) [] [])
      False)
     False))
   False)
  False)) (fun R => by kernel_rfl) (cn (decide_eq_true rfl) (cn (al hn) (co (fun h0 => cn (al (ct h0 (ar hn))) (cn (al (ar (ct h0 (ar hn)))) (lf (cT h0 rfl) rfl))) (fun h0 => cn (al (cf h0 (ar hn))) (cn (al (ar (cf h0 (ar hn)))) (lf (cF h0 rfl) rfl))))))⟩
/-! ### shotline/profile.DepthAt -/
noncomputable def m48 (i : ByteArray) (j : Int) (b : Nat) (d : Dat) (e : Nat) (g : Dat) (l : Int) : Int × Int × Int :=
  (cond (bif (decide ((m78 i j b d e g l).2.2 = 0)) then false else true) (0, 0, (m78 i j b d e g l).2.2) ((m54 (m53 (m78 i j b d e g l).1 (m78 i j b d e g l).2.1 l).1 (m53 (m78 i j b d e g l).1 (m78 i j b d e g l).2.1 l).2).1, (m54 (m53 (m78 i j b d e g l).1 (m78 i j b d e g l).2.1 l).1 (m53 (m78 i j b d e g l).1 (m78 i j b d e g l).2.1 l).2).2, 0))
noncomputable def n48 (i : ByteArray) (j : Int) (b : Nat) (d : Dat) (e : Nat) (g : Dat) (l : Int) : Bool :=
  ((n78 i j b d e g l) && (cond (bif (decide ((m78 i j b d e g l).2.2 = 0)) then false else true) true ((n53 (m78 i j b d e g l).1 (m78 i j b d e g l).2.1 l) && ((n54 (m53 (m78 i j b d e g l).1 (m78 i j b d e g l).2.1 l).1 (m53 (m78 i j b d e g l).1 (m78 i j b d e g l).2.1 l).2) && true))))
noncomputable def q48 (r : Int × Int × Int) : SV × List Blk × List Blk := (.tup [.agg [V Z r.1, V Z r.2.1], V Z r.2.2], [], [])
noncomputable def g48 : GF := fun vs bs => match vs, bs with
  | [.agg [.str i, V Z j, .ro [W Z, W Z] b d, .ro [W Z, W Z, W Z] e g], V Z l], [] => some (rs 0 (q48 (m48 i j b d e g l)) [n48 i j b d e g l])
  | _, _ => none
noncomputable def c48 : Ctr := genC [.a [.k, .k, .ro [W Z, W Z], .ro [W Z, W Z, W Z]], .k] g48
theorem k48 : CtrOk Tryd.prog c48 48 := cx (tc k53 (tc k54 (tc k78 tn))) mix_ok 8 (fn := Tryd.f48) (c := (Tryd.f48.body.getD .skip)) (grs := []) (rh := .k) Tryd.func48 rfl (by kernel_rfl) noLam fun vs bs q h hn => by
  unfold g48 at h
  split at h <;> cases h
  rename_i i j b d e g l
  have hn := n1 hn
  exact ⟨_, rfl, ca (fun R => (cnd (n78 i j b d e g l)
 (cnd (bif (decide ((m78 i j b d e g l).2.2 = 0)) then false else true)
 (R (.tup [.agg [V Z 0, V Z 0], V Z (m78 i j b d e g l).2.2]) [] [])
 (cnd (n53 (m78 i j b d e g l).1 (m78 i j b d e g l).2.1 l)
 (cnd (n54 (m53 (m78 i j b d e g l).1 (m78 i j b d e g l).2.1 l).1 (m53 (m78 i j b d e g l).1 (m78 i j b d e g l).2.1 l).2)
 (R (.tup [.agg [V Z (m54 (m53 (m78 i j b d e g l).1 (m78 i j b d e g l).2.1 l).1 (m53 (m78 i j b d e g l).1 (m78 i j b d e g l).2.1 l).2).1, V Z (m54 (m53 (m78 i j b d e g l).1 (m78 i j b d e g l).2.1 l).1 (m53 (m78 i j b d e g l).1 (m78 i j b d e g l).2.1 l).2).2], V Z 0]) [] [])
     False)
    False))
  False)) (fun R => by kernel_rfl) (cn (al hn) (co (fun h0 => lf (cT h0 rfl) rfl) (fun h0 => cn (al (cf h0 (ar hn))) (cn (al (ar (cf h0 (ar hn)))) (lf (cF h0 rfl) rfl)))))⟩
/-! ### shotline/profile.SameDive -/
noncomputable def m41 (n : ByteArray) (o : Int) (b : Nat) (d : Dat) (e : Nat) (g : Dat) (p : ByteArray) (s : Int) (i : Nat) (j : Dat) (l : Nat) (m : Dat) : Bool × Int :=
  (cond (bif (decide ((m60 2 (datS [SV.str n, V Z o, SV.ro [Kd.int Z, Kd.int Z] b d, SV.ro [Kd.int Z, Kd.int Z, Kd.int Z] e g, SV.str p, V Z s, SV.ro [Kd.int Z, Kd.int Z] i j, SV.ro [Kd.int Z, Kd.int Z, Kd.int Z] l m] 4)) = 0)) then false else true) (false, (m60 2 (datS [SV.str n, V Z o, SV.ro [Kd.int Z, Kd.int Z] b d, SV.ro [Kd.int Z, Kd.int Z, Kd.int Z] e g, SV.str p, V Z s, SV.ro [Kd.int Z, Kd.int Z] i j, SV.ro [Kd.int Z, Kd.int Z, Kd.int Z] l m] 4))) ((bif (bif (decide ((m73 n o b d e g).2.1 = (m73 p s i j l m).2.1)) then (m75 (m73 n o b d e g).2.2.1 (m73 n o b d e g).2.2.2.1 (m73 p s i j l m).2.2.1 (m73 p s i j l m).2.2.2.1) else false) then (m76 (m73 n o b d e g).2.2.2.2.1 (m73 n o b d e g).2.2.2.2.2 (m73 p s i j l m).2.2.2.2.1 (m73 p s i j l m).2.2.2.2.2) else false), 0))
noncomputable def n41 (n : ByteArray) (o : Int) (b : Nat) (d : Dat) (e : Nat) (g : Dat) (p : ByteArray) (s : Int) (i : Nat) (j : Dat) (l : Nat) (m : Dat) : Bool :=
  ((n60 2 (datS [SV.str n, V Z o, SV.ro [Kd.int Z, Kd.int Z] b d, SV.ro [Kd.int Z, Kd.int Z, Kd.int Z] e g, SV.str p, V Z s, SV.ro [Kd.int Z, Kd.int Z] i j, SV.ro [Kd.int Z, Kd.int Z, Kd.int Z] l m] 4)) && (cond (bif (decide ((m60 2 (datS [SV.str n, V Z o, SV.ro [Kd.int Z, Kd.int Z] b d, SV.ro [Kd.int Z, Kd.int Z, Kd.int Z] e g, SV.str p, V Z s, SV.ro [Kd.int Z, Kd.int Z] i j, SV.ro [Kd.int Z, Kd.int Z, Kd.int Z] l m] 4)) = 0)) then false else true) true ((n73 n o b d e g) && ((n73 p s i j l m) && ((bif (bif (decide ((m73 n o b d e g).2.1 = (m73 p s i j l m).2.1)) then false else true) then true else (n75 (m73 n o b d e g).2.2.1 (m73 n o b d e g).2.2.2.1 (m73 p s i j l m).2.2.1 (m73 p s i j l m).2.2.2.1)) && ((bif (bif (bif (decide ((m73 n o b d e g).2.1 = (m73 p s i j l m).2.1)) then (m75 (m73 n o b d e g).2.2.1 (m73 n o b d e g).2.2.2.1 (m73 p s i j l m).2.2.1 (m73 p s i j l m).2.2.2.1) else false) then false else true) then true else (n76 (m73 n o b d e g).2.2.2.2.1 (m73 n o b d e g).2.2.2.2.2 (m73 p s i j l m).2.2.2.2.1 (m73 p s i j l m).2.2.2.2.2)) && true))))))
noncomputable def q41 (r : Bool × Int) : SV × List Blk × List Blk := (.tup [.bool r.1, V Z r.2], [], [])
noncomputable def g41 : GF := fun vs bs => match vs, bs with
  | [.agg [.str n, V Z o, .ro [W Z, W Z] b d, .ro [W Z, W Z, W Z] e g], .agg [.str p, V Z s, .ro [W Z, W Z] i j, .ro [W Z, W Z, W Z] l m]], [] => some (rs 0 (q41 (m41 n o b d e g p s i j l m)) [n41 n o b d e g p s i j l m])
  | _, _ => none
noncomputable def c41 : Ctr := genC [.a [.k, .k, .ro [W Z, W Z], .ro [W Z, W Z, W Z]], .a [.k, .k, .ro [W Z, W Z], .ro [W Z, W Z, W Z]]] g41
theorem k41 : CtrOk Tryd.prog c41 41 := cx (tc k60 (tc k73 (tc k75 (tc k76 tn)))) mix_ok 8 (fn := Tryd.f41) (c := (Tryd.f41.body.getD .skip)) (grs := []) (rh := .k) Tryd.func41 rfl (by kernel_rfl) noLam fun vs bs q h hn => by
  unfold g41 at h
  split at h <;> cases h
  rename_i n o b d e g p s i j l m
  have hn := n1 hn
  exact ⟨_, rfl, ca (fun R => (cnd (n60 2 (datS [SV.str n, V Z o, SV.ro [Kd.int Z, Kd.int Z] b d, SV.ro [Kd.int Z, Kd.int Z, Kd.int Z] e g, SV.str p, V Z s, SV.ro [Kd.int Z, Kd.int Z] i j, SV.ro [Kd.int Z, Kd.int Z, Kd.int Z] l m] 4))
 (cnd (bif (decide ((m60 2 (datS [SV.str n, V Z o, SV.ro [Kd.int Z, Kd.int Z] b d, SV.ro [Kd.int Z, Kd.int Z, Kd.int Z] e g, SV.str p, V Z s, SV.ro [Kd.int Z, Kd.int Z] i j, SV.ro [Kd.int Z, Kd.int Z, Kd.int Z] l m] 4)) = 0)) then false else true)
 (R (.tup [.bool false, V Z (m60 2 (datS [SV.str n, V Z o, SV.ro [Kd.int Z, Kd.int Z] b d, SV.ro [Kd.int Z, Kd.int Z, Kd.int Z] e g, SV.str p, V Z s, SV.ro [Kd.int Z, Kd.int Z] i j, SV.ro [Kd.int Z, Kd.int Z, Kd.int Z] l m] 4))]) [] [])
 (cnd (n73 n o b d e g)
 (cnd (n73 p s i j l m)
 (cnd (bif (bif (decide ((m73 n o b d e g).2.1 = (m73 p s i j l m).2.1)) then false else true) then true else (n75 (m73 n o b d e g).2.2.1 (m73 n o b d e g).2.2.2.1 (m73 p s i j l m).2.2.1 (m73 p s i j l m).2.2.2.1))
 (cnd (bif (bif (bif (decide ((m73 n o b d e g).2.1 = (m73 p s i j l m).2.1)) then (m75 (m73 n o b d e g).2.2.1 (m73 n o b d e g).2.2.2.1 (m73 p s i j l m).2.2.1 (m73 p s i j l m).2.2.2.1) else false) then false else true) then true else (n76 (m73 n o b d e g).2.2.2.2.1 (m73 n o b d e g).2.2.2.2.2 (m73 p s i j l m).2.2.2.2.1 (m73 p s i j l m).2.2.2.2.2))
 (R (.tup [.bool (bif (bif (decide ((m73 n o b d e g).2.1 = (m73 p s i j l m).2.1)) then (m75 (m73 n o b d e g).2.2.1 (m73 n o b d e g).2.2.2.1 (m73 p s i j l m).2.2.1 (m73 p s i j l m).2.2.2.1) else false) then (m76 (m73 n o b d e g).2.2.2.2.1 (m73 n o b d e g).2.2.2.2.2 (m73 p s i j l m).2.2.2.2.1 (m73 p s i j l m).2.2.2.2.2) else false), V Z 0]) [] [])
       False)
      False)
     False)
    False))
  False)) (fun R => by kernel_rfl) (cn (al hn) (co (fun h0 => lf (cT h0 rfl) rfl) (fun h0 => cn (al (cf h0 (ar hn))) (cn (al (ar (cf h0 (ar hn)))) (cn (al (ar (ar (cf h0 (ar hn))))) (cn (al (ar (ar (ar (cf h0 (ar hn)))))) (lf (cF h0 rfl) rfl)))))))⟩
/-! ### shotline/profile.Before -/
noncomputable def m43 (i : ByteArray) (j : Int) (b : Nat) (d : Dat) (e : Nat) (g : Dat) (l : Int) : ByteArray × Int × Nat × Dat × Nat × Dat × Int :=
  (cond (bif (decide ((m78 i j b d e g l).2.2 = 0)) then false else true) (({ data := #[] } : ByteArray), 0, 0, noDat, 0, noDat, (m78 i j b d e g l).2.2) (cond (bif (decide ((m54 (m53 (m78 i j b d e g l).1 (m78 i j b d e g l).2.1 l).1 (m53 (m78 i j b d e g l).1 (m78 i j b d e g l).2.1 l).2).1 = (m54 (m53 (m78 i j b d e g l).1 (m78 i j b d e g l).2.1 l).1 (m53 (m78 i j b d e g l).1 (m78 i j b d e g l).2.1 l).2).2)) then false else true) (({ data := #[] } : ByteArray), 0, 0, noDat, 0, noDat, 3) (cond (decide ((0 : Int) < l)) (i, j, b, d, (((m79 (m78 i j b d e g l).1 (m78 i j b d e g l).2.1 l) - 0).toNat), ((g.upd ((Z.wrap ((m79 (m78 i j b d e g l).1 (m78 i j b d e g l).2.1 l) - 1)).toNat) 0 [V Z (Z.wrap (l - ((m78 i j b d e g l).2.1.ii ((Z.wrap ((m79 (m78 i j b d e g l).1 (m78 i j b d e g l).2.1 l) - 1)).toNat) 0)))]).upd ((Z.wrap ((m79 (m78 i j b d e g l).1 (m78 i j b d e g l).2.1 l) - 1)).toNat) 1 [V Z (m54 (m53 (m78 i j b d e g l).1 (m78 i j b d e g l).2.1 l).1 (m53 (m78 i j b d e g l).1 (m78 i j b d e g l).2.1 l).2).1]), 0) (i, j, b, d, 0, noDat, 0))))
noncomputable def n43 (i : ByteArray) (j : Int) (b : Nat) (d : Dat) (e : Nat) (g : Dat) (l : Int) : Bool :=
  ((n78 i j b d e g l) && (cond (bif (decide ((m78 i j b d e g l).2.2 = 0)) then false else true) true ((n53 (m78 i j b d e g l).1 (m78 i j b d e g l).2.1 l) && ((n54 (m53 (m78 i j b d e g l).1 (m78 i j b d e g l).2.1 l).1 (m53 (m78 i j b d e g l).1 (m78 i j b d e g l).2.1 l).2) && (cond (bif (decide ((m54 (m53 (m78 i j b d e g l).1 (m78 i j b d e g l).2.1 l).1 (m53 (m78 i j b d e g l).1 (m78 i j b d e g l).2.1 l).2).1 = (m54 (m53 (m78 i j b d e g l).1 (m78 i j b d e g l).2.1 l).1 (m53 (m78 i j b d e g l).1 (m78 i j b d e g l).2.1 l).2).2)) then false else true) true ((decide (b ≤ 1073741824)) && (cond (decide ((0 : Int) < l)) ((n79 (m78 i j b d e g l).1 (m78 i j b d e g l).2.1 l) && ((decide ((0 : Int) ≤ (0 : Int) ∧ (0 : Int) ≤ m79 (m78 i j b d e g l).1 (m78 i j b d e g l).2.1 l ∧ m79 (m78 i j b d e g l).1 (m78 i j b d e g l).2.1 l ≤ (↑e : Int))) && ((decide ((((m79 (m78 i j b d e g l).1 (m78 i j b d e g l).2.1 l) - 0).toNat) ≤ 1073741824)) && ((decide (0 ≤ Z.wrap (m79 (m78 i j b d e g l).1 (m78 i j b d e g l).2.1 l - 1) ∧ Z.wrap (m79 (m78 i j b d e g l).1 (m78 i j b d e g l).2.1 l - 1) < (↑(m78 i j b d e g l).1 : Int))) && ((decide (0 ≤ Z.wrap (m79 (m78 i j b d e g l).1 (m78 i j b d e g l).2.1 l - 1) ∧ Z.wrap (m79 (m78 i j b d e g l).1 (m78 i j b d e g l).2.1 l - 1) < (↑(m79 (m78 i j b d e g l).1 (m78 i j b d e g l).2.1 l - 0).toNat : Int))) && ((decide (((Z.wrap ((m79 (m78 i j b d e g l).1 (m78 i j b d e g l).2.1 l) - 1)).toNat) < (((m79 (m78 i j b d e g l).1 (m78 i j b d e g l).2.1 l) - 0).toNat))) && ((decide (0 ≤ Z.wrap (m79 (m78 i j b d e g l).1 (m78 i j b d e g l).2.1 l - 1) ∧ Z.wrap (m79 (m78 i j b d e g l).1 (m78 i j b d e g l).2.1 l - 1) < (↑(m79 (m78 i j b d e g l).1 (m78 i j b d e g l).2.1 l - 0).toNat : Int))) && ((decide (((Z.wrap ((m79 (m78 i j b d e g l).1 (m78 i j b d e g l).2.1 l) - 1)).toNat) < (((m79 (m78 i j b d e g l).1 (m78 i j b d e g l).2.1 l) - 0).toNat))) && ((decide ((0 + b) ≤ b)) && ((decide ((0 + (((m79 (m78 i j b d e g l).1 (m78 i j b d e g l).2.1 l) - 0).toNat)) ≤ (((m79 (m78 i j b d e g l).1 (m78 i j b d e g l).2.1 l) - 0).toNat))) && true)))))))))) ((decide ((0 + b) ≤ b)) && true))))))))
noncomputable def q43 (r : ByteArray × Int × Nat × Dat × Nat × Dat × Int) : SV × List Blk × List Blk := (.tup [.agg [.str r.1, V Z r.2.1, .ro [W Z, W Z] r.2.2.1 r.2.2.2.1, .ro [W Z, W Z, W Z] r.2.2.2.2.1 r.2.2.2.2.2.1], V Z r.2.2.2.2.2.2], [], [])
noncomputable def g43 : GF := fun vs bs => match vs, bs with
  | [.agg [.str i, V Z j, .ro [W Z, W Z] b d, .ro [W Z, W Z, W Z] e g], V Z l], [] => some (rs 0 (q43 (m43 i j b d e g l)) [n43 i j b d e g l])
  | _, _ => none
noncomputable def c43 : Ctr := genC [.a [.k, .k, .ro [W Z, W Z], .ro [W Z, W Z, W Z]], .k] g43
theorem k43 : CtrOk Tryd.prog c43 43 := cx (tc k53 (tc k54 (tc k71 (tc k78 (tc k79 (tc k80 tn)))))) mix_ok 8 (fn := Tryd.f43) (c := (Tryd.f43.body.getD .skip)) (grs := []) (rh := .t [.t [.k, .k, .ro [W Z, W Z], .ro [W Z, W Z, W Z]], .k]) Tryd.func43 rfl (by kernel_rfl) noLam fun vs bs q h hn => by
  unfold g43 at h
  split at h <;> cases h
  rename_i i j b d e g l
  have hn := n1 hn
  exact ⟨_, rfl, ca (fun R => (cnd (n78 i j b d e g l)
 (cnd (bif (decide ((m78 i j b d e g l).2.2 = 0)) then false else true)
 (R (.tup [.agg [.str ({ data := #[] } : ByteArray), V Z 0, .ro [W Z, W Z] 0 noDat, .ro [W Z, W Z, W Z] 0 noDat], V Z (m78 i j b d e g l).2.2]) [] [])
 (cnd (n53 (m78 i j b d e g l).1 (m78 i j b d e g l).2.1 l)
 (cnd (n54 (m53 (m78 i j b d e g l).1 (m78 i j b d e g l).2.1 l).1 (m53 (m78 i j b d e g l).1 (m78 i j b d e g l).2.1 l).2)
 (cnd (bif (decide ((m54 (m53 (m78 i j b d e g l).1 (m78 i j b d e g l).2.1 l).1 (m53 (m78 i j b d e g l).1 (m78 i j b d e g l).2.1 l).2).1 = (m54 (m53 (m78 i j b d e g l).1 (m78 i j b d e g l).2.1 l).1 (m53 (m78 i j b d e g l).1 (m78 i j b d e g l).2.1 l).2).2)) then false else true)
 (R (.tup [.agg [.str ({ data := #[] } : ByteArray), V Z 0, .ro [W Z, W Z] 0 noDat, .ro [W Z, W Z, W Z] 0 noDat], V Z 3]) [] [])
 (cnd (decide (b ≤ 1073741824))
 (cnd (decide ((0 : Int) < l))
 (cnd (n79 (m78 i j b d e g l).1 (m78 i j b d e g l).2.1 l)
 (cnd (decide ((0 : Int) ≤ (0 : Int) ∧ (0 : Int) ≤ m79 (m78 i j b d e g l).1 (m78 i j b d e g l).2.1 l ∧ m79 (m78 i j b d e g l).1 (m78 i j b d e g l).2.1 l ≤ (↑e : Int)))
 (cnd (decide ((((m79 (m78 i j b d e g l).1 (m78 i j b d e g l).2.1 l) - 0).toNat) ≤ 1073741824))
 (cnd (decide (0 ≤ Z.wrap (m79 (m78 i j b d e g l).1 (m78 i j b d e g l).2.1 l - 1) ∧ Z.wrap (m79 (m78 i j b d e g l).1 (m78 i j b d e g l).2.1 l - 1) < (↑(m78 i j b d e g l).1 : Int)))
 (cnd (decide (0 ≤ Z.wrap (m79 (m78 i j b d e g l).1 (m78 i j b d e g l).2.1 l - 1) ∧ Z.wrap (m79 (m78 i j b d e g l).1 (m78 i j b d e g l).2.1 l - 1) < (↑(m79 (m78 i j b d e g l).1 (m78 i j b d e g l).2.1 l - 0).toNat : Int)))
 (cnd (decide (((Z.wrap ((m79 (m78 i j b d e g l).1 (m78 i j b d e g l).2.1 l) - 1)).toNat) < (((m79 (m78 i j b d e g l).1 (m78 i j b d e g l).2.1 l) - 0).toNat)))
 (cnd (decide (0 ≤ Z.wrap (m79 (m78 i j b d e g l).1 (m78 i j b d e g l).2.1 l - 1) ∧ Z.wrap (m79 (m78 i j b d e g l).1 (m78 i j b d e g l).2.1 l - 1) < (↑(m79 (m78 i j b d e g l).1 (m78 i j b d e g l).2.1 l - 0).toNat : Int)))
 (cnd (decide (((Z.wrap ((m79 (m78 i j b d e g l).1 (m78 i j b d e g l).2.1 l) - 1)).toNat) < (((m79 (m78 i j b d e g l).1 (m78 i j b d e g l).2.1 l) - 0).toNat)))
 (cnd (decide ((0 + b) ≤ b))
 (cnd (decide ((0 + (((m79 (m78 i j b d e g l).1 (m78 i j b d e g l).2.1 l) - 0).toNat)) ≤ (((m79 (m78 i j b d e g l).1 (m78 i j b d e g l).2.1 l) - 0).toNat)))
 (R (.tup [.agg [.str i, V Z j, .ro [W Z, W Z] b d, .ro [W Z, W Z, W Z] (((m79 (m78 i j b d e g l).1 (m78 i j b d e g l).2.1 l) - 0).toNat) ((g.upd ((Z.wrap ((m79 (m78 i j b d e g l).1 (m78 i j b d e g l).2.1 l) - 1)).toNat) 0 [V Z (Z.wrap (l - ((m78 i j b d e g l).2.1.ii ((Z.wrap ((m79 (m78 i j b d e g l).1 (m78 i j b d e g l).2.1 l) - 1)).toNat) 0)))]).upd ((Z.wrap ((m79 (m78 i j b d e g l).1 (m78 i j b d e g l).2.1 l) - 1)).toNat) 1 [V Z (m54 (m53 (m78 i j b d e g l).1 (m78 i j b d e g l).2.1 l).1 (m53 (m78 i j b d e g l).1 (m78 i j b d e g l).2.1 l).2).1])], V Z 0]) [] [])
                  False)
                 False)
                False)
               False)
              False)
             False)
            False)
           False)
          False)
         False)
 (cnd (decide ((0 + b) ≤ b))
 (R (.tup [.agg [.str i, V Z j, .ro [W Z, W Z] b d, .ro [W Z, W Z, W Z] 0 noDat], V Z 0]) [] [])
         False))
       False))
     False)
    False))
  False)) (fun R => by kernel_rfl) (cn (al hn) (co (fun h0 => lf (cT h0 rfl) rfl) (fun h0 => cn (al (cf h0 (ar hn))) (cn (al (ar (cf h0 (ar hn)))) (co (fun h1 => lf (cF h0 (cT h1 rfl)) rfl) (fun h1 => cn (al (cf h1 (ar (ar (cf h0 (ar hn)))))) (co (fun h2 => cn (al (ct h2 (ar (cf h1 (ar (ar (cf h0 (ar hn)))))))) (cn (al (ar (ct h2 (ar (cf h1 (ar (ar (cf h0 (ar hn))))))))) (cn (al (ar (ar (ct h2 (ar (cf h1 (ar (ar (cf h0 (ar hn)))))))))) (cn (al (ar (ar (ar (ct h2 (ar (cf h1 (ar (ar (cf h0 (ar hn))))))))))) (cn (al (ar (ar (ar (ar (ct h2 (ar (cf h1 (ar (ar (cf h0 (ar hn)))))))))))) (cn (al (ar (ar (ar (ar (ar (ct h2 (ar (cf h1 (ar (ar (cf h0 (ar hn))))))))))))) (cn (al (ar (ar (ar (ar (ar (ar (ct h2 (ar (cf h1 (ar (ar (cf h0 (ar hn)))))))))))))) (cn (al (ar (ar (ar (ar (ar (ar (ar (ct h2 (ar (cf h1 (ar (ar (cf h0 (ar hn))))))))))))))) (cn (al (ar (ar (ar (ar (ar (ar (ar (ar (ct h2 (ar (cf h1 (ar (ar (cf h0 (ar hn)))))))))))))))) (cn (al (ar (ar (ar (ar (ar (ar (ar (ar (ar (ct h2 (ar (cf h1 (ar (ar (cf h0 (ar hn))))))))))))))))) (lf (cF h0 (cF h1 (cT h2 rfl))) rfl))))))))))) (fun h2 => cn (al (cf h2 (ar (cf h1 (ar (ar (cf h0 (ar hn)))))))) (lf (cF h0 (cF h1 (cF h2 rfl))) rfl)))))))))⟩
/-! ### slices.Grow[[]shotline/api.DiveLeg,shotline/api.DiveLeg] -/
theorem x97 (a : Int) (R : SV → List Blk → List Blk → Prop) : exec Tryd.prog [] (fun _ => none) 8 (Tryd.f97.body.getD .skip) (initS Tryd.f97.ntmps [.nsl, V Z a] 0 (memOf [])) (retK Tryd.prog Tryd.f97.results.toList (outK 0 (List.range 0) [] (.k) fun v U N => R v U N)) =
 (cnd (decide (a < 0))
  False
 (cnd (decide ((0 : Int) < (Z.wrap (a - 0))))
 (cnd (decide (0 ≤ Z.wrap (a - Z.wrap (0 - 0)) ∧ Z.wrap (a - Z.wrap (0 - 0)) ≤ 1073741824))
 (R (.gr 0 3 0) [] [.row 74 [W Z, W Z, W Z] ((Z.wrap (a - 0)).toNat) (datC [V Z 0, V Z 0, V Z 0])])
    False)
 (R (.nsl) [] []))) := by kernel_rfl
noncomputable def m97a (a : Int) : Nat × Dat :=
  (((Z.wrap (a - 0)).toNat), (datC [V Z 0, V Z 0, V Z 0]))
noncomputable def n97a (a : Int) : Bool :=
  (!(decide (a < 0)) && ((decide ((0 : Int) < (Z.wrap (a - 0)))) && ((decide (0 ≤ Z.wrap (a - Z.wrap (0 - 0)) ∧ Z.wrap (a - Z.wrap (0 - 0)) ≤ 1073741824)) && true)))
noncomputable def q97a (r : Nat × Dat) : SV × List Blk × List Blk := (.gr 0 3 0, [], [.row 74 [W Z, W Z, W Z] r.1 r.2])
noncomputable def g97a : GF := fun vs bs => match vs, bs with
  | [.nsl, V Z a], [] => some (rs 0 (q97a (m97a a)) [n97a a])
  | _, _ => none
noncomputable def c97a : Ctr := genC [.k, .k] g97a
theorem k97a : CtrOk Tryd.prog c97a 97 := cx tn mix_ok 8 (fn := Tryd.f97) (c := (Tryd.f97.body.getD .skip)) (grs := []) (rh := .k) Tryd.func97 rfl (by kernel_rfl) noLam fun vs bs q h hn => by
  unfold g97a at h
  split at h <;> cases h
  rename_i a
  have hn := n1 hn
  exact ⟨_, rfl, propOf (x97 a _) (nn (not_l hn) (co (fun _ => cn (al (ar (not_r hn))) (lf rfl rfl)) (fun h0 => (Bool.false_ne_true (h0.symm.trans (al (not_r hn)))).elim)))⟩
noncomputable def n97b (a : Int) : Bool :=
  (!(decide (a < 0)) && (!(decide ((0 : Int) < (Z.wrap (a - 0)))) && true))
noncomputable def q97b : SV × List Blk × List Blk := (.nsl, [], [])
noncomputable def g97b : GF := fun vs bs => match vs, bs with
  | [.nsl, V Z a], [] => some (rs 0 q97b [n97b a])
  | _, _ => none
noncomputable def c97b : Ctr := genC [.k, .k] g97b
theorem k97b : CtrOk Tryd.prog c97b 97 := cx tn mix_ok 8 (fn := Tryd.f97) (c := (Tryd.f97.body.getD .skip)) (grs := []) (rh := .k) Tryd.func97 rfl (by kernel_rfl) noLam fun vs bs q h hn => by
  unfold g97b at h
  split at h <;> cases h
  rename_i a
  have hn := n1 hn
  exact ⟨_, rfl, propOf (x97 a _) (nn (not_l hn) (co (fun h0 => (Bool.false_ne_true ((not_l (not_r hn)).symm.trans h0)).elim) (fun _ => rfl)))⟩
/-! ### slices.Grow, of nothing: both outcomes -/
noncomputable def n97 (a : Int) : Bool := decide (0 ≤ a ∧ a ≤ 1073741824)
noncomputable def c97 : Ctr := fun off _ args => match args with
  | [.nsl, V Z a] => some { v := .gr off 3 0, news := [.row 74 [W Z, W Z, W Z] 0 noDat], need := [n97 a] }
  | _ => none
theorem k97 : CtrOk Tryd.prog c97 97 := by
  refine ⟨k97a.1, fun B M ρ mem off args r hr hn hf xs w hd hm hB hfr => ?_⟩
  unfold c97 at hr
  split at hr <;> cases hr
  rename_i a
  have hn1 : 0 ≤ a ∧ a ≤ 1073741824 := by simpa [n97] using hn (n97 a) (List.mem_singleton.2 rfl)
  have w0 : Z.wrap (0 - 0) = 0 := by rw [IntKind.wrap_i64]; omega
  have w1 : Z.wrap (a - 0) = a := by rw [IntKind.wrap_i64]; omega
  by_cases h0 : 0 < a
  · have ha : n97a a = true := by
      unfold n97a
      rw [w0, w1]
      simp [h0, hn1]
    refine (k97a.2 B M ρ mem off [.nsl, V Z a] { v := .gr off 3 0, news := [.row 74 [W Z, W Z, W Z] (m97a a).1 (m97a a).2], need := [n97a a] } rfl (fun b hb => by cases List.mem_singleton.1 hb; exact ha) ⟨fun u hu => by simp at hu, fun u hu => by simp at hu⟩ xs w hd hm hB hfr).mono ?_
    rintro e w' ⟨x, ρ', rfl, hp⟩
    refine ⟨x, ρ', rfl, hp.val, hp.ext, hp.old, hp.os, hp.tape, hp.output, hp.size, hp.keep, hp.odn, fun u hu => by simp at hu, fun j b hj hk => ?_, fun j j' b b' m m' hne hj hj' => ?_⟩
    · cases j with
      | succ j => simp at hj
      | zero =>
        simp at hj; subst hj
        obtain ⟨g1, _⟩ := hp.new 0 _ rfl rfl
        refine ⟨fun m hmm => ?_, fun _ => rfl⟩
        obtain ⟨a1', a2, a3, a4⟩ := g1 m hmm
        obtain ⟨b1, b2, b3, b4⟩ := a2
        exact ⟨a1', ⟨b1, Nat.zero_le _, b3, fun q hq => absurd hq (Nat.not_lt_zero _)⟩, a3, a4.imp id fun ⟨u, hu, _⟩ => by simp at hu⟩
    · cases j <;> cases j' <;> simp at hj hj' hne
  · have hb : n97b a = true := by
      unfold n97b
      rw [w1]
      simp [h0]
      omega
    refine (k97b.2 B M ρ mem off [.nsl, V Z a] { v := .nsl, need := [n97b a] } rfl (fun b hb' => by cases List.mem_singleton.1 hb'; exact hb) ⟨fun u hu => by simp at hu, fun u hu => by simp at hu⟩ xs w hd hm hB (fun j hj => by simp at hj)).mono ?_
    rintro e w' ⟨x, ρ', rfl, hp⟩
    have hx : x = .slice none 0 0 := hp.val
    refine ⟨x, ρ', rfl, .inl ⟨rfl, none, hx⟩, hp.ext, fun i _ => hp.old i (by simp; omega), hp.os, hp.tape, hp.output, hp.size, fun b hb _ => hp.keep b hb fun u hu => by simp at hu, hp.odn, fun u hu => by simp at hu, fun j b hj hk => ?_, fun j j' b b' m m' hne hj hj' => ?_⟩
    · cases j with
      | succ j => simp at hj
      | zero =>
        simp at hj; subst hj
        refine ⟨fun m hmm => ?_, fun _ => rfl⟩
        rw [hp.old (off + 0) (by simp), hfr 0 (by simp)] at hmm
        cases hmm
    · cases j <;> cases j' <;> simp at hj hj' hne
/-! ### slices.Concat[[]shotline/api.DiveLeg,shotline/api.DiveLeg] -/
noncomputable def l72_0 (d : Nat) (l i : Dat) (p : Int) : Nat → Int → Int → Option (Int)
  | 0, _, _ => none
  | f + 1, v, m => (cond (decide (m < p)) (cond (decide (0 ≤ m ∧ m < ↑d)) (cond (decide ((Z.wrap (v + (↑(i.sn m.toNat 0) : Int))) < 0)) none (l72_0 d l i p f (Z.wrap (v + (↑(i.sn m.toNat 0) : Int))) (Z.wrap (m + 1)))) none) (some v))
noncomputable abbrev o72_0 (d : Nat) (l i : Dat) (p v m : Int) : Option (Int) := l72_0 d l i p (d + v.toNat + p.toNat + m.toNat + 8) v m
noncomputable def e72_0 (d : Nat) (l i : Dat) (p r : Int) (K : XR) : Prop := K (XE.exit 0) [.ro [.sl [W Z, W Z, W Z]] d l, V Z r] []
noncomputable def g72_0 : LSum := fun s k => match czv 0 36 [0, 3, 9, 10, 11] 0 [] s with
  | some ([.ro [.sl [W Z, W Z, W Z]] d l, V Z v, .ro [.sl [W Z, W Z, W Z]] t9_0 i, V Z p, V Z m], []) => needs [decide (d = t9_0), (o72_0 d l i p v m).isSome] (e72_0 d l i p ((o72_0 d l i p v m).getD default) fun e vs bs => inBlk 0 k e (mkSt 0 36 [0, 3] vs 0 bs))
  | _ => False
theorem z72_0 : LOk Tryd.prog g72_0 (.block 0 (bodyAt (Tryd.f72.body.getD .skip) 0)) := by
  refine lb (ι := Nat × Dat × Int × Dat × Int × Int) (fuel := 8) (na := 0) (nt := 36) (nx := 0) (Lh := [0, 3, 9, 10, 11]) (Le := [0, 3]) (gl := []) (tc k97 tn) mix_ok noLam rfl (fun f (d, l, v, i, p, m) K => GG default (e72_0 d l i p) K (l72_0 d l i p f v m)) (fun (d, l, v, i, p, m) => [.ro [.sl [W Z, W Z, W Z]] d l, V Z v, .ro [.sl [W Z, W Z, W Z]] d i, V Z p, V Z m]) (fun (d, l, v, i, p, m) => []) (fun (_, _, _, _, _, _) K => gg_none) ?_ ?_
  · rintro f ⟨d, l, v, i, p, m⟩ K hG
    refine ro (fun R => (cnd (decide (m < p))
 (cnd (decide (0 ≤ m ∧ m < ↑d))
 (cnd (decide ((Z.wrap (v + (↑(i.sn m.toNat 0) : Int))) < 0))
    False
 (R (XE.normal) [.ro [.sl [W Z, W Z, W Z]] d l, V Z (Z.wrap (v + (↑(i.sn m.toNat 0) : Int))), .ro [.sl [W Z, W Z, W Z]] d i, V Z p, V Z (Z.wrap (m + 1))] []))
   False)
 (R (XE.exit 0) [.ro [.sl [W Z, W Z, W Z]] d l, V Z v] []))) (fun R => by kernel_rfl) ?_
    exact ch hG (fun h0 => cg h0 fun h1 => ch h1 (fun h2 => absurd h2 gg_none) (fun h2 => ⟨(_, _, _, _, _, _), rfl, rfl, h2⟩)) (fun h0 => h0.2)
  · intro s k h
    unfold g72_0 at h
    split at h <;> try exact h.elim
    rename_i e1
    rw [needs_iff] at h
    have hq := h.1
    simp only [List.mem_cons, forall_eq_or_imp, decide_eq_true_eq, List.not_mem_nil, false_imp_iff, implies_true, and_true] at hq
    obtain ⟨rfl, hq⟩ := hq
    exact ⟨_, e1, _, (_, _, _, _, _, _), rfl, rfl, hq, h.2⟩
noncomputable def l72_2 (g : Nat) (a : Dat) (t : Int) : Nat → Nat → Int → Dat → Option (Nat × Nat × Dat)
  | 0, _, _, _ => none
  | f + 1, u, j, o => (cond (decide (j < t)) (cond (decide (0 ≤ j ∧ j < ↑g)) (cond (decide ((u + (a.sn j.toNat 0)) ≤ 1073741824)) (l72_2 g a t f (u + (a.sn j.toNat 0)) (Z.wrap (j + 1)) (o.app u (a.sub j.toNat 0))) none) none) (some (u, u, o)))
noncomputable abbrev o72_2 (g : Nat) (a : Dat) (t : Int) (u : Nat) (j : Int) (o : Dat) : Option (Nat × Nat × Dat) := l72_2 g a t (u + g + t.toNat + j.toNat + 8) u j o
noncomputable def e72_2 (g : Nat) (a : Dat) (t : Int) (r : Nat × Nat × Dat) (K : XR) : Prop := K (XE.exit 2) [.gr 0 3 r.1] [.row 74 [W Z, W Z, W Z] r.2.1 r.2.2]
noncomputable def g72_2 : LSum := fun s k => match czv 0 36 [6, 25, 26, 27] 1 [⟨true, 6, 0, 0, 74, [W Z, W Z, W Z]⟩] s with
  | some ([.gr 0 3 u, .ro [.sl [W Z, W Z, W Z]] g a, V Z t, V Z j], [.row 74 [W Z, W Z, W Z] b0_0 o]) => needs [decide (u = b0_0), (o72_2 g a t u j o).isSome] (e72_2 g a t ((o72_2 g a t u j o).getD default) fun e vs bs => inBlk 2 k e (mkSt 0 36 [6] vs 1 bs))
  | _ => False
theorem z72_2 : LOk Tryd.prog g72_2 (.block 2 (bodyAt (Tryd.f72.body.getD .skip) 2)) := by
  refine lb (ι := Nat × Nat × Dat × Int × Int × Dat) (fuel := 8) (na := 0) (nt := 36) (nx := 1) (Lh := [6, 25, 26, 27]) (Le := [6]) (gl := [⟨true, 6, 0, 0, 74, [W Z, W Z, W Z]⟩]) (tc k97 tn) mix_ok (lam_of rfl (lc z72_0 ln)) rfl (fun f (u, g, a, t, j, o) K => GG default (e72_2 g a t) K (l72_2 g a t f u j o)) (fun (u, g, a, t, j, o) => [.gr 0 3 u, .ro [.sl [W Z, W Z, W Z]] g a, V Z t, V Z j]) (fun (u, g, a, t, j, o) => [.row 74 [W Z, W Z, W Z] u o]) (fun (_, _, _, _, _, _) K => gg_none) ?_ ?_
  · rintro f ⟨u, g, a, t, j, o⟩ K hG
    refine ro (fun R => (cnd (decide (j < t))
 (cnd (decide (0 ≤ j ∧ j < ↑g))
 (cnd (decide (u ≤ u))
 (cnd (decide ((u + (a.sn j.toNat 0)) ≤ 1073741824))
 (R (XE.normal) [.gr 0 3 (u + (a.sn j.toNat 0)), .ro [.sl [W Z, W Z, W Z]] g a, V Z t, V Z (Z.wrap (j + 1))] [.row 74 [W Z, W Z, W Z] (u + (a.sn j.toNat 0)) (o.app u (a.sub j.toNat 0))])
     False)
    False)
   False)
 (R (XE.exit 2) [.gr 0 3 u] [.row 74 [W Z, W Z, W Z] u o]))) (fun R => by kernel_rfl) ?_
    exact ch hG (fun h0 => cg h0 fun h1 => cn (decide_eq_true (Nat.le_refl _)) (cg h1 fun h2 => ⟨(_, _, _, _, _, _), rfl, rfl, h2⟩)) (fun h0 => h0.2)
  · intro s k h
    unfold g72_2 at h
    split at h <;> try exact h.elim
    rename_i e1
    rw [needs_iff] at h
    have hq := h.1
    simp only [List.mem_cons, forall_eq_or_imp, decide_eq_true_eq, List.not_mem_nil, false_imp_iff, implies_true, and_true] at hq
    obtain ⟨rfl, hq⟩ := hq
    exact ⟨_, e1, _, (_, _, _, _, _, _), rfl, rfl, hq, h.2⟩
noncomputable def m72 (b : Nat) (n : Dat) : Nat × Dat :=
  (((o72_2 b n (↑b : Int) 0 0 noDat).getD default).1, ((o72_2 b n (↑b : Int) 0 0 noDat).getD default).2.2)
noncomputable def n72 (b : Nat) (n : Dat) : Bool :=
  (((o72_0 b n n (↑b : Int) 0 0).isSome) && ((n97 ((o72_0 b n n (↑b : Int) 0 0).getD 0)) && (((o72_2 b n (↑b : Int) 0 0 noDat).isSome) && ((decide ((0 + ((o72_2 b n (↑b : Int) 0 0 noDat).getD default).1) ≤ ((o72_2 b n (↑b : Int) 0 0 noDat).getD default).2.1)) && true))))
noncomputable def q72 (r : Nat × Dat) : SV × List Blk × List Blk := (.ro [W Z, W Z, W Z] r.1 r.2, [], [])
noncomputable def g72 : GF := fun vs bs => match vs, bs with
  | [.ro [.sl [W Z, W Z, W Z]] b n], [] => some (rs 0 (q72 (m72 b n)) [n72 b n])
  | _, _ => none
noncomputable def c72 : Ctr := genC [.ro [.sl [W Z, W Z, W Z]]] g72
theorem k72 : CtrOk Tryd.prog c72 72 := cx (tc k97 tn) mix_ok 8 (fn := Tryd.f72) (c := (Tryd.f72.body.getD .skip)) (grs := []) (rh := .ro [W Z, W Z, W Z]) Tryd.func72 rfl (by kernel_rfl) (lam_of rfl (lc z72_0 (lc z72_2 ln))) fun vs bs q h hn => by
  unfold g72 at h
  split at h <;> cases h
  rename_i b n
  have hn := n1 hn
  exact ⟨_, rfl, ca (fun R => (cnd (decide (b = b))
 (cnd ((o72_0 b n n (↑b : Int) 0 0).isSome)
 (cnd (n97 ((o72_0 b n n (↑b : Int) 0 0).getD 0))
 (cnd ((o72_2 b n (↑b : Int) 0 0 noDat).isSome)
 (cnd (decide ((0 + ((o72_2 b n (↑b : Int) 0 0 noDat).getD default).1) ≤ ((o72_2 b n (↑b : Int) 0 0 noDat).getD default).2.1))
 (R (.ro [W Z, W Z, W Z] ((o72_2 b n (↑b : Int) 0 0 noDat).getD default).1 ((o72_2 b n (↑b : Int) 0 0 noDat).getD default).2.2) [] [])
      False)
     False)
    False)
   False)
  False)) (fun R => by kernel_rfl) (cn (decide_eq_true rfl) (cn (al hn) (cn (al (ar hn)) (cn (al (ar (ar hn))) (cn (al (ar (ar (ar hn)))) (lf rfl rfl))))))⟩
/-! ### shotline/shotlinebase.CopyLegs -/
noncomputable def m36r (a : Nat) (b : Dat) : Nat × Nat × Dat :=
  ((0 + a), (0 + a), ((datS [] 3).app 0 b))
noncomputable def n36r (a : Nat) (b : Dat) : Bool :=
  ((decide ((0 + a) ≤ 1073741824)) && true)
noncomputable def q36r (r : Nat × Nat × Dat) : SV × List Blk × List Blk := (.own 0 3 r.1, [], [.row 74 [W Z, W Z, W Z] r.2.1 r.2.2])
noncomputable def g36r : GF := fun vs bs => match vs, bs with
  | [.ro [W Z, W Z, W Z] a b], [] => some (rs 0 (q36r (m36r a b)) [n36r a b])
  | _, _ => none
noncomputable def c36r : Ctr := genC [.ro [W Z, W Z, W Z]] g36r
theorem k36r : CtrOk Tryd.prog c36r 36 := cx tn mix_ok 8 (fn := Tryd.f36) (c := (Tryd.f36.body.getD .skip)) (grs := []) (rh := .k) Tryd.func36 rfl (by kernel_rfl) noLam fun vs bs q h hn => by
  unfold g36r at h
  split at h <;> cases h
  rename_i a b
  have hn := n1 hn
  exact ⟨_, rfl, ca (fun R => (cnd (decide ((0 + a) ≤ 1073741824))
 (R (.own 0 3 (0 + a)) [] [.row 74 [W Z, W Z, W Z] (0 + a) ((datS [] 3).app 0 b)])
  False)) (fun R => by kernel_rfl) (cn (al hn) (lf rfl rfl))⟩
end Go.Proofs.YtchhhoamnagbfaaDoor
