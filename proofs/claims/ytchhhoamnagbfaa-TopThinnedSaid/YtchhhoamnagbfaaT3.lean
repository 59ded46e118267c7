/-
  Contracts of functions: models, equations by the kernel, contracts. Conditions: none.
-/
import Derived.Test.YtchhhoamnagbfaaT2
import Derived.KernelRfl
namespace Go.Proofs.Ytchhhoamnagbfaa
open Go Go.Sy
set_option linter.unusedVariables false
set_option linter.unusedSimpArgs false
set_option maxRecDepth 100000
set_option maxHeartbeats 2000000
attribute [local irreducible] Go.IntKind.wrap Int.tdiv Int.tmod Int.fdiv
open Go.Sy renaming tabOk_cons → tc, tabOk_nil → tn, cnd_need → cn, leaf_of → lf, cnd_gg → cg, cnd_gg2 → ch, cond_f → cf, cond_t → ct, cnd_of → co, callOf → ca, roundOf → ro, cnd_not → nn, lams_cons → lc, lams_nil → ln, condT → cT, condF → cF, need1 → n1, resOf → rs, and_l → al, and_r → ar, or_gg → og, ctr_of → cx, loop_blk → lb
open Go.IntKind renaming i64 → Z
open Go.Sy.SV renaming int → V
open Go.Sy.Kd renaming int → W
/-! ### shotline/profile.Thin -/
noncomputable def l7_0 (n : Nat) (p : Dat) (C : Int) (b : Nat) (g : Dat) : Nat → Int → Dat → Option (Dat)
  | 0, _, _ => none
  | f + 1, A, i => (cond (decide (A < (↑n : Int))) (cond (decide (0 ≤ A ∧ A < ↑b)) (cond (decide (A.toNat < b)) (l7_0 n p C b g f (Z.wrap (A + 1)) (i.upd A.toNat 0 [V Z (↑n : Int)])) none) none) (some i))
noncomputable abbrev o7_0 (n : Nat) (p : Dat) (C : Int) (b : Nat) (g : Dat) (A : Int) (i : Dat) : Option (Dat) := l7_0 n p C b g (n + C.toNat + A.toNat + b + 8) A i
noncomputable def e7_0 (n : Nat) (p : Dat) (C : Int) (b : Nat) (g r : Dat) (K : XR) : Prop := K (XE.exit 0) [.ro [W Z, W Z] n p, V Z C, .ptr 2 0, .ptr 3 0] [.row 3 [W Z] b r, .row 3 [W Z] b g, .cells 26 [.own 0 1 b], .cells 26 [.own 1 1 b]]
noncomputable def g7_0 : LSum := fun s k => match czv 0 83 [0, 1, 8, 9, 10] 4 [] s with
  | some ([.ro [W Z, W Z] n p, V Z C, .ptr 2 0, .ptr 3 0, V Z A], [.row 3 [W Z] b i, .row 3 [W Z] w g, .cells 26 [.own 0 1 u], .cells 26 [.own 1 1 y]]) => needs [decide (b = w), decide (b = u), decide (b = y), (o7_0 n p C b g A i).isSome] (e7_0 n p C b g ((o7_0 n p C b g A i).getD default) fun e vs bs => inBlk 0 k e (mkSt 0 83 [0, 1, 8, 9] vs 4 bs))
  | _ => False
theorem z7_0 : LOk Try.prog g7_0 (.block 0 (bodyAt (Try.f7.body.getD .skip) 0)) := by
  refine lb (ι := Nat × Dat × Int × Int × Nat × Dat × Dat) (fuel := 8) (na := 0) (nt := 83) (nx := 4) (Lh := [0, 1, 8, 9, 10]) (Le := [0, 1, 8, 9]) (gl := []) (tc k16 (tc k17 (tc k18 tn))) mix_ok noLam rfl (fun f (n, p, C, A, b, i, g) K => GG default (e7_0 n p C b g) K (l7_0 n p C b g f A i)) (fun (n, p, C, A, b, i, g) => [.ro [W Z, W Z] n p, V Z C, .ptr 2 0, .ptr 3 0, V Z A]) (fun (n, p, C, A, b, i, g) => [.row 3 [W Z] b i, .row 3 [W Z] b g, .cells 26 [.own 0 1 b], .cells 26 [.own 1 1 b]]) (fun (_, _, _, _, _, _, _) K => gg_none) ?_ ?_
  · rintro f ⟨n, p, C, A, b, i, g⟩ K hG
    refine ro (fun R => (cnd (decide (A < (↑n : Int)))
 (cnd (decide (0 ≤ A ∧ A < ↑b))
 (cnd (decide (A.toNat < b))
 (R (XE.normal) [.ro [W Z, W Z] n p, V Z C, .ptr 2 0, .ptr 3 0, V Z (Z.wrap (A + 1))] [.row 3 [W Z] b (i.upd A.toNat 0 [V Z (↑n : Int)]), .row 3 [W Z] b g, .cells 26 [.own 0 1 b], .cells 26 [.own 1 1 b]])
    False)
   False)
 (R (XE.exit 0) [.ro [W Z, W Z] n p, V Z C, .ptr 2 0, .ptr 3 0] [.row 3 [W Z] b i, .row 3 [W Z] b g, .cells 26 [.own 0 1 b], .cells 26 [.own 1 1 b]]))) (fun R => by kernel_rfl) ?_
    exact ch hG (fun h0 => cg h0 fun h1 => cg h1 fun h2 => ⟨(_, _, _, _, _, _, _), rfl, rfl, h2⟩) (fun h0 => h0.2)
  · intro s k h
    unfold g7_0 at h
    split at h <;> try exact h.elim
    rename_i e1
    rw [needs_iff] at h
    have hq := h.1
    simp only [List.mem_cons, forall_eq_or_imp, decide_eq_true_eq, List.not_mem_nil, false_imp_iff, implies_true, and_true] at hq
    obtain ⟨rfl, rfl, rfl, hq⟩ := hq
    exact ⟨_, e1, _, (_, _, _, _, _, _, _), rfl, rfl, hq, h.2⟩
noncomputable def l7_2 (n : Nat) (p l m : Dat) (b w u y : Nat) (Y : Dat) : Nat → Nat → Dat → Dat → Option (Dat × Dat)
  | 0, kk, i, g => some (i, g)
  | f + 1, kk, i, g => (cond (decide ((0 : Int) ≤ Y.ii kk (0 : Nat) ∧ Y.ii kk (0 : Nat) < (↑u : Int))) (cond (decide (((Y.ii kk 0).toNat) < b)) (cond (decide (0 ≤ Y.ii kk 1 ∧ Y.ii kk 1 < (↑u : Int))) (cond (decide (((Y.ii kk 1).toNat) < b)) (cond (decide ((Z.wrap ((i.ii ((Y.ii kk 0).toNat) 0) + 1)) < (i.ii ((Y.ii kk 1).toNat) 0))) (cond (decide ((0 : Int) ≤ Y.ii kk (0 : Nat) ∧ Y.ii kk (0 : Nat) < (↑u : Int))) (cond (decide (((Y.ii kk 0).toNat) < b)) (cond (decide (0 ≤ Y.ii kk 1 ∧ Y.ii kk 1 < (↑u : Int))) (cond (decide (((Y.ii kk 1).toNat) < b)) (cond (decide (0 ≤ Y.ii kk 1 ∧ Y.ii kk 1 < (↑y : Int))) (cond (decide (((Y.ii kk 1).toNat) < w)) (l7_2 n p l m b w u y Y f (kk + 1) (i.upd ((Y.ii kk 1).toNat) 0 [V Z (Z.wrap ((i.ii ((Y.ii kk 0).toNat) 0) + 1))]) (g.upd ((Y.ii kk 1).toNat) 0 [V Z (Y.ii kk 0)])) none) none) none) none) none) none) (l7_2 n p l m b w u y Y f (kk + 1) i g)) none) none) none) none)
noncomputable abbrev o7_2 (n : Nat) (p l m : Dat) (b w u y : Nat)  (i g : Dat) : Option (Dat × Dat) := l7_2 n p l m b w u y (Y32 l m) (N32 l m) 0 i g
noncomputable def e7_2 (n : Nat) (p l m : Dat) (b w u y : Nat) (r : Dat × Dat) (K : XR) : Prop := K (XE.normal) [] [.row 3 [W Z] b r.1, .row 3 [W Z] w r.2, .cells 26 [.own 0 1 u], .cells 26 [.own 1 1 y]]
noncomputable def g7_2 : LSum := fun s k => match czv 0 83 [0, 8, 9, 39] 4 [] s with
  | some ([.ro [W Z, W Z] n p, .ptr 2 0, .ptr 3 0, .fn 32 [.rp [.sl [W Z, W Z]] l 0 0, .rp [W Z] m 0 0]], [.row 3 [W Z] b i, .row 3 [W Z] w g, .cells 26 [.own 0 1 u], .cells 26 [.own 1 1 y]]) => needs [(o7_2 n p l m b w u y  i g).isSome, (ok32 l m)] (e7_2 n p l m b w u y ((o7_2 n p l m b w u y  i g).getD default) fun e _ bs => inBlk 2 k e (mkSt 0 83 [0, 8, 9, 39] [.ro [W Z, W Z] n p, .ptr 2 0, .ptr 3 0, .fn 32 [.rp [.sl [W Z, W Z]] l 0 0, .rp [W Z] m 0 0]] 4 bs))
  | _ => False
theorem y7_2 (n : Nat) (p l m : Dat) (b : Nat) (i : Dat) (w : Nat) (g : Dat) (u y : Nat) (Y : Dat) (kk : Nat) (R : XR) : rfRound Try.prog [(16, c16), (17, c17), (18, c18)] (lamOf [(0, g7_0)]) 8 (asgOf (bodyAt (Try.f7.body.getD .skip) 2)) (unloop (bodyAt (Try.f7.body.getD .skip) 2)) (putAll (mkSt 4 83 [0, 8, 9, 39] [.ro [W Z, W Z] n p, .ptr 2 0, .ptr 3 0, .fn 32 [.rp [.sl [W Z, W Z]] l 0 0, .rp [W Z] m 0 0]] 4 [.row 3 [W Z] b i, .row 3 [W Z] w g, .cells 26 [.own 0 1 u], .cells 26 [.own 1 1 y]]) [40, 41] [V Z (Y.ii kk 0), V Z (Y.ii kk 1)]) (canonK 4 83 [] [] 4 [] R) =
 (cnd (decide ((0 : Int) ≤ Y.ii kk (0 : Nat) ∧ Y.ii kk (0 : Nat) < (↑u : Int)))
 (cnd (decide (((Y.ii kk 0).toNat) < b))
 (cnd (decide (0 ≤ Y.ii kk 1 ∧ Y.ii kk 1 < (↑u : Int)))
 (cnd (decide (((Y.ii kk 1).toNat) < b))
 (cnd (decide ((Z.wrap ((i.ii ((Y.ii kk 0).toNat) 0) + 1)) < (i.ii ((Y.ii kk 1).toNat) 0)))
 (cnd (decide ((0 : Int) ≤ Y.ii kk (0 : Nat) ∧ Y.ii kk (0 : Nat) < (↑u : Int)))
 (cnd (decide (((Y.ii kk 0).toNat) < b))
 (cnd (decide (0 ≤ Y.ii kk 1 ∧ Y.ii kk 1 < (↑u : Int)))
 (cnd (decide (((Y.ii kk 1).toNat) < b))
 (cnd (decide (0 ≤ Y.ii kk 1 ∧ Y.ii kk 1 < (↑y : Int)))
 (cnd (decide (((Y.ii kk 1).toNat) < w))
 (R (XE.normal) [] [.row 3 [W Z] b (i.upd ((Y.ii kk 1).toNat) 0 [V Z (Z.wrap ((i.ii ((Y.ii kk 0).toNat) 0) + 1))]), .row 3 [W Z] w (g.upd ((Y.ii kk 1).toNat) 0 [V Z (Y.ii kk 0)]), .cells 26 [.own 0 1 u], .cells 26 [.own 1 1 y]])
            False)
           False)
          False)
         False)
        False)
       False)
 (R (XE.normal) [] [.row 3 [W Z] b i, .row 3 [W Z] w g, .cells 26 [.own 0 1 u], .cells 26 [.own 1 1 y]]))
     False)
    False)
   False)
  False) := by kernel_rfl
theorem z7_2 : LOk Try.prog g7_2 (.block 2 (bodyAt (Try.f7.body.getD .skip) 2)) := by
  refine rf_blk (ι := Dat × Dat) (τ := Nat × Dat × Dat × Dat × Nat × Nat × Nat × Nat × Dat × Dat) (L := [(16, c16), (17, c17), (18, c18)]) (Λ := (lamOf [(0, g7_0)])) (fuel := 8) (na := 0) (ns := 4) (nt := 83) (nx := 4) (Lh := [0, 8, 9, 39]) (gl := []) (gf := 32) (tc k16 (tc k17 (tc k18 tn))) mix_ok (lam_of rfl (lc z7_0 ln)) rfl rfl rfl rfl rfl rfl (enters_ok Try.func32 (by kernel_rfl) (by kernel_rfl)) [] rfl
    (fun t => [.ro [W Z, W Z] t.1 t.2.1, .ptr 2 0, .ptr 3 0, .fn 32 [.rp [.sl [W Z, W Z]] t.2.2.1 0 0, .rp [W Z] t.2.2.2.1 0 0]]) (fun t => [.rp [.sl [W Z, W Z]] t.2.2.1 0 0, .rp [W Z] t.2.2.2.1 0 0]) (fun t => [.rp [.sl [W Z, W Z]] t.2.2.1 0 0, .rp [W Z] t.2.2.2.1 0 0]) (fun t => [.row 3 [W Z] t.2.2.2.2.1 t.2.2.2.2.2.2.2.2.1, .row 3 [W Z] t.2.2.2.2.2.1 t.2.2.2.2.2.2.2.2.2, .cells 26 [.own 0 1 t.2.2.2.2.2.2.1], .cells 26 [.own 1 1 t.2.2.2.2.2.2.2.1]]) (fun t => (N32 t.2.2.1 t.2.2.2.1)) (fun t k => [V Z ((Y32 t.2.2.1 t.2.2.2.1).ii k 0), V Z ((Y32 t.2.2.1 t.2.2.2.1).ii k 1)]) (fun t x => [.row 3 [W Z] t.2.2.2.2.1 x.1, .row 3 [W Z] t.2.2.2.2.2.1 x.2, .cells 26 [.own 0 1 t.2.2.2.2.2.2.1], .cells 26 [.own 1 1 t.2.2.2.2.2.2.2.1]])
    (fun t k x K => GG default (e7_2 t.1 t.2.1 t.2.2.1 t.2.2.2.1 t.2.2.2.2.1 t.2.2.2.2.2.1 t.2.2.2.2.2.2.1 t.2.2.2.2.2.2.2.1) K (l7_2 t.1 t.2.1 t.2.2.1 t.2.2.2.1 t.2.2.2.2.1 t.2.2.2.2.2.1 t.2.2.2.2.2.2.1 t.2.2.2.2.2.2.2.1 (Y32 t.2.2.1 t.2.2.2.1) ((N32 t.2.2.1 t.2.2.2.1) - k) k x.1 x.2)) (fun t => (ok32 t.2.2.1 t.2.2.2.1))
    (fun t => rfl) (fun t => rfl) (fun t => rfl) (fun t hok => (iter32 t.2.2.1 t.2.2.2.1 hok)) (fun t j hj => by simp at hj) (fun t j hj => by simp at hj) (fun t k => rfl) ?_ ?_ ?_
  · rintro ⟨n, p, l, m, b, w, u, y, ub0_1, ub1_1⟩ kk ⟨i, g⟩ K hk hG
    obtain ⟨r, hr⟩ : ∃ r, (N32 l m) - kk = r + 1 := ⟨(N32 l m) - kk - 1, by have hk' : kk < (N32 l m) := hk; omega⟩
    have hr' : (N32 l m) - (kk + 1) = r := by omega
    have hG : GG default (e7_2 n p l m b w u y) K (l7_2 n p l m b w u y (Y32 l m) ((N32 l m) - kk) kk i g) := hG
    rw [hr] at hG
    have key : ∀ x : Dat × Dat, GG default (e7_2 n p l m b w u y) K (l7_2 n p l m b w u y (Y32 l m) r (kk + 1) x.1 x.2) → GG default (e7_2 n p l m b w u y) K (l7_2 n p l m b w u y (Y32 l m) ((N32 l m) - (kk + 1)) (kk + 1) x.1 x.2) := fun x h => by rw [hr']; exact h
    refine propOf (y7_2 n p l m b i w g u y (Y32 l m) kk _) ?_
    exact cg hG fun h0 => cg h0 fun h1 => cg h1 fun h2 => cg h2 fun h3 => ch h3 (fun h4 => cg h4 fun h5 => cg h5 fun h6 => cg h6 fun h7 => cg h7 fun h8 => cg h8 fun h9 => cg h9 fun h10 => ⟨(_, _), rfl, key (_, _) h10⟩) (fun h4 => ⟨(_, _), rfl, key (_, _) h4⟩)
  · rintro ⟨n, p, l, m, b, w, u, y, ub0_1, ub1_1⟩ ⟨i, g⟩ K h
    have h : GG default (e7_2 n p l m b w u y) K (l7_2 n p l m b w u y (Y32 l m) ((N32 l m) - (N32 l m)) (N32 l m) i g) := h
    rw [Nat.sub_self] at h
    exact h.2
  · intro s k h
    unfold g7_2 at h
    split at h <;> try exact h.elim
    rename_i e1
    rw [needs_iff] at h
    exact ⟨(_, _, _, _, _, _, _, _, _, _), (_, _), e1, rfl, h.1 _ (List.mem_cons_of_mem _ (List.mem_singleton.2 rfl)), h.1 _ (List.mem_cons_self ..), h.2⟩
noncomputable def l7_4 (b : Nat) (i g : Dat) : Nat → Nat → Dat → Option (Nat × Nat × Dat)
  | 0, _, _ => none
  | f + 1, z, v => (cond (decide ((0 : Int) ≤ (0 : Int) ∧ (0 : Int) < (↑z : Int))) (cond (decide ((0 : Nat) < z)) (cond (decide ((0 : Int) < (v.ii 0 0))) (cond (decide ((0 : Int) ≤ (0 : Int) ∧ (0 : Int) < (↑z : Int))) (cond (decide ((0 : Nat) < z)) (cond (decide ((0 : Int) ≤ v.ii (Int.toNat (0 : Int)) (0 : Nat) ∧ v.ii (Int.toNat (0 : Int)) (0 : Nat) < (↑b : Int))) (cond (decide (((v.ii 0 0).toNat) < b)) (cond (n18 z z v (datS [V Z (g.ii ((v.ii 0 0).toNat) 0)] 1)) (l7_4 b i g f (m18 z z v (datS [V Z (g.ii ((v.ii 0 0).toNat) 0)] 1)).1 (m18 z z v (datS [V Z (g.ii ((v.ii 0 0).toNat) 0)] 1)).2) none) none) none) none) none) (some (z, z, v))) none) none)
noncomputable abbrev o7_4 (b : Nat) (i g : Dat) (z : Nat) (v : Dat) : Option (Nat × Nat × Dat) := l7_4 b i g (z + b + 8) z v
noncomputable def e7_4 (b : Nat) (i g : Dat) (r : Nat × Nat × Dat) (K : XR) : Prop := K (XE.exit 4) [.ptr 2 0, .gr 4 1 r.1] [.row 3 [W Z] b i, .row 3 [W Z] b g, .cells 26 [.own 0 1 b], .cells 26 [.own 1 1 b], .row 3 [W Z] r.2.1 r.2.2]
noncomputable def g7_4 : LSum := fun s k => match czv 0 83 [8, 9, 13] 5 [⟨true, 13, 0, 4, 3, [W Z]⟩] s with
  | some ([.ptr 2 0, .ptr 3 0, .gr 4 1 z], [.row 3 [W Z] b i, .row 3 [W Z] w g, .cells 26 [.own 0 1 u], .cells 26 [.own 1 1 y], .row 3 [W Z] b4_0 v]) => needs [decide (b = w), decide (b = u), decide (b = y), decide (z = b4_0), (o7_4 b i g z v).isSome] (e7_4 b i g ((o7_4 b i g z v).getD default) fun e vs bs => inBlk 4 k e (mkSt 0 83 [8, 13] vs 5 bs))
  | _ => False
theorem z7_4 : LOk Try.prog g7_4 (.block 4 (bodyAt (Try.f7.body.getD .skip) 4)) := by
  refine lb (ι := Nat × Nat × Dat × Dat × Dat) (fuel := 8) (na := 0) (nt := 83) (nx := 5) (Lh := [8, 9, 13]) (Le := [8, 13]) (gl := [⟨true, 13, 0, 4, 3, [W Z]⟩]) (tc k16 (tc k17 (tc k18 tn))) mix_ok (lam_of rfl (lc z7_0 (lc z7_2 ln))) rfl (fun f (z, b, i, g, v) K => GG default (e7_4 b i g) K (l7_4 b i g f z v)) (fun (z, b, i, g, v) => [.ptr 2 0, .ptr 3 0, .gr 4 1 z]) (fun (z, b, i, g, v) => [.row 3 [W Z] b i, .row 3 [W Z] b g, .cells 26 [.own 0 1 b], .cells 26 [.own 1 1 b], .row 3 [W Z] z v]) (fun (_, _, _, _, _) K => gg_none) ?_ ?_
  · rintro f ⟨z, b, i, g, v⟩ K hG
    refine ro (fun R => (cnd (decide ((0 : Int) ≤ (0 : Int) ∧ (0 : Int) < (↑z : Int)))
 (cnd (decide ((0 : Nat) < z))
 (cnd (decide ((0 : Int) < (v.ii 0 0)))
 (cnd (decide ((0 : Int) ≤ (0 : Int) ∧ (0 : Int) < (↑z : Int)))
 (cnd (decide ((0 : Nat) < z))
 (cnd (decide ((0 : Int) ≤ v.ii (Int.toNat (0 : Int)) (0 : Nat) ∧ v.ii (Int.toNat (0 : Int)) (0 : Nat) < (↑b : Int)))
 (cnd (decide (((v.ii 0 0).toNat) < b))
 (cnd (n18 z z v (datS [V Z (g.ii ((v.ii 0 0).toNat) 0)] 1))
 (R (XE.normal) [.ptr 2 0, .ptr 3 0, .gr 4 1 (m18 z z v (datS [V Z (g.ii ((v.ii 0 0).toNat) 0)] 1)).1] [.row 3 [W Z] b i, .row 3 [W Z] b g, .cells 26 [.own 0 1 b], .cells 26 [.own 1 1 b], .row 3 [W Z] (m18 z z v (datS [V Z (g.ii ((v.ii 0 0).toNat) 0)] 1)).1 (m18 z z v (datS [V Z (g.ii ((v.ii 0 0).toNat) 0)] 1)).2])
         False)
        False)
       False)
      False)
     False)
 (R (XE.exit 4) [.ptr 2 0, .gr 4 1 z] [.row 3 [W Z] b i, .row 3 [W Z] b g, .cells 26 [.own 0 1 b], .cells 26 [.own 1 1 b], .row 3 [W Z] z v]))
   False)
  False)) (fun R => by kernel_rfl) ?_
    exact cg hG fun h0 => cg h0 fun h1 => ch h1 (fun h2 => cg h2 fun h3 => cg h3 fun h4 => cg h4 fun h5 => cg h5 fun h6 => cg h6 fun h7 => ⟨(_, _, _, _, _), rfl, rfl, h7⟩) (fun h2 => h2.2)
  · intro s k h
    unfold g7_4 at h
    split at h <;> try exact h.elim
    rename_i e1
    rw [needs_iff] at h
    have hq := h.1
    simp only [List.mem_cons, forall_eq_or_imp, decide_eq_true_eq, List.not_mem_nil, false_imp_iff, implies_true, and_true] at hq
    obtain ⟨rfl, rfl, rfl, rfl, hq⟩ := hq
    exact ⟨_, e1, _, (_, _, _, _, _), rfl, rfl, hq, h.2⟩
noncomputable def m7 (a : Nat) (d : Dat) (o : Int) : Nat × Dat × Nat × Dat × Int :=
  (cond (bif (decide ((m16 a d o) = 0)) then false else true) (0, noDat, 0, noDat, (m16 a d o)) (((o7_4 ((↑a : Int).toNat) ((o7_2 a d (m17 a d o).1 (m17 a d o).2 ((↑a : Int).toNat) ((↑a : Int).toNat) ((↑a : Int).toNat) ((↑a : Int).toNat) ((o7_0 a d o ((↑a : Int).toNat) (datC [V Z 0]) 1 (datC [V Z 0])).getD default) (datC [V Z 0])).getD default).1 ((o7_2 a d (m17 a d o).1 (m17 a d o).2 ((↑a : Int).toNat) ((↑a : Int).toNat) ((↑a : Int).toNat) ((↑a : Int).toNat) ((o7_0 a d o ((↑a : Int).toNat) (datC [V Z 0]) 1 (datC [V Z 0])).getD default) (datC [V Z 0])).getD default).2 1 (datS [V Z (Z.wrap ((↑a : Int) - 1))] 1)).getD default).1, ((o7_4 ((↑a : Int).toNat) ((o7_2 a d (m17 a d o).1 (m17 a d o).2 ((↑a : Int).toNat) ((↑a : Int).toNat) ((↑a : Int).toNat) ((↑a : Int).toNat) ((o7_0 a d o ((↑a : Int).toNat) (datC [V Z 0]) 1 (datC [V Z 0])).getD default) (datC [V Z 0])).getD default).1 ((o7_2 a d (m17 a d o).1 (m17 a d o).2 ((↑a : Int).toNat) ((↑a : Int).toNat) ((↑a : Int).toNat) ((↑a : Int).toNat) ((o7_0 a d o ((↑a : Int).toNat) (datC [V Z 0]) 1 (datC [V Z 0])).getD default) (datC [V Z 0])).getD default).2 1 (datS [V Z (Z.wrap ((↑a : Int) - 1))] 1)).getD default).2.2, ((↑a : Int).toNat), ((o7_2 a d (m17 a d o).1 (m17 a d o).2 ((↑a : Int).toNat) ((↑a : Int).toNat) ((↑a : Int).toNat) ((↑a : Int).toNat) ((o7_0 a d o ((↑a : Int).toNat) (datC [V Z 0]) 1 (datC [V Z 0])).getD default) (datC [V Z 0])).getD default).1, 0))
noncomputable def n7 (a : Nat) (d : Dat) (o : Int) : Bool :=
  ((n16 a d o) && (cond (bif (decide ((m16 a d o) = 0)) then false else true) true ((decide (0 ≤ (↑a : Int) ∧ (↑a : Int) ≤ (↑a : Int) ∧ (↑a : Int) ≤ 1073741824)) && ((decide (0 ≤ (↑a : Int) ∧ (↑a : Int) ≤ (↑a : Int) ∧ (↑a : Int) ≤ 1073741824)) && (((o7_0 a d o ((↑a : Int).toNat) (datC [V Z 0]) 1 (datC [V Z 0])).isSome) && (((o7_2 a d (m17 a d o).1 (m17 a d o).2 ((↑a : Int).toNat) ((↑a : Int).toNat) ((↑a : Int).toNat) ((↑a : Int).toNat) ((o7_0 a d o ((↑a : Int).toNat) (datC [V Z 0]) 1 (datC [V Z 0])).getD default) (datC [V Z 0])).isSome) && ((ok32 (m17 a d o).1 (m17 a d o).2) && (((o7_4 ((↑a : Int).toNat) ((o7_2 a d (m17 a d o).1 (m17 a d o).2 ((↑a : Int).toNat) ((↑a : Int).toNat) ((↑a : Int).toNat) ((↑a : Int).toNat) ((o7_0 a d o ((↑a : Int).toNat) (datC [V Z 0]) 1 (datC [V Z 0])).getD default) (datC [V Z 0])).getD default).1 ((o7_2 a d (m17 a d o).1 (m17 a d o).2 ((↑a : Int).toNat) ((↑a : Int).toNat) ((↑a : Int).toNat) ((↑a : Int).toNat) ((o7_0 a d o ((↑a : Int).toNat) (datC [V Z 0]) 1 (datC [V Z 0])).getD default) (datC [V Z 0])).getD default).2 1 (datS [V Z (Z.wrap ((↑a : Int) - 1))] 1)).isSome) && ((decide ((0 + ((o7_4 ((↑a : Int).toNat) ((o7_2 a d (m17 a d o).1 (m17 a d o).2 ((↑a : Int).toNat) ((↑a : Int).toNat) ((↑a : Int).toNat) ((↑a : Int).toNat) ((o7_0 a d o ((↑a : Int).toNat) (datC [V Z 0]) 1 (datC [V Z 0])).getD default) (datC [V Z 0])).getD default).1 ((o7_2 a d (m17 a d o).1 (m17 a d o).2 ((↑a : Int).toNat) ((↑a : Int).toNat) ((↑a : Int).toNat) ((↑a : Int).toNat) ((o7_0 a d o ((↑a : Int).toNat) (datC [V Z 0]) 1 (datC [V Z 0])).getD default) (datC [V Z 0])).getD default).2 1 (datS [V Z (Z.wrap ((↑a : Int) - 1))] 1)).getD default).1) ≤ ((o7_4 ((↑a : Int).toNat) ((o7_2 a d (m17 a d o).1 (m17 a d o).2 ((↑a : Int).toNat) ((↑a : Int).toNat) ((↑a : Int).toNat) ((↑a : Int).toNat) ((o7_0 a d o ((↑a : Int).toNat) (datC [V Z 0]) 1 (datC [V Z 0])).getD default) (datC [V Z 0])).getD default).1 ((o7_2 a d (m17 a d o).1 (m17 a d o).2 ((↑a : Int).toNat) ((↑a : Int).toNat) ((↑a : Int).toNat) ((↑a : Int).toNat) ((o7_0 a d o ((↑a : Int).toNat) (datC [V Z 0]) 1 (datC [V Z 0])).getD default) (datC [V Z 0])).getD default).2 1 (datS [V Z (Z.wrap ((↑a : Int) - 1))] 1)).getD default).2.1)) && ((decide ((0 + ((↑a : Int).toNat)) ≤ ((↑a : Int).toNat))) && true))))))))))
noncomputable def q7 (r : Nat × Dat × Nat × Dat × Int) : SV × List Blk × List Blk := (.tup [.ro [W Z] r.1 r.2.1, .ro [W Z] r.2.2.1 r.2.2.2.1, V Z r.2.2.2.2], [], [])
noncomputable def g7 : GF := fun vs bs => match vs, bs with
  | [.ro [W Z, W Z] a d, V Z o], [] => some (rs 0 (q7 (m7 a d o)) [n7 a d o])
  | _, _ => none
noncomputable def c7 : Ctr := genC [.ro [W Z, W Z], .k] g7
theorem k7 : CtrOk Try.prog c7 7 := cx (tc k16 (tc k17 (tc k18 tn))) mix_ok 8 (fn := Try.f7) (c := (Try.f7.body.getD .skip)) (grs := []) (rh := .t [.ro [W Z], .ro [W Z], .k]) Try.func7 rfl (by kernel_rfl) (lam_of rfl (lc z7_0 (lc z7_2 (lc z7_4 ln)))) fun vs bs q h hn => by
  unfold g7 at h
  split at h <;> cases h
  rename_i a d o
  have hn := n1 hn
  exact ⟨_, rfl, ca (fun R => (cnd (n16 a d o)
 (cnd (bif (decide ((m16 a d o) = 0)) then false else true)
 (R (.tup [.ro [W Z] 0 noDat, .ro [W Z] 0 noDat, V Z (m16 a d o)]) [] [])
 (cnd (decide (0 ≤ (↑a : Int) ∧ (↑a : Int) ≤ (↑a : Int) ∧ (↑a : Int) ≤ 1073741824))
 (cnd (decide (0 ≤ (↑a : Int) ∧ (↑a : Int) ≤ (↑a : Int) ∧ (↑a : Int) ≤ 1073741824))
 (cnd (decide (((↑a : Int).toNat) = ((↑a : Int).toNat)))
 (cnd (decide (((↑a : Int).toNat) = ((↑a : Int).toNat)))
 (cnd (decide (((↑a : Int).toNat) = ((↑a : Int).toNat)))
 (cnd ((o7_0 a d o ((↑a : Int).toNat) (datC [V Z 0]) 1 (datC [V Z 0])).isSome)
 (cnd ((o7_2 a d (m17 a d o).1 (m17 a d o).2 ((↑a : Int).toNat) ((↑a : Int).toNat) ((↑a : Int).toNat) ((↑a : Int).toNat) ((o7_0 a d o ((↑a : Int).toNat) (datC [V Z 0]) 1 (datC [V Z 0])).getD default) (datC [V Z 0])).isSome)
 (cnd (ok32 (m17 a d o).1 (m17 a d o).2)
 (cnd (decide (((↑a : Int).toNat) = ((↑a : Int).toNat)))
 (cnd (decide (((↑a : Int).toNat) = ((↑a : Int).toNat)))
 (cnd (decide (((↑a : Int).toNat) = ((↑a : Int).toNat)))
 (cnd ((o7_4 ((↑a : Int).toNat) ((o7_2 a d (m17 a d o).1 (m17 a d o).2 ((↑a : Int).toNat) ((↑a : Int).toNat) ((↑a : Int).toNat) ((↑a : Int).toNat) ((o7_0 a d o ((↑a : Int).toNat) (datC [V Z 0]) 1 (datC [V Z 0])).getD default) (datC [V Z 0])).getD default).1 ((o7_2 a d (m17 a d o).1 (m17 a d o).2 ((↑a : Int).toNat) ((↑a : Int).toNat) ((↑a : Int).toNat) ((↑a : Int).toNat) ((o7_0 a d o ((↑a : Int).toNat) (datC [V Z 0]) 1 (datC [V Z 0])).getD default) (datC [V Z 0])).getD default).2 1 (datS [V Z (Z.wrap ((↑a : Int) - 1))] 1)).isSome)
 (cnd (decide ((0 + ((o7_4 ((↑a : Int).toNat) ((o7_2 a d (m17 a d o).1 (m17 a d o).2 ((↑a : Int).toNat) ((↑a : Int).toNat) ((↑a : Int).toNat) ((↑a : Int).toNat) ((o7_0 a d o ((↑a : Int).toNat) (datC [V Z 0]) 1 (datC [V Z 0])).getD default) (datC [V Z 0])).getD default).1 ((o7_2 a d (m17 a d o).1 (m17 a d o).2 ((↑a : Int).toNat) ((↑a : Int).toNat) ((↑a : Int).toNat) ((↑a : Int).toNat) ((o7_0 a d o ((↑a : Int).toNat) (datC [V Z 0]) 1 (datC [V Z 0])).getD default) (datC [V Z 0])).getD default).2 1 (datS [V Z (Z.wrap ((↑a : Int) - 1))] 1)).getD default).1) ≤ ((o7_4 ((↑a : Int).toNat) ((o7_2 a d (m17 a d o).1 (m17 a d o).2 ((↑a : Int).toNat) ((↑a : Int).toNat) ((↑a : Int).toNat) ((↑a : Int).toNat) ((o7_0 a d o ((↑a : Int).toNat) (datC [V Z 0]) 1 (datC [V Z 0])).getD default) (datC [V Z 0])).getD default).1 ((o7_2 a d (m17 a d o).1 (m17 a d o).2 ((↑a : Int).toNat) ((↑a : Int).toNat) ((↑a : Int).toNat) ((↑a : Int).toNat) ((o7_0 a d o ((↑a : Int).toNat) (datC [V Z 0]) 1 (datC [V Z 0])).getD default) (datC [V Z 0])).getD default).2 1 (datS [V Z (Z.wrap ((↑a : Int) - 1))] 1)).getD default).2.1))
 (cnd (decide ((0 + ((↑a : Int).toNat)) ≤ ((↑a : Int).toNat)))
 (R (.tup [.ro [W Z] ((o7_4 ((↑a : Int).toNat) ((o7_2 a d (m17 a d o).1 (m17 a d o).2 ((↑a : Int).toNat) ((↑a : Int).toNat) ((↑a : Int).toNat) ((↑a : Int).toNat) ((o7_0 a d o ((↑a : Int).toNat) (datC [V Z 0]) 1 (datC [V Z 0])).getD default) (datC [V Z 0])).getD default).1 ((o7_2 a d (m17 a d o).1 (m17 a d o).2 ((↑a : Int).toNat) ((↑a : Int).toNat) ((↑a : Int).toNat) ((↑a : Int).toNat) ((o7_0 a d o ((↑a : Int).toNat) (datC [V Z 0]) 1 (datC [V Z 0])).getD default) (datC [V Z 0])).getD default).2 1 (datS [V Z (Z.wrap ((↑a : Int) - 1))] 1)).getD default).1 ((o7_4 ((↑a : Int).toNat) ((o7_2 a d (m17 a d o).1 (m17 a d o).2 ((↑a : Int).toNat) ((↑a : Int).toNat) ((↑a : Int).toNat) ((↑a : Int).toNat) ((o7_0 a d o ((↑a : Int).toNat) (datC [V Z 0]) 1 (datC [V Z 0])).getD default) (datC [V Z 0])).getD default).1 ((o7_2 a d (m17 a d o).1 (m17 a d o).2 ((↑a : Int).toNat) ((↑a : Int).toNat) ((↑a : Int).toNat) ((↑a : Int).toNat) ((o7_0 a d o ((↑a : Int).toNat) (datC [V Z 0]) 1 (datC [V Z 0])).getD default) (datC [V Z 0])).getD default).2 1 (datS [V Z (Z.wrap ((↑a : Int) - 1))] 1)).getD default).2.2, .ro [W Z] ((↑a : Int).toNat) ((o7_2 a d (m17 a d o).1 (m17 a d o).2 ((↑a : Int).toNat) ((↑a : Int).toNat) ((↑a : Int).toNat) ((↑a : Int).toNat) ((o7_0 a d o ((↑a : Int).toNat) (datC [V Z 0]) 1 (datC [V Z 0])).getD default) (datC [V Z 0])).getD default).1, V Z 0]) [] [])
                 False)
                False)
               False)
              False)
             False)
            False)
           False)
          False)
         False)
        False)
       False)
      False)
     False)
    False))
  False)) (fun R => by kernel_rfl) (cn (al hn) (co (fun h0 => lf (cT h0 rfl) rfl) (fun h0 => cn (al (cf h0 (ar hn))) (cn (al (ar (cf h0 (ar hn)))) (cn (decide_eq_true rfl) (cn (decide_eq_true rfl) (cn (decide_eq_true rfl) (cn (al (ar (ar (cf h0 (ar hn))))) (cn (al (ar (ar (ar (cf h0 (ar hn)))))) (cn (al (ar (ar (ar (ar (cf h0 (ar hn))))))) (cn (decide_eq_true rfl) (cn (decide_eq_true rfl) (cn (decide_eq_true rfl) (cn (al (ar (ar (ar (ar (ar (cf h0 (ar hn)))))))) (cn (al (ar (ar (ar (ar (ar (ar (cf h0 (ar hn))))))))) (cn (al (ar (ar (ar (ar (ar (ar (ar (cf h0 (ar hn)))))))))) (lf (cF h0 rfl) rfl)))))))))))))))))⟩
/-! ### shotline/shotlinetop.plotted -/
noncomputable def m4  : Bool :=
  (bif (bif (bif (decide ((m12 m13.1 m13.2.1 2 m13.2.2.1 4 m13.2.2.2).2 = 0)) then (decide ((m12 m13.1 m13.2.1 2 m13.2.2.1 4 m13.2.2.2).1 = 1080)) else false) then (decide ((m14 4 m15 9 3 (datS [V Z 0, V Z 2, V Z 3] 1)).2 = 0)) else false) then (decide ((m14 4 m15 9 3 (datS [V Z 0, V Z 2, V Z 3] 1)).1 = 3)) else false)
noncomputable def n4  : Bool :=
  ((n12 m13.1 m13.2.1 2 m13.2.2.1 4 m13.2.2.2) && ((n14 4 m15 9 3 (datS [V Z 0, V Z 2, V Z 3] 1)) && true))
noncomputable def q4 (r : Bool) : SV × List Blk × List Blk := (.bool r, [], [])
noncomputable def g4 : GF := fun vs bs => match vs, bs with
  | [], [] => some (rs 0 (q4 (m4)) [n4 ])
  | _, _ => none
noncomputable def c4 : Ctr := genC [] g4
theorem k4 : CtrOk Try.prog c4 4 := cx (tc k12 (tc k13 (tc k14 (tc k15 tn)))) mix_ok 8 (fn := Try.f4) (c := (Try.f4.body.getD .skip)) (grs := []) (rh := .k) Try.func4 rfl (by kernel_rfl) noLam fun vs bs q h hn => by
  unfold g4 at h
  split at h <;> cases h
  have hn := n1 hn
  exact ⟨_, rfl, ca (fun R => (cnd (n12 m13.1 m13.2.1 2 m13.2.2.1 4 m13.2.2.2)
 (cnd (n14 4 m15 9 3 (datS [V Z 0, V Z 2, V Z 3] 1))
 (R (.bool (bif (bif (bif (decide ((m12 m13.1 m13.2.1 2 m13.2.2.1 4 m13.2.2.2).2 = 0)) then (decide ((m12 m13.1 m13.2.1 2 m13.2.2.1 4 m13.2.2.2).1 = 1080)) else false) then (decide ((m14 4 m15 9 3 (datS [V Z 0, V Z 2, V Z 3] 1)).2 = 0)) else false) then (decide ((m14 4 m15 9 3 (datS [V Z 0, V Z 2, V Z 3] 1)).1 = 3)) else false)) [] [])
   False)
  False)) (fun R => by kernel_rfl) (cn (al hn) (cn (al (ar hn)) (lf rfl rfl)))⟩
/-! ### shotline/shotlinetop.picked -/
noncomputable def l8r_0 (l : Nat) (m : Dat) (t b : Nat) (a : Dat) : Nat → Nat → Int → Dat → Option (Bool × (Bool × Nat × Nat × Dat) × (Nat × Nat × Dat))
  | 0, _, _, _ => none
  | f + 1, p, n, o => (cond (decide (n < (↑t : Int))) (cond (decide (0 ≤ n ∧ n < ↑t)) (cond (decide (n.toNat < b)) (cond (bif (m6 (a.ii n.toNat 0) 0 (Z.wrap ((↑l : Int) - 1))) then false else true) (some (true, (false, p, p, o), default)) (cond (decide (0 ≤ n ∧ n < ↑t)) (cond (decide (n.toNat < b)) (cond (decide ((0 : Int) ≤ a.ii n.toNat (0 : Nat) ∧ a.ii n.toNat (0 : Nat) < (↑l : Int))) (cond (decide ((p + 1) ≤ 1073741824)) (l8r_0 l m t b a f (p + 1) (Z.wrap (n + 1)) (o.app p (datS [V Z (m.ii ((a.ii n.toNat 0).toNat) 0), V Z (m.ii ((a.ii n.toNat 0).toNat) 1)] 2))) none) none) none) none)) none) none) (some (false, default, (p, p, o))))
noncomputable abbrev o8r_0 (l : Nat) (m : Dat) (t b : Nat) (a : Dat) (p : Nat) (n : Int) (o : Dat) : Option (Bool × (Bool × Nat × Nat × Dat) × (Nat × Nat × Dat)) := l8r_0 l m t b a (l + t + p + n.toNat + b + 8) p n o
noncomputable def e8r_0 (l : Nat) (m : Dat) (t b : Nat) (a : Dat) (r : Bool × (Bool × Nat × Nat × Dat) × (Nat × Nat × Dat)) (K : XR) : Prop := cnd r.1 (K (XE.ret) [.nsl, .bool r.2.1.1, .gr 1 2 r.2.1.2.1] [.row 3 [W Z] b a, .row 39 [W Z, W Z] r.2.1.2.2.1 r.2.1.2.2.2]) (K (XE.exit 0) [.any, .any, .gr 1 2 r.2.2.1] [.row 3 [W Z] b a, .row 39 [W Z, W Z] r.2.2.2.1 r.2.2.2.2])
noncomputable def g8r_0 : LSum := fun s k => match czv 1 34 [0, 1, 6, 7] 2 [⟨true, 6, 0, 1, 39, [W Z, W Z]⟩] s with
  | some ([.ro [W Z, W Z] l m, .gr 0 1 t, .gr 1 2 p, V Z n], [.row 3 [W Z] b a, .row 39 [W Z, W Z] b1_0 o]) => needs [decide (p = b1_0), (o8r_0 l m t b a p n o).isSome] (e8r_0 l m t b a ((o8r_0 l m t b a p n o).getD default) fun e vs bs => inBlk 0 k e (mkSt 1 34 [4, 5, 6] vs 2 bs))
  | _ => False
theorem z8r_0 : LOk Try.prog g8r_0 (.block 0 (bodyAt (Try.f8.body.getD .skip) 0)) := by
  refine lb (ι := Nat × Dat × Nat × Nat × Int × Nat × Dat × Dat) (fuel := 8) (na := 1) (nt := 34) (nx := 2) (Lh := [0, 1, 6, 7]) (Le := [4, 5, 6]) (gl := [⟨true, 6, 0, 1, 39, [W Z, W Z]⟩]) (tc k6 tn) mix_ok noLam rfl (fun f (l, m, t, p, n, b, a, o) K => GG default (e8r_0 l m t b a) K (l8r_0 l m t b a f p n o)) (fun (l, m, t, p, n, b, a, o) => [.ro [W Z, W Z] l m, .gr 0 1 t, .gr 1 2 p, V Z n]) (fun (l, m, t, p, n, b, a, o) => [.row 3 [W Z] b a, .row 39 [W Z, W Z] p o]) (fun (_, _, _, _, _, _, _, _) K => gg_none) ?_ ?_
  · rintro f ⟨l, m, t, p, n, b, a, o⟩ K hG
    refine ro (fun R => (cnd (decide (n < (↑t : Int)))
 (cnd (decide (0 ≤ n ∧ n < ↑t))
 (cnd (decide (n.toNat < b))
 (cnd (bif (m6 (a.ii n.toNat 0) 0 (Z.wrap ((↑l : Int) - 1))) then false else true)
 (R (XE.ret) [.nsl, .bool false, .gr 1 2 p] [.row 3 [W Z] b a, .row 39 [W Z, W Z] p o])
 (cnd (decide (0 ≤ n ∧ n < ↑t))
 (cnd (decide (n.toNat < b))
 (cnd (decide ((0 : Int) ≤ a.ii n.toNat (0 : Nat) ∧ a.ii n.toNat (0 : Nat) < (↑l : Int)))
 (cnd (decide (p ≤ p))
 (cnd (decide ((p + 1) ≤ 1073741824))
 (R (XE.normal) [.ro [W Z, W Z] l m, .gr 0 1 t, .gr 1 2 (p + 1), V Z (Z.wrap (n + 1))] [.row 3 [W Z] b a, .row 39 [W Z, W Z] (p + 1) (o.app p (datS [V Z (m.ii ((a.ii n.toNat 0).toNat) 0), V Z (m.ii ((a.ii n.toNat 0).toNat) 1)] 2))])
          False)
         False)
        False)
       False)
      False))
    False)
   False)
 (R (XE.exit 0) [.any, .any, .gr 1 2 p] [.row 3 [W Z] b a, .row 39 [W Z, W Z] p o]))) (fun R => by kernel_rfl) ?_
    exact ch hG (fun h0 => cg h0 fun h1 => cg h1 fun h2 => ch h2 (fun h3 => h3.2) (fun h3 => cg h3 fun h4 => cg h4 fun h5 => cg h5 fun h6 => cn (decide_eq_true (Nat.le_refl _)) (cg h6 fun h7 => ⟨(_, _, _, _, _, _, _, _), rfl, rfl, h7⟩))) (fun h0 => h0.2)
  · intro s k h
    unfold g8r_0 at h
    split at h <;> try exact h.elim
    rename_i e1
    rw [needs_iff] at h
    have hq := h.1
    simp only [List.mem_cons, forall_eq_or_imp, decide_eq_true_eq, List.not_mem_nil, false_imp_iff, implies_true, and_true] at hq
    obtain ⟨rfl, hq⟩ := hq
    exact ⟨_, e1, _, (_, _, _, _, _, _, _, _), rfl, rfl, hq, h.2⟩
theorem x8r (g : Nat) (i : Dat) (j ma1 : Nat) (d : Dat) (R : SV → List Blk → List Blk → Prop) : exec Try.prog [(6, c6)] (lamOf [(0, g8r_0)]) 8 (Try.f8.body.getD .skip) (initS Try.f8.ntmps [.ro [W Z, W Z] g i, .gr 0 1 j] 1 (memOf [.row 3 [W Z] ma1 d])) (retK Try.prog Try.f8.results.toList (outK 1 (List.range 1) [] (.k) fun v U N => R v U N)) =
 (cnd ((o8r_0 g i j ma1 d 0 0 noDat).isSome)
 (cnd ((o8r_0 g i j ma1 d 0 0 noDat).getD default).1
 (R (.tup [.nsl, .bool ((o8r_0 g i j ma1 d 0 0 noDat).getD default).2.1.1]) [.row 3 [W Z] ma1 d] [])
 (R (.tup [.gr 1 2 ((o8r_0 g i j ma1 d 0 0 noDat).getD default).2.2.1, .bool true]) [.row 3 [W Z] ma1 d] [.row 39 [W Z, W Z] ((o8r_0 g i j ma1 d 0 0 noDat).getD default).2.2.2.1 ((o8r_0 g i j ma1 d 0 0 noDat).getD default).2.2.2.2]))
  False) := by kernel_rfl
noncomputable def m8ra (g : Nat) (i : Dat) (j ma1 : Nat) (d : Dat) : Bool × Nat × Dat :=
  (((o8r_0 g i j ma1 d 0 0 noDat).getD default).2.1.1, ma1, d)
noncomputable def n8ra (g : Nat) (i : Dat) (j ma1 : Nat) (d : Dat) : Bool :=
  (((o8r_0 g i j ma1 d 0 0 noDat).isSome) && (((o8r_0 g i j ma1 d 0 0 noDat).getD default).1 && true))
noncomputable def q8ra (r : Bool × Nat × Dat) : SV × List Blk × List Blk := (.tup [.nsl, .bool r.1], [.row 3 [W Z] r.2.1 r.2.2], [])
noncomputable def g8ra : GF := fun vs bs => match vs, bs with
  | [.ro [W Z, W Z] g i, .gr 0 1 j], [.row 3 [W Z] ma1 d] => some (rs 1 (q8ra (m8ra g i j ma1 d)) [n8ra g i j ma1 d])
  | _, _ => none
noncomputable def c8ra : Ctr := genC [.ro [W Z, W Z], .gr 3 [W Z]] g8ra
theorem k8ra : CtrOk Try.prog c8ra 8 := cx (tc k6 tn) mix_ok 8 (fn := Try.f8) (c := (Try.f8.body.getD .skip)) (grs := []) (rh := .k) Try.func8 rfl (by kernel_rfl) (lam_of rfl (lc z8r_0 ln)) fun vs bs q h hn => by
  unfold g8ra at h
  split at h <;> cases h
  rename_i g i j ma1 d
  have hn := n1 hn
  exact ⟨_, rfl, propOf (x8r g i j ma1 d _) (cn (al hn) (co (fun _ => lf rfl rfl) (fun h0 => (Bool.false_ne_true (h0.symm.trans (al (ar hn)))).elim)))⟩
noncomputable def m8rb (g : Nat) (i : Dat) (j ma1 : Nat) (d : Dat) : Nat × Bool × Nat × Dat × Nat × Dat :=
  (((o8r_0 g i j ma1 d 0 0 noDat).getD default).2.2.1, true, ma1, d, ((o8r_0 g i j ma1 d 0 0 noDat).getD default).2.2.2.1, ((o8r_0 g i j ma1 d 0 0 noDat).getD default).2.2.2.2)
noncomputable def n8rb (g : Nat) (i : Dat) (j ma1 : Nat) (d : Dat) : Bool :=
  (((o8r_0 g i j ma1 d 0 0 noDat).isSome) && (!((o8r_0 g i j ma1 d 0 0 noDat).getD default).1 && true))
noncomputable def q8rb (r : Nat × Bool × Nat × Dat × Nat × Dat) : SV × List Blk × List Blk := (.tup [.gr 1 2 r.1, .bool r.2.1], [.row 3 [W Z] r.2.2.1 r.2.2.2.1], [.row 39 [W Z, W Z] r.2.2.2.2.1 r.2.2.2.2.2])
noncomputable def g8rb : GF := fun vs bs => match vs, bs with
  | [.ro [W Z, W Z] g i, .gr 0 1 j], [.row 3 [W Z] ma1 d] => some (rs 1 (q8rb (m8rb g i j ma1 d)) [n8rb g i j ma1 d])
  | _, _ => none
noncomputable def c8rb : Ctr := genC [.ro [W Z, W Z], .gr 3 [W Z]] g8rb
theorem k8rb : CtrOk Try.prog c8rb 8 := cx (tc k6 tn) mix_ok 8 (fn := Try.f8) (c := (Try.f8.body.getD .skip)) (grs := []) (rh := .k) Try.func8 rfl (by kernel_rfl) (lam_of rfl (lc z8r_0 ln)) fun vs bs q h hn => by
  unfold g8rb at h
  split at h <;> cases h
  rename_i g i j ma1 d
  have hn := n1 hn
  exact ⟨_, rfl, propOf (x8r g i j ma1 d _) (cn (al hn) (co (fun h0 => (Bool.false_ne_true ((not_l (ar hn)).symm.trans h0)).elim) (fun _ => lf rfl rfl)))⟩
/-! ### shotline/shotlinetop.TopThinned -/
noncomputable def l3_0 (i : Nat) (j : Dat) (w y : Int) (m : Nat) (n : Dat) (o : Nat) (p : Dat) : Nat → Int → Option (Bool × (Bool) × (Unit))
  | 0, _ => none
  | f + 1, t => (cond (decide (t < (↑i : Int))) (cond (decide (0 ≤ t ∧ t < ↑i)) (cond (n10 o p (j.ii t.toNat 0)) (cond (bif (bif (bif (bif (decide ((m10 o p (j.ii t.toNat 0)).2.2 = 0)) then false else true) then false else true) then false else true) then true else (decide (0 ≤ t ∧ t < ↑i))) (cond (bif (bif (bif (bif (bif (decide ((m10 o p (j.ii t.toNat 0)).2.2 = 0)) then false else true) then true else (decide ((m10 o p (j.ii t.toNat 0)).2.1 < (Z.wrap ((j.ii t.toNat 1) - w))))) then false else true) then false else true) then true else (decide (0 ≤ t ∧ t < ↑i))) (cond (bif (bif (bif (decide ((m10 o p (j.ii t.toNat 0)).2.2 = 0)) then false else true) then true else (decide ((m10 o p (j.ii t.toNat 0)).2.1 < (Z.wrap ((j.ii t.toNat 1) - w))))) then true else (decide ((Z.wrap ((j.ii t.toNat 1) + w)) < (m10 o p (j.ii t.toNat 0)).1))) (some (true, false, default)) (l3_0 i j w y m n o p f (Z.wrap (t + 1)))) none) none) none) none) (some (false, default, ())))
noncomputable abbrev o3_0 (i : Nat) (j : Dat) (w y : Int) (m : Nat) (n : Dat) (o : Nat) (p : Dat) (t : Int) : Option (Bool × (Bool) × (Unit)) := l3_0 i j w y m n o p (i + w.toNat + y.toNat + m + o + t.toNat + 8) t
noncomputable def e3_0 (i : Nat) (j : Dat) (w y : Int) (m : Nat) (n : Dat) (o : Nat) (p : Dat) (r : Bool × (Bool) × (Unit)) (K : XR) : Prop := cnd r.1 (K (XE.ret) [.ro [W Z, W Z] i j, V Z w, V Z y, .bool r.2.1, .ro [W Z] m n] []) (K (XE.exit 0) [.ro [W Z, W Z] i j, V Z w, V Z y, .any, .ro [W Z] m n] [])
noncomputable def g3_0 : LSum := fun s k => match czv 0 172 [0, 1, 2, 7, 10, 14] 0 [] s with
  | some ([.ro [W Z, W Z] i j, V Z w, V Z y, .ro [W Z] m n, .ro [W Z, W Z] o p, V Z t], []) => needs [(o3_0 i j w y m n o p t).isSome] (e3_0 i j w y m n o p ((o3_0 i j w y m n o p t).getD default) fun e vs bs => inBlk 0 k e (mkSt 0 172 [0, 1, 2, 6, 7] vs 0 bs))
  | _ => False
theorem z3_0 : LOk Try.prog g3_0 (.block 0 (bodyAt (Try.f3.body.getD .skip) 0)) := by
  refine lb (ι := Nat × Dat × Int × Int × Nat × Dat × Nat × Dat × Int) (fuel := 8) (na := 0) (nt := 172) (nx := 0) (Lh := [0, 1, 2, 7, 10, 14]) (Le := [0, 1, 2, 6, 7]) (gl := []) (tc k4 (tc k5 (tc k6 (tc k7 (tc k8 (tc k8ra (tc k8rb (tc k9 (tc k10 (tc k11 tn)))))))))) mix_ok noLam rfl (fun f (i, j, w, y, m, n, o, p, t) K => GG default (e3_0 i j w y m n o p) K (l3_0 i j w y m n o p f t)) (fun (i, j, w, y, m, n, o, p, t) => [.ro [W Z, W Z] i j, V Z w, V Z y, .ro [W Z] m n, .ro [W Z, W Z] o p, V Z t]) (fun (i, j, w, y, m, n, o, p, t) => []) (fun (_, _, _, _, _, _, _, _, _) K => gg_none) ?_ ?_
  · rintro f ⟨i, j, w, y, m, n, o, p, t⟩ K hG
    refine ro (fun R => (cnd (decide (t < (↑i : Int)))
 (cnd (decide (0 ≤ t ∧ t < ↑i))
 (cnd (n10 o p (j.ii t.toNat 0))
 (cnd (bif (bif (bif (bif (decide ((m10 o p (j.ii t.toNat 0)).2.2 = 0)) then false else true) then false else true) then false else true) then true else (decide (0 ≤ t ∧ t < ↑i)))
 (cnd (bif (bif (bif (bif (bif (decide ((m10 o p (j.ii t.toNat 0)).2.2 = 0)) then false else true) then true else (decide ((m10 o p (j.ii t.toNat 0)).2.1 < (Z.wrap ((j.ii t.toNat 1) - w))))) then false else true) then false else true) then true else (decide (0 ≤ t ∧ t < ↑i)))
 (cnd (bif (bif (bif (decide ((m10 o p (j.ii t.toNat 0)).2.2 = 0)) then false else true) then true else (decide ((m10 o p (j.ii t.toNat 0)).2.1 < (Z.wrap ((j.ii t.toNat 1) - w))))) then true else (decide ((Z.wrap ((j.ii t.toNat 1) + w)) < (m10 o p (j.ii t.toNat 0)).1)))
 (R (XE.ret) [.ro [W Z, W Z] i j, V Z w, V Z y, .bool false, .ro [W Z] m n] [])
 (R (XE.normal) [.ro [W Z, W Z] i j, V Z w, V Z y, .ro [W Z] m n, .ro [W Z, W Z] o p, V Z (Z.wrap (t + 1))] []))
      False)
     False)
    False)
   False)
 (R (XE.exit 0) [.ro [W Z, W Z] i j, V Z w, V Z y, .any, .ro [W Z] m n] []))) (fun R => by kernel_rfl) ?_
    exact ch hG (fun h0 => cg h0 fun h1 => cg h1 fun h2 => cg h2 fun h3 => cg h3 fun h4 => ch h4 (fun h5 => h5.2) (fun h5 => ⟨(_, _, _, _, _, _, _, _, _), rfl, rfl, h5⟩)) (fun h0 => h0.2)
  · intro s k h
    unfold g3_0 at h
    split at h <;> try exact h.elim
    rename_i e1
    rw [needs_iff] at h
    exact ⟨_, e1, _, (_, _, _, _, _, _, _, _, _), rfl, rfl, h.1 _ (List.mem_singleton.2 rfl), h.2⟩
noncomputable def l3_2 (i : Nat) (j : Dat) (w y : Int) (m : Nat) (n : Dat) : Nat → Nat → Int → Dat → Option (Nat × Nat × Dat)
  | 0, _, _, _ => none
  | f + 1, x, u, z => (cond (decide (u < (↑i : Int))) (cond (bif (bif (bif (bif (decide (u = 0)) then true else (decide (u = (Z.wrap ((↑i : Int) - 1))))) then false else true) then false else true) then true else (n11 y 1024)) (cond (bif (bif (bif (bif (decide (u = 0)) then true else (decide (u = (Z.wrap ((↑i : Int) - 1))))) then false else true) then false else true) then true else (decide (0 ≤ (IntKind.u64.wrap u)))) (cond (bif (bif (bif (bif (decide (u = 0)) then true else (decide (u = (Z.wrap ((↑i : Int) - 1))))) then false else true) then false else true) then true else true) (cond (bif (bif (decide (u = 0)) then true else (decide (u = (Z.wrap ((↑i : Int) - 1))))) then true else (decide ((((m11 y 1024).fdiv (2 ^ (min ((IntKind.u64.wrap u).toNat) 64))).tmod 2) = 1))) (cond (decide ((x + 1) ≤ 1073741824)) (l3_2 i j w y m n f (x + 1) (Z.wrap (u + 1)) (z.app x (datS [V Z u] 1))) none) (l3_2 i j w y m n f x (Z.wrap (u + 1)) z)) none) none) none) (some (x, x, z)))
noncomputable abbrev o3_2 (i : Nat) (j : Dat) (w y : Int) (m : Nat) (n : Dat) (x : Nat) (u : Int) (z : Dat) : Option (Nat × Nat × Dat) := l3_2 i j w y m n (i + w.toNat + y.toNat + m + x + u.toNat + 8) x u z
noncomputable def e3_2 (i : Nat) (j : Dat) (w y : Int) (m : Nat) (n : Dat) (r : Nat × Nat × Dat) (K : XR) : Prop := K (XE.exit 2) [.ro [W Z, W Z] i j, V Z w, .ro [W Z] m n, .gr 0 1 r.1] [.row 3 [W Z] r.2.1 r.2.2]
noncomputable def g3_2 : LSum := fun s k => match czv 0 172 [0, 1, 2, 7, 17, 18] 1 [⟨true, 17, 0, 0, 3, [W Z]⟩] s with
  | some ([.ro [W Z, W Z] i j, V Z w, V Z y, .ro [W Z] m n, .gr 0 1 x, V Z u], [.row 3 [W Z] b0_0 z]) => needs [decide (x = b0_0), (o3_2 i j w y m n x u z).isSome] (e3_2 i j w y m n ((o3_2 i j w y m n x u z).getD default) fun e vs bs => inBlk 2 k e (mkSt 0 172 [0, 1, 7, 17] vs 1 bs))
  | _ => False
theorem z3_2 : LOk Try.prog g3_2 (.block 2 (bodyAt (Try.f3.body.getD .skip) 2)) := by
  refine lb (ι := Nat × Dat × Int × Int × Nat × Dat × Nat × Int × Dat) (fuel := 8) (na := 0) (nt := 172) (nx := 1) (Lh := [0, 1, 2, 7, 17, 18]) (Le := [0, 1, 7, 17]) (gl := [⟨true, 17, 0, 0, 3, [W Z]⟩]) (tc k4 (tc k5 (tc k6 (tc k7 (tc k8 (tc k8ra (tc k8rb (tc k9 (tc k10 (tc k11 tn)))))))))) mix_ok (lam_of rfl (lc z3_0 ln)) rfl (fun f (i, j, w, y, m, n, x, u, z) K => GG default (e3_2 i j w y m n) K (l3_2 i j w y m n f x u z)) (fun (i, j, w, y, m, n, x, u, z) => [.ro [W Z, W Z] i j, V Z w, V Z y, .ro [W Z] m n, .gr 0 1 x, V Z u]) (fun (i, j, w, y, m, n, x, u, z) => [.row 3 [W Z] x z]) (fun (_, _, _, _, _, _, _, _, _) K => gg_none) ?_ ?_
  · rintro f ⟨i, j, w, y, m, n, x, u, z⟩ K hG
    refine ro (fun R => (cnd (decide (u < (↑i : Int)))
 (cnd (bif (bif (bif (bif (decide (u = 0)) then true else (decide (u = (Z.wrap ((↑i : Int) - 1))))) then false else true) then false else true) then true else (n11 y 1024))
 (cnd (bif (bif (bif (bif (decide (u = 0)) then true else (decide (u = (Z.wrap ((↑i : Int) - 1))))) then false else true) then false else true) then true else (decide (0 ≤ (IntKind.u64.wrap u))))
 (cnd (bif (bif (bif (bif (decide (u = 0)) then true else (decide (u = (Z.wrap ((↑i : Int) - 1))))) then false else true) then false else true) then true else true)
 (cnd (bif (bif (decide (u = 0)) then true else (decide (u = (Z.wrap ((↑i : Int) - 1))))) then true else (decide ((((m11 y 1024).fdiv (2 ^ (min ((IntKind.u64.wrap u).toNat) 64))).tmod 2) = 1)))
 (cnd (decide (x ≤ x))
 (cnd (decide ((x + 1) ≤ 1073741824))
 (R (XE.normal) [.ro [W Z, W Z] i j, V Z w, V Z y, .ro [W Z] m n, .gr 0 1 (x + 1), V Z (Z.wrap (u + 1))] [.row 3 [W Z] (x + 1) (z.app x (datS [V Z u] 1))])
        False)
       False)
 (R (XE.normal) [.ro [W Z, W Z] i j, V Z w, V Z y, .ro [W Z] m n, .gr 0 1 x, V Z (Z.wrap (u + 1))] [.row 3 [W Z] x z]))
     False)
    False)
   False)
 (R (XE.exit 2) [.ro [W Z, W Z] i j, V Z w, .ro [W Z] m n, .gr 0 1 x] [.row 3 [W Z] x z]))) (fun R => by kernel_rfl) ?_
    exact ch hG (fun h0 => cg h0 fun h1 => cg h1 fun h2 => cg h2 fun h3 => ch h3 (fun h4 => cn (decide_eq_true (Nat.le_refl _)) (cg h4 fun h5 => ⟨(_, _, _, _, _, _, _, _, _), rfl, rfl, h5⟩)) (fun h4 => ⟨(_, _, _, _, _, _, _, _, _), rfl, rfl, h4⟩)) (fun h0 => h0.2)
  · intro s k h
    unfold g3_2 at h
    split at h <;> try exact h.elim
    rename_i e1
    rw [needs_iff] at h
    have hq := h.1
    simp only [List.mem_cons, forall_eq_or_imp, decide_eq_true_eq, List.not_mem_nil, false_imp_iff, implies_true, and_true] at hq
    obtain ⟨rfl, hq⟩ := hq
    exact ⟨_, e1, _, (_, _, _, _, _, _, _, _, _), rfl, rfl, hq, h.2⟩
theorem x3 (a : Nat) (d : Dat) (g l : Int) (R : SV → List Blk → List Blk → Prop) : exec Try.prog [(4, c4), (5, c5), (6, c6), (7, c7), (8, c8), (8, c8ra), (8, c8rb), (9, c9), (10, c10), (11, c11)] (lamOf [(0, g3_0), (2, g3_2)]) 8 (Try.f3.body.getD .skip) (initS Try.f3.ntmps [.ro [W Z, W Z] a d, V Z g, V Z l] 0 (memOf [])) (retK Try.prog Try.f3.results.toList (outK 0 (List.range 0) [] (.k) fun v U N => R v U N)) =
 (cnd (n4)
 (cnd (bif m4 then false else true)
 (R (.bool false) [] [])
 (cnd (bif (bif (bif (decide ((10 : Int) < (↑a : Int))) then false else true) then false else true) then true else (n5 a d))
 (cnd (bif (bif (decide ((10 : Int) < (↑a : Int))) then true else (bif (decide ((m5 a d) = 0)) then false else true)) then true else (bif (m6 g 0 30000) then false else true))
 (R (.bool true) [] [])
 (cnd (n7 a d g)
 (cnd (bif (bif (decide ((m7 a d g).2.2.2.2 = 0)) then false else true) then true else (decide ((↑a : Int) < (↑((m7 a d g).1) : Int))))
 (R (.bool false) [] [])
       ((cnd (n8 a d (m7 a d g).1 (m7 a d g).2.1)
 (cnd (bif (m8 a d (m7 a d g).1 (m7 a d g).2.1).2.2 then false else true)
 (R (.bool false) [] [])
 (cnd (n9 a d (m8 a d (m7 a d g).1 (m7 a d g).2.1).1 (m8 a d (m7 a d g).1 (m7 a d g).2.1).2.1 g)
 (cnd (bif (bif (decide ((m9 a d (m8 a d (m7 a d g).1 (m7 a d g).2.1).1 (m8 a d (m7 a d g).1 (m7 a d g).2.1).2.1 g).2 = 0)) then false else true) then true else (bif (m9 a d (m8 a d (m7 a d g).1 (m7 a d g).2.1).1 (m8 a d (m7 a d g).1 (m7 a d g).2.1).2.1 g).1 then false else true))
 (R (.bool false) [] [])
 (cnd ((o3_0 a d g l (m7 a d g).1 (m7 a d g).2.1 (m8 a d (m7 a d g).1 (m7 a d g).2.1).1 (m8 a d (m7 a d g).1 (m7 a d g).2.1).2.1 0).isSome)
 (cnd ((o3_0 a d g l (m7 a d g).1 (m7 a d g).2.1 (m8 a d (m7 a d g).1 (m7 a d g).2.1).1 (m8 a d (m7 a d g).1 (m7 a d g).2.1).2.1 0).getD default).1
 (R (.bool ((o3_0 a d g l (m7 a d g).1 (m7 a d g).2.1 (m8 a d (m7 a d g).1 (m7 a d g).2.1).1 (m8 a d (m7 a d g).1 (m7 a d g).2.1).2.1 0).getD default).2.1) [] [])
 (cnd ((o3_2 a d g l (m7 a d g).1 (m7 a d g).2.1 0 0 noDat).isSome)
               (False ∨
                ((cnd (n8ra a d ((o3_2 a d g l (m7 a d g).1 (m7 a d g).2.1 0 0 noDat).getD default).1 ((o3_2 a d g l (m7 a d g).1 (m7 a d g).2.1 0 0 noDat).getD default).2.1 ((o3_2 a d g l (m7 a d g).1 (m7 a d g).2.1 0 0 noDat).getD default).2.2)
 (cnd (bif (m8ra a d ((o3_2 a d g l (m7 a d g).1 (m7 a d g).2.1 0 0 noDat).getD default).1 ((o3_2 a d g l (m7 a d g).1 (m7 a d g).2.1 0 0 noDat).getD default).2.1 ((o3_2 a d g l (m7 a d g).1 (m7 a d g).2.1 0 0 noDat).getD default).2.2).1 then false else true)
 (R (.bool false) [] [])
 (cnd (n9 a d 0 noDat g)
 (R (.bool (bif (decide ((m9 a d 0 noDat g).2 = 0)) then (bif (bif (m9 a d 0 noDat g).1 then false else true) then true else (decide ((↑((m7 a d g).1) : Int) ≤ (↑(((o3_2 a d g l (m7 a d g).1 (m7 a d g).2.1 0 0 noDat).getD default).1) : Int)))) else false)) [] [])
                    False))
                  False) ∨
 (cnd (n8rb a d ((o3_2 a d g l (m7 a d g).1 (m7 a d g).2.1 0 0 noDat).getD default).1 ((o3_2 a d g l (m7 a d g).1 (m7 a d g).2.1 0 0 noDat).getD default).2.1 ((o3_2 a d g l (m7 a d g).1 (m7 a d g).2.1 0 0 noDat).getD default).2.2)
 (cnd (bif (m8rb a d ((o3_2 a d g l (m7 a d g).1 (m7 a d g).2.1 0 0 noDat).getD default).1 ((o3_2 a d g l (m7 a d g).1 (m7 a d g).2.1 0 0 noDat).getD default).2.1 ((o3_2 a d g l (m7 a d g).1 (m7 a d g).2.1 0 0 noDat).getD default).2.2).2.1 then false else true)
 (R (.bool false) [] [])
 (cnd (decide ((0 + (m8rb a d ((o3_2 a d g l (m7 a d g).1 (m7 a d g).2.1 0 0 noDat).getD default).1 ((o3_2 a d g l (m7 a d g).1 (m7 a d g).2.1 0 0 noDat).getD default).2.1 ((o3_2 a d g l (m7 a d g).1 (m7 a d g).2.1 0 0 noDat).getD default).2.2).1) ≤ (m8rb a d ((o3_2 a d g l (m7 a d g).1 (m7 a d g).2.1 0 0 noDat).getD default).1 ((o3_2 a d g l (m7 a d g).1 (m7 a d g).2.1 0 0 noDat).getD default).2.1 ((o3_2 a d g l (m7 a d g).1 (m7 a d g).2.1 0 0 noDat).getD default).2.2).2.2.2.2.1))
 (cnd (n9 a d (m8rb a d ((o3_2 a d g l (m7 a d g).1 (m7 a d g).2.1 0 0 noDat).getD default).1 ((o3_2 a d g l (m7 a d g).1 (m7 a d g).2.1 0 0 noDat).getD default).2.1 ((o3_2 a d g l (m7 a d g).1 (m7 a d g).2.1 0 0 noDat).getD default).2.2).1 (m8rb a d ((o3_2 a d g l (m7 a d g).1 (m7 a d g).2.1 0 0 noDat).getD default).1 ((o3_2 a d g l (m7 a d g).1 (m7 a d g).2.1 0 0 noDat).getD default).2.1 ((o3_2 a d g l (m7 a d g).1 (m7 a d g).2.1 0 0 noDat).getD default).2.2).2.2.2.2.2 g)
 (R (.bool (bif (decide ((m9 a d (m8rb a d ((o3_2 a d g l (m7 a d g).1 (m7 a d g).2.1 0 0 noDat).getD default).1 ((o3_2 a d g l (m7 a d g).1 (m7 a d g).2.1 0 0 noDat).getD default).2.1 ((o3_2 a d g l (m7 a d g).1 (m7 a d g).2.1 0 0 noDat).getD default).2.2).1 (m8rb a d ((o3_2 a d g l (m7 a d g).1 (m7 a d g).2.1 0 0 noDat).getD default).1 ((o3_2 a d g l (m7 a d g).1 (m7 a d g).2.1 0 0 noDat).getD default).2.1 ((o3_2 a d g l (m7 a d g).1 (m7 a d g).2.1 0 0 noDat).getD default).2.2).2.2.2.2.2 g).2 = 0)) then (bif (bif (m9 a d (m8rb a d ((o3_2 a d g l (m7 a d g).1 (m7 a d g).2.1 0 0 noDat).getD default).1 ((o3_2 a d g l (m7 a d g).1 (m7 a d g).2.1 0 0 noDat).getD default).2.1 ((o3_2 a d g l (m7 a d g).1 (m7 a d g).2.1 0 0 noDat).getD default).2.2).1 (m8rb a d ((o3_2 a d g l (m7 a d g).1 (m7 a d g).2.1 0 0 noDat).getD default).1 ((o3_2 a d g l (m7 a d g).1 (m7 a d g).2.1 0 0 noDat).getD default).2.1 ((o3_2 a d g l (m7 a d g).1 (m7 a d g).2.1 0 0 noDat).getD default).2.2).2.2.2.2.2 g).1 then false else true) then true else (decide ((↑((m7 a d g).1) : Int) ≤ (↑(((o3_2 a d g l (m7 a d g).1 (m7 a d g).2.1 0 0 noDat).getD default).1) : Int)))) else false)) [] [])
                     False)
                    False))
                  False)))
               False))
             False))
           False))
         False) ∨
        (False ∨
         False)))
      False))
    False))
  False) := by kernel_rfl
noncomputable def m3 (a : Nat) (d : Dat) (g l : Int) : Bool :=
  (cond (bif m4 then false else true) false (cond (bif (bif (decide ((10 : Int) < (↑a : Int))) then true else (bif (decide ((m5 a d) = 0)) then false else true)) then true else (bif (m6 g 0 30000) then false else true)) true (cond (bif (bif (decide ((m7 a d g).2.2.2.2 = 0)) then false else true) then true else (decide ((↑a : Int) < (↑((m7 a d g).1) : Int)))) false (cond (bif (m8 a d (m7 a d g).1 (m7 a d g).2.1).2.2 then false else true) false (cond (bif (bif (decide ((m9 a d (m8 a d (m7 a d g).1 (m7 a d g).2.1).1 (m8 a d (m7 a d g).1 (m7 a d g).2.1).2.1 g).2 = 0)) then false else true) then true else (bif (m9 a d (m8 a d (m7 a d g).1 (m7 a d g).2.1).1 (m8 a d (m7 a d g).1 (m7 a d g).2.1).2.1 g).1 then false else true)) false (cond ((o3_0 a d g l (m7 a d g).1 (m7 a d g).2.1 (m8 a d (m7 a d g).1 (m7 a d g).2.1).1 (m8 a d (m7 a d g).1 (m7 a d g).2.1).2.1 0).getD default).1 ((o3_0 a d g l (m7 a d g).1 (m7 a d g).2.1 (m8 a d (m7 a d g).1 (m7 a d g).2.1).1 (m8 a d (m7 a d g).1 (m7 a d g).2.1).2.1 0).getD default).2.1 (cond (n8ra a d ((o3_2 a d g l (m7 a d g).1 (m7 a d g).2.1 0 0 noDat).getD default).1 ((o3_2 a d g l (m7 a d g).1 (m7 a d g).2.1 0 0 noDat).getD default).2.1 ((o3_2 a d g l (m7 a d g).1 (m7 a d g).2.1 0 0 noDat).getD default).2.2) (cond (bif (m8ra a d ((o3_2 a d g l (m7 a d g).1 (m7 a d g).2.1 0 0 noDat).getD default).1 ((o3_2 a d g l (m7 a d g).1 (m7 a d g).2.1 0 0 noDat).getD default).2.1 ((o3_2 a d g l (m7 a d g).1 (m7 a d g).2.1 0 0 noDat).getD default).2.2).1 then false else true) false (bif (decide ((m9 a d 0 noDat g).2 = 0)) then (bif (bif (m9 a d 0 noDat g).1 then false else true) then true else (decide ((↑((m7 a d g).1) : Int) ≤ (↑(((o3_2 a d g l (m7 a d g).1 (m7 a d g).2.1 0 0 noDat).getD default).1) : Int)))) else false)) (cond (bif (m8rb a d ((o3_2 a d g l (m7 a d g).1 (m7 a d g).2.1 0 0 noDat).getD default).1 ((o3_2 a d g l (m7 a d g).1 (m7 a d g).2.1 0 0 noDat).getD default).2.1 ((o3_2 a d g l (m7 a d g).1 (m7 a d g).2.1 0 0 noDat).getD default).2.2).2.1 then false else true) false (bif (decide ((m9 a d (m8rb a d ((o3_2 a d g l (m7 a d g).1 (m7 a d g).2.1 0 0 noDat).getD default).1 ((o3_2 a d g l (m7 a d g).1 (m7 a d g).2.1 0 0 noDat).getD default).2.1 ((o3_2 a d g l (m7 a d g).1 (m7 a d g).2.1 0 0 noDat).getD default).2.2).1 (m8rb a d ((o3_2 a d g l (m7 a d g).1 (m7 a d g).2.1 0 0 noDat).getD default).1 ((o3_2 a d g l (m7 a d g).1 (m7 a d g).2.1 0 0 noDat).getD default).2.1 ((o3_2 a d g l (m7 a d g).1 (m7 a d g).2.1 0 0 noDat).getD default).2.2).2.2.2.2.2 g).2 = 0)) then (bif (bif (m9 a d (m8rb a d ((o3_2 a d g l (m7 a d g).1 (m7 a d g).2.1 0 0 noDat).getD default).1 ((o3_2 a d g l (m7 a d g).1 (m7 a d g).2.1 0 0 noDat).getD default).2.1 ((o3_2 a d g l (m7 a d g).1 (m7 a d g).2.1 0 0 noDat).getD default).2.2).1 (m8rb a d ((o3_2 a d g l (m7 a d g).1 (m7 a d g).2.1 0 0 noDat).getD default).1 ((o3_2 a d g l (m7 a d g).1 (m7 a d g).2.1 0 0 noDat).getD default).2.1 ((o3_2 a d g l (m7 a d g).1 (m7 a d g).2.1 0 0 noDat).getD default).2.2).2.2.2.2.2 g).1 then false else true) then true else (decide ((↑((m7 a d g).1) : Int) ≤ (↑(((o3_2 a d g l (m7 a d g).1 (m7 a d g).2.1 0 0 noDat).getD default).1) : Int)))) else false)))))))))
noncomputable def n3 (a : Nat) (d : Dat) (g l : Int) : Bool :=
  ((n4) && (cond (bif m4 then false else true) true ((bif (bif (bif (decide ((10 : Int) < (↑a : Int))) then false else true) then false else true) then true else (n5 a d)) && (cond (bif (bif (decide ((10 : Int) < (↑a : Int))) then true else (bif (decide ((m5 a d) = 0)) then false else true)) then true else (bif (m6 g 0 30000) then false else true)) true ((n7 a d g) && (cond (bif (bif (decide ((m7 a d g).2.2.2.2 = 0)) then false else true) then true else (decide ((↑a : Int) < (↑((m7 a d g).1) : Int)))) true ((n8 a d (m7 a d g).1 (m7 a d g).2.1) && (cond (bif (m8 a d (m7 a d g).1 (m7 a d g).2.1).2.2 then false else true) true ((n9 a d (m8 a d (m7 a d g).1 (m7 a d g).2.1).1 (m8 a d (m7 a d g).1 (m7 a d g).2.1).2.1 g) && (cond (bif (bif (decide ((m9 a d (m8 a d (m7 a d g).1 (m7 a d g).2.1).1 (m8 a d (m7 a d g).1 (m7 a d g).2.1).2.1 g).2 = 0)) then false else true) then true else (bif (m9 a d (m8 a d (m7 a d g).1 (m7 a d g).2.1).1 (m8 a d (m7 a d g).1 (m7 a d g).2.1).2.1 g).1 then false else true)) true (((o3_0 a d g l (m7 a d g).1 (m7 a d g).2.1 (m8 a d (m7 a d g).1 (m7 a d g).2.1).1 (m8 a d (m7 a d g).1 (m7 a d g).2.1).2.1 0).isSome) && (cond ((o3_0 a d g l (m7 a d g).1 (m7 a d g).2.1 (m8 a d (m7 a d g).1 (m7 a d g).2.1).1 (m8 a d (m7 a d g).1 (m7 a d g).2.1).2.1 0).getD default).1 true (((o3_2 a d g l (m7 a d g).1 (m7 a d g).2.1 0 0 noDat).isSome) && (cond (n8ra a d ((o3_2 a d g l (m7 a d g).1 (m7 a d g).2.1 0 0 noDat).getD default).1 ((o3_2 a d g l (m7 a d g).1 (m7 a d g).2.1 0 0 noDat).getD default).2.1 ((o3_2 a d g l (m7 a d g).1 (m7 a d g).2.1 0 0 noDat).getD default).2.2) ((n8ra a d ((o3_2 a d g l (m7 a d g).1 (m7 a d g).2.1 0 0 noDat).getD default).1 ((o3_2 a d g l (m7 a d g).1 (m7 a d g).2.1 0 0 noDat).getD default).2.1 ((o3_2 a d g l (m7 a d g).1 (m7 a d g).2.1 0 0 noDat).getD default).2.2) && (cond (bif (m8ra a d ((o3_2 a d g l (m7 a d g).1 (m7 a d g).2.1 0 0 noDat).getD default).1 ((o3_2 a d g l (m7 a d g).1 (m7 a d g).2.1 0 0 noDat).getD default).2.1 ((o3_2 a d g l (m7 a d g).1 (m7 a d g).2.1 0 0 noDat).getD default).2.2).1 then false else true) true ((n9 a d 0 noDat g) && true))) ((n8rb a d ((o3_2 a d g l (m7 a d g).1 (m7 a d g).2.1 0 0 noDat).getD default).1 ((o3_2 a d g l (m7 a d g).1 (m7 a d g).2.1 0 0 noDat).getD default).2.1 ((o3_2 a d g l (m7 a d g).1 (m7 a d g).2.1 0 0 noDat).getD default).2.2) && (cond (bif (m8rb a d ((o3_2 a d g l (m7 a d g).1 (m7 a d g).2.1 0 0 noDat).getD default).1 ((o3_2 a d g l (m7 a d g).1 (m7 a d g).2.1 0 0 noDat).getD default).2.1 ((o3_2 a d g l (m7 a d g).1 (m7 a d g).2.1 0 0 noDat).getD default).2.2).2.1 then false else true) true ((decide ((0 + (m8rb a d ((o3_2 a d g l (m7 a d g).1 (m7 a d g).2.1 0 0 noDat).getD default).1 ((o3_2 a d g l (m7 a d g).1 (m7 a d g).2.1 0 0 noDat).getD default).2.1 ((o3_2 a d g l (m7 a d g).1 (m7 a d g).2.1 0 0 noDat).getD default).2.2).1) ≤ (m8rb a d ((o3_2 a d g l (m7 a d g).1 (m7 a d g).2.1 0 0 noDat).getD default).1 ((o3_2 a d g l (m7 a d g).1 (m7 a d g).2.1 0 0 noDat).getD default).2.1 ((o3_2 a d g l (m7 a d g).1 (m7 a d g).2.1 0 0 noDat).getD default).2.2).2.2.2.2.1)) && ((n9 a d (m8rb a d ((o3_2 a d g l (m7 a d g).1 (m7 a d g).2.1 0 0 noDat).getD default).1 ((o3_2 a d g l (m7 a d g).1 (m7 a d g).2.1 0 0 noDat).getD default).2.1 ((o3_2 a d g l (m7 a d g).1 (m7 a d g).2.1 0 0 noDat).getD default).2.2).1 (m8rb a d ((o3_2 a d g l (m7 a d g).1 (m7 a d g).2.1 0 0 noDat).getD default).1 ((o3_2 a d g l (m7 a d g).1 (m7 a d g).2.1 0 0 noDat).getD default).2.1 ((o3_2 a d g l (m7 a d g).1 (m7 a d g).2.1 0 0 noDat).getD default).2.2).2.2.2.2.2 g) && true))))))))))))))))))
noncomputable def q3 (r : Bool) : SV × List Blk × List Blk := (.bool r, [], [])
noncomputable def g3 : GF := fun vs bs => match vs, bs with
  | [.ro [W Z, W Z] a d, V Z g, V Z l], [] => some (rs 0 (q3 (m3 a d g l)) [n3 a d g l])
  | _, _ => none
noncomputable def c3 : Ctr := genC [.ro [W Z, W Z], .k, .k] g3
theorem p3 (a : Nat) (d : Dat) (g l : Int) (hn : n3 a d g l = true) : exec Try.prog [(4, c4), (5, c5), (6, c6), (7, c7), (8, c8), (8, c8ra), (8, c8rb), (9, c9), (10, c10), (11, c11)] (lamOf [(0, g3_0), (2, g3_2)]) 8 (Try.f3.body.getD .skip) (initS Try.f3.ntmps [.ro [W Z, W Z] a d, V Z g, V Z l] 0 (memOf [])) (retK Try.prog Try.f3.results.toList (outK 0 (List.range 0) [] (.k) fun v U N => (v, U, N) = (q3 (m3 a d g l)))) :=
  propOf (x3 a d g l _) (cn (al hn) (co (fun h0 => lf (cT h0 rfl) rfl) (fun h0 => cn (al (cf h0 (ar hn))) (co (fun h1 => lf (cF h0 (cT h1 rfl)) rfl) (fun h1 => cn (al (cf h1 (ar (cf h0 (ar hn))))) (co (fun h2 => lf (cF h0 (cF h1 (cT h2 rfl))) rfl) (fun h2 => Or.inl (cn (al (cf h2 (ar (cf h1 (ar (cf h0 (ar hn))))))) (co (fun h3 => lf (cF h0 (cF h1 (cF h2 (cT h3 rfl)))) rfl) (fun h3 => cn (al (cf h3 (ar (cf h2 (ar (cf h1 (ar (cf h0 (ar hn))))))))) (co (fun h4 => lf (cF h0 (cF h1 (cF h2 (cF h3 (cT h4 rfl))))) rfl) (fun h4 => cn (al (cf h4 (ar (cf h3 (ar (cf h2 (ar (cf h1 (ar (cf h0 (ar hn))))))))))) (co (fun h5 => lf (cF h0 (cF h1 (cF h2 (cF h3 (cF h4 (cT h5 rfl)))))) rfl) (fun h5 => cn (al (cf h5 (ar (cf h4 (ar (cf h3 (ar (cf h2 (ar (cf h1 (ar (cf h0 (ar hn))))))))))))) (Or.inr (or_of (b := (n8ra a d ((o3_2 a d g l (m7 a d g).1 (m7 a d g).2.1 0 0 noDat).getD default).1 ((o3_2 a d g l (m7 a d g).1 (m7 a d g).2.1 0 0 noDat).getD default).2.1 ((o3_2 a d g l (m7 a d g).1 (m7 a d g).2.1 0 0 noDat).getD default).2.2)) (fun h6 => cn (al (ct h6 (ar (cf h5 (ar (cf h4 (ar (cf h3 (ar (cf h2 (ar (cf h1 (ar (cf h0 (ar hn))))))))))))))) (co (fun h7 => lf (cF h0 (cF h1 (cF h2 (cF h3 (cF h4 (cF h5 (cT h6 (cT h7 rfl)))))))) rfl) (fun h7 => cn (al (cf h7 (ar (ct h6 (ar (cf h5 (ar (cf h4 (ar (cf h3 (ar (cf h2 (ar (cf h1 (ar (cf h0 (ar hn))))))))))))))))) (lf (cF h0 (cF h1 (cF h2 (cF h3 (cF h4 (cF h5 (cT h6 (cF h7 rfl)))))))) rfl)))) (fun h6 => cn (al (cf h6 (ar (cf h5 (ar (cf h4 (ar (cf h3 (ar (cf h2 (ar (cf h1 (ar (cf h0 (ar hn))))))))))))))) (co (fun h7 => lf (cF h0 (cF h1 (cF h2 (cF h3 (cF h4 (cF h5 (cF h6 (cT h7 rfl)))))))) rfl) (fun h7 => cn (al (cf h7 (ar (cf h6 (ar (cf h5 (ar (cf h4 (ar (cf h3 (ar (cf h2 (ar (cf h1 (ar (cf h0 (ar hn))))))))))))))))) (cn (al (ar (cf h7 (ar (cf h6 (ar (cf h5 (ar (cf h4 (ar (cf h3 (ar (cf h2 (ar (cf h1 (ar (cf h0 (ar hn)))))))))))))))))) (lf (cF h0 (cF h1 (cF h2 (cF h3 (cF h4 (cF h5 (cF h6 (cF h7 rfl)))))))) rfl)))))))))))))))))))))
theorem k3 : CtrOk Try.prog c3 3 := cx (tc k4 (tc k5 (tc k6 (tc k7 (tc k8 (tc k8ra (tc k8rb (tc k9 (tc k10 (tc k11 tn)))))))))) mix_ok 8 (fn := Try.f3) (c := (Try.f3.body.getD .skip)) (grs := []) (rh := .k) Try.func3 rfl (by kernel_rfl) (lam_of rfl (lc z3_0 (lc z3_2 ln))) fun vs bs q h hn => by
  unfold g3 at h
  split at h <;> cases h
  exact ⟨_, rfl, p3 _ _ _ _ (hn _ (List.mem_singleton.2 rfl))⟩
end Go.Proofs.Ytchhhoamnagbfaa
