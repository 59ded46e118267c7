/-
 Contracts of functions: models, equations by the kernel, contracts. Conditions: none.
-/
import Derived.Test.YtmndejpcpfkajaaB8
import Derived.KernelRfl
namespace Go.Proofs.Ytmndejpcpfkajaa
open Go Go.Sy
noncomputable section
set_option linter.unusedVariables false
set_option linter.unusedSimpArgs false
set_option maxRecDepth 100000
set_option maxHeartbeats 2000000
attribute [local irreducible] Go.IntKind.wrap Int.tdiv Int.tmod Int.fdiv
open Go.Sy renaming tabOk_cons → tc, tabOk_nil → tn, cnd_need → cn, leaf_of → lf, cnd_gg → cg, cnd_gg2 → ch, cond_f → cf, cond_t → ct, cnd_of → co, callOf → ca, roundOf → ro, cnd_not → nn, lams_cons → lc, lams_nil → ln, condT → cT, condF → cF, need1 → n1, resOf → rs, and_l → al, and_r → ar, or_gg → og, ctr_of → cx, loop_blk → lb
open Go.IntKind renaming i64 → Z
open Go.Sy.SV renaming int → V
open Go.Sy.Kd renaming int → W
/-! ### shotline/gas.sumOf -/
def l102_0 (d : Nat) (a : Dat) (v g i j l : Int) : Nat → Int → Int → Int → Int → Int → Option (Int × Int × Int × Int)
 | 0, _, _, _, _, _ => none
 | f + 1, b, n, o, p, t => (cond (decide (b < v)) (cond (decide (0 ≤ b ∧ b < ↑d)) (l102_0 d a v g i j l f (Z.wrap (b + 1)) (Z.wrap (n + (a.ii b.toNat 2))) (Z.wrap (o + (Z.wrap ((m141 (a.ii b.toNat 0) (a.ii b.toNat 1)).1 * (a.ii b.toNat 2))))) (Z.wrap (p + (Z.wrap ((m141 (a.ii b.toNat 0) (a.ii b.toNat 1)).2.1 * (a.ii b.toNat 2))))) (Z.wrap (t + (Z.wrap ((m141 (a.ii b.toNat 0) (a.ii b.toNat 1)).2.2 * (a.ii b.toNat 2)))))) none) (some (n, o, p, t)))
abbrev o102_0 (d : Nat) (a : Dat) (v g i j l b n o p t : Int) : Option (Int × Int × Int × Int) := l102_0 d a v g i j l (d + v.toNat + b.toNat + g.toNat + i.toNat + j.toNat + l.toNat + n.toNat + o.toNat + p.toNat + t.toNat + 8) b n o p t
def e102_0 (d : Nat) (a : Dat) (v g i j l : Int) (r : Int × Int × Int × Int) (K : XR) : Prop := K (XE.exit 0) [.ptr 0 0, .ptr 1 0] [.cells 179 [V Z g, V Z i, V Z j, V Z l], .cells 179 [V Z r.1, V Z r.2.1, V Z r.2.2.1, V Z r.2.2.2]]
def g102_0 : LSum := fun s k => match czv 0 41 [2, 3, 8, 9, 10] 2 [] s with
 | some ([.ptr 0 0, .ptr 1 0, .ro [W Z, W Z, W Z] d a, V Z v, V Z b], [.cells 179 [V Z g, V Z i, V Z j, V Z l], .cells 179 [V Z n, V Z o, V Z p, V Z t]]) => needs [(o102_0 d a v g i j l b n o p t).isSome] (e102_0 d a v g i j l ((o102_0 d a v g i j l b n o p t).getD default) fun e vs bs => inBlk 0 k e (mkSt 0 41 [2, 3] vs 2 bs))
 | _ => False
theorem z102_0 : LOk Try.prog g102_0 (.block 0 (bodyAt (Try.f102.body.getD .skip) 0)) := by
 refine lb (ι := Nat × Dat × Int × Int × Int × Int × Int × Int × Int × Int × Int × Int) (fuel := 8) (na := 0) (nt := 41) (nx := 2) (Lh := [2, 3, 8, 9, 10]) (Le := [2, 3]) (gl := []) (tc k141 tn) mix_ok noLam rfl (fun f (d, a, v, b, g, i, j, l, n, o, p, t) K => GG default (e102_0 d a v g i j l) K (l102_0 d a v g i j l f b n o p t)) (fun (d, a, v, b, g, i, j, l, n, o, p, t) => [.ptr 0 0, .ptr 1 0, .ro [W Z, W Z, W Z] d a, V Z v, V Z b]) (fun (d, a, v, b, g, i, j, l, n, o, p, t) => [.cells 179 [V Z g, V Z i, V Z j, V Z l], .cells 179 [V Z n, V Z o, V Z p, V Z t]]) (fun (_, _, _, _, _, _, _, _, _, _, _, _) K => gg_none) ?_ ?_
 ·rintro f ⟨d, a, v, b, g, i, j, l, n, o, p, t⟩ K hG
  refine ro (fun R => 
 let a0 := (m141 (a.ii b.toNat 0) (a.ii b.toNat 1))
 (cnd (decide (b < v))
 (cnd (decide (0 ≤ b ∧ b < ↑d))
 (R (XE.normal) [.ptr 0 0, .ptr 1 0, .ro [W Z, W Z, W Z] d a, V Z v, V Z (Z.wrap (b + 1))] [.cells 179 [V Z g, V Z i, V Z j, V Z l], .cells 179 [V Z (Z.wrap (n + (a.ii b.toNat 2))), V Z (Z.wrap (o + (Z.wrap (a0.1 * (a.ii b.toNat 2))))), V Z (Z.wrap (p + (Z.wrap (a0.2.1 * (a.ii b.toNat 2))))), V Z (Z.wrap (t + (Z.wrap (a0.2.2 * (a.ii b.toNat 2)))))]])
  False)
 (R (XE.exit 0) [.ptr 0 0, .ptr 1 0] [.cells 179 [V Z g, V Z i, V Z j, V Z l], .cells 179 [V Z n, V Z o, V Z p, V Z t]]))) (fun R => by kernel_rfl) ?_
  exact ch hG (fun h0 => cg h0 fun h1 => ⟨(_, _, _, _, _, _, _, _, _, _, _, _), rfl, rfl, h1⟩) (fun h0 => h0.2)
 ·intro s k h
  unfold g102_0 at h
  split at h <;> try exact h.elim
  rename_i e1
  rw [needs_iff] at h
  exact ⟨_, e1, _, (_, _, _, _, _, _, _, _, _, _, _, _), rfl, rfl, h.1 _ (List.mem_singleton.2 rfl), h.2⟩
def m102 (m : Nat) (u : Dat) : Int × Int × Int × Int :=
 (((o102_0 m u (↑m : Int) 0 0 0 0 0 0 0 0 0).getD default).1, ((o102_0 m u (↑m : Int) 0 0 0 0 0 0 0 0 0).getD default).2.1, ((o102_0 m u (↑m : Int) 0 0 0 0 0 0 0 0 0).getD default).2.2.1, ((o102_0 m u (↑m : Int) 0 0 0 0 0 0 0 0 0).getD default).2.2.2)
def n102 (m : Nat) (u : Dat) : Bool :=
 (((o102_0 m u (↑m : Int) 0 0 0 0 0 0 0 0 0).isSome) && true)
def q102 (r : Int × Int × Int × Int) : SV × List Blk × List Blk := (.agg [V Z r.1, V Z r.2.1, V Z r.2.2.1, V Z r.2.2.2], [], [])
def g102 : GF := fun vs bs => match vs, bs with
 | [.ro [W Z, W Z, W Z] m u], [] => some (rs 0 (q102 (m102 m u)) [n102 m u])
 | _, _ => none
def c102 : Ctr := genC [.ro [W Z, W Z, W Z]] g102
theorem k102 : CtrOk Try.prog c102 102 := cx (tc k141 tn) mix_ok 8 (fn := Try.f102) (c := (Try.f102.body.getD .skip)) (grs := []) (rh := .k) Try.func102 rfl (by kernel_rfl) (lam_of rfl (lc z102_0 ln)) fun vs bs q h hn => by
 unfold g102 at h
 split at h <;> cases h
 rename_i m u
 have hn := n1 hn
 exact ⟨_, rfl, ca (fun R => (cnd ((o102_0 m u (↑m : Int) 0 0 0 0 0 0 0 0 0).isSome)
 (R (.agg [V Z ((o102_0 m u (↑m : Int) 0 0 0 0 0 0 0 0 0).getD default).1, V Z ((o102_0 m u (↑m : Int) 0 0 0 0 0 0 0 0 0).getD default).2.1, V Z ((o102_0 m u (↑m : Int) 0 0 0 0 0 0 0 0 0).getD default).2.2.1, V Z ((o102_0 m u (↑m : Int) 0 0 0 0 0 0 0 0 0).getD default).2.2.2]) [] [])
 False)) (fun R => by kernel_rfl) (cn (al hn) (lf rfl rfl))⟩
/-! ### shotline/gas.CheckParts -/
def l101_0 (d : Nat) (i a : Dat) (l : Int) : Nat → Int → Option (Bool × (Int) × (Unit))
 | 0, _ => none
 | f + 1, b => (cond (decide (b < l)) (cond (decide (0 ≤ b ∧ b < ↑d)) (cond (n88 (a.ii b.toNat 0) (a.ii b.toNat 1)) (cond (n132 2 (datS [V Z (m88 (a.ii b.toNat 0) (a.ii b.toNat 1)), V Z (m133 (a.ii b.toNat 2) 0 1000000000)] 1)) (cond (bif (decide ((m132 2 (datS [V Z (m88 (a.ii b.toNat 0) (a.ii b.toNat 1)), V Z (m133 (a.ii b.toNat 2) 0 1000000000)] 1)) = 0)) then false else true) (some (true, (m132 2 (datS [V Z (m88 (a.ii b.toNat 0) (a.ii b.toNat 1)), V Z (m133 (a.ii b.toNat 2) 0 1000000000)] 1)), default)) (l101_0 d i a l f (Z.wrap (b + 1)))) none) none) none) (some (false, default, ())))
abbrev o101_0 (d : Nat) (i a : Dat) (l b : Int) : Option (Bool × (Int) × (Unit)) := l101_0 d i a l (d + l.toNat + b.toNat + 8) b
def e101_0 (d : Nat) (i a : Dat) (l : Int) (r : Bool × (Int) × (Unit)) (K : XR) : Prop := cnd r.1 (K (XE.ret) [.ro [W Z, W Z, W Z] d i, V Z r.2.1] []) (K (XE.exit 0) [.ro [W Z, W Z, W Z] d i, .any] [])
def g101_0 : LSum := fun s k => match czv 0 31 [0, 9, 10, 11] 0 [] s with
 | some ([.ro [W Z, W Z, W Z] d i, .ro [W Z, W Z, W Z] t9_0 a, V Z l, V Z b], []) => needs [decide (d = t9_0), (o101_0 d i a l b).isSome] (e101_0 d i a l ((o101_0 d i a l b).getD default) fun e vs bs => inBlk 0 k e (mkSt 0 31 [0, 2] vs 0 bs))
 | _ => False
theorem z101_0 : LOk Try.prog g101_0 (.block 0 (bodyAt (Try.f101.body.getD .skip) 0)) := by
 refine lb (ι := Nat × Dat × Dat × Int × Int) (fuel := 8) (na := 0) (nt := 31) (nx := 0) (Lh := [0, 9, 10, 11]) (Le := [0, 2]) (gl := []) (tc k88 (tc k102 (tc k132 (tc k133 tn)))) mix_ok noLam rfl (fun f (d, i, a, l, b) K => GG default (e101_0 d i a l) K (l101_0 d i a l f b)) (fun (d, i, a, l, b) => [.ro [W Z, W Z, W Z] d i, .ro [W Z, W Z, W Z] d a, V Z l, V Z b]) (fun (d, i, a, l, b) => []) (fun (_, _, _, _, _) K => gg_none) ?_ ?_
 ·rintro f ⟨d, i, a, l, b⟩ K hG
  refine ro (fun R => 
 let a0 := (datS [V Z (m88 (a.ii b.toNat 0) (a.ii b.toNat 1)), V Z (m133 (a.ii b.toNat 2) 0 1000000000)] 1)
 (cnd (decide (b < l))
 (cnd (decide (0 ≤ b ∧ b < ↑d))
 (cnd (n88 (a.ii b.toNat 0) (a.ii b.toNat 1))
 (cnd (n132 2 a0)
 (cnd (bif (decide ((m132 2 a0) = 0)) then false else true)
 (R (XE.ret) [.ro [W Z, W Z, W Z] d i, V Z (m132 2 a0)] [])
 (R (XE.normal) [.ro [W Z, W Z, W Z] d i, .ro [W Z, W Z, W Z] d a, V Z l, V Z (Z.wrap (b + 1))] []))
   False)
  False)
  False)
 (R (XE.exit 0) [.ro [W Z, W Z, W Z] d i, .any] []))) (fun R => by kernel_rfl) ?_
  exact ch hG (fun h0 => cg h0 fun h1 => cg h1 fun h2 => cg h2 fun h3 => ch h3 (fun h4 => h4.2) (fun h4 => ⟨(_, _, _, _, _), rfl, rfl, h4⟩)) (fun h0 => h0.2)
 ·intro s k h
  unfold g101_0 at h
  split at h <;> try exact h.elim
  rename_i e1
  rw [needs_iff] at h
  have hq := h.1
  simp only [List.mem_cons, forall_eq_or_imp, decide_eq_true_eq, List.not_mem_nil, false_imp_iff, implies_true, and_true] at hq
  obtain ⟨rfl, hq⟩ := hq
  exact ⟨_, e1, _, (_, _, _, _, _), rfl, rfl, hq, h.2⟩
def m101 (g : Nat) (j : Dat) : Int :=
 (cond (decide (12 < (↑g : Int))) 8 (cond ((o101_0 g j j (↑g : Int) 0).getD default).1 ((o101_0 g j j (↑g : Int) 0).getD default).2.1 (cond (decide ((m102 g j).1 = 0)) 11 0)))
def n101 (g : Nat) (j : Dat) : Bool :=
 (cond (decide (12 < (↑g : Int))) true (((o101_0 g j j (↑g : Int) 0).isSome) && (cond ((o101_0 g j j (↑g : Int) 0).getD default).1 true ((n102 g j) && true))))
def q101 (r : Int) : SV × List Blk × List Blk := (V Z r, [], [])
def g101 : GF := fun vs bs => match vs, bs with
 | [.ro [W Z, W Z, W Z] g j], [] => some (rs 0 (q101 (m101 g j)) [n101 g j])
 | _, _ => none
def c101 : Ctr := genC [.ro [W Z, W Z, W Z]] g101
theorem k101 : CtrOk Try.prog c101 101 := cx (tc k88 (tc k102 (tc k132 (tc k133 tn)))) mix_ok 8 (fn := Try.f101) (c := (Try.f101.body.getD .skip)) (grs := []) (rh := .k) Try.func101 rfl (by kernel_rfl) (lam_of rfl (lc z101_0 ln)) fun vs bs q h hn => by
 unfold g101 at h
 split at h <;> cases h
 rename_i g j
 have hn := n1 hn
 exact ⟨_, rfl, ca (fun R => (cnd (decide (12 < (↑g : Int)))
 (R (V Z 8) [] [])
 (cnd (decide (g = g))
 (cnd ((o101_0 g j j (↑g : Int) 0).isSome)
 (cnd ((o101_0 g j j (↑g : Int) 0).getD default).1
 (R (V Z ((o101_0 g j j (↑g : Int) 0).getD default).2.1) [] [])
 (cnd (n102 g j)
 (cnd (decide ((m102 g j).1 = 0))
 (R (V Z 11) [] [])
 (R (V Z 0) [] []))
   False))
  False)
  False))) (fun R => by kernel_rfl) (co (fun h0 => lf (cT h0 rfl) rfl) (fun h0 => cn (decide_eq_true rfl) (cn (al (cf h0 hn)) (co (fun h1 => lf (cF h0 (cT h1 rfl)) rfl) (fun h1 => cn (al (cf h1 (ar (cf h0 hn)))) (co (fun h2 => lf (cF h0 (cF h1 (cT h2 rfl))) rfl) (fun h2 => lf (cF h0 (cF h1 (cF h2 rfl))) rfl)))))))⟩
/-! ### shotline/gas.Mixed -/
def m43 (a : Nat) (b : Dat) : Int × Int × Int × Int × Int × Int × Int :=
 (cond (bif (decide ((m101 a b) = 0)) then false else true) (0, 0, 0, 0, 0, 0, (m101 a b)) (cond (bif (decide ((1000000000 : Int) < (Z.wrap ((m102 a b).2.1.tdiv (m103 (m102 a b).2.1 (Z.wrap (1000 * (m102 a b).1))))))) then true else (decide ((1000000000 : Int) < (Z.wrap ((Z.wrap (1000 * (m102 a b).1)).tdiv (m103 (m102 a b).2.1 (Z.wrap (1000 * (m102 a b).1)))))))) (0, 0, 0, 0, 0, 0, 8) (cond (bif (decide ((1000000000 : Int) < (Z.wrap ((m102 a b).2.2.1.tdiv (m103 (m102 a b).2.2.1 (Z.wrap (1000 * (m102 a b).1))))))) then true else (decide ((1000000000 : Int) < (Z.wrap ((Z.wrap (1000 * (m102 a b).1)).tdiv (m103 (m102 a b).2.2.1 (Z.wrap (1000 * (m102 a b).1)))))))) (0, 0, 0, 0, 0, 0, 8) (cond (bif (decide ((1000000000 : Int) < (Z.wrap ((m102 a b).2.2.2.tdiv (m103 (m102 a b).2.2.2 (Z.wrap (1000 * (m102 a b).1))))))) then true else (decide ((1000000000 : Int) < (Z.wrap ((Z.wrap (1000 * (m102 a b).1)).tdiv (m103 (m102 a b).2.2.2 (Z.wrap (1000 * (m102 a b).1)))))))) (0, 0, 0, 0, 0, 0, 8) ((Z.wrap ((m102 a b).2.1.tdiv (m103 (m102 a b).2.1 (Z.wrap (1000 * (m102 a b).1))))), (Z.wrap ((Z.wrap (1000 * (m102 a b).1)).tdiv (m103 (m102 a b).2.1 (Z.wrap (1000 * (m102 a b).1))))), (Z.wrap ((m102 a b).2.2.1.tdiv (m103 (m102 a b).2.2.1 (Z.wrap (1000 * (m102 a b).1))))), (Z.wrap ((Z.wrap (1000 * (m102 a b).1)).tdiv (m103 (m102 a b).2.2.1 (Z.wrap (1000 * (m102 a b).1))))), (Z.wrap ((m102 a b).2.2.2.tdiv (m103 (m102 a b).2.2.2 (Z.wrap (1000 * (m102 a b).1))))), (Z.wrap ((Z.wrap (1000 * (m102 a b).1)).tdiv (m103 (m102 a b).2.2.2 (Z.wrap (1000 * (m102 a b).1))))), 0)))))
def n43 (a : Nat) (b : Dat) : Bool :=
 ((n101 a b) && (cond (bif (decide ((m101 a b) = 0)) then false else true) true ((n102 a b) && ((n103 (m102 a b).2.1 (Z.wrap (1000 * (m102 a b).1))) && ((bif (decide ((m103 (m102 a b).2.1 (Z.wrap (1000 * (m102 a b).1))) = 0)) then false else true) && ((bif (decide ((m103 (m102 a b).2.1 (Z.wrap (1000 * (m102 a b).1))) = 0)) then false else true) && ((bif (bif (bif (decide ((1000000000 : Int) < (Z.wrap ((m102 a b).2.1.tdiv (m103 (m102 a b).2.1 (Z.wrap (1000 * (m102 a b).1))))))) then false else true) then false else true) then true else true) && (cond (bif (decide ((1000000000 : Int) < (Z.wrap ((m102 a b).2.1.tdiv (m103 (m102 a b).2.1 (Z.wrap (1000 * (m102 a b).1))))))) then true else (decide ((1000000000 : Int) < (Z.wrap ((Z.wrap (1000 * (m102 a b).1)).tdiv (m103 (m102 a b).2.1 (Z.wrap (1000 * (m102 a b).1)))))))) true ((n103 (m102 a b).2.2.1 (Z.wrap (1000 * (m102 a b).1))) && ((bif (decide ((m103 (m102 a b).2.2.1 (Z.wrap (1000 * (m102 a b).1))) = 0)) then false else true) && ((bif (decide ((m103 (m102 a b).2.2.1 (Z.wrap (1000 * (m102 a b).1))) = 0)) then false else true) && ((bif (bif (bif (decide ((1000000000 : Int) < (Z.wrap ((m102 a b).2.2.1.tdiv (m103 (m102 a b).2.2.1 (Z.wrap (1000 * (m102 a b).1))))))) then false else true) then false else true) then true else true) && (cond (bif (decide ((1000000000 : Int) < (Z.wrap ((m102 a b).2.2.1.tdiv (m103 (m102 a b).2.2.1 (Z.wrap (1000 * (m102 a b).1))))))) then true else (decide ((1000000000 : Int) < (Z.wrap ((Z.wrap (1000 * (m102 a b).1)).tdiv (m103 (m102 a b).2.2.1 (Z.wrap (1000 * (m102 a b).1)))))))) true ((n103 (m102 a b).2.2.2 (Z.wrap (1000 * (m102 a b).1))) && ((bif (decide ((m103 (m102 a b).2.2.2 (Z.wrap (1000 * (m102 a b).1))) = 0)) then false else true) && ((bif (decide ((m103 (m102 a b).2.2.2 (Z.wrap (1000 * (m102 a b).1))) = 0)) then false else true) && ((bif (bif (bif (decide ((1000000000 : Int) < (Z.wrap ((m102 a b).2.2.2.tdiv (m103 (m102 a b).2.2.2 (Z.wrap (1000 * (m102 a b).1))))))) then false else true) then false else true) then true else true) && true)))))))))))))))))
def q43 (r : Int × Int × Int × Int × Int × Int × Int) : SV × List Blk × List Blk := (.tup [.agg [V Z r.1, V Z r.2.1, V Z r.2.2.1, V Z r.2.2.2.1, V Z r.2.2.2.2.1, V Z r.2.2.2.2.2.1], V Z r.2.2.2.2.2.2], [], [])
def g43 : GF := fun vs bs => match vs, bs with
 | [.ro [W Z, W Z, W Z] a b], [] => some (rs 0 (q43 (m43 a b)) [n43 a b])
 | _, _ => none
def c43 : Ctr := genC [.ro [W Z, W Z, W Z]] g43
theorem k43 : CtrOk Try.prog c43 43 := cx (tc k101 (tc k102 (tc k103 tn))) mix_ok 8 (fn := Try.f43) (c := (Try.f43.body.getD .skip)) (grs := []) (rh := .k) Try.func43 rfl (by kernel_rfl) noLam fun vs bs q h hn => by
 unfold g43 at h
 split at h <;> cases h
 rename_i a b
 have hn := n1 hn
 exact ⟨_, rfl, ca (fun R => 
 let a0 := (Z.wrap (1000 * (m102 a b).1))
 let b0 := (m103 (m102 a b).2.2.1 a0)
 let c0 := (m103 (m102 a b).2.2.2 a0)
 let d0 := (m103 (m102 a b).2.1 a0)
 let e0 := (1000000000 : Int)
 let f0 := (.tup [.agg [V Z 0, V Z 0, V Z 0, V Z 0, V Z 0, V Z 0], V Z 8])
 let g0 := (Z.wrap ((m102 a b).2.2.1.tdiv b0))
 let h0 := (Z.wrap ((m102 a b).2.2.2.tdiv c0))
 let i0 := (Z.wrap ((m102 a b).2.1.tdiv d0))
 (cnd (n101 a b)
 (cnd (bif (decide ((m101 a b) = 0)) then false else true)
 (R (.tup [.agg [V Z 0, V Z 0, V Z 0, V Z 0, V Z 0, V Z 0], V Z (m101 a b)]) [] [])
 (cnd (n102 a b)
 (cnd (n103 (m102 a b).2.1 a0)
 (cnd (bif (decide (d0 = 0)) then false else true)
 (cnd (bif (decide (d0 = 0)) then false else true)
 (cnd (bif (bif (bif (decide (e0 < i0)) then false else true) then false else true) then true else true)
 (cnd (bif (decide (e0 < i0)) then true else (decide (e0 < (Z.wrap (a0.tdiv d0)))))
 (R f0 [] [])
 (cnd (n103 (m102 a b).2.2.1 a0)
 (cnd (bif (decide (b0 = 0)) then false else true)
 (cnd (bif (decide (b0 = 0)) then false else true)
 (cnd (bif (bif (bif (decide (e0 < g0)) then false else true) then false else true) then true else true)
 (cnd (bif (decide (e0 < g0)) then true else (decide (e0 < (Z.wrap (a0.tdiv b0)))))
 (R f0 [] [])
 (cnd (n103 (m102 a b).2.2.2 a0)
 (cnd (bif (decide (c0 = 0)) then false else true)
 (cnd (bif (decide (c0 = 0)) then false else true)
 (cnd (bif (bif (bif (decide (e0 < h0)) then false else true) then false else true) then true else true)
 (cnd (bif (decide (e0 < h0)) then true else (decide (e0 < (Z.wrap (a0.tdiv c0)))))
 (R f0 [] [])
 (R (.tup [.agg [V Z i0, V Z (Z.wrap (a0.tdiv d0)), V Z g0, V Z (Z.wrap (a0.tdiv b0)), V Z h0, V Z (Z.wrap (a0.tdiv c0))], V Z 0]) [] []))
         False)
         False)
        False)
        False))
       False)
      False)
      False)
     False))
    False)
    False)
   False)
   False)
  False))
 False)) (fun R => by kernel_rfl) (cn (al hn) (co (fun h0 => lf (cT h0 rfl) rfl) (fun h0 => cn (al (cf h0 (ar hn))) (cn (al (ar (cf h0 (ar hn)))) (cn (al (ar (ar (cf h0 (ar hn))))) (cn (al (ar (ar (ar (cf h0 (ar hn)))))) (cn (al (ar (ar (ar (ar (cf h0 (ar hn))))))) (co (fun h1 => lf (cF h0 (cT h1 rfl)) rfl) (fun h1 => cn (al (cf h1 (ar (ar (ar (ar (ar (cf h0 (ar hn))))))))) (cn (al (ar (cf h1 (ar (ar (ar (ar (ar (cf h0 (ar hn)))))))))) (cn (al (ar (ar (cf h1 (ar (ar (ar (ar (ar (cf h0 (ar hn))))))))))) (cn (al (ar (ar (ar (cf h1 (ar (ar (ar (ar (ar (cf h0 (ar hn)))))))))))) (co (fun h2 => lf (cF h0 (cF h1 (cT h2 rfl))) rfl) (fun h2 => cn (al (cf h2 (ar (ar (ar (ar (cf h1 (ar (ar (ar (ar (ar (cf h0 (ar hn)))))))))))))) (cn (al (ar (cf h2 (ar (ar (ar (ar (cf h1 (ar (ar (ar (ar (ar (cf h0 (ar hn))))))))))))))) (cn (al (ar (ar (cf h2 (ar (ar (ar (ar (cf h1 (ar (ar (ar (ar (ar (cf h0 (ar hn)))))))))))))))) (cn (al (ar (ar (ar (cf h2 (ar (ar (ar (ar (cf h1 (ar (ar (ar (ar (ar (cf h0 (ar hn))))))))))))))))) (co (fun h3 => lf (cF h0 (cF h1 (cF h2 (cT h3 rfl)))) rfl) (fun h3 => lf (cF h0 (cF h1 (cF h2 (cF h3 rfl)))) rfl)))))))))))))))))))⟩
/-! ### shotline/shotlinetop.TopFillMixed -/
def l5_0 (y : Nat) (z : Dat) (A C D E F G H I : Int) (J : Nat) (aa : Dat) (L : Int) (x : Nat) (Y : Dat) (M O P Q S T X : Int) : Nat → Nat → Int → Dat → Option (Nat × Nat × Dat)
 | 0, _, _, _ => none
 | f + 1, ea, oa, ba => (cond (decide (oa < (↑x : Int))) (cond (decide (0 ≤ oa ∧ oa < ↑y)) (cond (decide (0 ≤ oa ∧ oa < ↑x)) (cond (decide ((ea + 1) ≤ 1073741824)) (l5_0 y z A C D E F G H I J aa L x Y M O P Q S T X f (ea + 1) (Z.wrap (oa + 1)) (ba.app ea (datS [V Z (z.ii oa.toNat 1), V Z (z.ii oa.toNat 2), V Z (Y.ii oa.toNat 0)] 3))) none) none) none) (some (ea, ea, ba)))
abbrev o5_0 (y : Nat) (z : Dat) (A C D E F G H I : Int) (J : Nat) (aa : Dat) (L : Int) (x : Nat) (Y : Dat) (M O P Q S T X : Int) (ea : Nat) (oa : Int) (ba : Dat) : Option (Nat × Nat × Dat) := l5_0 y z A C D E F G H I J aa L x Y M O P Q S T X (ea + oa.toNat + y + A.toNat + C.toNat + D.toNat + E.toNat + F.toNat + G.toNat + H.toNat + I.toNat + J + L.toNat + x + M.toNat + O.toNat + P.toNat + Q.toNat + S.toNat + T.toNat + X.toNat + 8) ea oa ba
def e5_0 (y : Nat) (z : Dat) (A C D E F G H I : Int) (J : Nat) (aa : Dat) (L : Int) (x : Nat) (Y : Dat) (M O P Q S T X : Int) (r : Nat × Nat × Dat) (K : XR) : Prop := K (XE.exit 0) [.ptr 0 0, .gr 8 3 r.1] [.cells 65 [.ro [.str, W Z, W Z, W Z, W Z] y z, V Z A, V Z C, V Z D, V Z E, V Z F, V Z G, V Z H, V Z I], .cells 71 [.ro [W Z] J aa, V Z L], .unk, .cells 71 [.ro [W Z] x Y, V Z M], .cells 73 [V Z O, V Z P, V Z Q, V Z S, V Z T, V Z X], .unk, .unk, .unk, .row 86 [W Z, W Z, W Z] r.2.1 r.2.2]
def g5_0 : LSum := fun s k => match czv 0 247 [2, 5, 16, 17] 9 [⟨true, 16, 0, 8, 86, [W Z, W Z, W Z]⟩] s with
 | some ([.ptr 0 0, .ptr 3 0, .gr 8 3 ea, V Z oa], [.cells 65 [.ro [.str, W Z, W Z, W Z, W Z] y z, V Z A, V Z C, V Z D, V Z E, V Z F, V Z G, V Z H, V Z I], .cells 71 [.ro [W Z] J aa, V Z L], .unk, .cells 71 [.ro [W Z] x Y, V Z M], .cells 73 [V Z O, V Z P, V Z Q, V Z S, V Z T, V Z X], .unk, .unk, .unk, .row 86 [W Z, W Z, W Z] da ba]) => needs [decide (ea = da), (o5_0 y z A C D E F G H I J aa L x Y M O P Q S T X ea oa ba).isSome] (e5_0 y z A C D E F G H I J aa L x Y M O P Q S T X ((o5_0 y z A C D E F G H I J aa L x Y M O P Q S T X ea oa ba).getD default) fun e vs bs => inBlk 0 k e (mkSt 0 247 [2, 16] vs 9 bs))
 | _ => False
theorem z5_0 : LOk Try.prog g5_0 (.block 0 (bodyAt (Try.f5.body.getD .skip) 0)) := by
 refine lb (ι := Nat × Int × Nat × Dat × Int × Int × Int × Int × Int × Int × Int × Int × Nat × Dat × Int × Nat × Dat × Int × Int × Int × Int × Int × Int × Int × Dat) (fuel := 9) (na := 0) (nt := 247) (nx := 9) (Lh := [2, 5, 16, 17]) (Le := [2, 16]) (gl := [⟨true, 16, 0, 8, 86, [W Z, W Z, W Z]⟩]) (tc k18 (tc k32 (tc k34 (tc k35 (tc k36s (tc k37 (tc k38 (tc k39 (tc k40 (tc k41 (tc k42 (tc k43 tn)))))))))))) mix_ok noLam rfl (fun f (ea, oa, y, z, A, C, D, E, F, G, H, I, J, aa, L, x, Y, M, O, P, Q, S, T, X, ba) K => GG default (e5_0 y z A C D E F G H I J aa L x Y M O P Q S T X) K (l5_0 y z A C D E F G H I J aa L x Y M O P Q S T X f ea oa ba)) (fun (ea, oa, y, z, A, C, D, E, F, G, H, I, J, aa, L, x, Y, M, O, P, Q, S, T, X, ba) => [.ptr 0 0, .ptr 3 0, .gr 8 3 ea, V Z oa]) (fun (ea, oa, y, z, A, C, D, E, F, G, H, I, J, aa, L, x, Y, M, O, P, Q, S, T, X, ba) => [.cells 65 [.ro [.str, W Z, W Z, W Z, W Z] y z, V Z A, V Z C, V Z D, V Z E, V Z F, V Z G, V Z H, V Z I], .cells 71 [.ro [W Z] J aa, V Z L], .unk, .cells 71 [.ro [W Z] x Y, V Z M], .cells 73 [V Z O, V Z P, V Z Q, V Z S, V Z T, V Z X], .unk, .unk, .unk, .row 86 [W Z, W Z, W Z] ea ba]) (fun (_, _, _, _, _, _, _, _, _, _, _, _, _, _, _, _, _, _, _, _, _, _, _, _, _) K => gg_none) ?_ ?_
 ·rintro f ⟨ea, oa, y, z, A, C, D, E, F, G, H, I, J, aa, L, x, Y, M, O, P, Q, S, T, X, ba⟩ K hG
  refine ro (fun R => (cnd (decide (oa < (↑x : Int)))
 (cnd (decide (0 ≤ oa ∧ oa < ↑y))
 (cnd (decide (0 ≤ oa ∧ oa < ↑x))
 (cnd (decide (ea ≤ ea))
 (cnd (decide ((ea + 1) ≤ 1073741824))
 (R (XE.normal) [.ptr 0 0, .ptr 3 0, .gr 8 3 (ea + 1), V Z (Z.wrap (oa + 1))] [.cells 65 [.ro [.str, W Z, W Z, W Z, W Z] y z, V Z A, V Z C, V Z D, V Z E, V Z F, V Z G, V Z H, V Z I], .cells 71 [.ro [W Z] J aa, V Z L], .unk, .cells 71 [.ro [W Z] x Y, V Z M], .cells 73 [V Z O, V Z P, V Z Q, V Z S, V Z T, V Z X], .unk, .unk, .unk, .row 86 [W Z, W Z, W Z] (ea + 1) (ba.app ea (datS [V Z (z.ii oa.toNat 1), V Z (z.ii oa.toNat 2), V Z (Y.ii oa.toNat 0)] 3))])
   False)
   False)
  False)
  False)
 (R (XE.exit 0) [.ptr 0 0, .gr 8 3 ea] [.cells 65 [.ro [.str, W Z, W Z, W Z, W Z] y z, V Z A, V Z C, V Z D, V Z E, V Z F, V Z G, V Z H, V Z I], .cells 71 [.ro [W Z] J aa, V Z L], .unk, .cells 71 [.ro [W Z] x Y, V Z M], .cells 73 [V Z O, V Z P, V Z Q, V Z S, V Z T, V Z X], .unk, .unk, .unk, .row 86 [W Z, W Z, W Z] ea ba]))) (fun R => by kernel_rfl) ?_
  exact ch hG (fun h0 => cg h0 fun h1 => cg h1 fun h2 => cn (decide_eq_true (Nat.le_refl _)) (cg h2 fun h3 => ⟨(_, _, _, _, _, _, _, _, _, _, _, _, _, _, _, _, _, _, _, _, _, _, _, _, _), rfl, rfl, h3⟩)) (fun h0 => h0.2)
 ·intro s k h
  unfold g5_0 at h
  split at h <;> try exact h.elim
  rename_i e1
  rw [needs_iff] at h
  have hq := h.1
  simp only [List.mem_cons, forall_eq_or_imp, decide_eq_true_eq, List.not_mem_nil, false_imp_iff, implies_true, and_true] at hq
  obtain ⟨rfl, hq⟩ := hq
  exact ⟨_, e1, _, (_, _, _, _, _, _, _, _, _, _, _, _, _, _, _, _, _, _, _, _, _, _, _, _, _), rfl, rfl, hq, h.2⟩
def l5_2 (ea y : Nat) (z : Dat) (A C D E F G H I : Int) (J : Nat) (aa : Dat) (L : Int) (x : Nat) (Y : Dat) (M O P Q S T X : Int) (da : Nat) (ba : Dat) : Nat → Int → Option (Bool × (Bool) × (Unit))
 | 0, _ => none
 | f + 1, pa => (cond (decide (pa < (↑ea : Int))) (cond (decide (0 ≤ pa ∧ pa < ↑ea)) (cond (decide (pa.toNat < da)) (cond (decide ((1000000000 : Int) < (ba.ii pa.toNat 2))) (some (true, true, default)) (l5_2 ea y z A C D E F G H I J aa L x Y M O P Q S T X da ba f (Z.wrap (pa + 1)))) none) none) (some (false, default, ())))
abbrev o5_2 (ea y : Nat) (z : Dat) (A C D E F G H I : Int) (J : Nat) (aa : Dat) (L : Int) (x : Nat) (Y : Dat) (M O P Q S T X : Int) (da : Nat) (ba : Dat) (pa : Int) : Option (Bool × (Bool) × (Unit)) := l5_2 ea y z A C D E F G H I J aa L x Y M O P Q S T X da ba (ea + pa.toNat + y + A.toNat + C.toNat + D.toNat + E.toNat + F.toNat + G.toNat + H.toNat + I.toNat + J + L.toNat + x + M.toNat + O.toNat + P.toNat + Q.toNat + S.toNat + T.toNat + X.toNat + da + 8) pa
def e5_2 (ea y : Nat) (z : Dat) (A C D E F G H I : Int) (J : Nat) (aa : Dat) (L : Int) (x : Nat) (Y : Dat) (M O P Q S T X : Int) (da : Nat) (ba : Dat) (r : Bool × (Bool) × (Unit)) (K : XR) : Prop := cnd r.1 (K (XE.ret) [.ptr 0 0, .bool r.2.1, .gr 8 3 ea] [.cells 65 [.ro [.str, W Z, W Z, W Z, W Z] y z, V Z A, V Z C, V Z D, V Z E, V Z F, V Z G, V Z H, V Z I], .cells 71 [.ro [W Z] J aa, V Z L], .unk, .cells 71 [.ro [W Z] x Y, V Z M], .cells 73 [V Z O, V Z P, V Z Q, V Z S, V Z T, V Z X], .unk, .unk, .unk, .row 86 [W Z, W Z, W Z] da ba]) (K (XE.exit 2) [.ptr 0 0, .any, .gr 8 3 ea] [.cells 65 [.ro [.str, W Z, W Z, W Z, W Z] y z, V Z A, V Z C, V Z D, V Z E, V Z F, V Z G, V Z H, V Z I], .cells 71 [.ro [W Z] J aa, V Z L], .unk, .cells 71 [.ro [W Z] x Y, V Z M], .cells 73 [V Z O, V Z P, V Z Q, V Z S, V Z T, V Z X], .unk, .unk, .unk, .row 86 [W Z, W Z, W Z] da ba])
def g5_2 : LSum := fun s k => match czv 0 247 [2, 16, 18] 9 [] s with
 | some ([.ptr 0 0, .gr 8 3 ea, V Z pa], [.cells 65 [.ro [.str, W Z, W Z, W Z, W Z] y z, V Z A, V Z C, V Z D, V Z E, V Z F, V Z G, V Z H, V Z I], .cells 71 [.ro [W Z] J aa, V Z L], .unk, .cells 71 [.ro [W Z] x Y, V Z M], .cells 73 [V Z O, V Z P, V Z Q, V Z S, V Z T, V Z X], .unk, .unk, .unk, .row 86 [W Z, W Z, W Z] da ba]) => needs [(o5_2 ea y z A C D E F G H I J aa L x Y M O P Q S T X da ba pa).isSome] (e5_2 ea y z A C D E F G H I J aa L x Y M O P Q S T X da ba ((o5_2 ea y z A C D E F G H I J aa L x Y M O P Q S T X da ba pa).getD default) fun e vs bs => inBlk 2 k e (mkSt 0 247 [2, 4, 16] vs 9 bs))
 | _ => False
theorem z5_2 : LOk Try.prog g5_2 (.block 2 (bodyAt (Try.f5.body.getD .skip) 2)) := by
 refine lb (ι := Nat × Int × Nat × Dat × Int × Int × Int × Int × Int × Int × Int × Int × Nat × Dat × Int × Nat × Dat × Int × Int × Int × Int × Int × Int × Int × Nat × Dat) (fuel := 9) (na := 0) (nt := 247) (nx := 9) (Lh := [2, 16, 18]) (Le := [2, 4, 16]) (gl := []) (tc k18 (tc k32 (tc k34 (tc k35 (tc k36s (tc k37 (tc k38 (tc k39 (tc k40 (tc k41 (tc k42 (tc k43 tn)))))))))))) mix_ok (lam_of rfl (lc z5_0 ln)) rfl (fun f (ea, pa, y, z, A, C, D, E, F, G, H, I, J, aa, L, x, Y, M, O, P, Q, S, T, X, da, ba) K => GG default (e5_2 ea y z A C D E F G H I J aa L x Y M O P Q S T X da ba) K (l5_2 ea y z A C D E F G H I J aa L x Y M O P Q S T X da ba f pa)) (fun (ea, pa, y, z, A, C, D, E, F, G, H, I, J, aa, L, x, Y, M, O, P, Q, S, T, X, da, ba) => [.ptr 0 0, .gr 8 3 ea, V Z pa]) (fun (ea, pa, y, z, A, C, D, E, F, G, H, I, J, aa, L, x, Y, M, O, P, Q, S, T, X, da, ba) => [.cells 65 [.ro [.str, W Z, W Z, W Z, W Z] y z, V Z A, V Z C, V Z D, V Z E, V Z F, V Z G, V Z H, V Z I], .cells 71 [.ro [W Z] J aa, V Z L], .unk, .cells 71 [.ro [W Z] x Y, V Z M], .cells 73 [V Z O, V Z P, V Z Q, V Z S, V Z T, V Z X], .unk, .unk, .unk, .row 86 [W Z, W Z, W Z] da ba]) (fun (_, _, _, _, _, _, _, _, _, _, _, _, _, _, _, _, _, _, _, _, _, _, _, _, _, _) K => gg_none) ?_ ?_
 ·rintro f ⟨ea, pa, y, z, A, C, D, E, F, G, H, I, J, aa, L, x, Y, M, O, P, Q, S, T, X, da, ba⟩ K hG
  refine ro (fun R => (cnd (decide (pa < (↑ea : Int)))
 (cnd (decide (0 ≤ pa ∧ pa < ↑ea))
 (cnd (decide (pa.toNat < da))
 (cnd (decide ((1000000000 : Int) < (ba.ii pa.toNat 2)))
 (R (XE.ret) [.ptr 0 0, .bool true, .gr 8 3 ea] [.cells 65 [.ro [.str, W Z, W Z, W Z, W Z] y z, V Z A, V Z C, V Z D, V Z E, V Z F, V Z G, V Z H, V Z I], .cells 71 [.ro [W Z] J aa, V Z L], .unk, .cells 71 [.ro [W Z] x Y, V Z M], .cells 73 [V Z O, V Z P, V Z Q, V Z S, V Z T, V Z X], .unk, .unk, .unk, .row 86 [W Z, W Z, W Z] da ba])
 (R (XE.normal) [.ptr 0 0, .gr 8 3 ea, V Z (Z.wrap (pa + 1))] [.cells 65 [.ro [.str, W Z, W Z, W Z, W Z] y z, V Z A, V Z C, V Z D, V Z E, V Z F, V Z G, V Z H, V Z I], .cells 71 [.ro [W Z] J aa, V Z L], .unk, .cells 71 [.ro [W Z] x Y, V Z M], .cells 73 [V Z O, V Z P, V Z Q, V Z S, V Z T, V Z X], .unk, .unk, .unk, .row 86 [W Z, W Z, W Z] da ba]))
  False)
  False)
 (R (XE.exit 2) [.ptr 0 0, .any, .gr 8 3 ea] [.cells 65 [.ro [.str, W Z, W Z, W Z, W Z] y z, V Z A, V Z C, V Z D, V Z E, V Z F, V Z G, V Z H, V Z I], .cells 71 [.ro [W Z] J aa, V Z L], .unk, .cells 71 [.ro [W Z] x Y, V Z M], .cells 73 [V Z O, V Z P, V Z Q, V Z S, V Z T, V Z X], .unk, .unk, .unk, .row 86 [W Z, W Z, W Z] da ba]))) (fun R => by kernel_rfl) ?_
  exact ch hG (fun h0 => cg h0 fun h1 => cg h1 fun h2 => ch h2 (fun h3 => h3.2) (fun h3 => ⟨(_, _, _, _, _, _, _, _, _, _, _, _, _, _, _, _, _, _, _, _, _, _, _, _, _, _), rfl, rfl, h3⟩)) (fun h0 => h0.2)
 ·intro s k h
  unfold g5_2 at h
  split at h <;> try exact h.elim
  rename_i e1
  rw [needs_iff] at h
  exact ⟨_, e1, _, (_, _, _, _, _, _, _, _, _, _, _, _, _, _, _, _, _, _, _, _, _, _, _, _, _, _), rfl, rfl, h.1 _ (List.mem_singleton.2 rfl), h.2⟩
def l5_4 (y : Nat) (z : Dat) (A C D E F G H I : Int) (J : Nat) (aa : Dat) (L : Int) (x : Nat) (Y : Dat) (M O P Q S T X : Int) (da : Nat) (ba : Dat) (ga ha ia ja ka la : Int) : Nat → Int → Option (Bool × (Bool) × (Unit))
 | 0, _ => none
 | f + 1, ma => (cond (decide (ma < 3)) (cond (decide (0 ≤ ma ∧ ma < ↑3)) (cond (decide (ma.toNat < 3)) (cond (bif (bif (bif (bif (m32 (intAt [V Z ga, V Z ha, V Z ia, V Z ja, V Z ka, V Z la] (((0 + (ma.toNat * 2)) + 0) + 0)) 0 1000000000) then false else true) then false else true) then false else true) then true else (decide (0 ≤ ma ∧ ma < ↑3))) (cond (bif (bif (bif (bif (m32 (intAt [V Z ga, V Z ha, V Z ia, V Z ja, V Z ka, V Z la] (((0 + (ma.toNat * 2)) + 0) + 0)) 0 1000000000) then false else true) then false else true) then false else true) then true else (decide (ma.toNat < 3))) (cond (bif (bif (m32 (intAt [V Z ga, V Z ha, V Z ia, V Z ja, V Z ka, V Z la] (((0 + (ma.toNat * 2)) + 0) + 0)) 0 1000000000) then false else true) then true else (bif (m32 (intAt [V Z ga, V Z ha, V Z ia, V Z ja, V Z ka, V Z la] (((0 + (ma.toNat * 2)) + 1) + 0)) 1 1000000000) then false else true)) (some (true, false, default)) (l5_4 y z A C D E F G H I J aa L x Y M O P Q S T X da ba ga ha ia ja ka la f (Z.wrap (ma + 1)))) none) none) none) none) (some (false, default, ())))
abbrev o5_4 (y : Nat) (z : Dat) (A C D E F G H I : Int) (J : Nat) (aa : Dat) (L : Int) (x : Nat) (Y : Dat) (M O P Q S T X : Int) (da : Nat) (ba : Dat) (ga ha ia ja ka la ma : Int) : Option (Bool × (Bool) × (Unit)) := l5_4 y z A C D E F G H I J aa L x Y M O P Q S T X da ba ga ha ia ja ka la (ma.toNat + y + A.toNat + C.toNat + D.toNat + E.toNat + F.toNat + G.toNat + H.toNat + I.toNat + J + L.toNat + x + M.toNat + O.toNat + P.toNat + Q.toNat + S.toNat + T.toNat + X.toNat + da + ga.toNat + ha.toNat + ia.toNat + ja.toNat + ka.toNat + la.toNat + 8) ma
def e5_4 (y : Nat) (z : Dat) (A C D E F G H I : Int) (J : Nat) (aa : Dat) (L : Int) (x : Nat) (Y : Dat) (M O P Q S T X : Int) (da : Nat) (ba : Dat) (ga ha ia ja ka la : Int) (r : Bool × (Bool) × (Unit)) (K : XR) : Prop := cnd r.1 (K (XE.ret) [.ptr 0 0, .bool r.2.1, .ptr 9 0] [.cells 65 [.ro [.str, W Z, W Z, W Z, W Z] y z, V Z A, V Z C, V Z D, V Z E, V Z F, V Z G, V Z H, V Z I], .cells 71 [.ro [W Z] J aa, V Z L], .unk, .cells 71 [.ro [W Z] x Y, V Z M], .cells 73 [V Z O, V Z P, V Z Q, V Z S, V Z T, V Z X], .unk, .unk, .unk, .row 86 [W Z, W Z, W Z] da ba, .cells 90 [V Z ga, V Z ha, V Z ia, V Z ja, V Z ka, V Z la]]) (K (XE.exit 4) [.ptr 0 0, .any, .ptr 9 0] [.cells 65 [.ro [.str, W Z, W Z, W Z, W Z] y z, V Z A, V Z C, V Z D, V Z E, V Z F, V Z G, V Z H, V Z I], .cells 71 [.ro [W Z] J aa, V Z L], .unk, .cells 71 [.ro [W Z] x Y, V Z M], .cells 73 [V Z O, V Z P, V Z Q, V Z S, V Z T, V Z X], .unk, .unk, .unk, .row 86 [W Z, W Z, W Z] da ba, .cells 90 [V Z ga, V Z ha, V Z ia, V Z ja, V Z ka, V Z la]])
def g5_4 : LSum := fun s k => match czv 0 247 [2, 19, 21] 10 [] s with
 | some ([.ptr 0 0, .ptr 9 0, V Z ma], [.cells 65 [.ro [.str, W Z, W Z, W Z, W Z] y z, V Z A, V Z C, V Z D, V Z E, V Z F, V Z G, V Z H, V Z I], .cells 71 [.ro [W Z] J aa, V Z L], .unk, .cells 71 [.ro [W Z] x Y, V Z M], .cells 73 [V Z O, V Z P, V Z Q, V Z S, V Z T, V Z X], .unk, .unk, .unk, .row 86 [W Z, W Z, W Z] da ba, .cells 90 [V Z ga, V Z ha, V Z ia, V Z ja, V Z ka, V Z la]]) => needs [(o5_4 y z A C D E F G H I J aa L x Y M O P Q S T X da ba ga ha ia ja ka la ma).isSome] (e5_4 y z A C D E F G H I J aa L x Y M O P Q S T X da ba ga ha ia ja ka la ((o5_4 y z A C D E F G H I J aa L x Y M O P Q S T X da ba ga ha ia ja ka la ma).getD default) fun e vs bs => inBlk 4 k e (mkSt 0 247 [2, 4, 19] vs 10 bs))
 | _ => False
theorem z5_4 : LOk Try.prog g5_4 (.block 4 (bodyAt (Try.f5.body.getD .skip) 4)) := by
 refine lb (ι := Int × Nat × Dat × Int × Int × Int × Int × Int × Int × Int × Int × Nat × Dat × Int × Nat × Dat × Int × Int × Int × Int × Int × Int × Int × Nat × Dat × Int × Int × Int × Int × Int × Int) (fuel := 9) (na := 0) (nt := 247) (nx := 10) (Lh := [2, 19, 21]) (Le := [2, 4, 19]) (gl := []) (tc k18 (tc k32 (tc k34 (tc k35 (tc k36s (tc k37 (tc k38 (tc k39 (tc k40 (tc k41 (tc k42 (tc k43 tn)))))))))))) mix_ok (lam_of rfl (lc z5_0 (lc z5_2 ln))) rfl (fun f (ma, y, z, A, C, D, E, F, G, H, I, J, aa, L, x, Y, M, O, P, Q, S, T, X, da, ba, ga, ha, ia, ja, ka, la) K => GG default (e5_4 y z A C D E F G H I J aa L x Y M O P Q S T X da ba ga ha ia ja ka la) K (l5_4 y z A C D E F G H I J aa L x Y M O P Q S T X da ba ga ha ia ja ka la f ma)) (fun (ma, y, z, A, C, D, E, F, G, H, I, J, aa, L, x, Y, M, O, P, Q, S, T, X, da, ba, ga, ha, ia, ja, ka, la) => [.ptr 0 0, .ptr 9 0, V Z ma]) (fun (ma, y, z, A, C, D, E, F, G, H, I, J, aa, L, x, Y, M, O, P, Q, S, T, X, da, ba, ga, ha, ia, ja, ka, la) => [.cells 65 [.ro [.str, W Z, W Z, W Z, W Z] y z, V Z A, V Z C, V Z D, V Z E, V Z F, V Z G, V Z H, V Z I], .cells 71 [.ro [W Z] J aa, V Z L], .unk, .cells 71 [.ro [W Z] x Y, V Z M], .cells 73 [V Z O, V Z P, V Z Q, V Z S, V Z T, V Z X], .unk, .unk, .unk, .row 86 [W Z, W Z, W Z] da ba, .cells 90 [V Z ga, V Z ha, V Z ia, V Z ja, V Z ka, V Z la]]) (fun (_, _, _, _, _, _, _, _, _, _, _, _, _, _, _, _, _, _, _, _, _, _, _, _, _, _, _, _, _, _, _) K => gg_none) ?_ ?_
 ·rintro f ⟨ma, y, z, A, C, D, E, F, G, H, I, J, aa, L, x, Y, M, O, P, Q, S, T, X, da, ba, ga, ha, ia, ja, ka, la⟩ K hG
  refine ro (fun R => 
 let a0 := (bif (m32 (intAt [V Z ga, V Z ha, V Z ia, V Z ja, V Z ka, V Z la] (((0 + (ma.toNat * 2)) + 0) + 0)) 0 1000000000) then false else true)
 let b0 := (bif (bif a0 then false else true) then false else true)
 (cnd (decide (ma < 3))
 (cnd (decide (0 ≤ ma ∧ ma < ↑3))
 (cnd (decide (ma.toNat < 3))
 (cnd (bif b0 then true else (decide (0 ≤ ma ∧ ma < ↑3)))
 (cnd (bif b0 then true else (decide (ma.toNat < 3)))
 (cnd (bif a0 then true else (bif (m32 (intAt [V Z ga, V Z ha, V Z ia, V Z ja, V Z ka, V Z la] (((0 + (ma.toNat * 2)) + 1) + 0)) 1 1000000000) then false else true))
 (R (XE.ret) [.ptr 0 0, .bool false, .ptr 9 0] [.cells 65 [.ro [.str, W Z, W Z, W Z, W Z] y z, V Z A, V Z C, V Z D, V Z E, V Z F, V Z G, V Z H, V Z I], .cells 71 [.ro [W Z] J aa, V Z L], .unk, .cells 71 [.ro [W Z] x Y, V Z M], .cells 73 [V Z O, V Z P, V Z Q, V Z S, V Z T, V Z X], .unk, .unk, .unk, .row 86 [W Z, W Z, W Z] da ba, .cells 90 [V Z ga, V Z ha, V Z ia, V Z ja, V Z ka, V Z la]])
 (R (XE.normal) [.ptr 0 0, .ptr 9 0, V Z (Z.wrap (ma + 1))] [.cells 65 [.ro [.str, W Z, W Z, W Z, W Z] y z, V Z A, V Z C, V Z D, V Z E, V Z F, V Z G, V Z H, V Z I], .cells 71 [.ro [W Z] J aa, V Z L], .unk, .cells 71 [.ro [W Z] x Y, V Z M], .cells 73 [V Z O, V Z P, V Z Q, V Z S, V Z T, V Z X], .unk, .unk, .unk, .row 86 [W Z, W Z, W Z] da ba, .cells 90 [V Z ga, V Z ha, V Z ia, V Z ja, V Z ka, V Z la]]))
   False)
   False)
  False)
  False)
 (R (XE.exit 4) [.ptr 0 0, .any, .ptr 9 0] [.cells 65 [.ro [.str, W Z, W Z, W Z, W Z] y z, V Z A, V Z C, V Z D, V Z E, V Z F, V Z G, V Z H, V Z I], .cells 71 [.ro [W Z] J aa, V Z L], .unk, .cells 71 [.ro [W Z] x Y, V Z M], .cells 73 [V Z O, V Z P, V Z Q, V Z S, V Z T, V Z X], .unk, .unk, .unk, .row 86 [W Z, W Z, W Z] da ba, .cells 90 [V Z ga, V Z ha, V Z ia, V Z ja, V Z ka, V Z la]]))) (fun R => by kernel_rfl) ?_
  exact ch hG (fun h0 => cg h0 fun h1 => cg h1 fun h2 => cg h2 fun h3 => cg h3 fun h4 => ch h4 (fun h5 => h5.2) (fun h5 => ⟨(_, _, _, _, _, _, _, _, _, _, _, _, _, _, _, _, _, _, _, _, _, _, _, _, _, _, _, _, _, _, _), rfl, rfl, h5⟩)) (fun h0 => h0.2)
 ·intro s k h
  unfold g5_4 at h
  split at h <;> try exact h.elim
  rename_i e1
  rw [needs_iff] at h
  exact ⟨_, e1, _, (_, _, _, _, _, _, _, _, _, _, _, _, _, _, _, _, _, _, _, _, _, _, _, _, _, _, _, _, _, _, _), rfl, rfl, h.1 _ (List.mem_singleton.2 rfl), h.2⟩
def t5_0 (b : Nat) (d : Dat) (m n o u p t j l : Int) (g : Nat) (i : Dat) (w : Int) : Bool := m37 b d m n o u p t j l
def t5_1 (b : Nat) (d : Dat) (m n o u p t j l : Int) (g : Nat) (i : Dat) (w : Int) : Bool := n36r b d m n o u p t j l
def t5_2 (b : Nat) (d : Dat) (m n o u p t j l : Int) (g : Nat) (i : Dat) (w : Int) : Nat := (m36r b d m n o u p t j l).1
def t5_3 (b : Nat) (d : Dat) (m n o u p t j l : Int) (g : Nat) (i : Dat) (w : Int) : Nat := (m36r b d m n o u p t j l).2.2.2.2.2.2.2.2.2.1
def t5_4 (b : Nat) (d : Dat) (m n o u p t j l : Int) (g : Nat) (i : Dat) (w : Int) : Dat := (m36r b d m n o u p t j l).2.2.2.2.2.2.2.2.2.2
def t5_5 (b : Nat) (d : Dat) (m n o u p t j l : Int) (g : Nat) (i : Dat) (w : Int) : Int := (m36r b d m n o u p t j l).2.1
def t5_6 (b : Nat) (d : Dat) (m n o u p t j l : Int) (g : Nat) (i : Dat) (w : Int) : Int := (m36r b d m n o u p t j l).2.2.1
def t5_7 (b : Nat) (d : Dat) (m n o u p t j l : Int) (g : Nat) (i : Dat) (w : Int) : Int := (m36r b d m n o u p t j l).2.2.2.1
def t5_8 (b : Nat) (d : Dat) (m n o u p t j l : Int) (g : Nat) (i : Dat) (w : Int) : Int := (m36r b d m n o u p t j l).2.2.2.2.1
def t5_9 (b : Nat) (d : Dat) (m n o u p t j l : Int) (g : Nat) (i : Dat) (w : Int) : Int := (m36r b d m n o u p t j l).2.2.2.2.2.1
def t5_10 (b : Nat) (d : Dat) (m n o u p t j l : Int) (g : Nat) (i : Dat) (w : Int) : Int := (m36r b d m n o u p t j l).2.2.2.2.2.2.1
def t5_11 (b : Nat) (d : Dat) (m n o u p t j l : Int) (g : Nat) (i : Dat) (w : Int) : Int := (m36r b d m n o u p t j l).2.2.2.2.2.2.2.1
def t5_12 (b : Nat) (d : Dat) (m n o u p t j l : Int) (g : Nat) (i : Dat) (w : Int) : Int := (m36r b d m n o u p t j l).2.2.2.2.2.2.2.2.1
def t5_13 (b : Nat) (d : Dat) (m n o u p t j l : Int) (g : Nat) (i : Dat) (w : Int) : Int := (m35 (t5_2 b d m n o u p t j l g i w) (t5_4 b d m n o u p t j l g i w) (t5_5 b d m n o u p t j l g i w) (t5_6 b d m n o u p t j l g i w) (t5_7 b d m n o u p t j l g i w) (t5_8 b d m n o u p t j l g i w) (t5_9 b d m n o u p t j l g i w) (t5_10 b d m n o u p t j l g i w) (t5_11 b d m n o u p t j l g i w) (t5_12 b d m n o u p t j l g i w)).2.2.2.2.2.2.2.2.2
def t5_14 (b : Nat) (d : Dat) (m n o u p t j l : Int) (g : Nat) (i : Dat) (w : Int) : Int := (m38 (t5_2 b d m n o u p t j l g i w) (t5_4 b d m n o u p t j l g i w) (t5_5 b d m n o u p t j l g i w) (t5_6 b d m n o u p t j l g i w) (t5_7 b d m n o u p t j l g i w) (t5_8 b d m n o u p t j l g i w) (t5_9 b d m n o u p t j l g i w) (t5_10 b d m n o u p t j l g i w) (t5_11 b d m n o u p t j l g i w) (t5_12 b d m n o u p t j l g i w) (m39 g i).1 (m39 g i).2 w).2
def t5_15 (b : Nat) (d : Dat) (m n o u p t j l : Int) (g : Nat) (i : Dat) (w : Int) : Nat := (m35 (t5_2 b d m n o u p t j l g i w) (t5_4 b d m n o u p t j l g i w) (t5_5 b d m n o u p t j l g i w) (t5_6 b d m n o u p t j l g i w) (t5_7 b d m n o u p t j l g i w) (t5_8 b d m n o u p t j l g i w) (t5_9 b d m n o u p t j l g i w) (t5_10 b d m n o u p t j l g i w) (t5_11 b d m n o u p t j l g i w) (t5_12 b d m n o u p t j l g i w)).1
def t5_16 (b : Nat) (d : Dat) (m n o u p t j l : Int) (g : Nat) (i : Dat) (w : Int) : Dat := (m35 (t5_2 b d m n o u p t j l g i w) (t5_4 b d m n o u p t j l g i w) (t5_5 b d m n o u p t j l g i w) (t5_6 b d m n o u p t j l g i w) (t5_7 b d m n o u p t j l g i w) (t5_8 b d m n o u p t j l g i w) (t5_9 b d m n o u p t j l g i w) (t5_10 b d m n o u p t j l g i w) (t5_11 b d m n o u p t j l g i w) (t5_12 b d m n o u p t j l g i w)).2.1
def t5_17 (b : Nat) (d : Dat) (m n o u p t j l : Int) (g : Nat) (i : Dat) (w : Int) : Int := (m35 (t5_2 b d m n o u p t j l g i w) (t5_4 b d m n o u p t j l g i w) (t5_5 b d m n o u p t j l g i w) (t5_6 b d m n o u p t j l g i w) (t5_7 b d m n o u p t j l g i w) (t5_8 b d m n o u p t j l g i w) (t5_9 b d m n o u p t j l g i w) (t5_10 b d m n o u p t j l g i w) (t5_11 b d m n o u p t j l g i w) (t5_12 b d m n o u p t j l g i w)).2.2.1
def t5_18 (b : Nat) (d : Dat) (m n o u p t j l : Int) (g : Nat) (i : Dat) (w : Int) : Int := (m35 (t5_2 b d m n o u p t j l g i w) (t5_4 b d m n o u p t j l g i w) (t5_5 b d m n o u p t j l g i w) (t5_6 b d m n o u p t j l g i w) (t5_7 b d m n o u p t j l g i w) (t5_8 b d m n o u p t j l g i w) (t5_9 b d m n o u p t j l g i w) (t5_10 b d m n o u p t j l g i w) (t5_11 b d m n o u p t j l g i w) (t5_12 b d m n o u p t j l g i w)).2.2.2.1
def t5_19 (b : Nat) (d : Dat) (m n o u p t j l : Int) (g : Nat) (i : Dat) (w : Int) : Int := (m35 (t5_2 b d m n o u p t j l g i w) (t5_4 b d m n o u p t j l g i w) (t5_5 b d m n o u p t j l g i w) (t5_6 b d m n o u p t j l g i w) (t5_7 b d m n o u p t j l g i w) (t5_8 b d m n o u p t j l g i w) (t5_9 b d m n o u p t j l g i w) (t5_10 b d m n o u p t j l g i w) (t5_11 b d m n o u p t j l g i w) (t5_12 b d m n o u p t j l g i w)).2.2.2.2.1
def t5_20 (b : Nat) (d : Dat) (m n o u p t j l : Int) (g : Nat) (i : Dat) (w : Int) : Int := (m35 (t5_2 b d m n o u p t j l g i w) (t5_4 b d m n o u p t j l g i w) (t5_5 b d m n o u p t j l g i w) (t5_6 b d m n o u p t j l g i w) (t5_7 b d m n o u p t j l g i w) (t5_8 b d m n o u p t j l g i w) (t5_9 b d m n o u p t j l g i w) (t5_10 b d m n o u p t j l g i w) (t5_11 b d m n o u p t j l g i w) (t5_12 b d m n o u p t j l g i w)).2.2.2.2.2.1
def t5_21 (b : Nat) (d : Dat) (m n o u p t j l : Int) (g : Nat) (i : Dat) (w : Int) : Int := (m35 (t5_2 b d m n o u p t j l g i w) (t5_4 b d m n o u p t j l g i w) (t5_5 b d m n o u p t j l g i w) (t5_6 b d m n o u p t j l g i w) (t5_7 b d m n o u p t j l g i w) (t5_8 b d m n o u p t j l g i w) (t5_9 b d m n o u p t j l g i w) (t5_10 b d m n o u p t j l g i w) (t5_11 b d m n o u p t j l g i w) (t5_12 b d m n o u p t j l g i w)).2.2.2.2.2.2.1
def t5_22 (b : Nat) (d : Dat) (m n o u p t j l : Int) (g : Nat) (i : Dat) (w : Int) : Int := (m35 (t5_2 b d m n o u p t j l g i w) (t5_4 b d m n o u p t j l g i w) (t5_5 b d m n o u p t j l g i w) (t5_6 b d m n o u p t j l g i w) (t5_7 b d m n o u p t j l g i w) (t5_8 b d m n o u p t j l g i w) (t5_9 b d m n o u p t j l g i w) (t5_10 b d m n o u p t j l g i w) (t5_11 b d m n o u p t j l g i w) (t5_12 b d m n o u p t j l g i w)).2.2.2.2.2.2.2.1
def t5_23 (b : Nat) (d : Dat) (m n o u p t j l : Int) (g : Nat) (i : Dat) (w : Int) : Int := (m35 (t5_2 b d m n o u p t j l g i w) (t5_4 b d m n o u p t j l g i w) (t5_5 b d m n o u p t j l g i w) (t5_6 b d m n o u p t j l g i w) (t5_7 b d m n o u p t j l g i w) (t5_8 b d m n o u p t j l g i w) (t5_9 b d m n o u p t j l g i w) (t5_10 b d m n o u p t j l g i w) (t5_11 b d m n o u p t j l g i w) (t5_12 b d m n o u p t j l g i w)).2.2.2.2.2.2.2.2.1
def t5_24 (b : Nat) (d : Dat) (m n o u p t j l : Int) (g : Nat) (i : Dat) (w : Int) : Int := (m38 (t5_2 b d m n o u p t j l g i w) (t5_4 b d m n o u p t j l g i w) (t5_5 b d m n o u p t j l g i w) (t5_6 b d m n o u p t j l g i w) (t5_7 b d m n o u p t j l g i w) (t5_8 b d m n o u p t j l g i w) (t5_9 b d m n o u p t j l g i w) (t5_10 b d m n o u p t j l g i w) (t5_11 b d m n o u p t j l g i w) (t5_12 b d m n o u p t j l g i w) (m39 (t5_15 b d m n o u p t j l g i w) (t5_16 b d m n o u p t j l g i w)).1 (m39 (t5_15 b d m n o u p t j l g i w) (t5_16 b d m n o u p t j l g i w)).2 (t5_17 b d m n o u p t j l g i w)).2
def t5_25 (b : Nat) (d : Dat) (m n o u p t j l : Int) (g : Nat) (i : Dat) (w : Int) : Int := (m41 (t5_2 b d m n o u p t j l g i w) (t5_4 b d m n o u p t j l g i w) (t5_5 b d m n o u p t j l g i w) (t5_6 b d m n o u p t j l g i w) (t5_7 b d m n o u p t j l g i w) (t5_8 b d m n o u p t j l g i w) (t5_9 b d m n o u p t j l g i w) (t5_10 b d m n o u p t j l g i w) (t5_11 b d m n o u p t j l g i w) (t5_12 b d m n o u p t j l g i w) (t5_18 b d m n o u p t j l g i w) (t5_19 b d m n o u p t j l g i w) (t5_20 b d m n o u p t j l g i w) (t5_21 b d m n o u p t j l g i w) (t5_22 b d m n o u p t j l g i w) (t5_23 b d m n o u p t j l g i w)).2
def t5_26 (b : Nat) (d : Dat) (m n o u p t j l : Int) (g : Nat) (i : Dat) (w : Int) : Int := (m38 (t5_2 b d m n o u p t j l g i w) (t5_4 b d m n o u p t j l g i w) (t5_5 b d m n o u p t j l g i w) (t5_6 b d m n o u p t j l g i w) (t5_7 b d m n o u p t j l g i w) (t5_8 b d m n o u p t j l g i w) (t5_9 b d m n o u p t j l g i w) (t5_10 b d m n o u p t j l g i w) (t5_11 b d m n o u p t j l g i w) (t5_12 b d m n o u p t j l g i w) (m39 (t5_15 b d m n o u p t j l g i w) (t5_16 b d m n o u p t j l g i w)).1 (m39 (t5_15 b d m n o u p t j l g i w) (t5_16 b d m n o u p t j l g i w)).2 (t5_17 b d m n o u p t j l g i w)).1
def t5_27 (b : Nat) (d : Dat) (m n o u p t j l : Int) (g : Nat) (i : Dat) (w : Int) : Int := (m41 (t5_2 b d m n o u p t j l g i w) (t5_4 b d m n o u p t j l g i w) (t5_5 b d m n o u p t j l g i w) (t5_6 b d m n o u p t j l g i w) (t5_7 b d m n o u p t j l g i w) (t5_8 b d m n o u p t j l g i w) (t5_9 b d m n o u p t j l g i w) (t5_10 b d m n o u p t j l g i w) (t5_11 b d m n o u p t j l g i w) (t5_12 b d m n o u p t j l g i w) (t5_18 b d m n o u p t j l g i w) (t5_19 b d m n o u p t j l g i w) (t5_20 b d m n o u p t j l g i w) (t5_21 b d m n o u p t j l g i w) (t5_22 b d m n o u p t j l g i w) (t5_23 b d m n o u p t j l g i w)).1
def t5_28 (b : Nat) (d : Dat) (m n o u p t j l : Int) (g : Nat) (i : Dat) (w : Int) : Int := (m38 (t5_2 b d m n o u p t j l g i w) (t5_4 b d m n o u p t j l g i w) (t5_5 b d m n o u p t j l g i w) (t5_6 b d m n o u p t j l g i w) (t5_7 b d m n o u p t j l g i w) (t5_8 b d m n o u p t j l g i w) (t5_9 b d m n o u p t j l g i w) (t5_10 b d m n o u p t j l g i w) (t5_11 b d m n o u p t j l g i w) (t5_12 b d m n o u p t j l g i w) (m39 g i).1 (m39 g i).2 w).1
def t5_29 (b : Nat) (d : Dat) (m n o u p t j l : Int) (g : Nat) (i : Dat) (w : Int) : Dat := datS [V Z 1000, V Z 0, V Z (Z.wrap ((t5_17 b d m n o u p t j l g i w) * m)), V Z 0, V Z 1000, V Z (Z.wrap ((t5_17 b d m n o u p t j l g i w) * n)), V Z 0, V Z 0, V Z (Z.wrap ((t5_17 b d m n o u p t j l g i w) * o))] 3
def t5_30 (b : Nat) (d : Dat) (m n o u p t j l : Int) (g : Nat) (i : Dat) (w : Int) : Nat := ((o5_0 b d m n o u p t j l g i w (t5_15 b d m n o u p t j l g i w) (t5_16 b d m n o u p t j l g i w) (t5_17 b d m n o u p t j l g i w) (t5_18 b d m n o u p t j l g i w) (t5_19 b d m n o u p t j l g i w) (t5_20 b d m n o u p t j l g i w) (t5_21 b d m n o u p t j l g i w) (t5_22 b d m n o u p t j l g i w) (t5_23 b d m n o u p t j l g i w) 3 0 (t5_29 b d m n o u p t j l g i w)).getD default).1
def t5_31 (b : Nat) (d : Dat) (m n o u p t j l : Int) (g : Nat) (i : Dat) (w : Int) : Nat := ((o5_0 b d m n o u p t j l g i w (t5_15 b d m n o u p t j l g i w) (t5_16 b d m n o u p t j l g i w) (t5_17 b d m n o u p t j l g i w) (t5_18 b d m n o u p t j l g i w) (t5_19 b d m n o u p t j l g i w) (t5_20 b d m n o u p t j l g i w) (t5_21 b d m n o u p t j l g i w) (t5_22 b d m n o u p t j l g i w) (t5_23 b d m n o u p t j l g i w) 3 0 (t5_29 b d m n o u p t j l g i w)).getD default).2.1
def t5_32 (b : Nat) (d : Dat) (m n o u p t j l : Int) (g : Nat) (i : Dat) (w : Int) : Dat := ((o5_0 b d m n o u p t j l g i w (t5_15 b d m n o u p t j l g i w) (t5_16 b d m n o u p t j l g i w) (t5_17 b d m n o u p t j l g i w) (t5_18 b d m n o u p t j l g i w) (t5_19 b d m n o u p t j l g i w) (t5_20 b d m n o u p t j l g i w) (t5_21 b d m n o u p t j l g i w) (t5_22 b d m n o u p t j l g i w) (t5_23 b d m n o u p t j l g i w) 3 0 (t5_29 b d m n o u p t j l g i w)).getD default).2.2
def t5_33 (b : Nat) (d : Dat) (m n o u p t j l : Int) (g : Nat) (i : Dat) (w : Int) : Int := (m43 (t5_30 b d m n o u p t j l g i w) (t5_32 b d m n o u p t j l g i w)).2.2.2.2.2.2
def t5_34 (b : Nat) (d : Dat) (m n o u p t j l : Int) (g : Nat) (i : Dat) (w : Int) : Int := (m43 (t5_30 b d m n o u p t j l g i w) (t5_32 b d m n o u p t j l g i w)).2.2.2.1
def t5_35 (b : Nat) (d : Dat) (m n o u p t j l : Int) (g : Nat) (i : Dat) (w : Int) : Int := (m43 (t5_30 b d m n o u p t j l g i w) (t5_32 b d m n o u p t j l g i w)).2.2.2.2.1
def t5_36 (b : Nat) (d : Dat) (m n o u p t j l : Int) (g : Nat) (i : Dat) (w : Int) : Int := (m43 (t5_30 b d m n o u p t j l g i w) (t5_32 b d m n o u p t j l g i w)).2.2.2.2.2.1
def t5_37 (b : Nat) (d : Dat) (m n o u p t j l : Int) (g : Nat) (i : Dat) (w : Int) : Bool := m32 (Z.wrap (1000 * (m43 (t5_30 b d m n o u p t j l g i w) (t5_32 b d m n o u p t j l g i w)).1)) (Z.wrap (p * (m43 (t5_30 b d m n o u p t j l g i w) (t5_32 b d m n o u p t j l g i w)).2.1)) (Z.wrap (t * (m43 (t5_30 b d m n o u p t j l g i w) (t5_32 b d m n o u p t j l g i w)).2.1))
def U5 (b : Nat) (d : Dat) (m n o u p t j l : Int) (g : Nat) (i : Dat) (w : Int) (z0 z1 : Bool) (z2 z3 : Nat) (z4 : Dat) (z5 z6 z7 z8 z9 z10 z11 z12 z13 z14 : Int) (z15 : Nat) (z16 : Dat) (z17 z18 z19 z20 z21 z22 z23 z24 z25 z26 z27 z28 : Int) (z29 : Dat) (z30 z31 : Nat) (z32 : Dat) (z33 z34 z35 z36 : Int) (z37 : Bool) (R : SV → List Blk → List Blk → Prop) : Prop :=
 (cnd (n18)
 (cnd (bif m18 then false else true)
 (R (.bool false) [] [])
 (cnd (n37 b d m n o u p t j l)
 (cnd (bif (bif (bif (bif (bif z0 then false else true) then true else (decide (8 < (↑g : Int)))) then false else true) then false else true) then true else (n34 b d m n o u p t j l))
 (cnd (bif (bif (bif z0 then false else true) then true else (decide (8 < (↑g : Int)))) then true else (bif (decide ((m34 b d m n o u p t j l) = 0)) then false else true))
 (R (.bool true) [] [])
 (cnd (z1)
 (cnd (decide (z2 ≤ z3))
 (cnd (n35 z2 z4 z5 z6 z7 z8 z9 z10 z11 z12)
 (cnd (z1)
 (cnd (decide (z2 ≤ z3))
 (cnd (n39 g i)
 (cnd (n38 z2 z4 z5 z6 z7 z8 z9 z10 z11 z12 (m39 g i).1 (m39 g i).2 w)
 (cnd (bif (decide (z13 = 0)) then false else true)
 (R (.bool (bif (decide (z13 = 12)) then (bif (decide (z14 = 0)) then false else true) else false)) [] [])
 (cnd (n40 b d m n o u p t j l z15 z16 z17)
 (cnd (bif (decide ((m40 b d m n o u p t j l z15 z16 z17).2 = 0)) then false else true)
 (R (.bool false) [] [])
 (cnd (z1)
 (cnd (decide (z2 ≤ z3))
 (cnd (n39 z15 z16)
 (cnd (n38 z2 z4 z5 z6 z7 z8 z9 z10 z11 z12 (m39 z15 z16).1 (m39 z15 z16).2 z17)
 (cnd (z1)
 (cnd (decide (z2 ≤ z3))
 (cnd (n41 z2 z4 z5 z6 z7 z8 z9 z10 z11 z12 z18 z19 z20 z21 z22 z23)
 (cnd (bif (bif (bif (bif (bif (decide (z24 = 0)) then false else true) then true else (bif (decide (z25 = 0)) then false else true)) then false else true) then false else true) then true else (n42 z26 z17 z27 z23))
 (cnd (bif (bif (bif (bif (bif (bif (bif (decide (z24 = 0)) then false else true) then true else (bif (decide (z25 = 0)) then false else true)) then true else (bif (decide ((m42 z26 z17 z27 z23) = 0)) then false else true)) then false else true) then (decide (z14 = 0)) else false) then false else true) then true else (n42 z28 w z26 z17))
 (cnd (bif (bif (bif (bif (decide (z24 = 0)) then false else true) then true else (bif (decide (z25 = 0)) then false else true)) then true else (bif (decide ((m42 z26 z17 z27 z23) = 0)) then false else true)) then true else (bif (decide (z14 = 0)) then (decide ((m42 z28 w z26 z17) < 0)) else false))
 (R (.bool false) [] [])
 (cnd ((o5_0 b d m n o u p t j l g i w z15 z16 z17 z18 z19 z20 z21 z22 z23 3 0 z29).isSome)
 (cnd ((o5_2 z30 b d m n o u p t j l g i w z15 z16 z17 z18 z19 z20 z21 z22 z23 z31 z32 0).isSome)
 (cnd ((o5_2 z30 b d m n o u p t j l g i w z15 z16 z17 z18 z19 z20 z21 z22 z23 z31 z32 0).getD default).1
 (R (.bool ((o5_2 z30 b d m n o u p t j l g i w z15 z16 z17 z18 z19 z20 z21 z22 z23 z31 z32 0).getD default).2.1) [] [])
 (cnd (decide ((0 + z30) ≤ z31))
 (cnd (n43 z30 z32)
 (cnd (bif (decide (z33 = 0)) then false else true)
 (R (.bool (decide (z33 = 8))) [] [])
 (cnd ((o5_4 b d m n o u p t j l g i w z15 z16 z17 z18 z19 z20 z21 z22 z23 z31 z32 (m43 z30 z32).1 (m43 z30 z32).2.1 (m43 z30 z32).2.2.1 z34 z35 z36 0).isSome)
 (cnd ((o5_4 b d m n o u p t j l g i w z15 z16 z17 z18 z19 z20 z21 z22 z23 z31 z32 (m43 z30 z32).1 (m43 z30 z32).2.1 (m43 z30 z32).2.2.1 z34 z35 z36 0).getD default).1
 (R (.bool ((o5_4 b d m n o u p t j l g i w z15 z16 z17 z18 z19 z20 z21 z22 z23 z31 z32 (m43 z30 z32).1 (m43 z30 z32).2.1 (m43 z30 z32).2.2.1 z34 z35 z36 0).getD default).2.1) [] [])
 (cnd (bif (bif z37 then false else true) then true else true)
 (cnd (bif (bif z37 then false else true) then true else true)
 (cnd (bif (bif z37 then false else true) then true else true)
 (cnd (bif (bif z37 then false else true) then true else true)
 (cnd (bif (bif z37 then false else true) then true else true)
 (cnd (bif (bif z37 then false else true) then true else true)
 (R (.bool (bif z37 then (m32 (Z.wrap (1000 * (m43 z30 z32).2.2.1)) (Z.wrap (j * z34)) (Z.wrap (l * z34))) else false)) [] [])
                    False)
                    False)
                   False)
                   False)
                  False)
                  False))
                 False))
                False)
               False))
              False)
              False))
             False)
            False)
            False)
           False)
           False)
          False)
          False)
         False)
         False))
        False))
       False)
      False)
      False)
     False)
     False)
    False)
    False))
   False)
  False))
 False)
theorem x5 (b : Nat) (d : Dat) (m n o u p t j l : Int) (g : Nat) (i : Dat) (w : Int) (R : SV → List Blk → List Blk → Prop) : exec Try.prog [(18, c18), (32, c32), (34, c34), (35, c35), (36, c36s), (37, c37), (38, c38), (39, c39), (40, c40), (41, c41), (42, c42), (43, c43)] (lamOf [(0, g5_0), (2, g5_2), (4, g5_4)]) 9 (Try.f5.body.getD .skip) (initS Try.f5.ntmps [.agg [.ro [.str, W Z, W Z, W Z, W Z] b d, V Z m, V Z n, V Z o, V Z u, V Z p, V Z t, V Z j, V Z l], .agg [.ro [W Z] g i, V Z w]] 0 (memOf [])) (retK Try.prog Try.f5.results.toList (outK 0 (List.range 0) [] (.k) fun v U N => R v U N)) =
 U5 b d m n o u p t j l g i w (t5_0 b d m n o u p t j l g i w) (t5_1 b d m n o u p t j l g i w) (t5_2 b d m n o u p t j l g i w) (t5_3 b d m n o u p t j l g i w) (t5_4 b d m n o u p t j l g i w) (t5_5 b d m n o u p t j l g i w) (t5_6 b d m n o u p t j l g i w) (t5_7 b d m n o u p t j l g i w) (t5_8 b d m n o u p t j l g i w) (t5_9 b d m n o u p t j l g i w) (t5_10 b d m n o u p t j l g i w) (t5_11 b d m n o u p t j l g i w) (t5_12 b d m n o u p t j l g i w) (t5_13 b d m n o u p t j l g i w) (t5_14 b d m n o u p t j l g i w) (t5_15 b d m n o u p t j l g i w) (t5_16 b d m n o u p t j l g i w) (t5_17 b d m n o u p t j l g i w) (t5_18 b d m n o u p t j l g i w) (t5_19 b d m n o u p t j l g i w) (t5_20 b d m n o u p t j l g i w) (t5_21 b d m n o u p t j l g i w) (t5_22 b d m n o u p t j l g i w) (t5_23 b d m n o u p t j l g i w) (t5_24 b d m n o u p t j l g i w) (t5_25 b d m n o u p t j l g i w) (t5_26 b d m n o u p t j l g i w) (t5_27 b d m n o u p t j l g i w) (t5_28 b d m n o u p t j l g i w) (t5_29 b d m n o u p t j l g i w) (t5_30 b d m n o u p t j l g i w) (t5_31 b d m n o u p t j l g i w) (t5_32 b d m n o u p t j l g i w) (t5_33 b d m n o u p t j l g i w) (t5_34 b d m n o u p t j l g i w) (t5_35 b d m n o u p t j l g i w) (t5_36 b d m n o u p t j l g i w) (t5_37 b d m n o u p t j l g i w) R := by kernel_rfl
def w5 (b : Nat) (d : Dat) (m n o u p t j l : Int) (g : Nat) (i : Dat) (w : Int) (z0 z1 : Bool) (z2 z3 : Nat) (z4 : Dat) (z5 z6 z7 z8 z9 z10 z11 z12 z13 z14 : Int) (z15 : Nat) (z16 : Dat) (z17 z18 z19 z20 z21 z22 z23 z24 z25 z26 z27 z28 : Int) (z29 : Dat) (z30 z31 : Nat) (z32 : Dat) (z33 z34 z35 z36 : Int) (z37 : Bool) : Bool :=
 (cond (bif m18 then false else true) false (cond (bif (bif (bif z0 then false else true) then true else (decide (8 < (↑g : Int)))) then true else (bif (decide ((m34 b d m n o u p t j l) = 0)) then false else true)) true (cond (bif (decide (z13 = 0)) then false else true) (bif (decide (z13 = 12)) then (bif (decide (z14 = 0)) then false else true) else false) (cond (bif (decide ((m40 b d m n o u p t j l z15 z16 z17).2 = 0)) then false else true) false (cond (bif (bif (bif (bif (decide (z24 = 0)) then false else true) then true else (bif (decide (z25 = 0)) then false else true)) then true else (bif (decide ((m42 z26 z17 z27 z23) = 0)) then false else true)) then true else (bif (decide (z14 = 0)) then (decide ((m42 z28 w z26 z17) < 0)) else false)) false (cond ((o5_2 z30 b d m n o u p t j l g i w z15 z16 z17 z18 z19 z20 z21 z22 z23 z31 z32 0).getD default).1 ((o5_2 z30 b d m n o u p t j l g i w z15 z16 z17 z18 z19 z20 z21 z22 z23 z31 z32 0).getD default).2.1 (cond (bif (decide (z33 = 0)) then false else true) (decide (z33 = 8)) (cond ((o5_4 b d m n o u p t j l g i w z15 z16 z17 z18 z19 z20 z21 z22 z23 z31 z32 (m43 z30 z32).1 (m43 z30 z32).2.1 (m43 z30 z32).2.2.1 z34 z35 z36 0).getD default).1 ((o5_4 b d m n o u p t j l g i w z15 z16 z17 z18 z19 z20 z21 z22 z23 z31 z32 (m43 z30 z32).1 (m43 z30 z32).2.1 (m43 z30 z32).2.2.1 z34 z35 z36 0).getD default).2.1 (bif z37 then (m32 (Z.wrap (1000 * (m43 z30 z32).2.2.1)) (Z.wrap (j * z34)) (Z.wrap (l * z34))) else false)))))))))
def v5 (b : Nat) (d : Dat) (m n o u p t j l : Int) (g : Nat) (i : Dat) (w : Int) (z0 z1 : Bool) (z2 z3 : Nat) (z4 : Dat) (z5 z6 z7 z8 z9 z10 z11 z12 z13 z14 : Int) (z15 : Nat) (z16 : Dat) (z17 z18 z19 z20 z21 z22 z23 z24 z25 z26 z27 z28 : Int) (z29 : Dat) (z30 z31 : Nat) (z32 : Dat) (z33 z34 z35 z36 : Int) (z37 : Bool) : Bool :=
 ((n18) && (cond (bif m18 then false else true) true ((n37 b d m n o u p t j l) && ((bif (bif (bif (bif (bif z0 then false else true) then true else (decide (8 < (↑g : Int)))) then false else true) then false else true) then true else (n34 b d m n o u p t j l)) && (cond (bif (bif (bif z0 then false else true) then true else (decide (8 < (↑g : Int)))) then true else (bif (decide ((m34 b d m n o u p t j l) = 0)) then false else true)) true ((z1) && ((decide (z2 ≤ z3)) && ((n35 z2 z4 z5 z6 z7 z8 z9 z10 z11 z12) && ((z1) && ((decide (z2 ≤ z3)) && ((n39 g i) && ((n38 z2 z4 z5 z6 z7 z8 z9 z10 z11 z12 (m39 g i).1 (m39 g i).2 w) && (cond (bif (decide (z13 = 0)) then false else true) true ((n40 b d m n o u p t j l z15 z16 z17) && (cond (bif (decide ((m40 b d m n o u p t j l z15 z16 z17).2 = 0)) then false else true) true ((z1) && ((decide (z2 ≤ z3)) && ((n39 z15 z16) && ((n38 z2 z4 z5 z6 z7 z8 z9 z10 z11 z12 (m39 z15 z16).1 (m39 z15 z16).2 z17) && ((z1) && ((decide (z2 ≤ z3)) && ((n41 z2 z4 z5 z6 z7 z8 z9 z10 z11 z12 z18 z19 z20 z21 z22 z23) && ((bif (bif (bif (bif (bif (decide (z24 = 0)) then false else true) then true else (bif (decide (z25 = 0)) then false else true)) then false else true) then false else true) then true else (n42 z26 z17 z27 z23)) && ((bif (bif (bif (bif (bif (bif (bif (decide (z24 = 0)) then false else true) then true else (bif (decide (z25 = 0)) then false else true)) then true else (bif (decide ((m42 z26 z17 z27 z23) = 0)) then false else true)) then false else true) then (decide (z14 = 0)) else false) then false else true) then true else (n42 z28 w z26 z17)) && (cond (bif (bif (bif (bif (decide (z24 = 0)) then false else true) then true else (bif (decide (z25 = 0)) then false else true)) then true else (bif (decide ((m42 z26 z17 z27 z23) = 0)) then false else true)) then true else (bif (decide (z14 = 0)) then (decide ((m42 z28 w z26 z17) < 0)) else false)) true (((o5_0 b d m n o u p t j l g i w z15 z16 z17 z18 z19 z20 z21 z22 z23 3 0 z29).isSome) && (((o5_2 z30 b d m n o u p t j l g i w z15 z16 z17 z18 z19 z20 z21 z22 z23 z31 z32 0).isSome) && (cond ((o5_2 z30 b d m n o u p t j l g i w z15 z16 z17 z18 z19 z20 z21 z22 z23 z31 z32 0).getD default).1 true ((decide ((0 + z30) ≤ z31)) && ((n43 z30 z32) && (cond (bif (decide (z33 = 0)) then false else true) true (((o5_4 b d m n o u p t j l g i w z15 z16 z17 z18 z19 z20 z21 z22 z23 z31 z32 (m43 z30 z32).1 (m43 z30 z32).2.1 (m43 z30 z32).2.2.1 z34 z35 z36 0).isSome) && (cond ((o5_4 b d m n o u p t j l g i w z15 z16 z17 z18 z19 z20 z21 z22 z23 z31 z32 (m43 z30 z32).1 (m43 z30 z32).2.1 (m43 z30 z32).2.2.1 z34 z35 z36 0).getD default).1 true ((bif (bif z37 then false else true) then true else true) && ((bif (bif z37 then false else true) then true else true) && ((bif (bif z37 then false else true) then true else true) && ((bif (bif z37 then false else true) then true else true) && ((bif (bif z37 then false else true) then true else true) && ((bif (bif z37 then false else true) then true else true) && true)))))))))))))))))))))))))))))))))))))))
def m5 (b : Nat) (d : Dat) (m n o u p t j l : Int) (g : Nat) (i : Dat) (w : Int) : Bool := w5 b d m n o u p t j l g i w (t5_0 b d m n o u p t j l g i w) (t5_1 b d m n o u p t j l g i w) (t5_2 b d m n o u p t j l g i w) (t5_3 b d m n o u p t j l g i w) (t5_4 b d m n o u p t j l g i w) (t5_5 b d m n o u p t j l g i w) (t5_6 b d m n o u p t j l g i w) (t5_7 b d m n o u p t j l g i w) (t5_8 b d m n o u p t j l g i w) (t5_9 b d m n o u p t j l g i w) (t5_10 b d m n o u p t j l g i w) (t5_11 b d m n o u p t j l g i w) (t5_12 b d m n o u p t j l g i w) (t5_13 b d m n o u p t j l g i w) (t5_14 b d m n o u p t j l g i w) (t5_15 b d m n o u p t j l g i w) (t5_16 b d m n o u p t j l g i w) (t5_17 b d m n o u p t j l g i w) (t5_18 b d m n o u p t j l g i w) (t5_19 b d m n o u p t j l g i w) (t5_20 b d m n o u p t j l g i w) (t5_21 b d m n o u p t j l g i w) (t5_22 b d m n o u p t j l g i w) (t5_23 b d m n o u p t j l g i w) (t5_24 b d m n o u p t j l g i w) (t5_25 b d m n o u p t j l g i w) (t5_26 b d m n o u p t j l g i w) (t5_27 b d m n o u p t j l g i w) (t5_28 b d m n o u p t j l g i w) (t5_29 b d m n o u p t j l g i w) (t5_30 b d m n o u p t j l g i w) (t5_31 b d m n o u p t j l g i w) (t5_32 b d m n o u p t j l g i w) (t5_33 b d m n o u p t j l g i w) (t5_34 b d m n o u p t j l g i w) (t5_35 b d m n o u p t j l g i w) (t5_36 b d m n o u p t j l g i w) (t5_37 b d m n o u p t j l g i w)
def n5 (b : Nat) (d : Dat) (m n o u p t j l : Int) (g : Nat) (i : Dat) (w : Int) : Bool := v5 b d m n o u p t j l g i w (t5_0 b d m n o u p t j l g i w) (t5_1 b d m n o u p t j l g i w) (t5_2 b d m n o u p t j l g i w) (t5_3 b d m n o u p t j l g i w) (t5_4 b d m n o u p t j l g i w) (t5_5 b d m n o u p t j l g i w) (t5_6 b d m n o u p t j l g i w) (t5_7 b d m n o u p t j l g i w) (t5_8 b d m n o u p t j l g i w) (t5_9 b d m n o u p t j l g i w) (t5_10 b d m n o u p t j l g i w) (t5_11 b d m n o u p t j l g i w) (t5_12 b d m n o u p t j l g i w) (t5_13 b d m n o u p t j l g i w) (t5_14 b d m n o u p t j l g i w) (t5_15 b d m n o u p t j l g i w) (t5_16 b d m n o u p t j l g i w) (t5_17 b d m n o u p t j l g i w) (t5_18 b d m n o u p t j l g i w) (t5_19 b d m n o u p t j l g i w) (t5_20 b d m n o u p t j l g i w) (t5_21 b d m n o u p t j l g i w) (t5_22 b d m n o u p t j l g i w) (t5_23 b d m n o u p t j l g i w) (t5_24 b d m n o u p t j l g i w) (t5_25 b d m n o u p t j l g i w) (t5_26 b d m n o u p t j l g i w) (t5_27 b d m n o u p t j l g i w) (t5_28 b d m n o u p t j l g i w) (t5_29 b d m n o u p t j l g i w) (t5_30 b d m n o u p t j l g i w) (t5_31 b d m n o u p t j l g i w) (t5_32 b d m n o u p t j l g i w) (t5_33 b d m n o u p t j l g i w) (t5_34 b d m n o u p t j l g i w) (t5_35 b d m n o u p t j l g i w) (t5_36 b d m n o u p t j l g i w) (t5_37 b d m n o u p t j l g i w)
def q5 (r : Bool) : SV × List Blk × List Blk := (.bool r, [], [])
def g5 : GF := fun vs bs => match vs, bs with
 | [.agg [.ro [.str, W Z, W Z, W Z, W Z] b d, V Z m, V Z n, V Z o, V Z u, V Z p, V Z t, V Z j, V Z l], .agg [.ro [W Z] g i, V Z w]], [] => some (rs 0 (q5 (m5 b d m n o u p t j l g i w)) [n5 b d m n o u p t j l g i w])
 | _, _ => none
def c5 : Ctr := genC [.a [.ro [.str, W Z, W Z, W Z, W Z], .k, .k, .k, .k, .k, .k, .k, .k], .a [.ro [W Z], .k]] g5
theorem u5 (b : Nat) (d : Dat) (m n o u p t j l : Int) (g : Nat) (i : Dat) (w : Int) (z0 z1 : Bool) (z2 z3 : Nat) (z4 : Dat) (z5 z6 z7 z8 z9 z10 z11 z12 z13 z14 : Int) (z15 : Nat) (z16 : Dat) (z17 z18 z19 z20 z21 z22 z23 z24 z25 z26 z27 z28 : Int) (z29 : Dat) (z30 z31 : Nat) (z32 : Dat) (z33 z34 z35 z36 : Int) (z37 : Bool) (hn : v5 b d m n o u p t j l g i w z0 z1 z2 z3 z4 z5 z6 z7 z8 z9 z10 z11 z12 z13 z14 z15 z16 z17 z18 z19 z20 z21 z22 z23 z24 z25 z26 z27 z28 z29 z30 z31 z32 z33 z34 z35 z36 z37 = true) : U5 b d m n o u p t j l g i w z0 z1 z2 z3 z4 z5 z6 z7 z8 z9 z10 z11 z12 z13 z14 z15 z16 z17 z18 z19 z20 z21 z22 z23 z24 z25 z26 z27 z28 z29 z30 z31 z32 z33 z34 z35 z36 z37 (fun v U N => (v, U, N) = q5 (w5 b d m n o u p t j l g i w z0 z1 z2 z3 z4 z5 z6 z7 z8 z9 z10 z11 z12 z13 z14 z15 z16 z17 z18 z19 z20 z21 z22 z23 z24 z25 z26 z27 z28 z29 z30 z31 z32 z33 z34 z35 z36 z37)) :=
 cn (al hn) (co (fun h0 => lf (cT h0 rfl) rfl) (fun h0 => cn (al (cf h0 (ar hn))) (cn (al (ar (cf h0 (ar hn)))) (co (fun h1 => lf (cF h0 (cT h1 rfl)) rfl) (fun h1 => cn (al (cf h1 (ar (ar (cf h0 (ar hn)))))) (cn (al (ar (cf h1 (ar (ar (cf h0 (ar hn))))))) (cn (al (ar (ar (cf h1 (ar (ar (cf h0 (ar hn)))))))) (cn (al (ar (ar (ar (cf h1 (ar (ar (cf h0 (ar hn))))))))) (cn (al (ar (ar (ar (ar (cf h1 (ar (ar (cf h0 (ar hn)))))))))) (cn (al (ar (ar (ar (ar (ar (cf h1 (ar (ar (cf h0 (ar hn))))))))))) (cn (al (ar (ar (ar (ar (ar (ar (cf h1 (ar (ar (cf h0 (ar hn)))))))))))) (co (fun h2 => lf (cF h0 (cF h1 (cT h2 rfl))) rfl) (fun h2 => cn (al (cf h2 (ar (ar (ar (ar (ar (ar (ar (cf h1 (ar (ar (cf h0 (ar hn)))))))))))))) (co (fun h3 => lf (cF h0 (cF h1 (cF h2 (cT h3 rfl)))) rfl) (fun h3 => cn (al (cf h3 (ar (cf h2 (ar (ar (ar (ar (ar (ar (ar (cf h1 (ar (ar (cf h0 (ar hn)))))))))))))))) (cn (al (ar (cf h3 (ar (cf h2 (ar (ar (ar (ar (ar (ar (ar (cf h1 (ar (ar (cf h0 (ar hn))))))))))))))))) (cn (al (ar (ar (cf h3 (ar (cf h2 (ar (ar (ar (ar (ar (ar (ar (cf h1 (ar (ar (cf h0 (ar hn)))))))))))))))))) (cn (al (ar (ar (ar (cf h3 (ar (cf h2 (ar (ar (ar (ar (ar (ar (ar (cf h1 (ar (ar (cf h0 (ar hn))))))))))))))))))) (cn (al (ar (ar (ar (ar (cf h3 (ar (cf h2 (ar (ar (ar (ar (ar (ar (ar (cf h1 (ar (ar (cf h0 (ar hn)))))))))))))))))))) (cn (al (ar (ar (ar (ar (ar (cf h3 (ar (cf h2 (ar (ar (ar (ar (ar (ar (ar (cf h1 (ar (ar (cf h0 (ar hn))))))))))))))))))))) (cn (al (ar (ar (ar (ar (ar (ar (cf h3 (ar (cf h2 (ar (ar (ar (ar (ar (ar (ar (cf h1 (ar (ar (cf h0 (ar hn)))))))))))))))))))))) (cn (al (ar (ar (ar (ar (ar (ar (ar (cf h3 (ar (cf h2 (ar (ar (ar (ar (ar (ar (ar (cf h1 (ar (ar (cf h0 (ar hn))))))))))))))))))))))) (cn (al (ar (ar (ar (ar (ar (ar (ar (ar (cf h3 (ar (cf h2 (ar (ar (ar (ar (ar (ar (ar (cf h1 (ar (ar (cf h0 (ar hn)))))))))))))))))))))))) (co (fun h4 => lf (cF h0 (cF h1 (cF h2 (cF h3 (cT h4 rfl))))) rfl) (fun h4 => cn (al (cf h4 (ar (ar (ar (ar (ar (ar (ar (ar (ar (cf h3 (ar (cf h2 (ar (ar (ar (ar (ar (ar (ar (cf h1 (ar (ar (cf h0 (ar hn)))))))))))))))))))))))))) (cn (al (ar (cf h4 (ar (ar (ar (ar (ar (ar (ar (ar (ar (cf h3 (ar (cf h2 (ar (ar (ar (ar (ar (ar (ar (cf h1 (ar (ar (cf h0 (ar hn))))))))))))))))))))))))))) (co (fun h5 => lf (cF h0 (cF h1 (cF h2 (cF h3 (cF h4 (cT h5 rfl)))))) rfl) (fun h5 => cn (al (cf h5 (ar (ar (cf h4 (ar (ar (ar (ar (ar (ar (ar (ar (ar (cf h3 (ar (cf h2 (ar (ar (ar (ar (ar (ar (ar (cf h1 (ar (ar (cf h0 (ar hn))))))))))))))))))))))))))))) (cn (al (ar (cf h5 (ar (ar (cf h4 (ar (ar (ar (ar (ar (ar (ar (ar (ar (cf h3 (ar (cf h2 (ar (ar (ar (ar (ar (ar (ar (cf h1 (ar (ar (cf h0 (ar hn)))))))))))))))))))))))))))))) (co (fun h6 => lf (cF h0 (cF h1 (cF h2 (cF h3 (cF h4 (cF h5 (cT h6 rfl))))))) rfl) (fun h6 => cn (al (cf h6 (ar (ar (cf h5 (ar (ar (cf h4 (ar (ar (ar (ar (ar (ar (ar (ar (ar (cf h3 (ar (cf h2 (ar (ar (ar (ar (ar (ar (ar (cf h1 (ar (ar (cf h0 (ar hn)))))))))))))))))))))))))))))))) (co (fun h7 => lf (cF h0 (cF h1 (cF h2 (cF h3 (cF h4 (cF h5 (cF h6 (cT h7 rfl)))))))) rfl) (fun h7 => cn (al (cf h7 (ar (cf h6 (ar (ar (cf h5 (ar (ar (cf h4 (ar (ar (ar (ar (ar (ar (ar (ar (ar (cf h3 (ar (cf h2 (ar (ar (ar (ar (ar (ar (ar (cf h1 (ar (ar (cf h0 (ar hn)))))))))))))))))))))))))))))))))) (cn (al (ar (cf h7 (ar (cf h6 (ar (ar (cf h5 (ar (ar (cf h4 (ar (ar (ar (ar (ar (ar (ar (ar (ar (cf h3 (ar (cf h2 (ar (ar (ar (ar (ar (ar (ar (cf h1 (ar (ar (cf h0 (ar hn))))))))))))))))))))))))))))))))))) (cn (al (ar (ar (cf h7 (ar (cf h6 (ar (ar (cf h5 (ar (ar (cf h4 (ar (ar (ar (ar (ar (ar (ar (ar (ar (cf h3 (ar (cf h2 (ar (ar (ar (ar (ar (ar (ar (cf h1 (ar (ar (cf h0 (ar hn)))))))))))))))))))))))))))))))))))) (cn (al (ar (ar (ar (cf h7 (ar (cf h6 (ar (ar (cf h5 (ar (ar (cf h4 (ar (ar (ar (ar (ar (ar (ar (ar (ar (cf h3 (ar (cf h2 (ar (ar (ar (ar (ar (ar (ar (cf h1 (ar (ar (cf h0 (ar hn))))))))))))))))))))))))))))))))))))) (cn (al (ar (ar (ar (ar (cf h7 (ar (cf h6 (ar (ar (cf h5 (ar (ar (cf h4 (ar (ar (ar (ar (ar (ar (ar (ar (ar (cf h3 (ar (cf h2 (ar (ar (ar (ar (ar (ar (ar (cf h1 (ar (ar (cf h0 (ar hn)))))))))))))))))))))))))))))))))))))) (cn (al (ar (ar (ar (ar (ar (cf h7 (ar (cf h6 (ar (ar (cf h5 (ar (ar (cf h4 (ar (ar (ar (ar (ar (ar (ar (ar (ar (cf h3 (ar (cf h2 (ar (ar (ar (ar (ar (ar (ar (cf h1 (ar (ar (cf h0 (ar hn))))))))))))))))))))))))))))))))))))))) (lf (cF h0 (cF h1 (cF h2 (cF h3 (cF h4 (cF h5 (cF h6 (cF h7 rfl)))))))) rfl)))))))))))))))))))))))))))))))))))))))
theorem p5 (b : Nat) (d : Dat) (m n o u p t j l : Int) (g : Nat) (i : Dat) (w : Int) (hn : n5 b d m n o u p t j l g i w = true) : exec Try.prog [(18, c18), (32, c32), (34, c34), (35, c35), (36, c36s), (37, c37), (38, c38), (39, c39), (40, c40), (41, c41), (42, c42), (43, c43)] (lamOf [(0, g5_0), (2, g5_2), (4, g5_4)]) 9 (Try.f5.body.getD .skip) (initS Try.f5.ntmps [.agg [.ro [.str, W Z, W Z, W Z, W Z] b d, V Z m, V Z n, V Z o, V Z u, V Z p, V Z t, V Z j, V Z l], .agg [.ro [W Z] g i, V Z w]] 0 (memOf [])) (retK Try.prog Try.f5.results.toList (outK 0 (List.range 0) [] (.k) fun v U N => (v, U, N) = (q5 (m5 b d m n o u p t j l g i w)))) :=
 propOf (x5 b d m n o u p t j l g i w _) (u5 b d m n o u p t j l g i w (t5_0 b d m n o u p t j l g i w) (t5_1 b d m n o u p t j l g i w) (t5_2 b d m n o u p t j l g i w) (t5_3 b d m n o u p t j l g i w) (t5_4 b d m n o u p t j l g i w) (t5_5 b d m n o u p t j l g i w) (t5_6 b d m n o u p t j l g i w) (t5_7 b d m n o u p t j l g i w) (t5_8 b d m n o u p t j l g i w) (t5_9 b d m n o u p t j l g i w) (t5_10 b d m n o u p t j l g i w) (t5_11 b d m n o u p t j l g i w) (t5_12 b d m n o u p t j l g i w) (t5_13 b d m n o u p t j l g i w) (t5_14 b d m n o u p t j l g i w) (t5_15 b d m n o u p t j l g i w) (t5_16 b d m n o u p t j l g i w) (t5_17 b d m n o u p t j l g i w) (t5_18 b d m n o u p t j l g i w) (t5_19 b d m n o u p t j l g i w) (t5_20 b d m n o u p t j l g i w) (t5_21 b d m n o u p t j l g i w) (t5_22 b d m n o u p t j l g i w) (t5_23 b d m n o u p t j l g i w) (t5_24 b d m n o u p t j l g i w) (t5_25 b d m n o u p t j l g i w) (t5_26 b d m n o u p t j l g i w) (t5_27 b d m n o u p t j l g i w) (t5_28 b d m n o u p t j l g i w) (t5_29 b d m n o u p t j l g i w) (t5_30 b d m n o u p t j l g i w) (t5_31 b d m n o u p t j l g i w) (t5_32 b d m n o u p t j l g i w) (t5_33 b d m n o u p t j l g i w) (t5_34 b d m n o u p t j l g i w) (t5_35 b d m n o u p t j l g i w) (t5_36 b d m n o u p t j l g i w) (t5_37 b d m n o u p t j l g i w) hn)
theorem k5 : CtrOk Try.prog c5 5 := cx (tc k18 (tc k32 (tc k34 (tc k35 (tc k36s (tc k37 (tc k38 (tc k39 (tc k40 (tc k41 (tc k42 (tc k43 tn)))))))))))) mix_ok 9 (fn := Try.f5) (c := (Try.f5.body.getD .skip)) (grs := []) (rh := .k) Try.func5 rfl (by kernel_rfl) (lam_of rfl (lc z5_0 (lc z5_2 (lc z5_4 ln)))) fun vs bs q h hn => by
 unfold g5 at h
 split at h <;> cases h
 exact ⟨_, rfl, p5 _ _ _ _ _ _ _ _ _ _ _ _ _ (hn _ (List.mem_singleton.2 rfl))⟩
end
end Go.Proofs.Ytmndejpcpfkajaa
