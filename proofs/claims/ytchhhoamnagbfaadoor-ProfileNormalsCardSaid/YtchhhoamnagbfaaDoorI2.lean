/-
  Contracts of functions: models, equations by the kernel, contracts. Conditions: none.
-/
import Derived.Test.YtchhhoamnagbfaaDoorI1
import Derived.KernelRfl
namespace Go.Proofs.YtchhhoamnagbfaaDoor
open Go Go.Sy
set_option linter.unusedVariables false
set_option linter.unusedSimpArgs false
set_option maxRecDepth 100000
set_option maxHeartbeats 2000000
attribute [local irreducible] Go.IntKind.wrap Int.tdiv Int.tmod Int.fdiv
open Go.Sy renaming tabOk_cons → tc, tabOk_nil → tn, cnd_need → cn, leaf_of → lf, cnd_gg → cg, cnd_gg2 → ch, cond_f → cf, cond_t → ct, cnd_of → co, callOf → ca, roundOf → ro, cnd_not → nn, lams_cons → lc, lams_nil → ln, condT → cT, condF → cF, need1 → n1, resOf → rs, and_l → al, and_r → ar, or_gg → og, ctr_of → cx, loop_blk → lb
open Go.IntKind renaming i64 → Z
open Go.Sy.SV renaming int → V
open Go.Sy.Kd renaming int → W
/-! ### shotline/profile.normal -/
noncomputable def l73_0 (y : Nat) (d : Dat) (J : Int) (C : ByteArray) (D : Int) (A : Nat) (o I : Dat) (E : ByteArray) (F : Int) (G : ByteArray) (H : Int) : Nat → Nat → Int → Nat → Nat → Dat → Dat → Dat → Option (Nat × Nat × Nat × Dat × Nat × Dat × Nat × Dat)
  | 0, _, _, _, _, _, _, _ => none
  | f + 1, x, g, l, b, p, z, w => (cond (decide (g < J)) (cond (decide (0 ≤ g ∧ g < ↑y)) (cond (decide (0 ≤ d.ii g.toNat (0 + 1 + 1) ∧ d.ii g.toNat (0 + 1 + 1) < (↑A : Int))) (cond (decide ((0 + l) ≤ l)) (cond (n98 l z (o.ii ((d.ii g.toNat 2).toNat) 0) (o.ii ((d.ii g.toNat 2).toNat) 1)) (cond (decide ((m98 l z (o.ii ((d.ii g.toNat 2).toNat) 0) (o.ii ((d.ii g.toNat 2).toNat) 1)) < 0)) (cond (decide ((l + 1) ≤ 1073741824)) (cond (decide ((0 + x) ≤ x)) (cond (n62 x p) (cond (bif (bif (decide ((0 : Int) < (↑b : Int))) then false else true) then true else (decide (0 ≤ Z.wrap ((↑b : Int) - 1) ∧ Z.wrap ((↑b : Int) - 1) < (↑b : Int)))) (cond (bif (bif (decide ((0 : Int) < (↑b : Int))) then false else true) then true else (decide (((Z.wrap ((↑b : Int) - 1)).toNat) < b))) (cond (bif (bif (bif (decide ((0 : Int) < (↑b : Int))) then (decide ((w.ii ((Z.wrap ((↑b : Int) - 1)).toNat) 2) = (↑l : Int))) else false) then false else true) then true else (decide (0 ≤ Z.wrap ((↑b : Int) - 1) ∧ Z.wrap ((↑b : Int) - 1) < (↑x : Int)))) (cond (bif (bif (bif (decide ((0 : Int) < (↑b : Int))) then (decide ((w.ii ((Z.wrap ((↑b : Int) - 1)).toNat) 2) = (↑l : Int))) else false) then false else true) then true else (decide (((Z.wrap ((↑b : Int) - 1)).toNat) < x))) (cond (bif (bif (bif (decide ((0 : Int) < (↑b : Int))) then (decide ((w.ii ((Z.wrap ((↑b : Int) - 1)).toNat) 2) = (↑l : Int))) else false) then false else true) then true else (decide (0 ≤ (↑b : Int) ∧ (↑b : Int) < (↑x : Int)))) (cond (bif (bif (bif (decide ((0 : Int) < (↑b : Int))) then (decide ((w.ii ((Z.wrap ((↑b : Int) - 1)).toNat) 2) = (↑l : Int))) else false) then false else true) then true else (decide (((↑b : Int).toNat) < x))) (cond (bif (bif (decide ((0 : Int) < (↑b : Int))) then (decide ((w.ii ((Z.wrap ((↑b : Int) - 1)).toNat) 2) = (↑l : Int))) else false) then (m99 (p.ii ((Z.wrap ((↑b : Int) - 1)).toNat) 0) (p.ii ((Z.wrap ((↑b : Int) - 1)).toNat) 1) (p.ii ((↑b : Int).toNat) 0) (p.ii ((↑b : Int).toNat) 1) (Z.wrap ((m62 x p) + (d.ii g.toNat 0))) (d.ii g.toNat 1)) else false) (cond (decide (0 ≤ Z.wrap ((↑b : Int) - 1) ∧ Z.wrap ((↑b : Int) - 1) < (↑b : Int))) (cond (decide (((Z.wrap ((↑b : Int) - 1)).toNat) < b)) (cond (decide (0 ≤ Z.wrap ((↑b : Int) - 1) ∧ Z.wrap ((↑b : Int) - 1) < (↑b : Int))) (cond (decide (((Z.wrap ((↑b : Int) - 1)).toNat) < b)) (cond (decide (0 ≤ Z.wrap ((↑b : Int) - 1) ∧ Z.wrap ((↑b : Int) - 1) < (↑b : Int))) (cond (decide (((Z.wrap ((↑b : Int) - 1)).toNat) < b)) (cond (decide (0 ≤ (↑b : Int) ∧ (↑b : Int) < (↑x : Int))) (cond (decide (((↑b : Int).toNat) < x)) (l73_0 y d J C D A o I E F G H f x (Z.wrap (g + 1)) (l + 1) b (p.upd ((↑b : Int).toNat) 0 [V Z (Z.wrap ((m62 x p) + (d.ii g.toNat 0))), V Z (d.ii g.toNat 1)]) (z.app l (datS [V Z (o.ii ((d.ii g.toNat 2).toNat) 0), V Z (o.ii ((d.ii g.toNat 2).toNat) 1)] 2)) ((w.upd ((Z.wrap ((↑b : Int) - 1)).toNat) 0 [V Z (Z.wrap ((w.ii ((Z.wrap ((↑b : Int) - 1)).toNat) 0) + (d.ii g.toNat 0)))]).upd ((Z.wrap ((↑b : Int) - 1)).toNat) 1 [V Z (d.ii g.toNat 1)])) none) none) none) none) none) none) none) none) (cond (decide ((b + 1) ≤ 1073741824)) (cond (decide ((x + 1) ≤ 1073741824)) (l73_0 y d J C D A o I E F G H f (x + 1) (Z.wrap (g + 1)) (l + 1) (b + 1) (p.app x (datS [V Z (Z.wrap ((m62 x p) + (d.ii g.toNat 0))), V Z (d.ii g.toNat 1)] 2)) (z.app l (datS [V Z (o.ii ((d.ii g.toNat 2).toNat) 0), V Z (o.ii ((d.ii g.toNat 2).toNat) 1)] 2)) (w.app b (datS [V Z (d.ii g.toNat 0), V Z (d.ii g.toNat 1), V Z (↑l : Int)] 3))) none) none)) none) none) none) none) none) none) none) none) none) (cond (decide ((0 + x) ≤ x)) (cond (n62 x p) (cond (bif (bif (decide ((0 : Int) < (↑b : Int))) then false else true) then true else (decide (0 ≤ Z.wrap ((↑b : Int) - 1) ∧ Z.wrap ((↑b : Int) - 1) < (↑b : Int)))) (cond (bif (bif (decide ((0 : Int) < (↑b : Int))) then false else true) then true else (decide (((Z.wrap ((↑b : Int) - 1)).toNat) < b))) (cond (bif (bif (bif (decide ((0 : Int) < (↑b : Int))) then (decide ((w.ii ((Z.wrap ((↑b : Int) - 1)).toNat) 2) = (m98 l z (o.ii ((d.ii g.toNat 2).toNat) 0) (o.ii ((d.ii g.toNat 2).toNat) 1)))) else false) then false else true) then true else (decide (0 ≤ Z.wrap ((↑b : Int) - 1) ∧ Z.wrap ((↑b : Int) - 1) < (↑x : Int)))) (cond (bif (bif (bif (decide ((0 : Int) < (↑b : Int))) then (decide ((w.ii ((Z.wrap ((↑b : Int) - 1)).toNat) 2) = (m98 l z (o.ii ((d.ii g.toNat 2).toNat) 0) (o.ii ((d.ii g.toNat 2).toNat) 1)))) else false) then false else true) then true else (decide (((Z.wrap ((↑b : Int) - 1)).toNat) < x))) (cond (bif (bif (bif (decide ((0 : Int) < (↑b : Int))) then (decide ((w.ii ((Z.wrap ((↑b : Int) - 1)).toNat) 2) = (m98 l z (o.ii ((d.ii g.toNat 2).toNat) 0) (o.ii ((d.ii g.toNat 2).toNat) 1)))) else false) then false else true) then true else (decide (0 ≤ (↑b : Int) ∧ (↑b : Int) < (↑x : Int)))) (cond (bif (bif (bif (decide ((0 : Int) < (↑b : Int))) then (decide ((w.ii ((Z.wrap ((↑b : Int) - 1)).toNat) 2) = (m98 l z (o.ii ((d.ii g.toNat 2).toNat) 0) (o.ii ((d.ii g.toNat 2).toNat) 1)))) else false) then false else true) then true else (decide (((↑b : Int).toNat) < x))) (cond (bif (bif (decide ((0 : Int) < (↑b : Int))) then (decide ((w.ii ((Z.wrap ((↑b : Int) - 1)).toNat) 2) = (m98 l z (o.ii ((d.ii g.toNat 2).toNat) 0) (o.ii ((d.ii g.toNat 2).toNat) 1)))) else false) then (m99 (p.ii ((Z.wrap ((↑b : Int) - 1)).toNat) 0) (p.ii ((Z.wrap ((↑b : Int) - 1)).toNat) 1) (p.ii ((↑b : Int).toNat) 0) (p.ii ((↑b : Int).toNat) 1) (Z.wrap ((m62 x p) + (d.ii g.toNat 0))) (d.ii g.toNat 1)) else false) (cond (decide (0 ≤ Z.wrap ((↑b : Int) - 1) ∧ Z.wrap ((↑b : Int) - 1) < (↑b : Int))) (cond (decide (((Z.wrap ((↑b : Int) - 1)).toNat) < b)) (cond (decide (0 ≤ Z.wrap ((↑b : Int) - 1) ∧ Z.wrap ((↑b : Int) - 1) < (↑b : Int))) (cond (decide (((Z.wrap ((↑b : Int) - 1)).toNat) < b)) (cond (decide (0 ≤ Z.wrap ((↑b : Int) - 1) ∧ Z.wrap ((↑b : Int) - 1) < (↑b : Int))) (cond (decide (((Z.wrap ((↑b : Int) - 1)).toNat) < b)) (cond (decide (0 ≤ (↑b : Int) ∧ (↑b : Int) < (↑x : Int))) (cond (decide (((↑b : Int).toNat) < x)) (l73_0 y d J C D A o I E F G H f x (Z.wrap (g + 1)) l b (p.upd ((↑b : Int).toNat) 0 [V Z (Z.wrap ((m62 x p) + (d.ii g.toNat 0))), V Z (d.ii g.toNat 1)]) z ((w.upd ((Z.wrap ((↑b : Int) - 1)).toNat) 0 [V Z (Z.wrap ((w.ii ((Z.wrap ((↑b : Int) - 1)).toNat) 0) + (d.ii g.toNat 0)))]).upd ((Z.wrap ((↑b : Int) - 1)).toNat) 1 [V Z (d.ii g.toNat 1)])) none) none) none) none) none) none) none) none) (cond (decide ((b + 1) ≤ 1073741824)) (cond (decide ((x + 1) ≤ 1073741824)) (l73_0 y d J C D A o I E F G H f (x + 1) (Z.wrap (g + 1)) l (b + 1) (p.app x (datS [V Z (Z.wrap ((m62 x p) + (d.ii g.toNat 0))), V Z (d.ii g.toNat 1)] 2)) z (w.app b (datS [V Z (d.ii g.toNat 0), V Z (d.ii g.toNat 1), V Z (m98 l z (o.ii ((d.ii g.toNat 2).toNat) 0) (o.ii ((d.ii g.toNat 2).toNat) 1))] 3))) none) none)) none) none) none) none) none) none) none) none)) none) none) none) none) (some (l, b, x, p, l, z, b, w)))
noncomputable abbrev o73_0 (y : Nat) (d : Dat) (J : Int) (C : ByteArray) (D : Int) (A : Nat) (o I : Dat) (E : ByteArray) (F : Int) (G : ByteArray) (H : Int) (x : Nat) (g : Int) (l b : Nat) (p z w : Dat) : Option (Nat × Nat × Nat × Dat × Nat × Dat × Nat × Dat) := l73_0 y d J C D A o I E F G H (x + y + J.toNat + g.toNat + C.size + D.toNat + A + E.size + F.toNat + G.size + H.toNat + l + b + 8) x g l b p z w
noncomputable def e73_0 (y : Nat) (d : Dat) (J : Int) (C : ByteArray) (D : Int) (A : Nat) (o I : Dat) (E : ByteArray) (F : Int) (G : ByteArray) (H : Int) (r : Nat × Nat × Nat × Dat × Nat × Dat × Nat × Dat) (K : XR) : Prop := K (XE.exit 0) [.ptr 0 0, .ptr 1 0, .ptr 2 0] [.cells 41 [.str C, V Z D, .ro [W Z, W Z] A o, .ro [W Z, W Z, W Z] y I], .cells 41 [.str E, V Z F, .nsl, .nsl], .cells 41 [.str G, V Z H, .gr 4 2 r.1, .gr 5 3 r.2.1], .row 35 [W Z, W Z] r.2.2.1 r.2.2.2.1, .row 97 [W Z, W Z] r.2.2.2.2.1 r.2.2.2.2.2.1, .row 74 [W Z, W Z, W Z] r.2.2.2.2.2.2.1 r.2.2.2.2.2.2.2]
noncomputable def g73_0 : LSum := fun s k => match czv 0 132 [1, 2, 3, 4, 18, 19, 20] 6 [⟨true, 4, 0, 3, 35, [W Z, W Z]⟩, ⟨false, 2, 2, 4, 97, [W Z, W Z]⟩, ⟨false, 2, 3, 5, 74, [W Z, W Z, W Z]⟩] s with
  | some ([.ptr 0 0, .ptr 1 0, .ptr 2 0, .gr 3 2 x, .ro [W Z, W Z, W Z] y d, V Z J, V Z g], [.cells 41 [.str C, V Z D, .ro [W Z, W Z] A o, .ro [W Z, W Z, W Z] b0_4 I], .cells 41 [.str E, V Z F, .nsl, .nsl], .cells 41 [.str G, V Z H, .gr 4 2 l, .gr 5 3 b], .row 35 [W Z, W Z] b3_0 p, .row 97 [W Z, W Z] b4_0 z, .row 74 [W Z, W Z, W Z] b5_0 w]) => needs [decide (y = b0_4), decide (x = b3_0), decide (l = b4_0), decide (b = b5_0), (o73_0 y d J C D A o I E F G H x g l b p z w).isSome] (e73_0 y d J C D A o I E F G H ((o73_0 y d J C D A o I E F G H x g l b p z w).getD default) fun e vs bs => inBlk 0 k e (mkSt 0 132 [1, 2, 3] vs 6 bs))
  | _ => False
theorem z73_0 : LOk Tryd.prog g73_0 (.block 0 (bodyAt (Tryd.f73.body.getD .skip) 0)) := by
  refine lb (ι := Nat × Nat × Dat × Int × Int × ByteArray × Int × Nat × Dat × Dat × ByteArray × Int × ByteArray × Int × Nat × Nat × Dat × Dat × Dat) (fuel := 8) (na := 0) (nt := 132) (nx := 6) (Lh := [1, 2, 3, 4, 18, 19, 20]) (Le := [1, 2, 3]) (gl := [⟨true, 4, 0, 3, 35, [W Z, W Z]⟩, ⟨false, 2, 2, 4, 97, [W Z, W Z]⟩, ⟨false, 2, 3, 5, 74, [W Z, W Z, W Z]⟩]) (tc k62 (tc k98 (tc k99 tn))) mix_ok noLam rfl (fun f (x, y, d, J, g, C, D, A, o, I, E, F, G, H, l, b, p, z, w) K => GG default (e73_0 y d J C D A o I E F G H) K (l73_0 y d J C D A o I E F G H f x g l b p z w)) (fun (x, y, d, J, g, C, D, A, o, I, E, F, G, H, l, b, p, z, w) => [.ptr 0 0, .ptr 1 0, .ptr 2 0, .gr 3 2 x, .ro [W Z, W Z, W Z] y d, V Z J, V Z g]) (fun (x, y, d, J, g, C, D, A, o, I, E, F, G, H, l, b, p, z, w) => [.cells 41 [.str C, V Z D, .ro [W Z, W Z] A o, .ro [W Z, W Z, W Z] y I], .cells 41 [.str E, V Z F, .nsl, .nsl], .cells 41 [.str G, V Z H, .gr 4 2 l, .gr 5 3 b], .row 35 [W Z, W Z] x p, .row 97 [W Z, W Z] l z, .row 74 [W Z, W Z, W Z] b w]) (fun (_, _, _, _, _, _, _, _, _, _, _, _, _, _, _, _, _, _, _) K => gg_none) ?_ ?_
  · rintro f ⟨x, y, d, J, g, C, D, A, o, I, E, F, G, H, l, b, p, z, w⟩ K hG
    refine ro (fun R => (cnd (decide (g < J))
 (cnd (decide (0 ≤ g ∧ g < ↑y))
 (cnd (decide (0 ≤ d.ii g.toNat (0 + 1 + 1) ∧ d.ii g.toNat (0 + 1 + 1) < (↑A : Int)))
 (cnd (decide ((0 + l) ≤ l))
 (cnd (n98 l z (o.ii ((d.ii g.toNat 2).toNat) 0) (o.ii ((d.ii g.toNat 2).toNat) 1))
 (cnd (decide ((m98 l z (o.ii ((d.ii g.toNat 2).toNat) 0) (o.ii ((d.ii g.toNat 2).toNat) 1)) < 0))
 (cnd (decide (l ≤ l))
 (cnd (decide ((l + 1) ≤ 1073741824))
 (cnd (decide ((0 + x) ≤ x))
 (cnd (n62 x p)
 (cnd (bif (bif (decide ((0 : Int) < (↑b : Int))) then false else true) then true else (decide (0 ≤ Z.wrap ((↑b : Int) - 1) ∧ Z.wrap ((↑b : Int) - 1) < (↑b : Int))))
 (cnd (bif (bif (decide ((0 : Int) < (↑b : Int))) then false else true) then true else (decide (((Z.wrap ((↑b : Int) - 1)).toNat) < b)))
 (cnd (bif (bif (bif (decide ((0 : Int) < (↑b : Int))) then (decide ((w.ii ((Z.wrap ((↑b : Int) - 1)).toNat) 2) = (↑l : Int))) else false) then false else true) then true else (decide (0 ≤ Z.wrap ((↑b : Int) - 1) ∧ Z.wrap ((↑b : Int) - 1) < (↑x : Int))))
 (cnd (bif (bif (bif (decide ((0 : Int) < (↑b : Int))) then (decide ((w.ii ((Z.wrap ((↑b : Int) - 1)).toNat) 2) = (↑l : Int))) else false) then false else true) then true else (decide (((Z.wrap ((↑b : Int) - 1)).toNat) < x)))
 (cnd (bif (bif (bif (decide ((0 : Int) < (↑b : Int))) then (decide ((w.ii ((Z.wrap ((↑b : Int) - 1)).toNat) 2) = (↑l : Int))) else false) then false else true) then true else (decide (0 ≤ (↑b : Int) ∧ (↑b : Int) < (↑x : Int))))
 (cnd (bif (bif (bif (decide ((0 : Int) < (↑b : Int))) then (decide ((w.ii ((Z.wrap ((↑b : Int) - 1)).toNat) 2) = (↑l : Int))) else false) then false else true) then true else (decide (((↑b : Int).toNat) < x)))
 (cnd (bif (bif (decide ((0 : Int) < (↑b : Int))) then (decide ((w.ii ((Z.wrap ((↑b : Int) - 1)).toNat) 2) = (↑l : Int))) else false) then (m99 (p.ii ((Z.wrap ((↑b : Int) - 1)).toNat) 0) (p.ii ((Z.wrap ((↑b : Int) - 1)).toNat) 1) (p.ii ((↑b : Int).toNat) 0) (p.ii ((↑b : Int).toNat) 1) (Z.wrap ((m62 x p) + (d.ii g.toNat 0))) (d.ii g.toNat 1)) else false)
 (cnd (decide (0 ≤ Z.wrap ((↑b : Int) - 1) ∧ Z.wrap ((↑b : Int) - 1) < (↑b : Int)))
 (cnd (decide (((Z.wrap ((↑b : Int) - 1)).toNat) < b))
 (cnd (decide (0 ≤ Z.wrap ((↑b : Int) - 1) ∧ Z.wrap ((↑b : Int) - 1) < (↑b : Int)))
 (cnd (decide (((Z.wrap ((↑b : Int) - 1)).toNat) < b))
 (cnd (decide (0 ≤ Z.wrap ((↑b : Int) - 1) ∧ Z.wrap ((↑b : Int) - 1) < (↑b : Int)))
 (cnd (decide (((Z.wrap ((↑b : Int) - 1)).toNat) < b))
 (cnd (decide (0 ≤ (↑b : Int) ∧ (↑b : Int) < (↑x : Int)))
 (cnd (decide (((↑b : Int).toNat) < x))
 (R (XE.normal) [.ptr 0 0, .ptr 1 0, .ptr 2 0, .gr 3 2 x, .ro [W Z, W Z, W Z] y d, V Z J, V Z (Z.wrap (g + 1))] [.cells 41 [.str C, V Z D, .ro [W Z, W Z] A o, .ro [W Z, W Z, W Z] y I], .cells 41 [.str E, V Z F, .nsl, .nsl], .cells 41 [.str G, V Z H, .gr 4 2 (l + 1), .gr 5 3 b], .row 35 [W Z, W Z] x (p.upd ((↑b : Int).toNat) 0 [V Z (Z.wrap ((m62 x p) + (d.ii g.toNat 0))), V Z (d.ii g.toNat 1)]), .row 97 [W Z, W Z] (l + 1) (z.app l (datS [V Z (o.ii ((d.ii g.toNat 2).toNat) 0), V Z (o.ii ((d.ii g.toNat 2).toNat) 1)] 2)), .row 74 [W Z, W Z, W Z] b ((w.upd ((Z.wrap ((↑b : Int) - 1)).toNat) 0 [V Z (Z.wrap ((w.ii ((Z.wrap ((↑b : Int) - 1)).toNat) 0) + (d.ii g.toNat 0)))]).upd ((Z.wrap ((↑b : Int) - 1)).toNat) 1 [V Z (d.ii g.toNat 1)])])
                          False)
                         False)
                        False)
                       False)
                      False)
                     False)
                    False)
                   False)
 (cnd (decide (b ≤ b))
 (cnd (decide ((b + 1) ≤ 1073741824))
 (cnd (decide (x ≤ x))
 (cnd (decide ((x + 1) ≤ 1073741824))
 (R (XE.normal) [.ptr 0 0, .ptr 1 0, .ptr 2 0, .gr 3 2 (x + 1), .ro [W Z, W Z, W Z] y d, V Z J, V Z (Z.wrap (g + 1))] [.cells 41 [.str C, V Z D, .ro [W Z, W Z] A o, .ro [W Z, W Z, W Z] y I], .cells 41 [.str E, V Z F, .nsl, .nsl], .cells 41 [.str G, V Z H, .gr 4 2 (l + 1), .gr 5 3 (b + 1)], .row 35 [W Z, W Z] (x + 1) (p.app x (datS [V Z (Z.wrap ((m62 x p) + (d.ii g.toNat 0))), V Z (d.ii g.toNat 1)] 2)), .row 97 [W Z, W Z] (l + 1) (z.app l (datS [V Z (o.ii ((d.ii g.toNat 2).toNat) 0), V Z (o.ii ((d.ii g.toNat 2).toNat) 1)] 2)), .row 74 [W Z, W Z, W Z] (b + 1) (w.app b (datS [V Z (d.ii g.toNat 0), V Z (d.ii g.toNat 1), V Z (↑l : Int)] 3))])
                      False)
                     False)
                    False)
                   False))
                 False)
                False)
               False)
              False)
             False)
            False)
           False)
          False)
         False)
        False)
 (cnd (decide ((0 + x) ≤ x))
 (cnd (n62 x p)
 (cnd (bif (bif (decide ((0 : Int) < (↑b : Int))) then false else true) then true else (decide (0 ≤ Z.wrap ((↑b : Int) - 1) ∧ Z.wrap ((↑b : Int) - 1) < (↑b : Int))))
 (cnd (bif (bif (decide ((0 : Int) < (↑b : Int))) then false else true) then true else (decide (((Z.wrap ((↑b : Int) - 1)).toNat) < b)))
 (cnd (bif (bif (bif (decide ((0 : Int) < (↑b : Int))) then (decide ((w.ii ((Z.wrap ((↑b : Int) - 1)).toNat) 2) = (m98 l z (o.ii ((d.ii g.toNat 2).toNat) 0) (o.ii ((d.ii g.toNat 2).toNat) 1)))) else false) then false else true) then true else (decide (0 ≤ Z.wrap ((↑b : Int) - 1) ∧ Z.wrap ((↑b : Int) - 1) < (↑x : Int))))
 (cnd (bif (bif (bif (decide ((0 : Int) < (↑b : Int))) then (decide ((w.ii ((Z.wrap ((↑b : Int) - 1)).toNat) 2) = (m98 l z (o.ii ((d.ii g.toNat 2).toNat) 0) (o.ii ((d.ii g.toNat 2).toNat) 1)))) else false) then false else true) then true else (decide (((Z.wrap ((↑b : Int) - 1)).toNat) < x)))
 (cnd (bif (bif (bif (decide ((0 : Int) < (↑b : Int))) then (decide ((w.ii ((Z.wrap ((↑b : Int) - 1)).toNat) 2) = (m98 l z (o.ii ((d.ii g.toNat 2).toNat) 0) (o.ii ((d.ii g.toNat 2).toNat) 1)))) else false) then false else true) then true else (decide (0 ≤ (↑b : Int) ∧ (↑b : Int) < (↑x : Int))))
 (cnd (bif (bif (bif (decide ((0 : Int) < (↑b : Int))) then (decide ((w.ii ((Z.wrap ((↑b : Int) - 1)).toNat) 2) = (m98 l z (o.ii ((d.ii g.toNat 2).toNat) 0) (o.ii ((d.ii g.toNat 2).toNat) 1)))) else false) then false else true) then true else (decide (((↑b : Int).toNat) < x)))
 (cnd (bif (bif (decide ((0 : Int) < (↑b : Int))) then (decide ((w.ii ((Z.wrap ((↑b : Int) - 1)).toNat) 2) = (m98 l z (o.ii ((d.ii g.toNat 2).toNat) 0) (o.ii ((d.ii g.toNat 2).toNat) 1)))) else false) then (m99 (p.ii ((Z.wrap ((↑b : Int) - 1)).toNat) 0) (p.ii ((Z.wrap ((↑b : Int) - 1)).toNat) 1) (p.ii ((↑b : Int).toNat) 0) (p.ii ((↑b : Int).toNat) 1) (Z.wrap ((m62 x p) + (d.ii g.toNat 0))) (d.ii g.toNat 1)) else false)
 (cnd (decide (0 ≤ Z.wrap ((↑b : Int) - 1) ∧ Z.wrap ((↑b : Int) - 1) < (↑b : Int)))
 (cnd (decide (((Z.wrap ((↑b : Int) - 1)).toNat) < b))
 (cnd (decide (0 ≤ Z.wrap ((↑b : Int) - 1) ∧ Z.wrap ((↑b : Int) - 1) < (↑b : Int)))
 (cnd (decide (((Z.wrap ((↑b : Int) - 1)).toNat) < b))
 (cnd (decide (0 ≤ Z.wrap ((↑b : Int) - 1) ∧ Z.wrap ((↑b : Int) - 1) < (↑b : Int)))
 (cnd (decide (((Z.wrap ((↑b : Int) - 1)).toNat) < b))
 (cnd (decide (0 ≤ (↑b : Int) ∧ (↑b : Int) < (↑x : Int)))
 (cnd (decide (((↑b : Int).toNat) < x))
 (R (XE.normal) [.ptr 0 0, .ptr 1 0, .ptr 2 0, .gr 3 2 x, .ro [W Z, W Z, W Z] y d, V Z J, V Z (Z.wrap (g + 1))] [.cells 41 [.str C, V Z D, .ro [W Z, W Z] A o, .ro [W Z, W Z, W Z] y I], .cells 41 [.str E, V Z F, .nsl, .nsl], .cells 41 [.str G, V Z H, .gr 4 2 l, .gr 5 3 b], .row 35 [W Z, W Z] x (p.upd ((↑b : Int).toNat) 0 [V Z (Z.wrap ((m62 x p) + (d.ii g.toNat 0))), V Z (d.ii g.toNat 1)]), .row 97 [W Z, W Z] l z, .row 74 [W Z, W Z, W Z] b ((w.upd ((Z.wrap ((↑b : Int) - 1)).toNat) 0 [V Z (Z.wrap ((w.ii ((Z.wrap ((↑b : Int) - 1)).toNat) 0) + (d.ii g.toNat 0)))]).upd ((Z.wrap ((↑b : Int) - 1)).toNat) 1 [V Z (d.ii g.toNat 1)])])
                        False)
                       False)
                      False)
                     False)
                    False)
                   False)
                  False)
                 False)
 (cnd (decide (b ≤ b))
 (cnd (decide ((b + 1) ≤ 1073741824))
 (cnd (decide (x ≤ x))
 (cnd (decide ((x + 1) ≤ 1073741824))
 (R (XE.normal) [.ptr 0 0, .ptr 1 0, .ptr 2 0, .gr 3 2 (x + 1), .ro [W Z, W Z, W Z] y d, V Z J, V Z (Z.wrap (g + 1))] [.cells 41 [.str C, V Z D, .ro [W Z, W Z] A o, .ro [W Z, W Z, W Z] y I], .cells 41 [.str E, V Z F, .nsl, .nsl], .cells 41 [.str G, V Z H, .gr 4 2 l, .gr 5 3 (b + 1)], .row 35 [W Z, W Z] (x + 1) (p.app x (datS [V Z (Z.wrap ((m62 x p) + (d.ii g.toNat 0))), V Z (d.ii g.toNat 1)] 2)), .row 97 [W Z, W Z] l z, .row 74 [W Z, W Z, W Z] (b + 1) (w.app b (datS [V Z (d.ii g.toNat 0), V Z (d.ii g.toNat 1), V Z (m98 l z (o.ii ((d.ii g.toNat 2).toNat) 0) (o.ii ((d.ii g.toNat 2).toNat) 1))] 3))])
                    False)
                   False)
                  False)
                 False))
               False)
              False)
             False)
            False)
           False)
          False)
         False)
        False))
      False)
     False)
    False)
   False)
 (R (XE.exit 0) [.ptr 0 0, .ptr 1 0, .ptr 2 0] [.cells 41 [.str C, V Z D, .ro [W Z, W Z] A o, .ro [W Z, W Z, W Z] y I], .cells 41 [.str E, V Z F, .nsl, .nsl], .cells 41 [.str G, V Z H, .gr 4 2 l, .gr 5 3 b], .row 35 [W Z, W Z] x p, .row 97 [W Z, W Z] l z, .row 74 [W Z, W Z, W Z] b w]))) (fun R => by kernel_rfl) ?_
    exact ch hG (fun h0 => cg h0 fun h1 => cg h1 fun h2 => cg h2 fun h3 => cg h3 fun h4 => ch h4 (fun h5 => cn (decide_eq_true (Nat.le_refl _)) (cg h5 fun h6 => cg h6 fun h7 => cg h7 fun h8 => cg h8 fun h9 => cg h9 fun h10 => cg h10 fun h11 => cg h11 fun h12 => cg h12 fun h13 => cg h13 fun h14 => ch h14 (fun h15 => cg h15 fun h16 => cg h16 fun h17 => cg h17 fun h18 => cg h18 fun h19 => cg h19 fun h20 => cg h20 fun h21 => cg h21 fun h22 => cg h22 fun h23 => ⟨(_, _, _, _, _, _, _, _, _, _, _, _, _, _, _, _, _, _, _), rfl, rfl, h23⟩) (fun h15 => cn (decide_eq_true (Nat.le_refl _)) (cg h15 fun h16 => cn (decide_eq_true (Nat.le_refl _)) (cg h16 fun h17 => ⟨(_, _, _, _, _, _, _, _, _, _, _, _, _, _, _, _, _, _, _), rfl, rfl, h17⟩))))) (fun h5 => cg h5 fun h6 => cg h6 fun h7 => cg h7 fun h8 => cg h8 fun h9 => cg h9 fun h10 => cg h10 fun h11 => cg h11 fun h12 => cg h12 fun h13 => ch h13 (fun h14 => cg h14 fun h15 => cg h15 fun h16 => cg h16 fun h17 => cg h17 fun h18 => cg h18 fun h19 => cg h19 fun h20 => cg h20 fun h21 => cg h21 fun h22 => ⟨(_, _, _, _, _, _, _, _, _, _, _, _, _, _, _, _, _, _, _), rfl, rfl, h22⟩) (fun h14 => cn (decide_eq_true (Nat.le_refl _)) (cg h14 fun h15 => cn (decide_eq_true (Nat.le_refl _)) (cg h15 fun h16 => ⟨(_, _, _, _, _, _, _, _, _, _, _, _, _, _, _, _, _, _, _), rfl, rfl, h16⟩))))) (fun h0 => h0.2)
  · intro s k h
    unfold g73_0 at h
    split at h <;> try exact h.elim
    rename_i e1
    rw [needs_iff] at h
    have hq := h.1
    simp only [List.mem_cons, forall_eq_or_imp, decide_eq_true_eq, List.not_mem_nil, false_imp_iff, implies_true, and_true] at hq
    obtain ⟨rfl, rfl, rfl, rfl, hq⟩ := hq
    exact ⟨_, e1, _, (_, _, _, _, _, _, _, _, _, _, _, _, _, _, _, _, _, _, _), rfl, rfl, hq, h.2⟩
noncomputable def m73 (m : ByteArray) (n : Int) (v : Nat) (u : Dat) (i : Nat) (j : Dat) : ByteArray × Int × Nat × Dat × Nat × Dat :=
  (cond (decide ((↑(((o73_0 i j (↑i : Int) m n v u j ({ data := #[] } : ByteArray) 0 m n 1 0 0 0 (datS [V Z 0, V Z 0] 2) noDat noDat).getD default).2.1) : Int) = 0)) (m, n, 1, (datS [V Z (u.ii 0 0), V Z (u.ii 0 1)] 2), ((o73_0 i j (↑i : Int) m n v u j ({ data := #[] } : ByteArray) 0 m n 1 0 0 0 (datS [V Z 0, V Z 0] 2) noDat noDat).getD default).2.1, ((o73_0 i j (↑i : Int) m n v u j ({ data := #[] } : ByteArray) 0 m n 1 0 0 0 (datS [V Z 0, V Z 0] 2) noDat noDat).getD default).2.2.2.2.2.2.2) (m, n, ((o73_0 i j (↑i : Int) m n v u j ({ data := #[] } : ByteArray) 0 m n 1 0 0 0 (datS [V Z 0, V Z 0] 2) noDat noDat).getD default).1, ((o73_0 i j (↑i : Int) m n v u j ({ data := #[] } : ByteArray) 0 m n 1 0 0 0 (datS [V Z 0, V Z 0] 2) noDat noDat).getD default).2.2.2.2.2.1, ((o73_0 i j (↑i : Int) m n v u j ({ data := #[] } : ByteArray) 0 m n 1 0 0 0 (datS [V Z 0, V Z 0] 2) noDat noDat).getD default).2.1, ((o73_0 i j (↑i : Int) m n v u j ({ data := #[] } : ByteArray) 0 m n 1 0 0 0 (datS [V Z 0, V Z 0] 2) noDat noDat).getD default).2.2.2.2.2.2.2))
noncomputable def n73 (m : ByteArray) (n : Int) (v : Nat) (u : Dat) (i : Nat) (j : Dat) : Bool :=
  (((o73_0 i j (↑i : Int) m n v u j ({ data := #[] } : ByteArray) 0 m n 1 0 0 0 (datS [V Z 0, V Z 0] 2) noDat noDat).isSome) && (cond (decide ((↑(((o73_0 i j (↑i : Int) m n v u j ({ data := #[] } : ByteArray) 0 m n 1 0 0 0 (datS [V Z 0, V Z 0] 2) noDat noDat).getD default).2.1) : Int) = 0)) ((decide ((0 : Int) ≤ (0 : Int) ∧ (0 : Int) < (↑v : Int))) && ((decide ((0 + ((o73_0 i j (↑i : Int) m n v u j ({ data := #[] } : ByteArray) 0 m n 1 0 0 0 (datS [V Z 0, V Z 0] 2) noDat noDat).getD default).2.1) ≤ ((o73_0 i j (↑i : Int) m n v u j ({ data := #[] } : ByteArray) 0 m n 1 0 0 0 (datS [V Z 0, V Z 0] 2) noDat noDat).getD default).2.2.2.2.2.2.1)) && true)) ((decide ((0 + ((o73_0 i j (↑i : Int) m n v u j ({ data := #[] } : ByteArray) 0 m n 1 0 0 0 (datS [V Z 0, V Z 0] 2) noDat noDat).getD default).1) ≤ ((o73_0 i j (↑i : Int) m n v u j ({ data := #[] } : ByteArray) 0 m n 1 0 0 0 (datS [V Z 0, V Z 0] 2) noDat noDat).getD default).2.2.2.2.1)) && ((decide ((0 + ((o73_0 i j (↑i : Int) m n v u j ({ data := #[] } : ByteArray) 0 m n 1 0 0 0 (datS [V Z 0, V Z 0] 2) noDat noDat).getD default).2.1) ≤ ((o73_0 i j (↑i : Int) m n v u j ({ data := #[] } : ByteArray) 0 m n 1 0 0 0 (datS [V Z 0, V Z 0] 2) noDat noDat).getD default).2.2.2.2.2.2.1)) && true))))
noncomputable def q73 (r : ByteArray × Int × Nat × Dat × Nat × Dat) : SV × List Blk × List Blk := (.agg [.str r.1, V Z r.2.1, .ro [W Z, W Z] r.2.2.1 r.2.2.2.1, .ro [W Z, W Z, W Z] r.2.2.2.2.1 r.2.2.2.2.2], [], [])
noncomputable def g73 : GF := fun vs bs => match vs, bs with
  | [.agg [.str m, V Z n, .ro [W Z, W Z] v u, .ro [W Z, W Z, W Z] i j]], [] => some (rs 0 (q73 (m73 m n v u i j)) [n73 m n v u i j])
  | _, _ => none
noncomputable def c73 : Ctr := genC [.a [.k, .k, .ro [W Z, W Z], .ro [W Z, W Z, W Z]]] g73
theorem k73 : CtrOk Tryd.prog c73 73 := cx (tc k62 (tc k98 (tc k99 tn))) mix_ok 8 (fn := Tryd.f73) (c := (Tryd.f73.body.getD .skip)) (grs := []) (rh := .t [.k, .k, .ro [W Z, W Z], .ro [W Z, W Z, W Z]]) Tryd.func73 rfl (by kernel_rfl) (lam_of rfl (lc z73_0 ln)) fun vs bs q h hn => by
  unfold g73 at h
  split at h <;> cases h
  rename_i m n v u i j
  have hn := n1 hn
  exact ⟨_, rfl, ca (fun R => (cnd (decide (i = i))
 (cnd ((o73_0 i j (↑i : Int) m n v u j ({ data := #[] } : ByteArray) 0 m n 1 0 0 0 (datS [V Z 0, V Z 0] 2) noDat noDat).isSome)
 (cnd (decide ((↑(((o73_0 i j (↑i : Int) m n v u j ({ data := #[] } : ByteArray) 0 m n 1 0 0 0 (datS [V Z 0, V Z 0] 2) noDat noDat).getD default).2.1) : Int) = 0))
 (cnd (decide ((0 : Int) ≤ (0 : Int) ∧ (0 : Int) < (↑v : Int)))
 (cnd (decide ((0 + ((o73_0 i j (↑i : Int) m n v u j ({ data := #[] } : ByteArray) 0 m n 1 0 0 0 (datS [V Z 0, V Z 0] 2) noDat noDat).getD default).2.1) ≤ ((o73_0 i j (↑i : Int) m n v u j ({ data := #[] } : ByteArray) 0 m n 1 0 0 0 (datS [V Z 0, V Z 0] 2) noDat noDat).getD default).2.2.2.2.2.2.1))
 (R (.agg [.str m, V Z n, .ro [W Z, W Z] 1 (datS [V Z (u.ii 0 0), V Z (u.ii 0 1)] 2), .ro [W Z, W Z, W Z] ((o73_0 i j (↑i : Int) m n v u j ({ data := #[] } : ByteArray) 0 m n 1 0 0 0 (datS [V Z 0, V Z 0] 2) noDat noDat).getD default).2.1 ((o73_0 i j (↑i : Int) m n v u j ({ data := #[] } : ByteArray) 0 m n 1 0 0 0 (datS [V Z 0, V Z 0] 2) noDat noDat).getD default).2.2.2.2.2.2.2]) [] [])
      False)
     False)
 (cnd (decide ((0 + ((o73_0 i j (↑i : Int) m n v u j ({ data := #[] } : ByteArray) 0 m n 1 0 0 0 (datS [V Z 0, V Z 0] 2) noDat noDat).getD default).1) ≤ ((o73_0 i j (↑i : Int) m n v u j ({ data := #[] } : ByteArray) 0 m n 1 0 0 0 (datS [V Z 0, V Z 0] 2) noDat noDat).getD default).2.2.2.2.1))
 (cnd (decide ((0 + ((o73_0 i j (↑i : Int) m n v u j ({ data := #[] } : ByteArray) 0 m n 1 0 0 0 (datS [V Z 0, V Z 0] 2) noDat noDat).getD default).2.1) ≤ ((o73_0 i j (↑i : Int) m n v u j ({ data := #[] } : ByteArray) 0 m n 1 0 0 0 (datS [V Z 0, V Z 0] 2) noDat noDat).getD default).2.2.2.2.2.2.1))
 (R (.agg [.str m, V Z n, .ro [W Z, W Z] ((o73_0 i j (↑i : Int) m n v u j ({ data := #[] } : ByteArray) 0 m n 1 0 0 0 (datS [V Z 0, V Z 0] 2) noDat noDat).getD default).1 ((o73_0 i j (↑i : Int) m n v u j ({ data := #[] } : ByteArray) 0 m n 1 0 0 0 (datS [V Z 0, V Z 0] 2) noDat noDat).getD default).2.2.2.2.2.1, .ro [W Z, W Z, W Z] ((o73_0 i j (↑i : Int) m n v u j ({ data := #[] } : ByteArray) 0 m n 1 0 0 0 (datS [V Z 0, V Z 0] 2) noDat noDat).getD default).2.1 ((o73_0 i j (↑i : Int) m n v u j ({ data := #[] } : ByteArray) 0 m n 1 0 0 0 (datS [V Z 0, V Z 0] 2) noDat noDat).getD default).2.2.2.2.2.2.2]) [] [])
      False)
     False))
   False)
  False)) (fun R => by kernel_rfl) (cn (decide_eq_true rfl) (cn (al hn) (co (fun h0 => cn (al (ct h0 (ar hn))) (cn (al (ar (ct h0 (ar hn)))) (lf (cT h0 rfl) rfl))) (fun h0 => cn (al (cf h0 (ar hn))) (cn (al (ar (cf h0 (ar hn)))) (lf (cF h0 rfl) rfl))))))⟩
/-! ### shotline/profile.Normal -/
noncomputable def m39 (i : ByteArray) (j : Int) (b : Nat) (d : Dat) (e : Nat) (g : Dat) : ByteArray × Int × Nat × Dat × Nat × Dat × Int :=
  (cond (bif (decide ((m60 1 (datS [SV.str i, V Z j, SV.ro [Kd.int Z, Kd.int Z] b d, SV.ro [Kd.int Z, Kd.int Z, Kd.int Z] e g] 4)) = 0)) then false else true) (({ data := #[] } : ByteArray), 0, 0, noDat, 0, noDat, (m60 1 (datS [SV.str i, V Z j, SV.ro [Kd.int Z, Kd.int Z] b d, SV.ro [Kd.int Z, Kd.int Z, Kd.int Z] e g] 4))) ((m73 i j b d e g).1, (m73 i j b d e g).2.1, (m73 i j b d e g).2.2.1, (m73 i j b d e g).2.2.2.1, (m73 i j b d e g).2.2.2.2.1, (m73 i j b d e g).2.2.2.2.2, 0))
noncomputable def n39 (i : ByteArray) (j : Int) (b : Nat) (d : Dat) (e : Nat) (g : Dat) : Bool :=
  ((n60 1 (datS [SV.str i, V Z j, SV.ro [Kd.int Z, Kd.int Z] b d, SV.ro [Kd.int Z, Kd.int Z, Kd.int Z] e g] 4)) && (cond (bif (decide ((m60 1 (datS [SV.str i, V Z j, SV.ro [Kd.int Z, Kd.int Z] b d, SV.ro [Kd.int Z, Kd.int Z, Kd.int Z] e g] 4)) = 0)) then false else true) true ((n73 i j b d e g) && true)))
noncomputable def q39 (r : ByteArray × Int × Nat × Dat × Nat × Dat × Int) : SV × List Blk × List Blk := (.tup [.agg [.str r.1, V Z r.2.1, .ro [W Z, W Z] r.2.2.1 r.2.2.2.1, .ro [W Z, W Z, W Z] r.2.2.2.2.1 r.2.2.2.2.2.1], V Z r.2.2.2.2.2.2], [], [])
noncomputable def g39 : GF := fun vs bs => match vs, bs with
  | [.agg [.str i, V Z j, .ro [W Z, W Z] b d, .ro [W Z, W Z, W Z] e g]], [] => some (rs 0 (q39 (m39 i j b d e g)) [n39 i j b d e g])
  | _, _ => none
noncomputable def c39 : Ctr := genC [.a [.k, .k, .ro [W Z, W Z], .ro [W Z, W Z, W Z]]] g39
theorem k39 : CtrOk Tryd.prog c39 39 := cx (tc k60 (tc k73 tn)) mix_ok 8 (fn := Tryd.f39) (c := (Tryd.f39.body.getD .skip)) (grs := []) (rh := .t [.t [.k, .k, .ro [W Z, W Z], .ro [W Z, W Z, W Z]], .k]) Tryd.func39 rfl (by kernel_rfl) noLam fun vs bs q h hn => by
  unfold g39 at h
  split at h <;> cases h
  rename_i i j b d e g
  have hn := n1 hn
  exact ⟨_, rfl, ca (fun R => (cnd (n60 1 (datS [SV.str i, V Z j, SV.ro [Kd.int Z, Kd.int Z] b d, SV.ro [Kd.int Z, Kd.int Z, Kd.int Z] e g] 4))
 (cnd (bif (decide ((m60 1 (datS [SV.str i, V Z j, SV.ro [Kd.int Z, Kd.int Z] b d, SV.ro [Kd.int Z, Kd.int Z, Kd.int Z] e g] 4)) = 0)) then false else true)
 (R (.tup [.agg [.str ({ data := #[] } : ByteArray), V Z 0, .ro [W Z, W Z] 0 noDat, .ro [W Z, W Z, W Z] 0 noDat], V Z (m60 1 (datS [SV.str i, V Z j, SV.ro [Kd.int Z, Kd.int Z] b d, SV.ro [Kd.int Z, Kd.int Z, Kd.int Z] e g] 4))]) [] [])
 (cnd (n73 i j b d e g)
 (R (.tup [.agg [.str (m73 i j b d e g).1, V Z (m73 i j b d e g).2.1, .ro [W Z, W Z] (m73 i j b d e g).2.2.1 (m73 i j b d e g).2.2.2.1, .ro [W Z, W Z, W Z] (m73 i j b d e g).2.2.2.2.1 (m73 i j b d e g).2.2.2.2.2], V Z 0]) [] [])
    False))
  False)) (fun R => by kernel_rfl) (cn (al hn) (co (fun h0 => lf (cT h0 rfl) rfl) (fun h0 => cn (al (cf h0 (ar hn))) (lf (cF h0 rfl) rfl))))⟩
/-! ### shotline/shotlineref02.number -/
noncomputable def l74_0 (d : Nat) (g : Dat) (a b : Int) : Nat → Int → Option (Bool × (Int) × (Unit))
  | 0, _ => none
  | f + 1, i => (cond (decide (i < (↑d : Int))) (cond (decide (0 ≤ i ∧ i < ↑d)) (cond (bif (decide ((g.ii i.toNat 0) = a)) then (bif (decide ((g.ii i.toNat 1) = b)) then true else false) else false) (some (true, i, default)) (l74_0 d g a b f (Z.wrap (i + 1)))) none) (some (false, default, ())))
noncomputable abbrev o74_0 (d : Nat) (g : Dat) (a b i : Int) : Option (Bool × (Int) × (Unit)) := l74_0 d g a b (d + i.toNat + a.toNat + b.toNat + 8) i
noncomputable def e74_0 (d : Nat) (g : Dat) (a b : Int) (r : Bool × (Int) × (Unit)) (K : XR) : Prop := cnd r.1 (K (XE.ret) [V Z r.2.1] [.cells 97 [V Z a, V Z b]]) (K (XE.exit 0) [.any] [.cells 97 [V Z a, V Z b]])
noncomputable def g74_0 : LSum := fun s k => match czv 0 19 [0, 3, 5] 1 [] s with
  | some ([.ro [W Z, W Z] d g, .ptr 0 0, V Z i], [.cells 97 [V Z a, V Z b]]) => needs [(o74_0 d g a b i).isSome] (e74_0 d g a b ((o74_0 d g a b i).getD default) fun e vs bs => inBlk 0 k e (mkSt 0 19 [4] vs 1 bs))
  | _ => False
theorem z74_0 : LOk Tryd.prog g74_0 (.block 0 (bodyAt (Tryd.f74.body.getD .skip) 0)) := by
  refine lb (ι := Nat × Dat × Int × Int × Int) (fuel := 8) (na := 0) (nt := 19) (nx := 1) (Lh := [0, 3, 5]) (Le := [4]) (gl := []) tn mix_ok noLam rfl (fun f (d, g, i, a, b) K => GG default (e74_0 d g a b) K (l74_0 d g a b f i)) (fun (d, g, i, a, b) => [.ro [W Z, W Z] d g, .ptr 0 0, V Z i]) (fun (d, g, i, a, b) => [.cells 97 [V Z a, V Z b]]) (fun (_, _, _, _, _) K => gg_none) ?_ ?_
  · rintro f ⟨d, g, i, a, b⟩ K hG
    refine ro (fun R => (cnd (decide (i < (↑d : Int)))
 (cnd (decide (0 ≤ i ∧ i < ↑d))
 (cnd (bif (decide ((g.ii i.toNat 0) = a)) then (bif (decide ((g.ii i.toNat 1) = b)) then true else false) else false)
 (R (XE.ret) [V Z i] [.cells 97 [V Z a, V Z b]])
 (R (XE.normal) [.ro [W Z, W Z] d g, .ptr 0 0, V Z (Z.wrap (i + 1))] [.cells 97 [V Z a, V Z b]]))
   False)
 (R (XE.exit 0) [.any] [.cells 97 [V Z a, V Z b]]))) (fun R => by kernel_rfl) ?_
    exact ch hG (fun h0 => cg h0 fun h1 => ch h1 (fun h2 => h2.2) (fun h2 => ⟨(_, _, _, _, _), rfl, rfl, h2⟩)) (fun h0 => h0.2)
  · intro s k h
    unfold g74_0 at h
    split at h <;> try exact h.elim
    rename_i e1
    rw [needs_iff] at h
    exact ⟨_, e1, _, (_, _, _, _, _), rfl, rfl, h.1 _ (List.mem_singleton.2 rfl), h.2⟩
noncomputable def m74 (m : Nat) (n : Dat) (j l : Int) : Int :=
  (cond ((o74_0 m n j l 0).getD default).1 ((o74_0 m n j l 0).getD default).2.1 (-1))
noncomputable def n74 (m : Nat) (n : Dat) (j l : Int) : Bool :=
  (((o74_0 m n j l 0).isSome) && true)
noncomputable def q74 (r : Int) : SV × List Blk × List Blk := (V Z r, [], [])
noncomputable def g74 : GF := fun vs bs => match vs, bs with
  | [.ro [W Z, W Z] m n, .agg [V Z j, V Z l]], [] => some (rs 0 (q74 (m74 m n j l)) [n74 m n j l])
  | _, _ => none
noncomputable def c74 : Ctr := genC [.ro [W Z, W Z], .k] g74
theorem k74 : CtrOk Tryd.prog c74 74 := cx tn mix_ok 8 (fn := Tryd.f74) (c := (Tryd.f74.body.getD .skip)) (grs := []) (rh := .k) Tryd.func74 rfl (by kernel_rfl) (lam_of rfl (lc z74_0 ln)) fun vs bs q h hn => by
  unfold g74 at h
  split at h <;> cases h
  rename_i m n j l
  have hn := n1 hn
  exact ⟨_, rfl, ca (fun R => (cnd ((o74_0 m n j l 0).isSome)
 (cnd ((o74_0 m n j l 0).getD default).1
 (R (V Z ((o74_0 m n j l 0).getD default).2.1) [] [])
 (R (V Z (-1)) [] []))
  False)) (fun R => by kernel_rfl) (cn (al hn) (co (fun h0 => lf (cT h0 rfl) rfl) (fun h0 => lf (cF h0 rfl) rfl)))⟩
/-! ### shotline/profile.DepthAt -/
noncomputable def m48 (i : ByteArray) (j : Int) (b : Nat) (d : Dat) (e : Nat) (g : Dat) (l : Int) : Int × Int × Int :=
  (cond (bif (decide ((m78 i j b d e g l).2.2 = 0)) then false else true) (0, 0, (m78 i j b d e g l).2.2) ((m54 (m53 (m78 i j b d e g l).1 (m78 i j b d e g l).2.1 l).1 (m53 (m78 i j b d e g l).1 (m78 i j b d e g l).2.1 l).2).1, (m54 (m53 (m78 i j b d e g l).1 (m78 i j b d e g l).2.1 l).1 (m53 (m78 i j b d e g l).1 (m78 i j b d e g l).2.1 l).2).2, 0))
noncomputable def n48 (i : ByteArray) (j : Int) (b : Nat) (d : Dat) (e : Nat) (g : Dat) (l : Int) : Bool :=
  ((n78 i j b d e g l) && (cond (bif (decide ((m78 i j b d e g l).2.2 = 0)) then false else true) true ((n53 (m78 i j b d e g l).1 (m78 i j b d e g l).2.1 l) && ((n54 (m53 (m78 i j b d e g l).1 (m78 i j b d e g l).2.1 l).1 (m53 (m78 i j b d e g l).1 (m78 i j b d e g l).2.1 l).2) && true))))
noncomputable def q48 (r : Int × Int × Int) : SV × List Blk × List Blk := (.tup [.agg [V Z r.1, V Z r.2.1], V Z r.2.2], [], [])
noncomputable def g48 : GF := fun vs bs => match vs, bs with
  | [.agg [.str i, V Z j, .ro [W Z, W Z] b d, .ro [W Z, W Z, W Z] e g], V Z l], [] => some (rs 0 (q48 (m48 i j b d e g l)) [n48 i j b d e g l])
  | _, _ => none
noncomputable def c48 : Ctr := genC [.a [.k, .k, .ro [W Z, W Z], .ro [W Z, W Z, W Z]], .k] g48
theorem k48 : CtrOk Tryd.prog c48 48 := cx (tc k53 (tc k54 (tc k78 tn))) mix_ok 8 (fn := Tryd.f48) (c := (Tryd.f48.body.getD .skip)) (grs := []) (rh := .k) Tryd.func48 rfl (by kernel_rfl) noLam fun vs bs q h hn => by
  unfold g48 at h
  split at h <;> cases h
  rename_i i j b d e g l
  have hn := n1 hn
  exact ⟨_, rfl, ca (fun R => (cnd (n78 i j b d e g l)
 (cnd (bif (decide ((m78 i j b d e g l).2.2 = 0)) then false else true)
 (R (.tup [.agg [V Z 0, V Z 0], V Z (m78 i j b d e g l).2.2]) [] [])
 (cnd (n53 (m78 i j b d e g l).1 (m78 i j b d e g l).2.1 l)
 (cnd (n54 (m53 (m78 i j b d e g l).1 (m78 i j b d e g l).2.1 l).1 (m53 (m78 i j b d e g l).1 (m78 i j b d e g l).2.1 l).2)
 (R (.tup [.agg [V Z (m54 (m53 (m78 i j b d e g l).1 (m78 i j b d e g l).2.1 l).1 (m53 (m78 i j b d e g l).1 (m78 i j b d e g l).2.1 l).2).1, V Z (m54 (m53 (m78 i j b d e g l).1 (m78 i j b d e g l).2.1 l).1 (m53 (m78 i j b d e g l).1 (m78 i j b d e g l).2.1 l).2).2], V Z 0]) [] [])
     False)
    False))
  False)) (fun R => by kernel_rfl) (cn (al hn) (co (fun h0 => lf (cT h0 rfl) rfl) (fun h0 => cn (al (cf h0 (ar hn))) (cn (al (ar (cf h0 (ar hn)))) (lf (cF h0 rfl) rfl)))))⟩
/-! ### shotline/profile.SameDive -/
noncomputable def m41 (n : ByteArray) (o : Int) (b : Nat) (d : Dat) (e : Nat) (g : Dat) (p : ByteArray) (s : Int) (i : Nat) (j : Dat) (l : Nat) (m : Dat) : Bool × Int :=
  (cond (bif (decide ((m60 2 (datS [SV.str n, V Z o, SV.ro [Kd.int Z, Kd.int Z] b d, SV.ro [Kd.int Z, Kd.int Z, Kd.int Z] e g, SV.str p, V Z s, SV.ro [Kd.int Z, Kd.int Z] i j, SV.ro [Kd.int Z, Kd.int Z, Kd.int Z] l m] 4)) = 0)) then false else true) (false, (m60 2 (datS [SV.str n, V Z o, SV.ro [Kd.int Z, Kd.int Z] b d, SV.ro [Kd.int Z, Kd.int Z, Kd.int Z] e g, SV.str p, V Z s, SV.ro [Kd.int Z, Kd.int Z] i j, SV.ro [Kd.int Z, Kd.int Z, Kd.int Z] l m] 4))) ((bif (bif (decide ((m73 n o b d e g).2.1 = (m73 p s i j l m).2.1)) then (m75 (m73 n o b d e g).2.2.1 (m73 n o b d e g).2.2.2.1 (m73 p s i j l m).2.2.1 (m73 p s i j l m).2.2.2.1) else false) then (m76 (m73 n o b d e g).2.2.2.2.1 (m73 n o b d e g).2.2.2.2.2 (m73 p s i j l m).2.2.2.2.1 (m73 p s i j l m).2.2.2.2.2) else false), 0))
noncomputable def n41 (n : ByteArray) (o : Int) (b : Nat) (d : Dat) (e : Nat) (g : Dat) (p : ByteArray) (s : Int) (i : Nat) (j : Dat) (l : Nat) (m : Dat) : Bool :=
  ((n60 2 (datS [SV.str n, V Z o, SV.ro [Kd.int Z, Kd.int Z] b d, SV.ro [Kd.int Z, Kd.int Z, Kd.int Z] e g, SV.str p, V Z s, SV.ro [Kd.int Z, Kd.int Z] i j, SV.ro [Kd.int Z, Kd.int Z, Kd.int Z] l m] 4)) && (cond (bif (decide ((m60 2 (datS [SV.str n, V Z o, SV.ro [Kd.int Z, Kd.int Z] b d, SV.ro [Kd.int Z, Kd.int Z, Kd.int Z] e g, SV.str p, V Z s, SV.ro [Kd.int Z, Kd.int Z] i j, SV.ro [Kd.int Z, Kd.int Z, Kd.int Z] l m] 4)) = 0)) then false else true) true ((n73 n o b d e g) && ((n73 p s i j l m) && ((bif (bif (decide ((m73 n o b d e g).2.1 = (m73 p s i j l m).2.1)) then false else true) then true else (n75 (m73 n o b d e g).2.2.1 (m73 n o b d e g).2.2.2.1 (m73 p s i j l m).2.2.1 (m73 p s i j l m).2.2.2.1)) && ((bif (bif (bif (decide ((m73 n o b d e g).2.1 = (m73 p s i j l m).2.1)) then (m75 (m73 n o b d e g).2.2.1 (m73 n o b d e g).2.2.2.1 (m73 p s i j l m).2.2.1 (m73 p s i j l m).2.2.2.1) else false) then false else true) then true else (n76 (m73 n o b d e g).2.2.2.2.1 (m73 n o b d e g).2.2.2.2.2 (m73 p s i j l m).2.2.2.2.1 (m73 p s i j l m).2.2.2.2.2)) && true))))))
noncomputable def q41 (r : Bool × Int) : SV × List Blk × List Blk := (.tup [.bool r.1, V Z r.2], [], [])
noncomputable def g41 : GF := fun vs bs => match vs, bs with
  | [.agg [.str n, V Z o, .ro [W Z, W Z] b d, .ro [W Z, W Z, W Z] e g], .agg [.str p, V Z s, .ro [W Z, W Z] i j, .ro [W Z, W Z, W Z] l m]], [] => some (rs 0 (q41 (m41 n o b d e g p s i j l m)) [n41 n o b d e g p s i j l m])
  | _, _ => none
noncomputable def c41 : Ctr := genC [.a [.k, .k, .ro [W Z, W Z], .ro [W Z, W Z, W Z]], .a [.k, .k, .ro [W Z, W Z], .ro [W Z, W Z, W Z]]] g41
theorem k41 : CtrOk Tryd.prog c41 41 := cx (tc k60 (tc k73 (tc k75 (tc k76 tn)))) mix_ok 8 (fn := Tryd.f41) (c := (Tryd.f41.body.getD .skip)) (grs := []) (rh := .k) Tryd.func41 rfl (by kernel_rfl) noLam fun vs bs q h hn => by
  unfold g41 at h
  split at h <;> cases h
  rename_i n o b d e g p s i j l m
  have hn := n1 hn
  exact ⟨_, rfl, ca (fun R => (cnd (n60 2 (datS [SV.str n, V Z o, SV.ro [Kd.int Z, Kd.int Z] b d, SV.ro [Kd.int Z, Kd.int Z, Kd.int Z] e g, SV.str p, V Z s, SV.ro [Kd.int Z, Kd.int Z] i j, SV.ro [Kd.int Z, Kd.int Z, Kd.int Z] l m] 4))
 (cnd (bif (decide ((m60 2 (datS [SV.str n, V Z o, SV.ro [Kd.int Z, Kd.int Z] b d, SV.ro [Kd.int Z, Kd.int Z, Kd.int Z] e g, SV.str p, V Z s, SV.ro [Kd.int Z, Kd.int Z] i j, SV.ro [Kd.int Z, Kd.int Z, Kd.int Z] l m] 4)) = 0)) then false else true)
 (R (.tup [.bool false, V Z (m60 2 (datS [SV.str n, V Z o, SV.ro [Kd.int Z, Kd.int Z] b d, SV.ro [Kd.int Z, Kd.int Z, Kd.int Z] e g, SV.str p, V Z s, SV.ro [Kd.int Z, Kd.int Z] i j, SV.ro [Kd.int Z, Kd.int Z, Kd.int Z] l m] 4))]) [] [])
 (cnd (n73 n o b d e g)
 (cnd (n73 p s i j l m)
 (cnd (bif (bif (decide ((m73 n o b d e g).2.1 = (m73 p s i j l m).2.1)) then false else true) then true else (n75 (m73 n o b d e g).2.2.1 (m73 n o b d e g).2.2.2.1 (m73 p s i j l m).2.2.1 (m73 p s i j l m).2.2.2.1))
 (cnd (bif (bif (bif (decide ((m73 n o b d e g).2.1 = (m73 p s i j l m).2.1)) then (m75 (m73 n o b d e g).2.2.1 (m73 n o b d e g).2.2.2.1 (m73 p s i j l m).2.2.1 (m73 p s i j l m).2.2.2.1) else false) then false else true) then true else (n76 (m73 n o b d e g).2.2.2.2.1 (m73 n o b d e g).2.2.2.2.2 (m73 p s i j l m).2.2.2.2.1 (m73 p s i j l m).2.2.2.2.2))
 (R (.tup [.bool (bif (bif (decide ((m73 n o b d e g).2.1 = (m73 p s i j l m).2.1)) then (m75 (m73 n o b d e g).2.2.1 (m73 n o b d e g).2.2.2.1 (m73 p s i j l m).2.2.1 (m73 p s i j l m).2.2.2.1) else false) then (m76 (m73 n o b d e g).2.2.2.2.1 (m73 n o b d e g).2.2.2.2.2 (m73 p s i j l m).2.2.2.2.1 (m73 p s i j l m).2.2.2.2.2) else false), V Z 0]) [] [])
       False)
      False)
     False)
    False))
  False)) (fun R => by kernel_rfl) (cn (al hn) (co (fun h0 => lf (cT h0 rfl) rfl) (fun h0 => cn (al (cf h0 (ar hn))) (cn (al (ar (cf h0 (ar hn)))) (cn (al (ar (ar (cf h0 (ar hn))))) (cn (al (ar (ar (ar (cf h0 (ar hn)))))) (lf (cF h0 rfl) rfl)))))))⟩
/-! ### shotline/shotlineref02.Normal -/
noncomputable def l40_0 (x : ByteArray) (y : Int) (w : Nat) (o : Dat) (v : Nat) (n : Dat) (z : ByteArray) (A : Int) (C : ByteArray) (D : Int) : Nat → Int → Nat → Dat → Option (Nat × Nat × Dat)
  | 0, _, _, _ => none
  | f + 1, H, p, u => (cond (decide (H < (↑v : Int))) (cond (decide (0 ≤ H ∧ H < ↑v)) (cond (decide (0 ≤ n.ii H.toNat (0 + 1 + 1) ∧ n.ii H.toNat (0 + 1 + 1) < (↑w : Int))) (cond (decide ((0 + p) ≤ p)) (cond (n74 p u (o.ii ((n.ii H.toNat 2).toNat) 0) (o.ii ((n.ii H.toNat 2).toNat) 1)) (cond (decide ((m74 p u (o.ii ((n.ii H.toNat 2).toNat) 0) (o.ii ((n.ii H.toNat 2).toNat) 1)) < 0)) (cond (decide ((p + 1) ≤ 1073741824)) (l40_0 x y w o v n z A C D f (Z.wrap (H + 1)) (p + 1) (u.app p (datS [V Z (o.ii ((n.ii H.toNat 2).toNat) 0), V Z (o.ii ((n.ii H.toNat 2).toNat) 1)] 2))) none) (l40_0 x y w o v n z A C D f (Z.wrap (H + 1)) p u)) none) none) none) none) (some (p, p, u)))
noncomputable abbrev o40_0 (x : ByteArray) (y : Int) (w : Nat) (o : Dat) (v : Nat) (n : Dat) (z : ByteArray) (A : Int) (C : ByteArray) (D H : Int) (p : Nat) (u : Dat) : Option (Nat × Nat × Dat) := l40_0 x y w o v n z A C D (H.toNat + x.size + y.toNat + w + v + z.size + A.toNat + C.size + D.toNat + p + 8) H p u
noncomputable def e40_0 (x : ByteArray) (y : Int) (w : Nat) (o : Dat) (v : Nat) (n : Dat) (z : ByteArray) (A : Int) (C : ByteArray) (D : Int) (r : Nat × Nat × Dat) (K : XR) : Prop := K (XE.exit 0) [.ptr 0 0, .ptr 1 0, .ptr 2 0] [.cells 41 [.str x, V Z y, .ro [W Z, W Z] w o, .ro [W Z, W Z, W Z] v n], .cells 41 [.str z, V Z A, .nsl, .nsl], .cells 41 [.str C, V Z D, .gr 3 2 r.1, .nsl], .row 97 [W Z, W Z] r.2.1 r.2.2]
noncomputable def g40_0 : LSum := fun s k => match czv 0 160 [1, 2, 3, 4] 4 [⟨false, 2, 2, 3, 97, [W Z, W Z]⟩] s with
  | some ([.ptr 0 0, .ptr 1 0, .ptr 2 0, V Z H], [.cells 41 [.str x, V Z y, .ro [W Z, W Z] w o, .ro [W Z, W Z, W Z] v n], .cells 41 [.str z, V Z A, .nsl, .nsl], .cells 41 [.str C, V Z D, .gr 3 2 p, .nsl], .row 97 [W Z, W Z] G u]) => needs [decide (p = G), (o40_0 x y w o v n z A C D H p u).isSome] (e40_0 x y w o v n z A C D ((o40_0 x y w o v n z A C D H p u).getD default) fun e vs bs => inBlk 0 k e (mkSt 0 160 [1, 2, 3] vs 4 bs))
  | _ => False
theorem z40_0 : LOk Tryd.prog g40_0 (.block 0 (bodyAt (Tryd.f40.body.getD .skip) 0)) := by
  refine lb (ι := Int × ByteArray × Int × Nat × Dat × Nat × Dat × ByteArray × Int × ByteArray × Int × Nat × Dat) (fuel := 8) (na := 0) (nt := 160) (nx := 4) (Lh := [1, 2, 3, 4]) (Le := [1, 2, 3]) (gl := [⟨false, 2, 2, 3, 97, [W Z, W Z]⟩]) (tc k74 tn) mix_ok noLam rfl (fun f (H, x, y, w, o, v, n, z, A, C, D, p, u) K => GG default (e40_0 x y w o v n z A C D) K (l40_0 x y w o v n z A C D f H p u)) (fun (H, x, y, w, o, v, n, z, A, C, D, p, u) => [.ptr 0 0, .ptr 1 0, .ptr 2 0, V Z H]) (fun (H, x, y, w, o, v, n, z, A, C, D, p, u) => [.cells 41 [.str x, V Z y, .ro [W Z, W Z] w o, .ro [W Z, W Z, W Z] v n], .cells 41 [.str z, V Z A, .nsl, .nsl], .cells 41 [.str C, V Z D, .gr 3 2 p, .nsl], .row 97 [W Z, W Z] p u]) (fun (_, _, _, _, _, _, _, _, _, _, _, _, _) K => gg_none) ?_ ?_
  · rintro f ⟨H, x, y, w, o, v, n, z, A, C, D, p, u⟩ K hG
    refine ro (fun R => (cnd (decide (H < (↑v : Int)))
 (cnd (decide (0 ≤ H ∧ H < ↑v))
 (cnd (decide (0 ≤ n.ii H.toNat (0 + 1 + 1) ∧ n.ii H.toNat (0 + 1 + 1) < (↑w : Int)))
 (cnd (decide ((0 + p) ≤ p))
 (cnd (n74 p u (o.ii ((n.ii H.toNat 2).toNat) 0) (o.ii ((n.ii H.toNat 2).toNat) 1))
 (cnd (decide ((m74 p u (o.ii ((n.ii H.toNat 2).toNat) 0) (o.ii ((n.ii H.toNat 2).toNat) 1)) < 0))
 (cnd (decide (p ≤ p))
 (cnd (decide ((p + 1) ≤ 1073741824))
 (R (XE.normal) [.ptr 0 0, .ptr 1 0, .ptr 2 0, V Z (Z.wrap (H + 1))] [.cells 41 [.str x, V Z y, .ro [W Z, W Z] w o, .ro [W Z, W Z, W Z] v n], .cells 41 [.str z, V Z A, .nsl, .nsl], .cells 41 [.str C, V Z D, .gr 3 2 (p + 1), .nsl], .row 97 [W Z, W Z] (p + 1) (u.app p (datS [V Z (o.ii ((n.ii H.toNat 2).toNat) 0), V Z (o.ii ((n.ii H.toNat 2).toNat) 1)] 2))])
         False)
        False)
 (R (XE.normal) [.ptr 0 0, .ptr 1 0, .ptr 2 0, V Z (Z.wrap (H + 1))] [.cells 41 [.str x, V Z y, .ro [W Z, W Z] w o, .ro [W Z, W Z, W Z] v n], .cells 41 [.str z, V Z A, .nsl, .nsl], .cells 41 [.str C, V Z D, .gr 3 2 p, .nsl], .row 97 [W Z, W Z] p u]))
      False)
     False)
    False)
   False)
 (R (XE.exit 0) [.ptr 0 0, .ptr 1 0, .ptr 2 0] [.cells 41 [.str x, V Z y, .ro [W Z, W Z] w o, .ro [W Z, W Z, W Z] v n], .cells 41 [.str z, V Z A, .nsl, .nsl], .cells 41 [.str C, V Z D, .gr 3 2 p, .nsl], .row 97 [W Z, W Z] p u]))) (fun R => by kernel_rfl) ?_
    exact ch hG (fun h0 => cg h0 fun h1 => cg h1 fun h2 => cg h2 fun h3 => cg h3 fun h4 => ch h4 (fun h5 => cn (decide_eq_true (Nat.le_refl _)) (cg h5 fun h6 => ⟨(_, _, _, _, _, _, _, _, _, _, _, _, _), rfl, rfl, h6⟩)) (fun h5 => ⟨(_, _, _, _, _, _, _, _, _, _, _, _, _), rfl, rfl, h5⟩)) (fun h0 => h0.2)
  · intro s k h
    unfold g40_0 at h
    split at h <;> try exact h.elim
    rename_i e1
    rw [needs_iff] at h
    have hq := h.1
    simp only [List.mem_cons, forall_eq_or_imp, decide_eq_true_eq, List.not_mem_nil, false_imp_iff, implies_true, and_true] at hq
    obtain ⟨rfl, hq⟩ := hq
    exact ⟨_, e1, _, (_, _, _, _, _, _, _, _, _, _, _, _, _), rfl, rfl, hq, h.2⟩
noncomputable def l40_2 (x : ByteArray) (y : Int) (w : Nat) (o : Dat) (v : Nat) (n : Dat) (z : ByteArray) (A : Int) (C : ByteArray) (D : Int) (p G : Nat) (u : Dat) : Nat → Int → Nat → Dat → Option (Nat × Nat × Dat)
  | 0, _, _, _ => none
  | f + 1, E, m, F => (cond (decide (E < (↑v : Int))) (cond (decide (0 ≤ E ∧ E < ↑v)) (cond (decide (0 ≤ E ∧ E < ↑v)) (cond (decide (0 ≤ E ∧ E < ↑v)) (cond (decide (0 ≤ n.ii E.toNat (0 + 1 + 1) ∧ n.ii E.toNat (0 + 1 + 1) < (↑w : Int))) (cond (decide ((0 + p) ≤ G)) (cond (n74 p u (o.ii ((n.ii E.toNat 2).toNat) 0) (o.ii ((n.ii E.toNat 2).toNat) 1)) (cond (bif (bif (decide ((0 : Int) < (↑m : Int))) then false else true) then true else (decide (0 ≤ Z.wrap ((↑m : Int) - 1) ∧ Z.wrap ((↑m : Int) - 1) < (↑m : Int)))) (cond (bif (bif (decide ((0 : Int) < (↑m : Int))) then false else true) then true else (decide (((Z.wrap ((↑m : Int) - 1)).toNat) < m))) (cond (bif (decide ((0 : Int) < (↑m : Int))) then (decide ((F.ii ((Z.wrap ((↑m : Int) - 1)).toNat) 2) = (m74 p u (o.ii ((n.ii E.toNat 2).toNat) 0) (o.ii ((n.ii E.toNat 2).toNat) 1)))) else false) (cond (decide (0 ≤ Z.wrap ((↑m : Int) - 1) ∧ Z.wrap ((↑m : Int) - 1) < (↑m : Int))) (cond (decide (((Z.wrap ((↑m : Int) - 1)).toNat) < m)) (cond (decide (1 < (↑m : Int))) (cond (decide (0 ≤ Z.wrap ((↑m : Int) - 2) ∧ Z.wrap ((↑m : Int) - 2) < (↑m : Int))) (cond (decide (((Z.wrap ((↑m : Int) - 2)).toNat) < m)) (cond (decide ((Z.wrap ((Z.wrap ((F.ii ((Z.wrap ((↑m : Int) - 1)).toNat) 1) - (F.ii ((Z.wrap ((↑m : Int) - 2)).toNat) 1))) * (n.ii E.toNat 0))) = (Z.wrap ((Z.wrap ((n.ii E.toNat 1) - (F.ii ((Z.wrap ((↑m : Int) - 1)).toNat) 1))) * (F.ii ((Z.wrap ((↑m : Int) - 1)).toNat) 0))))) (cond (decide (0 ≤ Z.wrap ((↑m : Int) - 1) ∧ Z.wrap ((↑m : Int) - 1) < (↑m : Int))) (cond (decide (((Z.wrap ((↑m : Int) - 1)).toNat) < m)) (l40_2 x y w o v n z A C D p G u f (Z.wrap (E + 1)) m (F.upd ((Z.wrap ((↑m : Int) - 1)).toNat) 0 [V Z (Z.wrap ((F.ii ((Z.wrap ((↑m : Int) - 1)).toNat) 0) + (n.ii E.toNat 0))), V Z (n.ii E.toNat 1), V Z (m74 p u (o.ii ((n.ii E.toNat 2).toNat) 0) (o.ii ((n.ii E.toNat 2).toNat) 1))])) none) none) (cond (decide ((m + 1) ≤ 1073741824)) (l40_2 x y w o v n z A C D p G u f (Z.wrap (E + 1)) (m + 1) (F.app m (datS [V Z (n.ii E.toNat 0), V Z (n.ii E.toNat 1), V Z (m74 p u (o.ii ((n.ii E.toNat 2).toNat) 0) (o.ii ((n.ii E.toNat 2).toNat) 1))] 3))) none)) none) none) (cond (decide ((Z.wrap ((Z.wrap ((F.ii ((Z.wrap ((↑m : Int) - 1)).toNat) 1) - 0)) * (n.ii E.toNat 0))) = (Z.wrap ((Z.wrap ((n.ii E.toNat 1) - (F.ii ((Z.wrap ((↑m : Int) - 1)).toNat) 1))) * (F.ii ((Z.wrap ((↑m : Int) - 1)).toNat) 0))))) (cond (decide (0 ≤ Z.wrap ((↑m : Int) - 1) ∧ Z.wrap ((↑m : Int) - 1) < (↑m : Int))) (cond (decide (((Z.wrap ((↑m : Int) - 1)).toNat) < m)) (l40_2 x y w o v n z A C D p G u f (Z.wrap (E + 1)) m (F.upd ((Z.wrap ((↑m : Int) - 1)).toNat) 0 [V Z (Z.wrap ((F.ii ((Z.wrap ((↑m : Int) - 1)).toNat) 0) + (n.ii E.toNat 0))), V Z (n.ii E.toNat 1), V Z (m74 p u (o.ii ((n.ii E.toNat 2).toNat) 0) (o.ii ((n.ii E.toNat 2).toNat) 1))])) none) none) (cond (decide ((m + 1) ≤ 1073741824)) (l40_2 x y w o v n z A C D p G u f (Z.wrap (E + 1)) (m + 1) (F.app m (datS [V Z (n.ii E.toNat 0), V Z (n.ii E.toNat 1), V Z (m74 p u (o.ii ((n.ii E.toNat 2).toNat) 0) (o.ii ((n.ii E.toNat 2).toNat) 1))] 3))) none))) none) none) (cond (decide ((m + 1) ≤ 1073741824)) (l40_2 x y w o v n z A C D p G u f (Z.wrap (E + 1)) (m + 1) (F.app m (datS [V Z (n.ii E.toNat 0), V Z (n.ii E.toNat 1), V Z (m74 p u (o.ii ((n.ii E.toNat 2).toNat) 0) (o.ii ((n.ii E.toNat 2).toNat) 1))] 3))) none)) none) none) none) none) none) none) none) none) (some (m, m, F)))
noncomputable abbrev o40_2 (x : ByteArray) (y : Int) (w : Nat) (o : Dat) (v : Nat) (n : Dat) (z : ByteArray) (A : Int) (C : ByteArray) (D : Int) (p G : Nat) (u : Dat) (E : Int) (m : Nat) (F : Dat) : Option (Nat × Nat × Dat) := l40_2 x y w o v n z A C D p G u (E.toNat + x.size + y.toNat + w + v + z.size + A.toNat + C.size + D.toNat + p + m + G + 8) E m F
noncomputable def e40_2 (x : ByteArray) (y : Int) (w : Nat) (o : Dat) (v : Nat) (n : Dat) (z : ByteArray) (A : Int) (C : ByteArray) (D : Int) (p G : Nat) (u : Dat) (r : Nat × Nat × Dat) (K : XR) : Prop := K (XE.exit 2) [.ptr 1 0, .ptr 2 0] [.cells 41 [.str x, V Z y, .ro [W Z, W Z] w o, .ro [W Z, W Z, W Z] v n], .cells 41 [.str z, V Z A, .nsl, .nsl], .cells 41 [.str C, V Z D, .gr 3 2 p, .gr 4 3 r.1], .row 97 [W Z, W Z] G u, .row 74 [W Z, W Z, W Z] r.2.1 r.2.2]
noncomputable def g40_2 : LSum := fun s k => match czv 0 160 [1, 2, 3, 6] 5 [⟨false, 2, 2, 3, 97, [W Z, W Z]⟩, ⟨false, 2, 3, 4, 74, [W Z, W Z, W Z]⟩] s with
  | some ([.ptr 0 0, .ptr 1 0, .ptr 2 0, V Z E], [.cells 41 [.str x, V Z y, .ro [W Z, W Z] w o, .ro [W Z, W Z, W Z] v n], .cells 41 [.str z, V Z A, .nsl, .nsl], .cells 41 [.str C, V Z D, .gr 3 2 p, .gr 4 3 m], .row 97 [W Z, W Z] G u, .row 74 [W Z, W Z, W Z] b4_0 F]) => needs [decide (m = b4_0), (o40_2 x y w o v n z A C D p G u E m F).isSome] (e40_2 x y w o v n z A C D p G u ((o40_2 x y w o v n z A C D p G u E m F).getD default) fun e vs bs => inBlk 2 k e (mkSt 0 160 [2, 3] vs 5 bs))
  | _ => False
theorem z40_2 : LOk Tryd.prog g40_2 (.block 2 (bodyAt (Tryd.f40.body.getD .skip) 2)) := by
  refine lb (ι := Int × ByteArray × Int × Nat × Dat × Nat × Dat × ByteArray × Int × ByteArray × Int × Nat × Nat × Nat × Dat × Dat) (fuel := 8) (na := 0) (nt := 160) (nx := 5) (Lh := [1, 2, 3, 6]) (Le := [2, 3]) (gl := [⟨false, 2, 2, 3, 97, [W Z, W Z]⟩, ⟨false, 2, 3, 4, 74, [W Z, W Z, W Z]⟩]) (tc k74 tn) mix_ok (lam_of rfl (lc z40_0 ln)) rfl (fun f (E, x, y, w, o, v, n, z, A, C, D, p, m, G, u, F) K => GG default (e40_2 x y w o v n z A C D p G u) K (l40_2 x y w o v n z A C D p G u f E m F)) (fun (E, x, y, w, o, v, n, z, A, C, D, p, m, G, u, F) => [.ptr 0 0, .ptr 1 0, .ptr 2 0, V Z E]) (fun (E, x, y, w, o, v, n, z, A, C, D, p, m, G, u, F) => [.cells 41 [.str x, V Z y, .ro [W Z, W Z] w o, .ro [W Z, W Z, W Z] v n], .cells 41 [.str z, V Z A, .nsl, .nsl], .cells 41 [.str C, V Z D, .gr 3 2 p, .gr 4 3 m], .row 97 [W Z, W Z] G u, .row 74 [W Z, W Z, W Z] m F]) (fun (_, _, _, _, _, _, _, _, _, _, _, _, _, _, _, _) K => gg_none) ?_ ?_
  · rintro f ⟨E, x, y, w, o, v, n, z, A, C, D, p, m, G, u, F⟩ K hG
    refine ro (fun R => (cnd (decide (E < (↑v : Int)))
 (cnd (decide (0 ≤ E ∧ E < ↑v))
 (cnd (decide (0 ≤ E ∧ E < ↑v))
 (cnd (decide (0 ≤ E ∧ E < ↑v))
 (cnd (decide (0 ≤ n.ii E.toNat (0 + 1 + 1) ∧ n.ii E.toNat (0 + 1 + 1) < (↑w : Int)))
 (cnd (decide ((0 + p) ≤ G))
 (cnd (n74 p u (o.ii ((n.ii E.toNat 2).toNat) 0) (o.ii ((n.ii E.toNat 2).toNat) 1))
 (cnd (bif (bif (decide ((0 : Int) < (↑m : Int))) then false else true) then true else (decide (0 ≤ Z.wrap ((↑m : Int) - 1) ∧ Z.wrap ((↑m : Int) - 1) < (↑m : Int))))
 (cnd (bif (bif (decide ((0 : Int) < (↑m : Int))) then false else true) then true else (decide (((Z.wrap ((↑m : Int) - 1)).toNat) < m)))
 (cnd (bif (decide ((0 : Int) < (↑m : Int))) then (decide ((F.ii ((Z.wrap ((↑m : Int) - 1)).toNat) 2) = (m74 p u (o.ii ((n.ii E.toNat 2).toNat) 0) (o.ii ((n.ii E.toNat 2).toNat) 1)))) else false)
 (cnd (decide (0 ≤ Z.wrap ((↑m : Int) - 1) ∧ Z.wrap ((↑m : Int) - 1) < (↑m : Int)))
 (cnd (decide (((Z.wrap ((↑m : Int) - 1)).toNat) < m))
 (cnd (decide (1 < (↑m : Int)))
 (cnd (decide (0 ≤ Z.wrap ((↑m : Int) - 2) ∧ Z.wrap ((↑m : Int) - 2) < (↑m : Int)))
 (cnd (decide (((Z.wrap ((↑m : Int) - 2)).toNat) < m))
 (cnd (decide ((Z.wrap ((Z.wrap ((F.ii ((Z.wrap ((↑m : Int) - 1)).toNat) 1) - (F.ii ((Z.wrap ((↑m : Int) - 2)).toNat) 1))) * (n.ii E.toNat 0))) = (Z.wrap ((Z.wrap ((n.ii E.toNat 1) - (F.ii ((Z.wrap ((↑m : Int) - 1)).toNat) 1))) * (F.ii ((Z.wrap ((↑m : Int) - 1)).toNat) 0)))))
 (cnd (decide (0 ≤ Z.wrap ((↑m : Int) - 1) ∧ Z.wrap ((↑m : Int) - 1) < (↑m : Int)))
 (cnd (decide (((Z.wrap ((↑m : Int) - 1)).toNat) < m))
 (R (XE.normal) [.ptr 0 0, .ptr 1 0, .ptr 2 0, V Z (Z.wrap (E + 1))] [.cells 41 [.str x, V Z y, .ro [W Z, W Z] w o, .ro [W Z, W Z, W Z] v n], .cells 41 [.str z, V Z A, .nsl, .nsl], .cells 41 [.str C, V Z D, .gr 3 2 p, .gr 4 3 m], .row 97 [W Z, W Z] G u, .row 74 [W Z, W Z, W Z] m (F.upd ((Z.wrap ((↑m : Int) - 1)).toNat) 0 [V Z (Z.wrap ((F.ii ((Z.wrap ((↑m : Int) - 1)).toNat) 0) + (n.ii E.toNat 0))), V Z (n.ii E.toNat 1), V Z (m74 p u (o.ii ((n.ii E.toNat 2).toNat) 0) (o.ii ((n.ii E.toNat 2).toNat) 1))])])
                   False)
                  False)
 (cnd (decide (m ≤ m))
 (cnd (decide ((m + 1) ≤ 1073741824))
 (R (XE.normal) [.ptr 0 0, .ptr 1 0, .ptr 2 0, V Z (Z.wrap (E + 1))] [.cells 41 [.str x, V Z y, .ro [W Z, W Z] w o, .ro [W Z, W Z, W Z] v n], .cells 41 [.str z, V Z A, .nsl, .nsl], .cells 41 [.str C, V Z D, .gr 3 2 p, .gr 4 3 (m + 1)], .row 97 [W Z, W Z] G u, .row 74 [W Z, W Z, W Z] (m + 1) (F.app m (datS [V Z (n.ii E.toNat 0), V Z (n.ii E.toNat 1), V Z (m74 p u (o.ii ((n.ii E.toNat 2).toNat) 0) (o.ii ((n.ii E.toNat 2).toNat) 1))] 3))])
                   False)
                  False))
                False)
               False)
 (cnd (decide ((Z.wrap ((Z.wrap ((F.ii ((Z.wrap ((↑m : Int) - 1)).toNat) 1) - 0)) * (n.ii E.toNat 0))) = (Z.wrap ((Z.wrap ((n.ii E.toNat 1) - (F.ii ((Z.wrap ((↑m : Int) - 1)).toNat) 1))) * (F.ii ((Z.wrap ((↑m : Int) - 1)).toNat) 0)))))
 (cnd (decide (0 ≤ Z.wrap ((↑m : Int) - 1) ∧ Z.wrap ((↑m : Int) - 1) < (↑m : Int)))
 (cnd (decide (((Z.wrap ((↑m : Int) - 1)).toNat) < m))
 (R (XE.normal) [.ptr 0 0, .ptr 1 0, .ptr 2 0, V Z (Z.wrap (E + 1))] [.cells 41 [.str x, V Z y, .ro [W Z, W Z] w o, .ro [W Z, W Z, W Z] v n], .cells 41 [.str z, V Z A, .nsl, .nsl], .cells 41 [.str C, V Z D, .gr 3 2 p, .gr 4 3 m], .row 97 [W Z, W Z] G u, .row 74 [W Z, W Z, W Z] m (F.upd ((Z.wrap ((↑m : Int) - 1)).toNat) 0 [V Z (Z.wrap ((F.ii ((Z.wrap ((↑m : Int) - 1)).toNat) 0) + (n.ii E.toNat 0))), V Z (n.ii E.toNat 1), V Z (m74 p u (o.ii ((n.ii E.toNat 2).toNat) 0) (o.ii ((n.ii E.toNat 2).toNat) 1))])])
                 False)
                False)
 (cnd (decide (m ≤ m))
 (cnd (decide ((m + 1) ≤ 1073741824))
 (R (XE.normal) [.ptr 0 0, .ptr 1 0, .ptr 2 0, V Z (Z.wrap (E + 1))] [.cells 41 [.str x, V Z y, .ro [W Z, W Z] w o, .ro [W Z, W Z, W Z] v n], .cells 41 [.str z, V Z A, .nsl, .nsl], .cells 41 [.str C, V Z D, .gr 3 2 p, .gr 4 3 (m + 1)], .row 97 [W Z, W Z] G u, .row 74 [W Z, W Z, W Z] (m + 1) (F.app m (datS [V Z (n.ii E.toNat 0), V Z (n.ii E.toNat 1), V Z (m74 p u (o.ii ((n.ii E.toNat 2).toNat) 0) (o.ii ((n.ii E.toNat 2).toNat) 1))] 3))])
                 False)
                False)))
             False)
            False)
 (cnd (decide (m ≤ m))
 (cnd (decide ((m + 1) ≤ 1073741824))
 (R (XE.normal) [.ptr 0 0, .ptr 1 0, .ptr 2 0, V Z (Z.wrap (E + 1))] [.cells 41 [.str x, V Z y, .ro [W Z, W Z] w o, .ro [W Z, W Z, W Z] v n], .cells 41 [.str z, V Z A, .nsl, .nsl], .cells 41 [.str C, V Z D, .gr 3 2 p, .gr 4 3 (m + 1)], .row 97 [W Z, W Z] G u, .row 74 [W Z, W Z, W Z] (m + 1) (F.app m (datS [V Z (n.ii E.toNat 0), V Z (n.ii E.toNat 1), V Z (m74 p u (o.ii ((n.ii E.toNat 2).toNat) 0) (o.ii ((n.ii E.toNat 2).toNat) 1))] 3))])
             False)
            False))
          False)
         False)
        False)
       False)
      False)
     False)
    False)
   False)
 (R (XE.exit 2) [.ptr 1 0, .ptr 2 0] [.cells 41 [.str x, V Z y, .ro [W Z, W Z] w o, .ro [W Z, W Z, W Z] v n], .cells 41 [.str z, V Z A, .nsl, .nsl], .cells 41 [.str C, V Z D, .gr 3 2 p, .gr 4 3 m], .row 97 [W Z, W Z] G u, .row 74 [W Z, W Z, W Z] m F]))) (fun R => by kernel_rfl) ?_
    exact ch hG (fun h0 => cg h0 fun h1 => cg h1 fun h2 => cg h2 fun h3 => cg h3 fun h4 => cg h4 fun h5 => cg h5 fun h6 => cg h6 fun h7 => cg h7 fun h8 => ch h8 (fun h9 => cg h9 fun h10 => cg h10 fun h11 => ch h11 (fun h12 => cg h12 fun h13 => cg h13 fun h14 => ch h14 (fun h15 => cg h15 fun h16 => cg h16 fun h17 => ⟨(_, _, _, _, _, _, _, _, _, _, _, _, _, _, _, _), rfl, rfl, h17⟩) (fun h15 => cn (decide_eq_true (Nat.le_refl _)) (cg h15 fun h16 => ⟨(_, _, _, _, _, _, _, _, _, _, _, _, _, _, _, _), rfl, rfl, h16⟩))) (fun h12 => ch h12 (fun h13 => cg h13 fun h14 => cg h14 fun h15 => ⟨(_, _, _, _, _, _, _, _, _, _, _, _, _, _, _, _), rfl, rfl, h15⟩) (fun h13 => cn (decide_eq_true (Nat.le_refl _)) (cg h13 fun h14 => ⟨(_, _, _, _, _, _, _, _, _, _, _, _, _, _, _, _), rfl, rfl, h14⟩)))) (fun h9 => cn (decide_eq_true (Nat.le_refl _)) (cg h9 fun h10 => ⟨(_, _, _, _, _, _, _, _, _, _, _, _, _, _, _, _), rfl, rfl, h10⟩))) (fun h0 => h0.2)
  · intro s k h
    unfold g40_2 at h
    split at h <;> try exact h.elim
    rename_i e1
    rw [needs_iff] at h
    have hq := h.1
    simp only [List.mem_cons, forall_eq_or_imp, decide_eq_true_eq, List.not_mem_nil, false_imp_iff, implies_true, and_true] at hq
    obtain ⟨rfl, hq⟩ := hq
    exact ⟨_, e1, _, (_, _, _, _, _, _, _, _, _, _, _, _, _, _, _, _), rfl, rfl, hq, h.2⟩
noncomputable def m40 (b : ByteArray) (d : Int) (i : Nat) (g : Dat) (j : Nat) (l : Dat) : ByteArray × Int × Nat × Dat × Nat × Dat :=
  (cond (decide ((↑(((o40_0 b d i g j l ({ data := #[] } : ByteArray) 0 b d 0 0 noDat).getD default).1) : Int) = 0)) (b, d, (((o40_0 b d i g j l ({ data := #[] } : ByteArray) 0 b d 0 0 noDat).getD default).1 + 1), (((o40_0 b d i g j l ({ data := #[] } : ByteArray) 0 b d 0 0 noDat).getD default).2.2.app ((o40_0 b d i g j l ({ data := #[] } : ByteArray) 0 b d 0 0 noDat).getD default).1 (datS [V Z (g.ii 0 0), V Z (g.ii 0 1)] 2)), ((o40_2 b d i g j l ({ data := #[] } : ByteArray) 0 b d (((o40_0 b d i g j l ({ data := #[] } : ByteArray) 0 b d 0 0 noDat).getD default).1 + 1) (((o40_0 b d i g j l ({ data := #[] } : ByteArray) 0 b d 0 0 noDat).getD default).1 + 1) (((o40_0 b d i g j l ({ data := #[] } : ByteArray) 0 b d 0 0 noDat).getD default).2.2.app ((o40_0 b d i g j l ({ data := #[] } : ByteArray) 0 b d 0 0 noDat).getD default).1 (datS [V Z (g.ii 0 0), V Z (g.ii 0 1)] 2)) 0 0 noDat).getD default).1, ((o40_2 b d i g j l ({ data := #[] } : ByteArray) 0 b d (((o40_0 b d i g j l ({ data := #[] } : ByteArray) 0 b d 0 0 noDat).getD default).1 + 1) (((o40_0 b d i g j l ({ data := #[] } : ByteArray) 0 b d 0 0 noDat).getD default).1 + 1) (((o40_0 b d i g j l ({ data := #[] } : ByteArray) 0 b d 0 0 noDat).getD default).2.2.app ((o40_0 b d i g j l ({ data := #[] } : ByteArray) 0 b d 0 0 noDat).getD default).1 (datS [V Z (g.ii 0 0), V Z (g.ii 0 1)] 2)) 0 0 noDat).getD default).2.2) (b, d, ((o40_0 b d i g j l ({ data := #[] } : ByteArray) 0 b d 0 0 noDat).getD default).1, ((o40_0 b d i g j l ({ data := #[] } : ByteArray) 0 b d 0 0 noDat).getD default).2.2, ((o40_2 b d i g j l ({ data := #[] } : ByteArray) 0 b d ((o40_0 b d i g j l ({ data := #[] } : ByteArray) 0 b d 0 0 noDat).getD default).1 ((o40_0 b d i g j l ({ data := #[] } : ByteArray) 0 b d 0 0 noDat).getD default).2.1 ((o40_0 b d i g j l ({ data := #[] } : ByteArray) 0 b d 0 0 noDat).getD default).2.2 0 0 noDat).getD default).1, ((o40_2 b d i g j l ({ data := #[] } : ByteArray) 0 b d ((o40_0 b d i g j l ({ data := #[] } : ByteArray) 0 b d 0 0 noDat).getD default).1 ((o40_0 b d i g j l ({ data := #[] } : ByteArray) 0 b d 0 0 noDat).getD default).2.1 ((o40_0 b d i g j l ({ data := #[] } : ByteArray) 0 b d 0 0 noDat).getD default).2.2 0 0 noDat).getD default).2.2))
noncomputable def n40 (b : ByteArray) (d : Int) (i : Nat) (g : Dat) (j : Nat) (l : Dat) : Bool :=
  (((o40_0 b d i g j l ({ data := #[] } : ByteArray) 0 b d 0 0 noDat).isSome) && (cond (decide ((↑(((o40_0 b d i g j l ({ data := #[] } : ByteArray) 0 b d 0 0 noDat).getD default).1) : Int) = 0)) ((decide ((0 : Int) ≤ (0 : Int) ∧ (0 : Int) < (↑i : Int))) && ((decide (((o40_0 b d i g j l ({ data := #[] } : ByteArray) 0 b d 0 0 noDat).getD default).1 ≤ ((o40_0 b d i g j l ({ data := #[] } : ByteArray) 0 b d 0 0 noDat).getD default).2.1)) && ((decide ((((o40_0 b d i g j l ({ data := #[] } : ByteArray) 0 b d 0 0 noDat).getD default).1 + 1) ≤ 1073741824)) && (((o40_2 b d i g j l ({ data := #[] } : ByteArray) 0 b d (((o40_0 b d i g j l ({ data := #[] } : ByteArray) 0 b d 0 0 noDat).getD default).1 + 1) (((o40_0 b d i g j l ({ data := #[] } : ByteArray) 0 b d 0 0 noDat).getD default).1 + 1) (((o40_0 b d i g j l ({ data := #[] } : ByteArray) 0 b d 0 0 noDat).getD default).2.2.app ((o40_0 b d i g j l ({ data := #[] } : ByteArray) 0 b d 0 0 noDat).getD default).1 (datS [V Z (g.ii 0 0), V Z (g.ii 0 1)] 2)) 0 0 noDat).isSome) && ((decide ((0 + (((o40_0 b d i g j l ({ data := #[] } : ByteArray) 0 b d 0 0 noDat).getD default).1 + 1)) ≤ (((o40_0 b d i g j l ({ data := #[] } : ByteArray) 0 b d 0 0 noDat).getD default).1 + 1))) && ((decide ((0 + ((o40_2 b d i g j l ({ data := #[] } : ByteArray) 0 b d (((o40_0 b d i g j l ({ data := #[] } : ByteArray) 0 b d 0 0 noDat).getD default).1 + 1) (((o40_0 b d i g j l ({ data := #[] } : ByteArray) 0 b d 0 0 noDat).getD default).1 + 1) (((o40_0 b d i g j l ({ data := #[] } : ByteArray) 0 b d 0 0 noDat).getD default).2.2.app ((o40_0 b d i g j l ({ data := #[] } : ByteArray) 0 b d 0 0 noDat).getD default).1 (datS [V Z (g.ii 0 0), V Z (g.ii 0 1)] 2)) 0 0 noDat).getD default).1) ≤ ((o40_2 b d i g j l ({ data := #[] } : ByteArray) 0 b d (((o40_0 b d i g j l ({ data := #[] } : ByteArray) 0 b d 0 0 noDat).getD default).1 + 1) (((o40_0 b d i g j l ({ data := #[] } : ByteArray) 0 b d 0 0 noDat).getD default).1 + 1) (((o40_0 b d i g j l ({ data := #[] } : ByteArray) 0 b d 0 0 noDat).getD default).2.2.app ((o40_0 b d i g j l ({ data := #[] } : ByteArray) 0 b d 0 0 noDat).getD default).1 (datS [V Z (g.ii 0 0), V Z (g.ii 0 1)] 2)) 0 0 noDat).getD default).2.1)) && true)))))) (((o40_2 b d i g j l ({ data := #[] } : ByteArray) 0 b d ((o40_0 b d i g j l ({ data := #[] } : ByteArray) 0 b d 0 0 noDat).getD default).1 ((o40_0 b d i g j l ({ data := #[] } : ByteArray) 0 b d 0 0 noDat).getD default).2.1 ((o40_0 b d i g j l ({ data := #[] } : ByteArray) 0 b d 0 0 noDat).getD default).2.2 0 0 noDat).isSome) && ((decide ((0 + ((o40_0 b d i g j l ({ data := #[] } : ByteArray) 0 b d 0 0 noDat).getD default).1) ≤ ((o40_0 b d i g j l ({ data := #[] } : ByteArray) 0 b d 0 0 noDat).getD default).2.1)) && ((decide ((0 + ((o40_2 b d i g j l ({ data := #[] } : ByteArray) 0 b d ((o40_0 b d i g j l ({ data := #[] } : ByteArray) 0 b d 0 0 noDat).getD default).1 ((o40_0 b d i g j l ({ data := #[] } : ByteArray) 0 b d 0 0 noDat).getD default).2.1 ((o40_0 b d i g j l ({ data := #[] } : ByteArray) 0 b d 0 0 noDat).getD default).2.2 0 0 noDat).getD default).1) ≤ ((o40_2 b d i g j l ({ data := #[] } : ByteArray) 0 b d ((o40_0 b d i g j l ({ data := #[] } : ByteArray) 0 b d 0 0 noDat).getD default).1 ((o40_0 b d i g j l ({ data := #[] } : ByteArray) 0 b d 0 0 noDat).getD default).2.1 ((o40_0 b d i g j l ({ data := #[] } : ByteArray) 0 b d 0 0 noDat).getD default).2.2 0 0 noDat).getD default).2.1)) && true)))))
noncomputable def q40 (r : ByteArray × Int × Nat × Dat × Nat × Dat) : SV × List Blk × List Blk := (.agg [.str r.1, V Z r.2.1, .ro [W Z, W Z] r.2.2.1 r.2.2.2.1, .ro [W Z, W Z, W Z] r.2.2.2.2.1 r.2.2.2.2.2], [], [])
noncomputable def g40 : GF := fun vs bs => match vs, bs with
  | [.agg [.str b, V Z d, .ro [W Z, W Z] i g, .ro [W Z, W Z, W Z] j l]], [] => some (rs 0 (q40 (m40 b d i g j l)) [n40 b d i g j l])
  | _, _ => none
noncomputable def c40 : Ctr := genC [.a [.k, .k, .ro [W Z, W Z], .ro [W Z, W Z, W Z]]] g40
theorem k40 : CtrOk Tryd.prog c40 40 := cx (tc k74 tn) mix_ok 8 (fn := Tryd.f40) (c := (Tryd.f40.body.getD .skip)) (grs := []) (rh := .t [.k, .k, .ro [W Z, W Z], .ro [W Z, W Z, W Z]]) Tryd.func40 rfl (by kernel_rfl) (lam_of rfl (lc z40_0 (lc z40_2 ln))) fun vs bs q h hn => by
  unfold g40 at h
  split at h <;> cases h
  rename_i b d i g j l
  have hn := n1 hn
  exact ⟨_, rfl, ca (fun R => (cnd ((o40_0 b d i g j l ({ data := #[] } : ByteArray) 0 b d 0 0 noDat).isSome)
 (cnd (decide ((↑(((o40_0 b d i g j l ({ data := #[] } : ByteArray) 0 b d 0 0 noDat).getD default).1) : Int) = 0))
 (cnd (decide ((0 : Int) ≤ (0 : Int) ∧ (0 : Int) < (↑i : Int)))
 (cnd (decide (((o40_0 b d i g j l ({ data := #[] } : ByteArray) 0 b d 0 0 noDat).getD default).1 ≤ ((o40_0 b d i g j l ({ data := #[] } : ByteArray) 0 b d 0 0 noDat).getD default).2.1))
 (cnd (decide ((((o40_0 b d i g j l ({ data := #[] } : ByteArray) 0 b d 0 0 noDat).getD default).1 + 1) ≤ 1073741824))
 (cnd ((o40_2 b d i g j l ({ data := #[] } : ByteArray) 0 b d (((o40_0 b d i g j l ({ data := #[] } : ByteArray) 0 b d 0 0 noDat).getD default).1 + 1) (((o40_0 b d i g j l ({ data := #[] } : ByteArray) 0 b d 0 0 noDat).getD default).1 + 1) (((o40_0 b d i g j l ({ data := #[] } : ByteArray) 0 b d 0 0 noDat).getD default).2.2.app ((o40_0 b d i g j l ({ data := #[] } : ByteArray) 0 b d 0 0 noDat).getD default).1 (datS [V Z (g.ii 0 0), V Z (g.ii 0 1)] 2)) 0 0 noDat).isSome)
 (cnd (decide ((0 + (((o40_0 b d i g j l ({ data := #[] } : ByteArray) 0 b d 0 0 noDat).getD default).1 + 1)) ≤ (((o40_0 b d i g j l ({ data := #[] } : ByteArray) 0 b d 0 0 noDat).getD default).1 + 1)))
 (cnd (decide ((0 + ((o40_2 b d i g j l ({ data := #[] } : ByteArray) 0 b d (((o40_0 b d i g j l ({ data := #[] } : ByteArray) 0 b d 0 0 noDat).getD default).1 + 1) (((o40_0 b d i g j l ({ data := #[] } : ByteArray) 0 b d 0 0 noDat).getD default).1 + 1) (((o40_0 b d i g j l ({ data := #[] } : ByteArray) 0 b d 0 0 noDat).getD default).2.2.app ((o40_0 b d i g j l ({ data := #[] } : ByteArray) 0 b d 0 0 noDat).getD default).1 (datS [V Z (g.ii 0 0), V Z (g.ii 0 1)] 2)) 0 0 noDat).getD default).1) ≤ ((o40_2 b d i g j l ({ data := #[] } : ByteArray) 0 b d (((o40_0 b d i g j l ({ data := #[] } : ByteArray) 0 b d 0 0 noDat).getD default).1 + 1) (((o40_0 b d i g j l ({ data := #[] } : ByteArray) 0 b d 0 0 noDat).getD default).1 + 1) (((o40_0 b d i g j l ({ data := #[] } : ByteArray) 0 b d 0 0 noDat).getD default).2.2.app ((o40_0 b d i g j l ({ data := #[] } : ByteArray) 0 b d 0 0 noDat).getD default).1 (datS [V Z (g.ii 0 0), V Z (g.ii 0 1)] 2)) 0 0 noDat).getD default).2.1))
 (R (.agg [.str b, V Z d, .ro [W Z, W Z] (((o40_0 b d i g j l ({ data := #[] } : ByteArray) 0 b d 0 0 noDat).getD default).1 + 1) (((o40_0 b d i g j l ({ data := #[] } : ByteArray) 0 b d 0 0 noDat).getD default).2.2.app ((o40_0 b d i g j l ({ data := #[] } : ByteArray) 0 b d 0 0 noDat).getD default).1 (datS [V Z (g.ii 0 0), V Z (g.ii 0 1)] 2)), .ro [W Z, W Z, W Z] ((o40_2 b d i g j l ({ data := #[] } : ByteArray) 0 b d (((o40_0 b d i g j l ({ data := #[] } : ByteArray) 0 b d 0 0 noDat).getD default).1 + 1) (((o40_0 b d i g j l ({ data := #[] } : ByteArray) 0 b d 0 0 noDat).getD default).1 + 1) (((o40_0 b d i g j l ({ data := #[] } : ByteArray) 0 b d 0 0 noDat).getD default).2.2.app ((o40_0 b d i g j l ({ data := #[] } : ByteArray) 0 b d 0 0 noDat).getD default).1 (datS [V Z (g.ii 0 0), V Z (g.ii 0 1)] 2)) 0 0 noDat).getD default).1 ((o40_2 b d i g j l ({ data := #[] } : ByteArray) 0 b d (((o40_0 b d i g j l ({ data := #[] } : ByteArray) 0 b d 0 0 noDat).getD default).1 + 1) (((o40_0 b d i g j l ({ data := #[] } : ByteArray) 0 b d 0 0 noDat).getD default).1 + 1) (((o40_0 b d i g j l ({ data := #[] } : ByteArray) 0 b d 0 0 noDat).getD default).2.2.app ((o40_0 b d i g j l ({ data := #[] } : ByteArray) 0 b d 0 0 noDat).getD default).1 (datS [V Z (g.ii 0 0), V Z (g.ii 0 1)] 2)) 0 0 noDat).getD default).2.2]) [] [])
         False)
        False)
       False)
      False)
     False)
    False)
 (cnd ((o40_2 b d i g j l ({ data := #[] } : ByteArray) 0 b d ((o40_0 b d i g j l ({ data := #[] } : ByteArray) 0 b d 0 0 noDat).getD default).1 ((o40_0 b d i g j l ({ data := #[] } : ByteArray) 0 b d 0 0 noDat).getD default).2.1 ((o40_0 b d i g j l ({ data := #[] } : ByteArray) 0 b d 0 0 noDat).getD default).2.2 0 0 noDat).isSome)
 (cnd (decide ((0 + ((o40_0 b d i g j l ({ data := #[] } : ByteArray) 0 b d 0 0 noDat).getD default).1) ≤ ((o40_0 b d i g j l ({ data := #[] } : ByteArray) 0 b d 0 0 noDat).getD default).2.1))
 (cnd (decide ((0 + ((o40_2 b d i g j l ({ data := #[] } : ByteArray) 0 b d ((o40_0 b d i g j l ({ data := #[] } : ByteArray) 0 b d 0 0 noDat).getD default).1 ((o40_0 b d i g j l ({ data := #[] } : ByteArray) 0 b d 0 0 noDat).getD default).2.1 ((o40_0 b d i g j l ({ data := #[] } : ByteArray) 0 b d 0 0 noDat).getD default).2.2 0 0 noDat).getD default).1) ≤ ((o40_2 b d i g j l ({ data := #[] } : ByteArray) 0 b d ((o40_0 b d i g j l ({ data := #[] } : ByteArray) 0 b d 0 0 noDat).getD default).1 ((o40_0 b d i g j l ({ data := #[] } : ByteArray) 0 b d 0 0 noDat).getD default).2.1 ((o40_0 b d i g j l ({ data := #[] } : ByteArray) 0 b d 0 0 noDat).getD default).2.2 0 0 noDat).getD default).2.1))
 (R (.agg [.str b, V Z d, .ro [W Z, W Z] ((o40_0 b d i g j l ({ data := #[] } : ByteArray) 0 b d 0 0 noDat).getD default).1 ((o40_0 b d i g j l ({ data := #[] } : ByteArray) 0 b d 0 0 noDat).getD default).2.2, .ro [W Z, W Z, W Z] ((o40_2 b d i g j l ({ data := #[] } : ByteArray) 0 b d ((o40_0 b d i g j l ({ data := #[] } : ByteArray) 0 b d 0 0 noDat).getD default).1 ((o40_0 b d i g j l ({ data := #[] } : ByteArray) 0 b d 0 0 noDat).getD default).2.1 ((o40_0 b d i g j l ({ data := #[] } : ByteArray) 0 b d 0 0 noDat).getD default).2.2 0 0 noDat).getD default).1 ((o40_2 b d i g j l ({ data := #[] } : ByteArray) 0 b d ((o40_0 b d i g j l ({ data := #[] } : ByteArray) 0 b d 0 0 noDat).getD default).1 ((o40_0 b d i g j l ({ data := #[] } : ByteArray) 0 b d 0 0 noDat).getD default).2.1 ((o40_0 b d i g j l ({ data := #[] } : ByteArray) 0 b d 0 0 noDat).getD default).2.2 0 0 noDat).getD default).2.2]) [] [])
      False)
     False)
    False))
  False)) (fun R => by kernel_rfl) (cn (al hn) (co (fun h0 => cn (al (ct h0 (ar hn))) (cn (al (ar (ct h0 (ar hn)))) (cn (al (ar (ar (ct h0 (ar hn))))) (cn (al (ar (ar (ar (ct h0 (ar hn)))))) (cn (al (ar (ar (ar (ar (ct h0 (ar hn))))))) (cn (al (ar (ar (ar (ar (ar (ct h0 (ar hn)))))))) (lf (cT h0 rfl) rfl))))))) (fun h0 => cn (al (cf h0 (ar hn))) (cn (al (ar (cf h0 (ar hn)))) (cn (al (ar (ar (cf h0 (ar hn))))) (lf (cF h0 rfl) rfl))))))⟩
end Go.Proofs.YtchhhoamnagbfaaDoor
