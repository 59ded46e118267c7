/-
 Contracts of functions: models, equations by the kernel, contracts. Conditions: none.
-/
import Derived.Test.YtmndejpcpfkajaaB2
import Derived.KernelRfl
namespace Go.Proofs.Ytmndejpcpfkajaa
open Go Go.Sy
noncomputable section
set_option linter.unusedVariables false
set_option linter.unusedSimpArgs false
set_option maxRecDepth 100000
set_option maxHeartbeats 2000000
attribute [local irreducible] Go.IntKind.wrap Int.tdiv Int.tmod Int.fdiv
open Go.Sy renaming tabOk_cons → tc, tabOk_nil → tn, cnd_need → cn, leaf_of → lf, cnd_gg → cg, cnd_gg2 → ch, cond_f → cf, cond_t → ct, cnd_of → co, callOf → ca, roundOf → ro, cnd_not → nn, lams_cons → lc, lams_nil → ln, condT → cT, condF → cF, need1 → n1, resOf → rs, and_l → al, and_r → ar, or_gg → og, ctr_of → cx, loop_blk → lb
open Go.IntKind renaming i64 → Z
open Go.Sy.SV renaming int → V
open Go.Sy.Kd renaming int → W
/-! ### shotline/mix.bases$1 -/
def l155_4 (a : Dat) (g d j i n m o : Int) (l N : Nat) (Y : Dat) : Nat → Nat → Int → Option (Nat)
 | 0, _, _ => none
 | f + 1, k, b => (cond (decide (b < o)) (cond (decide (0 ≤ d ∧ d < (↑(a.sn 0 0) : Int))) (cond (decide ((0 : Int) ≤ b ∧ b < (↑(a.sn (0 : Nat) (0 : Nat)) : Int))) (cond (decide ((0 : Int) ≤ b ∧ b < (↑(a.sn (0 : Nat) (0 : Nat)) : Int))) (cond (decide (0 ≤ g ∧ g < (↑(a.sn 0 0) : Int))) (cond (decide (0 ≤ g ∧ g < (↑(a.sn 0 0) : Int))) (cond (decide (0 ≤ d ∧ d < (↑(a.sn 0 0) : Int))) (cond (decide (0 ≤ g ∧ g < (↑(a.sn 0 0) : Int))) (cond (decide ((m156 ((a.sub 0 0).ii g.toNat 0) ((a.sub 0 0).ii g.toNat 1) ((a.sub 0 0).ii g.toNat 2) (m138 ((a.sub 0 0).ii d.toNat 0) ((a.sub 0 0).ii d.toNat 1) ((a.sub 0 0).ii d.toNat 2) ((a.sub 0 0).ii b.toNat 0) ((a.sub 0 0).ii b.toNat 1) ((a.sub 0 0).ii b.toNat 2)).1 (m138 ((a.sub 0 0).ii d.toNat 0) ((a.sub 0 0).ii d.toNat 1) ((a.sub 0 0).ii d.toNat 2) ((a.sub 0 0).ii b.toNat 0) ((a.sub 0 0).ii b.toNat 1) ((a.sub 0 0).ii b.toNat 2)).2.1 (m138 ((a.sub 0 0).ii d.toNat 0) ((a.sub 0 0).ii d.toNat 1) ((a.sub 0 0).ii d.toNat 2) ((a.sub 0 0).ii b.toNat 0) ((a.sub 0 0).ii b.toNat 1) ((a.sub 0 0).ii b.toNat 2)).2.2) < 0)) (cond (decide ((0 : Int) < (Z.wrap (0 - (m156 ((a.sub 0 0).ii g.toNat 0) ((a.sub 0 0).ii g.toNat 1) ((a.sub 0 0).ii g.toNat 2) (m138 ((a.sub 0 0).ii d.toNat 0) ((a.sub 0 0).ii d.toNat 1) ((a.sub 0 0).ii d.toNat 2) ((a.sub 0 0).ii b.toNat 0) ((a.sub 0 0).ii b.toNat 1) ((a.sub 0 0).ii b.toNat 2)).1 (m138 ((a.sub 0 0).ii d.toNat 0) ((a.sub 0 0).ii d.toNat 1) ((a.sub 0 0).ii d.toNat 2) ((a.sub 0 0).ii b.toNat 0) ((a.sub 0 0).ii b.toNat 1) ((a.sub 0 0).ii b.toNat 2)).2.1 (m138 ((a.sub 0 0).ii d.toNat 0) ((a.sub 0 0).ii d.toNat 1) ((a.sub 0 0).ii d.toNat 2) ((a.sub 0 0).ii b.toNat 0) ((a.sub 0 0).ii b.toNat 1) ((a.sub 0 0).ii b.toNat 2)).2.2))))) (cond (decide (k < N)) (cond (decide (g = (Y.ii k 0))) (cond (decide (d = (Y.ii k 1))) (cond (decide (b = (Y.ii k 2))) (cond (decide ((Z.wrap (0 - (m138 ((a.sub 0 0).ii d.toNat 0) ((a.sub 0 0).ii d.toNat 1) ((a.sub 0 0).ii d.toNat 2) ((a.sub 0 0).ii b.toNat 0) ((a.sub 0 0).ii b.toNat 1) ((a.sub 0 0).ii b.toNat 2)).1)) = (Y.ii k 3))) (cond (decide ((Z.wrap (0 - (m138 ((a.sub 0 0).ii d.toNat 0) ((a.sub 0 0).ii d.toNat 1) ((a.sub 0 0).ii d.toNat 2) ((a.sub 0 0).ii b.toNat 0) ((a.sub 0 0).ii b.toNat 1) ((a.sub 0 0).ii b.toNat 2)).2.1)) = (Y.ii k 4))) (cond (decide ((Z.wrap (0 - (m138 ((a.sub 0 0).ii d.toNat 0) ((a.sub 0 0).ii d.toNat 1) ((a.sub 0 0).ii d.toNat 2) ((a.sub 0 0).ii b.toNat 0) ((a.sub 0 0).ii b.toNat 1) ((a.sub 0 0).ii b.toNat 2)).2.2)) = (Y.ii k 5))) (cond (decide ((Z.wrap (0 - (m138 ((a.sub 0 0).ii b.toNat 0) ((a.sub 0 0).ii b.toNat 1) ((a.sub 0 0).ii b.toNat 2) ((a.sub 0 0).ii g.toNat 0) ((a.sub 0 0).ii g.toNat 1) ((a.sub 0 0).ii g.toNat 2)).1)) = (Y.ii k 6))) (cond (decide ((Z.wrap (0 - (m138 ((a.sub 0 0).ii b.toNat 0) ((a.sub 0 0).ii b.toNat 1) ((a.sub 0 0).ii b.toNat 2) ((a.sub 0 0).ii g.toNat 0) ((a.sub 0 0).ii g.toNat 1) ((a.sub 0 0).ii g.toNat 2)).2.1)) = (Y.ii k 7))) (cond (decide ((Z.wrap (0 - (m138 ((a.sub 0 0).ii b.toNat 0) ((a.sub 0 0).ii b.toNat 1) ((a.sub 0 0).ii b.toNat 2) ((a.sub 0 0).ii g.toNat 0) ((a.sub 0 0).ii g.toNat 1) ((a.sub 0 0).ii g.toNat 2)).2.2)) = (Y.ii k 8))) (cond (decide ((Z.wrap (0 - (m138 ((a.sub 0 0).ii g.toNat 0) ((a.sub 0 0).ii g.toNat 1) ((a.sub 0 0).ii g.toNat 2) ((a.sub 0 0).ii d.toNat 0) ((a.sub 0 0).ii d.toNat 1) ((a.sub 0 0).ii d.toNat 2)).1)) = (Y.ii k 9))) (cond (decide ((Z.wrap (0 - (m138 ((a.sub 0 0).ii g.toNat 0) ((a.sub 0 0).ii g.toNat 1) ((a.sub 0 0).ii g.toNat 2) ((a.sub 0 0).ii d.toNat 0) ((a.sub 0 0).ii d.toNat 1) ((a.sub 0 0).ii d.toNat 2)).2.1)) = (Y.ii k 10))) (cond (decide ((Z.wrap (0 - (m138 ((a.sub 0 0).ii g.toNat 0) ((a.sub 0 0).ii g.toNat 1) ((a.sub 0 0).ii g.toNat 2) ((a.sub 0 0).ii d.toNat 0) ((a.sub 0 0).ii d.toNat 1) ((a.sub 0 0).ii d.toNat 2)).2.2)) = (Y.ii k 11))) (cond (decide ((Z.wrap (0 - (m156 ((a.sub 0 0).ii g.toNat 0) ((a.sub 0 0).ii g.toNat 1) ((a.sub 0 0).ii g.toNat 2) (m138 ((a.sub 0 0).ii d.toNat 0) ((a.sub 0 0).ii d.toNat 1) ((a.sub 0 0).ii d.toNat 2) ((a.sub 0 0).ii b.toNat 0) ((a.sub 0 0).ii b.toNat 1) ((a.sub 0 0).ii b.toNat 2)).1 (m138 ((a.sub 0 0).ii d.toNat 0) ((a.sub 0 0).ii d.toNat 1) ((a.sub 0 0).ii d.toNat 2) ((a.sub 0 0).ii b.toNat 0) ((a.sub 0 0).ii b.toNat 1) ((a.sub 0 0).ii b.toNat 2)).2.1 (m138 ((a.sub 0 0).ii d.toNat 0) ((a.sub 0 0).ii d.toNat 1) ((a.sub 0 0).ii d.toNat 2) ((a.sub 0 0).ii b.toNat 0) ((a.sub 0 0).ii b.toNat 1) ((a.sub 0 0).ii b.toNat 2)).2.2))) = (Y.ii k 12))) (l155_4 a g d j i n m o l N Y f (k + 1) (Z.wrap (b + 1))) none) none) none) none) none) none) none) none) none) none) none) none) none) none) (l155_4 a g d j i n m o l N Y f (k) (Z.wrap (b + 1)))) (cond (decide ((0 : Int) < (m156 ((a.sub 0 0).ii g.toNat 0) ((a.sub 0 0).ii g.toNat 1) ((a.sub 0 0).ii g.toNat 2) (m138 ((a.sub 0 0).ii d.toNat 0) ((a.sub 0 0).ii d.toNat 1) ((a.sub 0 0).ii d.toNat 2) ((a.sub 0 0).ii b.toNat 0) ((a.sub 0 0).ii b.toNat 1) ((a.sub 0 0).ii b.toNat 2)).1 (m138 ((a.sub 0 0).ii d.toNat 0) ((a.sub 0 0).ii d.toNat 1) ((a.sub 0 0).ii d.toNat 2) ((a.sub 0 0).ii b.toNat 0) ((a.sub 0 0).ii b.toNat 1) ((a.sub 0 0).ii b.toNat 2)).2.1 (m138 ((a.sub 0 0).ii d.toNat 0) ((a.sub 0 0).ii d.toNat 1) ((a.sub 0 0).ii d.toNat 2) ((a.sub 0 0).ii b.toNat 0) ((a.sub 0 0).ii b.toNat 1) ((a.sub 0 0).ii b.toNat 2)).2.2))) (cond (decide (k < N)) (cond (decide (g = (Y.ii k 0))) (cond (decide (d = (Y.ii k 1))) (cond (decide (b = (Y.ii k 2))) (cond (decide ((m138 ((a.sub 0 0).ii d.toNat 0) ((a.sub 0 0).ii d.toNat 1) ((a.sub 0 0).ii d.toNat 2) ((a.sub 0 0).ii b.toNat 0) ((a.sub 0 0).ii b.toNat 1) ((a.sub 0 0).ii b.toNat 2)).1 = (Y.ii k 3))) (cond (decide ((m138 ((a.sub 0 0).ii d.toNat 0) ((a.sub 0 0).ii d.toNat 1) ((a.sub 0 0).ii d.toNat 2) ((a.sub 0 0).ii b.toNat 0) ((a.sub 0 0).ii b.toNat 1) ((a.sub 0 0).ii b.toNat 2)).2.1 = (Y.ii k 4))) (cond (decide ((m138 ((a.sub 0 0).ii d.toNat 0) ((a.sub 0 0).ii d.toNat 1) ((a.sub 0 0).ii d.toNat 2) ((a.sub 0 0).ii b.toNat 0) ((a.sub 0 0).ii b.toNat 1) ((a.sub 0 0).ii b.toNat 2)).2.2 = (Y.ii k 5))) (cond (decide ((m138 ((a.sub 0 0).ii b.toNat 0) ((a.sub 0 0).ii b.toNat 1) ((a.sub 0 0).ii b.toNat 2) ((a.sub 0 0).ii g.toNat 0) ((a.sub 0 0).ii g.toNat 1) ((a.sub 0 0).ii g.toNat 2)).1 = (Y.ii k 6))) (cond (decide ((m138 ((a.sub 0 0).ii b.toNat 0) ((a.sub 0 0).ii b.toNat 1) ((a.sub 0 0).ii b.toNat 2) ((a.sub 0 0).ii g.toNat 0) ((a.sub 0 0).ii g.toNat 1) ((a.sub 0 0).ii g.toNat 2)).2.1 = (Y.ii k 7))) (cond (decide ((m138 ((a.sub 0 0).ii b.toNat 0) ((a.sub 0 0).ii b.toNat 1) ((a.sub 0 0).ii b.toNat 2) ((a.sub 0 0).ii g.toNat 0) ((a.sub 0 0).ii g.toNat 1) ((a.sub 0 0).ii g.toNat 2)).2.2 = (Y.ii k 8))) (cond (decide ((m138 ((a.sub 0 0).ii g.toNat 0) ((a.sub 0 0).ii g.toNat 1) ((a.sub 0 0).ii g.toNat 2) ((a.sub 0 0).ii d.toNat 0) ((a.sub 0 0).ii d.toNat 1) ((a.sub 0 0).ii d.toNat 2)).1 = (Y.ii k 9))) (cond (decide ((m138 ((a.sub 0 0).ii g.toNat 0) ((a.sub 0 0).ii g.toNat 1) ((a.sub 0 0).ii g.toNat 2) ((a.sub 0 0).ii d.toNat 0) ((a.sub 0 0).ii d.toNat 1) ((a.sub 0 0).ii d.toNat 2)).2.1 = (Y.ii k 10))) (cond (decide ((m138 ((a.sub 0 0).ii g.toNat 0) ((a.sub 0 0).ii g.toNat 1) ((a.sub 0 0).ii g.toNat 2) ((a.sub 0 0).ii d.toNat 0) ((a.sub 0 0).ii d.toNat 1) ((a.sub 0 0).ii d.toNat 2)).2.2 = (Y.ii k 11))) (cond (decide ((m156 ((a.sub 0 0).ii g.toNat 0) ((a.sub 0 0).ii g.toNat 1) ((a.sub 0 0).ii g.toNat 2) (m138 ((a.sub 0 0).ii d.toNat 0) ((a.sub 0 0).ii d.toNat 1) ((a.sub 0 0).ii d.toNat 2) ((a.sub 0 0).ii b.toNat 0) ((a.sub 0 0).ii b.toNat 1) ((a.sub 0 0).ii b.toNat 2)).1 (m138 ((a.sub 0 0).ii d.toNat 0) ((a.sub 0 0).ii d.toNat 1) ((a.sub 0 0).ii d.toNat 2) ((a.sub 0 0).ii b.toNat 0) ((a.sub 0 0).ii b.toNat 1) ((a.sub 0 0).ii b.toNat 2)).2.1 (m138 ((a.sub 0 0).ii d.toNat 0) ((a.sub 0 0).ii d.toNat 1) ((a.sub 0 0).ii d.toNat 2) ((a.sub 0 0).ii b.toNat 0) ((a.sub 0 0).ii b.toNat 1) ((a.sub 0 0).ii b.toNat 2)).2.2) = (Y.ii k 12))) (l155_4 a g d j i n m o l N Y f (k + 1) (Z.wrap (b + 1))) none) none) none) none) none) none) none) none) none) none) none) none) none) none) (l155_4 a g d j i n m o l N Y f (k) (Z.wrap (b + 1))))) none) none) none) none) none) none) none) (some (k)))
abbrev o155_4 (a : Dat) (g d j i n m o : Int) (l N : Nat) (Y : Dat) (k : Nat) (b : Int) : Option (Nat) := l155_4 a g d j i n m o l N Y (g.toNat + d.toNat + j.toNat + i.toNat + n.toNat + m.toNat + o.toNat + b.toNat + 8) k b
def e155_4 (a : Dat) (g d j i n m o : Int) (l N : Nat) (Y : Dat) (r : Nat) (K : XRY) : Prop := K (XE.exit 4) r [.val (Value.func (Fn.yield l) #[] #[]), .rp [.sl [W Z, W Z, W Z]] a 0 0, V Z g, V Z j, V Z i, V Z n, V Z m] []
def g155_4 (l N : Nat) (Y : Dat) : SumY := fun k s κ => match k, czv 0 97 [0, 1, 3, 4, 11, 12, 15, 16, 19, 20] 0 [] s with
 | some k, some ([.val vq, .rp [.sl [W Z, W Z, W Z]] a 0 0, V Z g, V Z d, V Z j, V Z i, V Z n, V Z m, V Z o, V Z b], []) => needs [(o155_4 a g d j i n m o l N Y k b).isSome, isYl vq l] (e155_4 a g d j i n m o l N Y ((o155_4 a g d j i n m o l N Y k b).getD default) fun e k vs bs => inBlkY 4 κ e (some k) (mkSt 0 97 [0, 1, 3, 11, 12, 15, 16] vs 0 bs))
 | _, _ => False
theorem y155_4 (a : Dat) (g d j i n m o b : Int) (l N : Nat) (Y : Dat) (k : Nat) (R : XRY) : execY Try.prog [(138, c138), (156, c156)] (fun _ => none) l N (fun k => [.agg [V Z (Y.ii k 0), V Z (Y.ii k 1), V Z (Y.ii k 2), V Z (Y.ii k 3), V Z (Y.ii k 4), V Z (Y.ii k 5), V Z (Y.ii k 6), V Z (Y.ii k 7), V Z (Y.ii k 8), V Z (Y.ii k 9), V Z (Y.ii k 10), V Z (Y.ii k 11), V Z (Y.ii k 12)]]) (lamY []) 8 (unloop (bodyAt (Try.f155.body.getD .skip) 4)) (some k) (mkSt 0 97 [0, 1, 3, 4, 11, 12, 15, 16, 19, 20] [.val (Value.func (Fn.yield l) #[] #[]), .rp [.sl [W Z, W Z, W Z]] a 0 0, V Z g, V Z d, V Z j, V Z i, V Z n, V Z m, V Z o, V Z b] 0 []) (canonKY 0 97 [0, 1, 3, 4, 11, 12, 15, 16, 19, 20] [0, 1, 3, 11, 12, 15, 16] 0 [] R) =
 (cnd (decide (b < o))
 (cnd (decide (0 ≤ d ∧ d < (↑(a.sn 0 0) : Int)))
 (cnd (decide ((0 : Int) ≤ b ∧ b < (↑(a.sn (0 : Nat) (0 : Nat)) : Int)))
 (cnd (decide ((0 : Int) ≤ b ∧ b < (↑(a.sn (0 : Nat) (0 : Nat)) : Int)))
 (cnd (decide (0 ≤ g ∧ g < (↑(a.sn 0 0) : Int)))
 (cnd (decide (0 ≤ g ∧ g < (↑(a.sn 0 0) : Int)))
 (cnd (decide (0 ≤ d ∧ d < (↑(a.sn 0 0) : Int)))
 (cnd (decide (0 ≤ g ∧ g < (↑(a.sn 0 0) : Int)))
 (cnd (decide ((m156 ((a.sub 0 0).ii g.toNat 0) ((a.sub 0 0).ii g.toNat 1) ((a.sub 0 0).ii g.toNat 2) (m138 ((a.sub 0 0).ii d.toNat 0) ((a.sub 0 0).ii d.toNat 1) ((a.sub 0 0).ii d.toNat 2) ((a.sub 0 0).ii b.toNat 0) ((a.sub 0 0).ii b.toNat 1) ((a.sub 0 0).ii b.toNat 2)).1 (m138 ((a.sub 0 0).ii d.toNat 0) ((a.sub 0 0).ii d.toNat 1) ((a.sub 0 0).ii d.toNat 2) ((a.sub 0 0).ii b.toNat 0) ((a.sub 0 0).ii b.toNat 1) ((a.sub 0 0).ii b.toNat 2)).2.1 (m138 ((a.sub 0 0).ii d.toNat 0) ((a.sub 0 0).ii d.toNat 1) ((a.sub 0 0).ii d.toNat 2) ((a.sub 0 0).ii b.toNat 0) ((a.sub 0 0).ii b.toNat 1) ((a.sub 0 0).ii b.toNat 2)).2.2) < 0))
 (cnd (decide ((0 : Int) < (Z.wrap (0 - (m156 ((a.sub 0 0).ii g.toNat 0) ((a.sub 0 0).ii g.toNat 1) ((a.sub 0 0).ii g.toNat 2) (m138 ((a.sub 0 0).ii d.toNat 0) ((a.sub 0 0).ii d.toNat 1) ((a.sub 0 0).ii d.toNat 2) ((a.sub 0 0).ii b.toNat 0) ((a.sub 0 0).ii b.toNat 1) ((a.sub 0 0).ii b.toNat 2)).1 (m138 ((a.sub 0 0).ii d.toNat 0) ((a.sub 0 0).ii d.toNat 1) ((a.sub 0 0).ii d.toNat 2) ((a.sub 0 0).ii b.toNat 0) ((a.sub 0 0).ii b.toNat 1) ((a.sub 0 0).ii b.toNat 2)).2.1 (m138 ((a.sub 0 0).ii d.toNat 0) ((a.sub 0 0).ii d.toNat 1) ((a.sub 0 0).ii d.toNat 2) ((a.sub 0 0).ii b.toNat 0) ((a.sub 0 0).ii b.toNat 1) ((a.sub 0 0).ii b.toNat 2)).2.2)))))
 (cnd (decide (l = l))
 (cnd (decide (k < N))
 (cnd (decide (g = (Y.ii k 0)))
 (cnd (decide (d = (Y.ii k 1)))
 (cnd (decide (b = (Y.ii k 2)))
 (cnd (decide ((Z.wrap (0 - (m138 ((a.sub 0 0).ii d.toNat 0) ((a.sub 0 0).ii d.toNat 1) ((a.sub 0 0).ii d.toNat 2) ((a.sub 0 0).ii b.toNat 0) ((a.sub 0 0).ii b.toNat 1) ((a.sub 0 0).ii b.toNat 2)).1)) = (Y.ii k 3)))
 (cnd (decide ((Z.wrap (0 - (m138 ((a.sub 0 0).ii d.toNat 0) ((a.sub 0 0).ii d.toNat 1) ((a.sub 0 0).ii d.toNat 2) ((a.sub 0 0).ii b.toNat 0) ((a.sub 0 0).ii b.toNat 1) ((a.sub 0 0).ii b.toNat 2)).2.1)) = (Y.ii k 4)))
 (cnd (decide ((Z.wrap (0 - (m138 ((a.sub 0 0).ii d.toNat 0) ((a.sub 0 0).ii d.toNat 1) ((a.sub 0 0).ii d.toNat 2) ((a.sub 0 0).ii b.toNat 0) ((a.sub 0 0).ii b.toNat 1) ((a.sub 0 0).ii b.toNat 2)).2.2)) = (Y.ii k 5)))
 (cnd (decide ((Z.wrap (0 - (m138 ((a.sub 0 0).ii b.toNat 0) ((a.sub 0 0).ii b.toNat 1) ((a.sub 0 0).ii b.toNat 2) ((a.sub 0 0).ii g.toNat 0) ((a.sub 0 0).ii g.toNat 1) ((a.sub 0 0).ii g.toNat 2)).1)) = (Y.ii k 6)))
 (cnd (decide ((Z.wrap (0 - (m138 ((a.sub 0 0).ii b.toNat 0) ((a.sub 0 0).ii b.toNat 1) ((a.sub 0 0).ii b.toNat 2) ((a.sub 0 0).ii g.toNat 0) ((a.sub 0 0).ii g.toNat 1) ((a.sub 0 0).ii g.toNat 2)).2.1)) = (Y.ii k 7)))
 (cnd (decide ((Z.wrap (0 - (m138 ((a.sub 0 0).ii b.toNat 0) ((a.sub 0 0).ii b.toNat 1) ((a.sub 0 0).ii b.toNat 2) ((a.sub 0 0).ii g.toNat 0) ((a.sub 0 0).ii g.toNat 1) ((a.sub 0 0).ii g.toNat 2)).2.2)) = (Y.ii k 8)))
 (cnd (decide ((Z.wrap (0 - (m138 ((a.sub 0 0).ii g.toNat 0) ((a.sub 0 0).ii g.toNat 1) ((a.sub 0 0).ii g.toNat 2) ((a.sub 0 0).ii d.toNat 0) ((a.sub 0 0).ii d.toNat 1) ((a.sub 0 0).ii d.toNat 2)).1)) = (Y.ii k 9)))
 (cnd (decide ((Z.wrap (0 - (m138 ((a.sub 0 0).ii g.toNat 0) ((a.sub 0 0).ii g.toNat 1) ((a.sub 0 0).ii g.toNat 2) ((a.sub 0 0).ii d.toNat 0) ((a.sub 0 0).ii d.toNat 1) ((a.sub 0 0).ii d.toNat 2)).2.1)) = (Y.ii k 10)))
 (cnd (decide ((Z.wrap (0 - (m138 ((a.sub 0 0).ii g.toNat 0) ((a.sub 0 0).ii g.toNat 1) ((a.sub 0 0).ii g.toNat 2) ((a.sub 0 0).ii d.toNat 0) ((a.sub 0 0).ii d.toNat 1) ((a.sub 0 0).ii d.toNat 2)).2.2)) = (Y.ii k 11)))
 (cnd (decide ((Z.wrap (0 - (m156 ((a.sub 0 0).ii g.toNat 0) ((a.sub 0 0).ii g.toNat 1) ((a.sub 0 0).ii g.toNat 2) (m138 ((a.sub 0 0).ii d.toNat 0) ((a.sub 0 0).ii d.toNat 1) ((a.sub 0 0).ii d.toNat 2) ((a.sub 0 0).ii b.toNat 0) ((a.sub 0 0).ii b.toNat 1) ((a.sub 0 0).ii b.toNat 2)).1 (m138 ((a.sub 0 0).ii d.toNat 0) ((a.sub 0 0).ii d.toNat 1) ((a.sub 0 0).ii d.toNat 2) ((a.sub 0 0).ii b.toNat 0) ((a.sub 0 0).ii b.toNat 1) ((a.sub 0 0).ii b.toNat 2)).2.1 (m138 ((a.sub 0 0).ii d.toNat 0) ((a.sub 0 0).ii d.toNat 1) ((a.sub 0 0).ii d.toNat 2) ((a.sub 0 0).ii b.toNat 0) ((a.sub 0 0).ii b.toNat 1) ((a.sub 0 0).ii b.toNat 2)).2.2))) = (Y.ii k 12)))
             ((R (XE.normal) (k + 1) [.val (Value.func (Fn.yield l) #[] #[]), .rp [.sl [W Z, W Z, W Z]] a 0 0, V Z g, V Z d, V Z j, V Z i, V Z n, V Z m, V Z o, V Z (Z.wrap (b + 1))] []) ∧
              True)
             False)
             False)
            False)
            False)
           False)
           False)
          False)
          False)
         False)
         False)
        False)
        False)
       False)
       False)
      False)
 (R (XE.normal) (k) [.val (Value.func (Fn.yield l) #[] #[]), .rp [.sl [W Z, W Z, W Z]] a 0 0, V Z g, V Z d, V Z j, V Z i, V Z n, V Z m, V Z o, V Z (Z.wrap (b + 1))] []))
 (cnd (decide ((0 : Int) < (m156 ((a.sub 0 0).ii g.toNat 0) ((a.sub 0 0).ii g.toNat 1) ((a.sub 0 0).ii g.toNat 2) (m138 ((a.sub 0 0).ii d.toNat 0) ((a.sub 0 0).ii d.toNat 1) ((a.sub 0 0).ii d.toNat 2) ((a.sub 0 0).ii b.toNat 0) ((a.sub 0 0).ii b.toNat 1) ((a.sub 0 0).ii b.toNat 2)).1 (m138 ((a.sub 0 0).ii d.toNat 0) ((a.sub 0 0).ii d.toNat 1) ((a.sub 0 0).ii d.toNat 2) ((a.sub 0 0).ii b.toNat 0) ((a.sub 0 0).ii b.toNat 1) ((a.sub 0 0).ii b.toNat 2)).2.1 (m138 ((a.sub 0 0).ii d.toNat 0) ((a.sub 0 0).ii d.toNat 1) ((a.sub 0 0).ii d.toNat 2) ((a.sub 0 0).ii b.toNat 0) ((a.sub 0 0).ii b.toNat 1) ((a.sub 0 0).ii b.toNat 2)).2.2)))
 (cnd (decide (l = l))
 (cnd (decide (k < N))
 (cnd (decide (g = (Y.ii k 0)))
 (cnd (decide (d = (Y.ii k 1)))
 (cnd (decide (b = (Y.ii k 2)))
 (cnd (decide ((m138 ((a.sub 0 0).ii d.toNat 0) ((a.sub 0 0).ii d.toNat 1) ((a.sub 0 0).ii d.toNat 2) ((a.sub 0 0).ii b.toNat 0) ((a.sub 0 0).ii b.toNat 1) ((a.sub 0 0).ii b.toNat 2)).1 = (Y.ii k 3)))
 (cnd (decide ((m138 ((a.sub 0 0).ii d.toNat 0) ((a.sub 0 0).ii d.toNat 1) ((a.sub 0 0).ii d.toNat 2) ((a.sub 0 0).ii b.toNat 0) ((a.sub 0 0).ii b.toNat 1) ((a.sub 0 0).ii b.toNat 2)).2.1 = (Y.ii k 4)))
 (cnd (decide ((m138 ((a.sub 0 0).ii d.toNat 0) ((a.sub 0 0).ii d.toNat 1) ((a.sub 0 0).ii d.toNat 2) ((a.sub 0 0).ii b.toNat 0) ((a.sub 0 0).ii b.toNat 1) ((a.sub 0 0).ii b.toNat 2)).2.2 = (Y.ii k 5)))
 (cnd (decide ((m138 ((a.sub 0 0).ii b.toNat 0) ((a.sub 0 0).ii b.toNat 1) ((a.sub 0 0).ii b.toNat 2) ((a.sub 0 0).ii g.toNat 0) ((a.sub 0 0).ii g.toNat 1) ((a.sub 0 0).ii g.toNat 2)).1 = (Y.ii k 6)))
 (cnd (decide ((m138 ((a.sub 0 0).ii b.toNat 0) ((a.sub 0 0).ii b.toNat 1) ((a.sub 0 0).ii b.toNat 2) ((a.sub 0 0).ii g.toNat 0) ((a.sub 0 0).ii g.toNat 1) ((a.sub 0 0).ii g.toNat 2)).2.1 = (Y.ii k 7)))
 (cnd (decide ((m138 ((a.sub 0 0).ii b.toNat 0) ((a.sub 0 0).ii b.toNat 1) ((a.sub 0 0).ii b.toNat 2) ((a.sub 0 0).ii g.toNat 0) ((a.sub 0 0).ii g.toNat 1) ((a.sub 0 0).ii g.toNat 2)).2.2 = (Y.ii k 8)))
 (cnd (decide ((m138 ((a.sub 0 0).ii g.toNat 0) ((a.sub 0 0).ii g.toNat 1) ((a.sub 0 0).ii g.toNat 2) ((a.sub 0 0).ii d.toNat 0) ((a.sub 0 0).ii d.toNat 1) ((a.sub 0 0).ii d.toNat 2)).1 = (Y.ii k 9)))
 (cnd (decide ((m138 ((a.sub 0 0).ii g.toNat 0) ((a.sub 0 0).ii g.toNat 1) ((a.sub 0 0).ii g.toNat 2) ((a.sub 0 0).ii d.toNat 0) ((a.sub 0 0).ii d.toNat 1) ((a.sub 0 0).ii d.toNat 2)).2.1 = (Y.ii k 10)))
 (cnd (decide ((m138 ((a.sub 0 0).ii g.toNat 0) ((a.sub 0 0).ii g.toNat 1) ((a.sub 0 0).ii g.toNat 2) ((a.sub 0 0).ii d.toNat 0) ((a.sub 0 0).ii d.toNat 1) ((a.sub 0 0).ii d.toNat 2)).2.2 = (Y.ii k 11)))
 (cnd (decide ((m156 ((a.sub 0 0).ii g.toNat 0) ((a.sub 0 0).ii g.toNat 1) ((a.sub 0 0).ii g.toNat 2) (m138 ((a.sub 0 0).ii d.toNat 0) ((a.sub 0 0).ii d.toNat 1) ((a.sub 0 0).ii d.toNat 2) ((a.sub 0 0).ii b.toNat 0) ((a.sub 0 0).ii b.toNat 1) ((a.sub 0 0).ii b.toNat 2)).1 (m138 ((a.sub 0 0).ii d.toNat 0) ((a.sub 0 0).ii d.toNat 1) ((a.sub 0 0).ii d.toNat 2) ((a.sub 0 0).ii b.toNat 0) ((a.sub 0 0).ii b.toNat 1) ((a.sub 0 0).ii b.toNat 2)).2.1 (m138 ((a.sub 0 0).ii d.toNat 0) ((a.sub 0 0).ii d.toNat 1) ((a.sub 0 0).ii d.toNat 2) ((a.sub 0 0).ii b.toNat 0) ((a.sub 0 0).ii b.toNat 1) ((a.sub 0 0).ii b.toNat 2)).2.2) = (Y.ii k 12)))
             ((R (XE.normal) (k + 1) [.val (Value.func (Fn.yield l) #[] #[]), .rp [.sl [W Z, W Z, W Z]] a 0 0, V Z g, V Z d, V Z j, V Z i, V Z n, V Z m, V Z o, V Z (Z.wrap (b + 1))] []) ∧
              True)
             False)
             False)
            False)
            False)
           False)
           False)
          False)
          False)
         False)
         False)
        False)
        False)
       False)
       False)
      False)
 (R (XE.normal) (k) [.val (Value.func (Fn.yield l) #[] #[]), .rp [.sl [W Z, W Z, W Z]] a 0 0, V Z g, V Z d, V Z j, V Z i, V Z n, V Z m, V Z o, V Z (Z.wrap (b + 1))] [])))
     False)
    False)
    False)
   False)
   False)
  False)
  False)
 (R (XE.exit 4) (k) [.val (Value.func (Fn.yield l) #[] #[]), .rp [.sl [W Z, W Z, W Z]] a 0 0, V Z g, V Z j, V Z i, V Z n, V Z m] [])) := by kernel_rfl
theorem z155_4 {C : YC Try.prog} {N : Nat} {Y : Dat} (hN : C.N = N) (hy : C.y = fun k => [.agg [V Z (Y.ii k 0), V Z (Y.ii k 1), V Z (Y.ii k 2), V Z (Y.ii k 3), V Z (Y.ii k 4), V Z (Y.ii k 5), V Z (Y.ii k 6), V Z (Y.ii k 7), V Z (Y.ii k 8), V Z (Y.ii k 9), V Z (Y.ii k 10), V Z (Y.ii k 11), V Z (Y.ii k 12)]]) : LOkJ C (g155_4 C.l N Y) (.block 4 (bodyAt (Try.f155.body.getD .skip) 4)) := by
 refine loopY_blk (ι := Dat × Int × Int × Int × Int × Int × Int × Int × Nat × Int) (L := [(138, c138), (156, c156)]) (Λ := (fun _ => none)) (ΛY := (lamY [])) (fuel := 8) (na := 0) (nt := 97) (nx := 0) (Lh := [0, 1, 3, 4, 11, 12, 15, 16, 19, 20]) (Le := [0, 1, 3, 11, 12, 15, 16]) (gl := []) (tc k138 (tc k156 tn)) mix_ok noLam noLamY rfl (fun f x K => GG default (e155_4 x.1 x.2.1 x.2.2.1 x.2.2.2.1 x.2.2.2.2.1 x.2.2.2.2.2.1 x.2.2.2.2.2.2.1 x.2.2.2.2.2.2.2.1 C.l N Y) K (l155_4 x.1 x.2.1 x.2.2.1 x.2.2.2.1 x.2.2.2.2.1 x.2.2.2.2.2.1 x.2.2.2.2.2.2.1 x.2.2.2.2.2.2.2.1 C.l N Y f x.2.2.2.2.2.2.2.2.1 x.2.2.2.2.2.2.2.2.2)) (fun x => x.2.2.2.2.2.2.2.2.1) (fun x => [.val (Value.func (Fn.yield C.l) #[] #[]), .rp [.sl [W Z, W Z, W Z]] x.1 0 0, V Z x.2.1, V Z x.2.2.1, V Z x.2.2.2.1, V Z x.2.2.2.2.1, V Z x.2.2.2.2.2.1, V Z x.2.2.2.2.2.2.1, V Z x.2.2.2.2.2.2.2.1, V Z x.2.2.2.2.2.2.2.2.2]) (fun x => []) (fun x K => gg_none) ?_ ?_
 ·rintro f ⟨a, g, d, j, i, n, m, o, k, b⟩ K hG
  rw [hN, hy]
  refine propOf (y155_4 a g d j i n m o b C.l N Y k _) ?_
  exact ch hG (fun h0 => cg h0 fun h1 => cg h1 fun h2 => cg h2 fun h3 => cg h3 fun h4 => cg h4 fun h5 => cg h5 fun h6 => cg h6 fun h7 => ch h7 (fun h8 => ch h8 (fun h9 => cn (decide_eq_true rfl) (cg h9 fun h10 => cg h10 fun h11 => cg h11 fun h12 => cg h12 fun h13 => cg h13 fun h14 => cg h14 fun h15 => cg h15 fun h16 => cg h16 fun h17 => cg h17 fun h18 => cg h18 fun h19 => cg h19 fun h20 => cg h20 fun h21 => cg h21 fun h22 => cg h22 fun h23 => ⟨⟨(a, g, d, j, i, n, m, o, (k + 1), (Z.wrap (b + 1))), rfl, rfl, rfl, h23⟩, trivial⟩)) (fun h9 => ⟨(a, g, d, j, i, n, m, o, (k), (Z.wrap (b + 1))), rfl, rfl, rfl, h9⟩)) (fun h8 => ch h8 (fun h9 => cn (decide_eq_true rfl) (cg h9 fun h10 => cg h10 fun h11 => cg h11 fun h12 => cg h12 fun h13 => cg h13 fun h14 => cg h14 fun h15 => cg h15 fun h16 => cg h16 fun h17 => cg h17 fun h18 => cg h18 fun h19 => cg h19 fun h20 => cg h20 fun h21 => cg h21 fun h22 => cg h22 fun h23 => ⟨⟨(a, g, d, j, i, n, m, o, (k + 1), (Z.wrap (b + 1))), rfl, rfl, rfl, h23⟩, trivial⟩)) (fun h9 => ⟨(a, g, d, j, i, n, m, o, (k), (Z.wrap (b + 1))), rfl, rfl, rfl, h9⟩))) (fun h0 => h0.2)
 ·intro k s κ h
  unfold g155_4 at h
  split at h <;> try exact h.elim
  rename_i e1
  rw [needs_iff] at h
  have hl := h.1 _ (List.mem_cons_of_mem _ (List.mem_singleton.2 rfl))
  obtain rfl := isYl_eq hl
  exact ⟨_, (_, _, _, _, _, _, _, _, _, _), rfl, e1, h.1 _ (List.mem_cons_self ..), h.2⟩
def l155_2 (a : Dat) (g j i n : Int) (l N : Nat) (Y : Dat) : Nat → Nat → Int → Option (Nat)
 | 0, _, _ => none
 | f + 1, k, m => (cond (decide (m < n)) (cond ((o155_4 a g m j i n m m l N Y k 0).isSome) (l155_2 a g j i n l N Y f ((o155_4 a g m j i n m m l N Y k 0).getD 0) (Z.wrap (m + 1))) none) (some (k)))
abbrev o155_2 (a : Dat) (g j i n : Int) (l N : Nat) (Y : Dat) (k : Nat) (m : Int) : Option (Nat) := l155_2 a g j i n l N Y (g.toNat + j.toNat + i.toNat + n.toNat + m.toNat + 8) k m
def e155_2 (a : Dat) (g j i n : Int) (l N : Nat) (Y : Dat) (r : Nat) (K : XRY) : Prop := K (XE.exit 2) r [.val (Value.func (Fn.yield l) #[] #[]), .rp [.sl [W Z, W Z, W Z]] a 0 0, V Z j, V Z i] []
def g155_2 (l N : Nat) (Y : Dat) : SumY := fun k s κ => match k, czv 0 97 [0, 1, 3, 11, 12, 15, 16] 0 [] s with
 | some k, some ([.val vq, .rp [.sl [W Z, W Z, W Z]] a 0 0, V Z g, V Z j, V Z i, V Z n, V Z m], []) => needs [(o155_2 a g j i n l N Y k m).isSome, isYl vq l] (e155_2 a g j i n l N Y ((o155_2 a g j i n l N Y k m).getD default) fun e k vs bs => inBlkY 2 κ e (some k) (mkSt 0 97 [0, 1, 11, 12] vs 0 bs))
 | _, _ => False
theorem y155_2 (a : Dat) (g j i n m : Int) (l N : Nat) (Y : Dat) (k : Nat) (R : XRY) : execY Try.prog [(138, c138), (156, c156)] (fun _ => none) l N (fun k => [.agg [V Z (Y.ii k 0), V Z (Y.ii k 1), V Z (Y.ii k 2), V Z (Y.ii k 3), V Z (Y.ii k 4), V Z (Y.ii k 5), V Z (Y.ii k 6), V Z (Y.ii k 7), V Z (Y.ii k 8), V Z (Y.ii k 9), V Z (Y.ii k 10), V Z (Y.ii k 11), V Z (Y.ii k 12)]]) (lamY [(4, (g155_4 l N Y))]) 8 (unloop (bodyAt (Try.f155.body.getD .skip) 2)) (some k) (mkSt 0 97 [0, 1, 3, 11, 12, 15, 16] [.val (Value.func (Fn.yield l) #[] #[]), .rp [.sl [W Z, W Z, W Z]] a 0 0, V Z g, V Z j, V Z i, V Z n, V Z m] 0 []) (canonKY 0 97 [0, 1, 3, 11, 12, 15, 16] [0, 1, 11, 12] 0 [] R) =
 (cnd (decide (m < n))
 (cnd ((o155_4 a g m j i n m m l N Y k 0).isSome)
 (cnd (decide (l = l))
 (R (XE.normal) ((o155_4 a g m j i n m m l N Y k 0).getD 0) [.val (Value.func (Fn.yield l) #[] #[]), .rp [.sl [W Z, W Z, W Z]] a 0 0, V Z g, V Z j, V Z i, V Z n, V Z (Z.wrap (m + 1))] [])
  False)
  False)
 (R (XE.exit 2) (k) [.val (Value.func (Fn.yield l) #[] #[]), .rp [.sl [W Z, W Z, W Z]] a 0 0, V Z j, V Z i] [])) := by kernel_rfl
theorem z155_2 {C : YC Try.prog} {N : Nat} {Y : Dat} (hN : C.N = N) (hy : C.y = fun k => [.agg [V Z (Y.ii k 0), V Z (Y.ii k 1), V Z (Y.ii k 2), V Z (Y.ii k 3), V Z (Y.ii k 4), V Z (Y.ii k 5), V Z (Y.ii k 6), V Z (Y.ii k 7), V Z (Y.ii k 8), V Z (Y.ii k 9), V Z (Y.ii k 10), V Z (Y.ii k 11), V Z (Y.ii k 12)]]) : LOkJ C (g155_2 C.l N Y) (.block 2 (bodyAt (Try.f155.body.getD .skip) 2)) := by
 refine loopY_blk (ι := Dat × Int × Int × Int × Int × Nat × Int) (L := [(138, c138), (156, c156)]) (Λ := (fun _ => none)) (ΛY := (lamY [(4, (g155_4 C.l N Y))])) (fuel := 8) (na := 0) (nt := 97) (nx := 0) (Lh := [0, 1, 3, 11, 12, 15, 16]) (Le := [0, 1, 11, 12]) (gl := []) (tc k138 (tc k156 tn)) mix_ok noLam (lamY_of rfl (lamsY_cons (z155_4 hN hy) lamsY_nil)) rfl (fun f x K => GG default (e155_2 x.1 x.2.1 x.2.2.1 x.2.2.2.1 x.2.2.2.2.1 C.l N Y) K (l155_2 x.1 x.2.1 x.2.2.1 x.2.2.2.1 x.2.2.2.2.1 C.l N Y f x.2.2.2.2.2.1 x.2.2.2.2.2.2)) (fun x => x.2.2.2.2.2.1) (fun x => [.val (Value.func (Fn.yield C.l) #[] #[]), .rp [.sl [W Z, W Z, W Z]] x.1 0 0, V Z x.2.1, V Z x.2.2.1, V Z x.2.2.2.1, V Z x.2.2.2.2.1, V Z x.2.2.2.2.2.2]) (fun x => []) (fun x K => gg_none) ?_ ?_
 ·rintro f ⟨a, g, j, i, n, k, m⟩ K hG
  rw [hN, hy]
  refine propOf (y155_2 a g j i n m C.l N Y k _) ?_
  exact ch hG (fun h0 => cg h0 fun h1 => cn (decide_eq_true rfl) (⟨(a, g, j, i, n, ((o155_4 a g m j i n m m C.l N Y k 0).getD 0), (Z.wrap (m + 1))), rfl, rfl, rfl, h1⟩)) (fun h0 => h0.2)
 ·intro k s κ h
  unfold g155_2 at h
  split at h <;> try exact h.elim
  rename_i e1
  rw [needs_iff] at h
  have hl := h.1 _ (List.mem_cons_of_mem _ (List.mem_singleton.2 rfl))
  obtain rfl := isYl_eq hl
  exact ⟨_, (_, _, _, _, _, _, _), rfl, e1, h.1 _ (List.mem_cons_self ..), h.2⟩
def l155_0 (a : Dat) (j : Int) (l N : Nat) (Y : Dat) : Nat → Nat → Int → Option (Nat)
 | 0, _, _ => none
 | f + 1, k, i => (cond (decide (i < j)) (cond ((o155_2 a i j i i l N Y k 0).isSome) (l155_0 a j l N Y f ((o155_2 a i j i i l N Y k 0).getD 0) (Z.wrap (i + 1))) none) (some (k)))
abbrev o155_0 (a : Dat) (j : Int) (l N : Nat) (Y : Dat) (k : Nat) (i : Int) : Option (Nat) := l155_0 a j l N Y (j.toNat + i.toNat + 8) k i
def e155_0 (a : Dat) (j : Int) (l N : Nat) (Y : Dat) (r : Nat) (K : XRY) : Prop := K (XE.exit 0) r [] []
def g155_0 (l N : Nat) (Y : Dat) : SumY := fun k s κ => match k, czv 0 97 [0, 1, 11, 12] 0 [] s with
 | some k, some ([.val vq, .rp [.sl [W Z, W Z, W Z]] a 0 0, V Z j, V Z i], []) => needs [(o155_0 a j l N Y k i).isSome, isYl vq l] (e155_0 a j l N Y ((o155_0 a j l N Y k i).getD default) fun e k vs bs => inBlkY 0 κ e (some k) (mkSt 0 97 [] vs 0 bs))
 | _, _ => False
theorem y155_0 (a : Dat) (j i : Int) (l N : Nat) (Y : Dat) (k : Nat) (R : XRY) : execY Try.prog [(138, c138), (156, c156)] (fun _ => none) l N (fun k => [.agg [V Z (Y.ii k 0), V Z (Y.ii k 1), V Z (Y.ii k 2), V Z (Y.ii k 3), V Z (Y.ii k 4), V Z (Y.ii k 5), V Z (Y.ii k 6), V Z (Y.ii k 7), V Z (Y.ii k 8), V Z (Y.ii k 9), V Z (Y.ii k 10), V Z (Y.ii k 11), V Z (Y.ii k 12)]]) (lamY [(4, (g155_4 l N Y)), (2, (g155_2 l N Y))]) 8 (unloop (bodyAt (Try.f155.body.getD .skip) 0)) (some k) (mkSt 0 97 [0, 1, 11, 12] [.val (Value.func (Fn.yield l) #[] #[]), .rp [.sl [W Z, W Z, W Z]] a 0 0, V Z j, V Z i] 0 []) (canonKY 0 97 [0, 1, 11, 12] [] 0 [] R) =
 (cnd (decide (i < j))
 (cnd ((o155_2 a i j i i l N Y k 0).isSome)
 (cnd (decide (l = l))
 (R (XE.normal) ((o155_2 a i j i i l N Y k 0).getD 0) [.val (Value.func (Fn.yield l) #[] #[]), .rp [.sl [W Z, W Z, W Z]] a 0 0, V Z j, V Z (Z.wrap (i + 1))] [])
  False)
  False)
 (R (XE.exit 0) (k) [] [])) := by kernel_rfl
theorem z155_0 {C : YC Try.prog} {N : Nat} {Y : Dat} (hN : C.N = N) (hy : C.y = fun k => [.agg [V Z (Y.ii k 0), V Z (Y.ii k 1), V Z (Y.ii k 2), V Z (Y.ii k 3), V Z (Y.ii k 4), V Z (Y.ii k 5), V Z (Y.ii k 6), V Z (Y.ii k 7), V Z (Y.ii k 8), V Z (Y.ii k 9), V Z (Y.ii k 10), V Z (Y.ii k 11), V Z (Y.ii k 12)]]) : LOkJ C (g155_0 C.l N Y) (.block 0 (bodyAt (Try.f155.body.getD .skip) 0)) := by
 refine loopY_blk (ι := Dat × Int × Nat × Int) (L := [(138, c138), (156, c156)]) (Λ := (fun _ => none)) (ΛY := (lamY [(4, (g155_4 C.l N Y)), (2, (g155_2 C.l N Y))])) (fuel := 8) (na := 0) (nt := 97) (nx := 0) (Lh := [0, 1, 11, 12]) (Le := []) (gl := []) (tc k138 (tc k156 tn)) mix_ok noLam (lamY_of rfl (lamsY_cons (z155_4 hN hy) (lamsY_cons (z155_2 hN hy) lamsY_nil))) rfl (fun f x K => GG default (e155_0 x.1 x.2.1 C.l N Y) K (l155_0 x.1 x.2.1 C.l N Y f x.2.2.1 x.2.2.2)) (fun x => x.2.2.1) (fun x => [.val (Value.func (Fn.yield C.l) #[] #[]), .rp [.sl [W Z, W Z, W Z]] x.1 0 0, V Z x.2.1, V Z x.2.2.2]) (fun x => []) (fun x K => gg_none) ?_ ?_
 ·rintro f ⟨a, j, k, i⟩ K hG
  rw [hN, hy]
  refine propOf (y155_0 a j i C.l N Y k _) ?_
  exact ch hG (fun h0 => cg h0 fun h1 => cn (decide_eq_true rfl) (⟨(a, j, ((o155_2 a i j i i C.l N Y k 0).getD 0), (Z.wrap (i + 1))), rfl, rfl, rfl, h1⟩)) (fun h0 => h0.2)
 ·intro k s κ h
  unfold g155_0 at h
  split at h <;> try exact h.elim
  rename_i e1
  rw [needs_iff] at h
  have hl := h.1 _ (List.mem_cons_of_mem _ (List.mem_singleton.2 rfl))
  obtain rfl := isYl_eq hl
  exact ⟨_, (_, _, _, _), rfl, e1, h.1 _ (List.mem_cons_self ..), h.2⟩
theorem x155 (p : Dat) (l N : Nat) (Y : Dat) (R : XE → Option Nat → Prop) : execY Try.prog [(138, c138), (156, c156)] (fun _ => none) l N (fun k => [.agg [V Z (Y.ii k 0), V Z (Y.ii k 1), V Z (Y.ii k 2), V Z (Y.ii k 3), V Z (Y.ii k 4), V Z (Y.ii k 5), V Z (Y.ii k 6), V Z (Y.ii k 7), V Z (Y.ii k 8), V Z (Y.ii k 9), V Z (Y.ii k 10), V Z (Y.ii k 11), V Z (Y.ii k 12)]]) (lamY [(4, (g155_4 l N Y)), (2, (g155_2 l N Y)), (0, (g155_0 l N Y))]) 8 (Try.f155.body.getD .skip) (some 0) (initS Try.f155.ntmps ([.val (.func (.yield l) #[] #[]), .rp [.sl [W Z, W Z, W Z]] p 0 0]) 0 (memOf [])) (fun e k s => R e k) =
 (cnd ((o155_0 p (↑(p.sn 0 0) : Int) l N Y 0 0).isSome)
 (cnd (decide (l = l))
 (R (XE.normal) (.some ((o155_0 p (↑(p.sn 0 0) : Int) l N Y 0 0).getD 0)))
  False)
 False) := by kernel_rfl
def n155 (p : Dat) (l N : Nat) (Y : Dat) : Bool :=
 (((o155_0 p (↑(p.sn 0 0) : Int) l N Y 0 0).isSome) && (decide ((o155_0 p (↑(p.sn 0 0) : Int) l N Y 0 0).getD 0 = N)))
theorem it155 (p : Dat) (N : Nat) (Y : Dat) (hn : ∀ l, n155 p l N Y = true) : SIter Try.prog 155 [.rp [.sl [W Z, W Z, W Z]] p 0 0] [] N (fun k => [.agg [V Z (Y.ii k 0), V Z (Y.ii k 1), V Z (Y.ii k 2), V Z (Y.ii k 3), V Z (Y.ii k 4), V Z (Y.ii k 5), V Z (Y.ii k 6), V Z (Y.ii k 7), V Z (Y.ii k 8), V Z (Y.ii k 9), V Z (Y.ii k 10), V Z (Y.ii k 11), V Z (Y.ii k 12)]]) := iter_of (tc k138 (tc k156 tn)) mix_ok 8 (fn := Try.f155) (c := (Try.f155.body.getD .skip)) (Λ := (fun _ => none)) (ΛY := fun l => (lamY [(4, (g155_4 l N Y)), (2, (g155_2 l N Y)), (0, (g155_0 l N Y))])) Try.func155 rfl noLam rfl (fun k _ => rfl) (fun C hN hy => (lamY_of rfl (lamsY_cons (z155_4 hN hy) (lamsY_cons (z155_2 hN hy) (lamsY_cons (z155_0 hN hy) lamsY_nil))))) fun l => by
 refine propOf (x155 p l N Y fun e k => match e with | .exit _ => False | _ => k = some N) ?_
 exact cn (al (hn l)) (cn (decide_eq_true rfl) (congrArg some (of_decide_eq_true (ar (hn l)))))
end
end Go.Proofs.Ytmndejpcpfkajaa
