/-
  Contracts of functions: models, equations by the kernel, contracts. Conditions: none.
-/
import Derived.Test.YtchhhoamnagbfaaGreatDoorB1
import Derived.KernelRfl
namespace Go.Proofs.YtchhhoamnagbfaaGreatDoor
open Go Go.Sy
set_option linter.unusedVariables false
set_option linter.unusedSimpArgs false
set_option maxRecDepth 100000
set_option maxHeartbeats 2000000
attribute [local irreducible] Go.IntKind.wrap Int.tdiv Int.tmod Int.fdiv
open Go.Sy renaming tabOk_cons → tc, tabOk_nil → tn, cnd_need → cn, leaf_of → lf, cnd_gg → cg, cnd_gg2 → ch, cond_f → cf, cond_t → ct, cnd_of → co, callOf → ca, roundOf → ro, cnd_not → nn, lams_cons → lc, lams_nil → ln, condT → cT, condF → cF, need1 → n1, resOf → rs, and_l → al, and_r → ar, or_gg → og, ctr_of → cx, loop_blk → lb
open Go.IntKind renaming i64 → Z
open Go.Sy.SV renaming int → V
open Go.Sy.Kd renaming int → W
/-! ### shotline/profile.FirstDiffer -/
noncomputable def l21_2 (l : Nat) (j : Dat) (n : Nat) (m : Dat) (C A : Int) (v : ByteArray) (w : Int) (o : Nat) (g : Dat) (p : Nat) (b : Dat) (x : ByteArray) (y : Int) (t : Nat) (i : Dat) (u : Nat) (d z : Dat) : Nat → Int → Option (Int)
  | 0, _ => none
  | f + 1, D => (cond (decide (0 ≤ D ∧ D < ↑l)) (cond (decide ((j.ii D.toNat 0) < A)) (l21_2 l j n m C A v w o g p b x y t i u d z f (Z.wrap (D + 1))) (some D)) none)
noncomputable abbrev o21_2 (l : Nat) (j : Dat) (n : Nat) (m : Dat) (C A : Int) (v : ByteArray) (w : Int) (o : Nat) (g : Dat) (p : Nat) (b : Dat) (x : ByteArray) (y : Int) (t : Nat) (i : Dat) (u : Nat) (d z : Dat) (D : Int) : Option (Int) := l21_2 l j n m C A v w o g p b x y t i u d z (l + n + D.toNat + C.toNat + A.toNat + v.size + w.toNat + o + p + x.size + y.toNat + t + u + 8) D
noncomputable def e21_2 (l : Nat) (j : Dat) (n : Nat) (m : Dat) (C A : Int) (v : ByteArray) (w : Int) (o : Nat) (g : Dat) (p : Nat) (b : Dat) (x : ByteArray) (y : Int) (t : Nat) (i : Dat) (u : Nat) (d z : Dat) (r : Int) (K : XR) : Prop := K (XE.exit 2) [.ptr 0 0, .ptr 1 0, .ro [W Z, W Z] l j, .ro [W Z, W Z] n m, V Z r, V Z C, V Z A] [.cells 25 [.str v, V Z w, .ro [W Z, W Z] o g, .ro [W Z, W Z, W Z] p b], .cells 25 [.str x, V Z y, .ro [W Z, W Z] t i, .ro [W Z, W Z, W Z] u d], .row 25 [.str, W Z, .sl [W Z, W Z], .sl [W Z, W Z, W Z]] 2 z]
noncomputable def g21_2 : LSum := fun s k => match czv 0 107 [2, 3, 7, 8, 9, 10, 11] 3 [] s with
  | some ([.ptr 0 0, .ptr 1 0, .ro [W Z, W Z] l j, .ro [W Z, W Z] n m, V Z D, V Z C, V Z A], [.cells 25 [.str v, V Z w, .ro [W Z, W Z] o g, .ro [W Z, W Z, W Z] p b], .cells 25 [.str x, V Z y, .ro [W Z, W Z] t i, .ro [W Z, W Z, W Z] u d], .row 25 [.str, W Z, .sl [W Z, W Z], .sl [W Z, W Z, W Z]] 2 z]) => needs [(o21_2 l j n m C A v w o g p b x y t i u d z D).isSome] (e21_2 l j n m C A v w o g p b x y t i u d z ((o21_2 l j n m C A v w o g p b x y t i u d z D).getD default) fun e vs bs => inBlk 2 k e (mkSt 0 107 [2, 3, 7, 8, 9, 10, 11] vs 3 bs))
  | _ => False
theorem z21_2 : LOk Tryz.prog g21_2 (.block 2 (bodyAt (Tryz.f21.body.getD .skip) 2)) := by
  refine lb (ι := Nat × Dat × Nat × Dat × Int × Int × Int × ByteArray × Int × Nat × Dat × Nat × Dat × ByteArray × Int × Nat × Dat × Nat × Dat × Dat) (fuel := 8) (na := 0) (nt := 107) (nx := 3) (Lh := [2, 3, 7, 8, 9, 10, 11]) (Le := [2, 3, 7, 8, 9, 10, 11]) (gl := []) (tc k31 (tc k42 (tc k46 (tc k47 (tc k48 tn))))) mix_ok noLam rfl (fun f (l, j, n, m, D, C, A, v, w, o, g, p, b, x, y, t, i, u, d, z) K => GG default (e21_2 l j n m C A v w o g p b x y t i u d z) K (l21_2 l j n m C A v w o g p b x y t i u d z f D)) (fun (l, j, n, m, D, C, A, v, w, o, g, p, b, x, y, t, i, u, d, z) => [.ptr 0 0, .ptr 1 0, .ro [W Z, W Z] l j, .ro [W Z, W Z] n m, V Z D, V Z C, V Z A]) (fun (l, j, n, m, D, C, A, v, w, o, g, p, b, x, y, t, i, u, d, z) => [.cells 25 [.str v, V Z w, .ro [W Z, W Z] o g, .ro [W Z, W Z, W Z] p b], .cells 25 [.str x, V Z y, .ro [W Z, W Z] t i, .ro [W Z, W Z, W Z] u d], .row 25 [.str, W Z, .sl [W Z, W Z], .sl [W Z, W Z, W Z]] 2 z]) (fun (_, _, _, _, _, _, _, _, _, _, _, _, _, _, _, _, _, _, _, _) K => gg_none) ?_ ?_
  · rintro f ⟨l, j, n, m, D, C, A, v, w, o, g, p, b, x, y, t, i, u, d, z⟩ K hG
    refine ro (fun R => (cnd (decide (0 ≤ D ∧ D < ↑l))
 (cnd (decide ((j.ii D.toNat 0) < A))
 (R (XE.normal) [.ptr 0 0, .ptr 1 0, .ro [W Z, W Z] l j, .ro [W Z, W Z] n m, V Z (Z.wrap (D + 1)), V Z C, V Z A] [.cells 25 [.str v, V Z w, .ro [W Z, W Z] o g, .ro [W Z, W Z, W Z] p b], .cells 25 [.str x, V Z y, .ro [W Z, W Z] t i, .ro [W Z, W Z, W Z] u d], .row 25 [.str, W Z, .sl [W Z, W Z], .sl [W Z, W Z, W Z]] 2 z])
 (R (XE.exit 2) [.ptr 0 0, .ptr 1 0, .ro [W Z, W Z] l j, .ro [W Z, W Z] n m, V Z D, V Z C, V Z A] [.cells 25 [.str v, V Z w, .ro [W Z, W Z] o g, .ro [W Z, W Z, W Z] p b], .cells 25 [.str x, V Z y, .ro [W Z, W Z] t i, .ro [W Z, W Z, W Z] u d], .row 25 [.str, W Z, .sl [W Z, W Z], .sl [W Z, W Z, W Z]] 2 z]))
  False)) (fun R => by kernel_rfl) ?_
    exact cg hG fun h0 => ch h0 (fun h1 => ⟨(_, _, _, _, _, _, _, _, _, _, _, _, _, _, _, _, _, _, _, _), rfl, rfl, h1⟩) (fun h1 => h1.2)
  · intro s k h
    unfold g21_2 at h
    split at h <;> try exact h.elim
    rename_i e1
    rw [needs_iff] at h
    exact ⟨_, e1, _, (_, _, _, _, _, _, _, _, _, _, _, _, _, _, _, _, _, _, _, _), rfl, rfl, h.1 _ (List.mem_singleton.2 rfl), h.2⟩
noncomputable def l21_4 (l : Nat) (j : Dat) (n : Nat) (m : Dat) (D A : Int) (v : ByteArray) (w : Int) (o : Nat) (g : Dat) (p : Nat) (b : Dat) (x : ByteArray) (y : Int) (t : Nat) (i : Dat) (u : Nat) (d z : Dat) : Nat → Int → Option (Int)
  | 0, _ => none
  | f + 1, C => (cond (decide (0 ≤ C ∧ C < ↑n)) (cond (decide ((m.ii C.toNat 0) < A)) (l21_4 l j n m D A v w o g p b x y t i u d z f (Z.wrap (C + 1))) (some C)) none)
noncomputable abbrev o21_4 (l : Nat) (j : Dat) (n : Nat) (m : Dat) (D A : Int) (v : ByteArray) (w : Int) (o : Nat) (g : Dat) (p : Nat) (b : Dat) (x : ByteArray) (y : Int) (t : Nat) (i : Dat) (u : Nat) (d z : Dat) (C : Int) : Option (Int) := l21_4 l j n m D A v w o g p b x y t i u d z (l + n + D.toNat + C.toNat + A.toNat + v.size + w.toNat + o + p + x.size + y.toNat + t + u + 8) C
noncomputable def e21_4 (l : Nat) (j : Dat) (n : Nat) (m : Dat) (D A : Int) (v : ByteArray) (w : Int) (o : Nat) (g : Dat) (p : Nat) (b : Dat) (x : ByteArray) (y : Int) (t : Nat) (i : Dat) (u : Nat) (d z : Dat) (r : Int) (K : XR) : Prop := K (XE.exit 4) [.ptr 0 0, .ptr 1 0, .ro [W Z, W Z] l j, .ro [W Z, W Z] n m, V Z D, V Z r, V Z A] [.cells 25 [.str v, V Z w, .ro [W Z, W Z] o g, .ro [W Z, W Z, W Z] p b], .cells 25 [.str x, V Z y, .ro [W Z, W Z] t i, .ro [W Z, W Z, W Z] u d], .row 25 [.str, W Z, .sl [W Z, W Z], .sl [W Z, W Z, W Z]] 2 z]
noncomputable def g21_4 : LSum := fun s k => match czv 0 107 [2, 3, 7, 8, 9, 10, 11] 3 [] s with
  | some ([.ptr 0 0, .ptr 1 0, .ro [W Z, W Z] l j, .ro [W Z, W Z] n m, V Z D, V Z C, V Z A], [.cells 25 [.str v, V Z w, .ro [W Z, W Z] o g, .ro [W Z, W Z, W Z] p b], .cells 25 [.str x, V Z y, .ro [W Z, W Z] t i, .ro [W Z, W Z, W Z] u d], .row 25 [.str, W Z, .sl [W Z, W Z], .sl [W Z, W Z, W Z]] 2 z]) => needs [(o21_4 l j n m D A v w o g p b x y t i u d z C).isSome] (e21_4 l j n m D A v w o g p b x y t i u d z ((o21_4 l j n m D A v w o g p b x y t i u d z C).getD default) fun e vs bs => inBlk 4 k e (mkSt 0 107 [2, 3, 7, 8, 9, 10, 11] vs 3 bs))
  | _ => False
theorem z21_4 : LOk Tryz.prog g21_4 (.block 4 (bodyAt (Tryz.f21.body.getD .skip) 4)) := by
  refine lb (ι := Nat × Dat × Nat × Dat × Int × Int × Int × ByteArray × Int × Nat × Dat × Nat × Dat × ByteArray × Int × Nat × Dat × Nat × Dat × Dat) (fuel := 8) (na := 0) (nt := 107) (nx := 3) (Lh := [2, 3, 7, 8, 9, 10, 11]) (Le := [2, 3, 7, 8, 9, 10, 11]) (gl := []) (tc k31 (tc k42 (tc k46 (tc k47 (tc k48 tn))))) mix_ok (lam_of rfl (lc z21_2 ln)) rfl (fun f (l, j, n, m, D, C, A, v, w, o, g, p, b, x, y, t, i, u, d, z) K => GG default (e21_4 l j n m D A v w o g p b x y t i u d z) K (l21_4 l j n m D A v w o g p b x y t i u d z f C)) (fun (l, j, n, m, D, C, A, v, w, o, g, p, b, x, y, t, i, u, d, z) => [.ptr 0 0, .ptr 1 0, .ro [W Z, W Z] l j, .ro [W Z, W Z] n m, V Z D, V Z C, V Z A]) (fun (l, j, n, m, D, C, A, v, w, o, g, p, b, x, y, t, i, u, d, z) => [.cells 25 [.str v, V Z w, .ro [W Z, W Z] o g, .ro [W Z, W Z, W Z] p b], .cells 25 [.str x, V Z y, .ro [W Z, W Z] t i, .ro [W Z, W Z, W Z] u d], .row 25 [.str, W Z, .sl [W Z, W Z], .sl [W Z, W Z, W Z]] 2 z]) (fun (_, _, _, _, _, _, _, _, _, _, _, _, _, _, _, _, _, _, _, _) K => gg_none) ?_ ?_
  · rintro f ⟨l, j, n, m, D, C, A, v, w, o, g, p, b, x, y, t, i, u, d, z⟩ K hG
    refine ro (fun R => (cnd (decide (0 ≤ C ∧ C < ↑n))
 (cnd (decide ((m.ii C.toNat 0) < A))
 (R (XE.normal) [.ptr 0 0, .ptr 1 0, .ro [W Z, W Z] l j, .ro [W Z, W Z] n m, V Z D, V Z (Z.wrap (C + 1)), V Z A] [.cells 25 [.str v, V Z w, .ro [W Z, W Z] o g, .ro [W Z, W Z, W Z] p b], .cells 25 [.str x, V Z y, .ro [W Z, W Z] t i, .ro [W Z, W Z, W Z] u d], .row 25 [.str, W Z, .sl [W Z, W Z], .sl [W Z, W Z, W Z]] 2 z])
 (R (XE.exit 4) [.ptr 0 0, .ptr 1 0, .ro [W Z, W Z] l j, .ro [W Z, W Z] n m, V Z D, V Z C, V Z A] [.cells 25 [.str v, V Z w, .ro [W Z, W Z] o g, .ro [W Z, W Z, W Z] p b], .cells 25 [.str x, V Z y, .ro [W Z, W Z] t i, .ro [W Z, W Z, W Z] u d], .row 25 [.str, W Z, .sl [W Z, W Z], .sl [W Z, W Z, W Z]] 2 z]))
  False)) (fun R => by kernel_rfl) ?_
    exact cg hG fun h0 => ch h0 (fun h1 => ⟨(_, _, _, _, _, _, _, _, _, _, _, _, _, _, _, _, _, _, _, _), rfl, rfl, h1⟩) (fun h1 => h1.2)
  · intro s k h
    unfold g21_4 at h
    split at h <;> try exact h.elim
    rename_i e1
    rw [needs_iff] at h
    exact ⟨_, e1, _, (_, _, _, _, _, _, _, _, _, _, _, _, _, _, _, _, _, _, _, _), rfl, rfl, h.1 _ (List.mem_singleton.2 rfl), h.2⟩
noncomputable def l21_0 (l : Nat) (j : Dat) (n : Nat) (m : Dat) (v : ByteArray) (w : Int) (o : Nat) (g : Dat) (p : Nat) (b : Dat) (x : ByteArray) (y : Int) (t : Nat) (i : Dat) (u : Nat) (d z : Dat) : Nat → Int → Int → Int → Option (Bool × (Int × Int) × (Unit))
  | 0, _, _, _ => none
  | f + 1, D, C, A => (cond (n47 l j) (cond (n47 n m) (cond (decide (A ≤ (imax (m47 l j) (m47 n m)))) (cond (n47 l j) (cond (bif (bif (bif (decide ((m47 l j) < A)) then false else true) then false else true) then true else (n47 n m)) (cond (bif (decide ((m47 l j) < A)) then true else (decide ((m47 n m) < A))) (some (true, (A, 0), default)) (cond (decide (A = 0)) (l21_0 l j n m v w o g p b x y t i u d z f D C (Z.wrap (A + 1))) (cond ((o21_2 l j n m C A v w o g p b x y t i u d z D).isSome) (cond ((o21_4 l j n m ((o21_2 l j n m C A v w o g p b x y t i u d z D).getD 0) A v w o g p b x y t i u d z C).isSome) (cond (decide (0 ≤ Z.wrap ((o21_2 l j n m C A v w o g p b x y t i u d z D).getD default - 1) ∧ Z.wrap ((o21_2 l j n m C A v w o g p b x y t i u d z D).getD default - 1) < (↑p : Int))) (cond (decide (0 ≤ b.ii (Z.wrap ((o21_2 l j n m C A v w o g p b x y t i u d z D).getD default - 1)).toNat (0 + 1 + 1) ∧ b.ii (Z.wrap ((o21_2 l j n m C A v w o g p b x y t i u d z D).getD default - 1)).toNat (0 + 1 + 1) < (↑o : Int))) (cond (decide (0 ≤ Z.wrap ((o21_4 l j n m ((o21_2 l j n m C A v w o g p b x y t i u d z D).getD default) A v w o g p b x y t i u d z C).getD default - 1) ∧ Z.wrap ((o21_4 l j n m ((o21_2 l j n m C A v w o g p b x y t i u d z D).getD default) A v w o g p b x y t i u d z C).getD default - 1) < (↑u : Int))) (cond (decide (0 ≤ d.ii (Z.wrap ((o21_4 l j n m ((o21_2 l j n m C A v w o g p b x y t i u d z D).getD default) A v w o g p b x y t i u d z C).getD default - 1)).toNat (0 + 1 + 1) ∧ d.ii (Z.wrap ((o21_4 l j n m ((o21_2 l j n m C A v w o g p b x y t i u d z D).getD default) A v w o g p b x y t i u d z C).getD default - 1)).toNat (0 + 1 + 1) < (↑t : Int))) (cond (bif (bif (bif (bif (bif (decide ((g.ii ((b.ii ((Z.wrap (((o21_2 l j n m C A v w o g p b x y t i u d z D).getD 0) - 1)).toNat) 2).toNat) 0) = (i.ii ((d.ii ((Z.wrap (((o21_4 l j n m ((o21_2 l j n m C A v w o g p b x y t i u d z D).getD 0) A v w o g p b x y t i u d z C).getD 0) - 1)).toNat) 2).toNat) 0))) then (bif (decide ((g.ii ((b.ii ((Z.wrap (((o21_2 l j n m C A v w o g p b x y t i u d z D).getD 0) - 1)).toNat) 2).toNat) 1) = (i.ii ((d.ii ((Z.wrap (((o21_4 l j n m ((o21_2 l j n m C A v w o g p b x y t i u d z D).getD 0) A v w o g p b x y t i u d z C).getD 0) - 1)).toNat) 2).toNat) 1))) then true else false) else false) then false else true) then false else true) then false else true) then true else (decide (0 ≤ Z.wrap ((o21_2 l j n m C A v w o g p b x y t i u d z D).getD default - 1) ∧ Z.wrap ((o21_2 l j n m C A v w o g p b x y t i u d z D).getD default - 1) ≤ Z.wrap ((o21_2 l j n m C A v w o g p b x y t i u d z D).getD default + 1) ∧ Z.wrap ((o21_2 l j n m C A v w o g p b x y t i u d z D).getD default + 1) ≤ (↑l : Int)))) (cond (bif (bif (bif (bif (bif (decide ((g.ii ((b.ii ((Z.wrap (((o21_2 l j n m C A v w o g p b x y t i u d z D).getD 0) - 1)).toNat) 2).toNat) 0) = (i.ii ((d.ii ((Z.wrap (((o21_4 l j n m ((o21_2 l j n m C A v w o g p b x y t i u d z D).getD 0) A v w o g p b x y t i u d z C).getD 0) - 1)).toNat) 2).toNat) 0))) then (bif (decide ((g.ii ((b.ii ((Z.wrap (((o21_2 l j n m C A v w o g p b x y t i u d z D).getD 0) - 1)).toNat) 2).toNat) 1) = (i.ii ((d.ii ((Z.wrap (((o21_4 l j n m ((o21_2 l j n m C A v w o g p b x y t i u d z D).getD 0) A v w o g p b x y t i u d z C).getD 0) - 1)).toNat) 2).toNat) 1))) then true else false) else false) then false else true) then false else true) then false else true) then true else (n31 (((Z.wrap (((o21_2 l j n m C A v w o g p b x y t i u d z D).getD 0) + 1)) - (Z.wrap (((o21_2 l j n m C A v w o g p b x y t i u d z D).getD 0) - 1))).toNat) (j.shift ((Z.wrap (((o21_2 l j n m C A v w o g p b x y t i u d z D).getD 0) - 1)).toNat)) A)) (cond (bif (bif (bif (bif (bif (decide ((g.ii ((b.ii ((Z.wrap (((o21_2 l j n m C A v w o g p b x y t i u d z D).getD 0) - 1)).toNat) 2).toNat) 0) = (i.ii ((d.ii ((Z.wrap (((o21_4 l j n m ((o21_2 l j n m C A v w o g p b x y t i u d z D).getD 0) A v w o g p b x y t i u d z C).getD 0) - 1)).toNat) 2).toNat) 0))) then (bif (decide ((g.ii ((b.ii ((Z.wrap (((o21_2 l j n m C A v w o g p b x y t i u d z D).getD 0) - 1)).toNat) 2).toNat) 1) = (i.ii ((d.ii ((Z.wrap (((o21_4 l j n m ((o21_2 l j n m C A v w o g p b x y t i u d z D).getD 0) A v w o g p b x y t i u d z C).getD 0) - 1)).toNat) 2).toNat) 1))) then true else false) else false) then false else true) then false else true) then false else true) then true else (decide (0 ≤ Z.wrap ((o21_4 l j n m ((o21_2 l j n m C A v w o g p b x y t i u d z D).getD default) A v w o g p b x y t i u d z C).getD default - 1) ∧ Z.wrap ((o21_4 l j n m ((o21_2 l j n m C A v w o g p b x y t i u d z D).getD default) A v w o g p b x y t i u d z C).getD default - 1) ≤ Z.wrap ((o21_4 l j n m ((o21_2 l j n m C A v w o g p b x y t i u d z D).getD default) A v w o g p b x y t i u d z C).getD default + 1) ∧ Z.wrap ((o21_4 l j n m ((o21_2 l j n m C A v w o g p b x y t i u d z D).getD default) A v w o g p b x y t i u d z C).getD default + 1) ≤ (↑n : Int)))) (cond (bif (bif (bif (bif (bif (decide ((g.ii ((b.ii ((Z.wrap (((o21_2 l j n m C A v w o g p b x y t i u d z D).getD 0) - 1)).toNat) 2).toNat) 0) = (i.ii ((d.ii ((Z.wrap (((o21_4 l j n m ((o21_2 l j n m C A v w o g p b x y t i u d z D).getD 0) A v w o g p b x y t i u d z C).getD 0) - 1)).toNat) 2).toNat) 0))) then (bif (decide ((g.ii ((b.ii ((Z.wrap (((o21_2 l j n m C A v w o g p b x y t i u d z D).getD 0) - 1)).toNat) 2).toNat) 1) = (i.ii ((d.ii ((Z.wrap (((o21_4 l j n m ((o21_2 l j n m C A v w o g p b x y t i u d z D).getD 0) A v w o g p b x y t i u d z C).getD 0) - 1)).toNat) 2).toNat) 1))) then true else false) else false) then false else true) then false else true) then false else true) then true else (n31 (((Z.wrap (((o21_4 l j n m ((o21_2 l j n m C A v w o g p b x y t i u d z D).getD 0) A v w o g p b x y t i u d z C).getD 0) + 1)) - (Z.wrap (((o21_4 l j n m ((o21_2 l j n m C A v w o g p b x y t i u d z D).getD 0) A v w o g p b x y t i u d z C).getD 0) - 1))).toNat) (m.shift ((Z.wrap (((o21_4 l j n m ((o21_2 l j n m C A v w o g p b x y t i u d z D).getD 0) A v w o g p b x y t i u d z C).getD 0) - 1)).toNat)) A)) (cond (bif (bif (bif (decide ((g.ii ((b.ii ((Z.wrap (((o21_2 l j n m C A v w o g p b x y t i u d z D).getD 0) - 1)).toNat) 2).toNat) 0) = (i.ii ((d.ii ((Z.wrap (((o21_4 l j n m ((o21_2 l j n m C A v w o g p b x y t i u d z D).getD 0) A v w o g p b x y t i u d z C).getD 0) - 1)).toNat) 2).toNat) 0))) then (bif (decide ((g.ii ((b.ii ((Z.wrap (((o21_2 l j n m C A v w o g p b x y t i u d z D).getD 0) - 1)).toNat) 2).toNat) 1) = (i.ii ((d.ii ((Z.wrap (((o21_4 l j n m ((o21_2 l j n m C A v w o g p b x y t i u d z D).getD 0) A v w o g p b x y t i u d z C).getD 0) - 1)).toNat) 2).toNat) 1))) then true else false) else false) then false else true) then true else (bif (m48 (m31 (((Z.wrap (((o21_2 l j n m C A v w o g p b x y t i u d z D).getD 0) + 1)) - (Z.wrap (((o21_2 l j n m C A v w o g p b x y t i u d z D).getD 0) - 1))).toNat) (j.shift ((Z.wrap (((o21_2 l j n m C A v w o g p b x y t i u d z D).getD 0) - 1)).toNat)) A).1 (m31 (((Z.wrap (((o21_2 l j n m C A v w o g p b x y t i u d z D).getD 0) + 1)) - (Z.wrap (((o21_2 l j n m C A v w o g p b x y t i u d z D).getD 0) - 1))).toNat) (j.shift ((Z.wrap (((o21_2 l j n m C A v w o g p b x y t i u d z D).getD 0) - 1)).toNat)) A).2 (m31 (((Z.wrap (((o21_4 l j n m ((o21_2 l j n m C A v w o g p b x y t i u d z D).getD 0) A v w o g p b x y t i u d z C).getD 0) + 1)) - (Z.wrap (((o21_4 l j n m ((o21_2 l j n m C A v w o g p b x y t i u d z D).getD 0) A v w o g p b x y t i u d z C).getD 0) - 1))).toNat) (m.shift ((Z.wrap (((o21_4 l j n m ((o21_2 l j n m C A v w o g p b x y t i u d z D).getD 0) A v w o g p b x y t i u d z C).getD 0) - 1)).toNat)) A).1 (m31 (((Z.wrap (((o21_4 l j n m ((o21_2 l j n m C A v w o g p b x y t i u d z D).getD 0) A v w o g p b x y t i u d z C).getD 0) + 1)) - (Z.wrap (((o21_4 l j n m ((o21_2 l j n m C A v w o g p b x y t i u d z D).getD 0) A v w o g p b x y t i u d z C).getD 0) - 1))).toNat) (m.shift ((Z.wrap (((o21_4 l j n m ((o21_2 l j n m C A v w o g p b x y t i u d z D).getD 0) A v w o g p b x y t i u d z C).getD 0) - 1)).toNat)) A).2) then false else true)) (some (true, (A, 0), default)) (l21_0 l j n m v w o g p b x y t i u d z f ((o21_2 l j n m C A v w o g p b x y t i u d z D).getD 0) ((o21_4 l j n m ((o21_2 l j n m C A v w o g p b x y t i u d z D).getD 0) A v w o g p b x y t i u d z C).getD 0) (Z.wrap (A + 1)))) none) none) none) none) none) none) none) none) none) none))) none) none) (some (false, default, ()))) none) none)
noncomputable abbrev o21_0 (l : Nat) (j : Dat) (n : Nat) (m : Dat) (v : ByteArray) (w : Int) (o : Nat) (g : Dat) (p : Nat) (b : Dat) (x : ByteArray) (y : Int) (t : Nat) (i : Dat) (u : Nat) (d z : Dat) (D C A : Int) : Option (Bool × (Int × Int) × (Unit)) := l21_0 l j n m v w o g p b x y t i u d z ((m47 l j).toNat + (m47 n m).toNat + 8) D C A
noncomputable def e21_0 (l : Nat) (j : Dat) (n : Nat) (m : Dat) (v : ByteArray) (w : Int) (o : Nat) (g : Dat) (p : Nat) (b : Dat) (x : ByteArray) (y : Int) (t : Nat) (i : Dat) (u : Nat) (d z : Dat) (r : Bool × (Int × Int) × (Unit)) (K : XR) : Prop := cnd r.1 (K (XE.ret) [V Z r.2.1.1, V Z r.2.1.2] [.cells 25 [.str v, V Z w, .ro [W Z, W Z] o g, .ro [W Z, W Z, W Z] p b], .cells 25 [.str x, V Z y, .ro [W Z, W Z] t i, .ro [W Z, W Z, W Z] u d], .row 25 [.str, W Z, .sl [W Z, W Z], .sl [W Z, W Z, W Z]] 2 z]) (K (XE.exit 0) [.any, .any] [.cells 25 [.str v, V Z w, .ro [W Z, W Z] o g, .ro [W Z, W Z, W Z] p b], .cells 25 [.str x, V Z y, .ro [W Z, W Z] t i, .ro [W Z, W Z, W Z] u d], .row 25 [.str, W Z, .sl [W Z, W Z], .sl [W Z, W Z, W Z]] 2 z])
noncomputable def g21_0 : LSum := fun s k => match czv 0 107 [2, 3, 7, 8, 9, 10, 11] 3 [] s with
  | some ([.ptr 0 0, .ptr 1 0, .ro [W Z, W Z] l j, .ro [W Z, W Z] n m, V Z D, V Z C, V Z A], [.cells 25 [.str v, V Z w, .ro [W Z, W Z] o g, .ro [W Z, W Z, W Z] p b], .cells 25 [.str x, V Z y, .ro [W Z, W Z] t i, .ro [W Z, W Z, W Z] u d], .row 25 [.str, W Z, .sl [W Z, W Z], .sl [W Z, W Z, W Z]] 2 z]) => needs [(o21_0 l j n m v w o g p b x y t i u d z D C A).isSome] (e21_0 l j n m v w o g p b x y t i u d z ((o21_0 l j n m v w o g p b x y t i u d z D C A).getD default) fun e vs bs => inBlk 0 k e (mkSt 0 107 [4, 5] vs 3 bs))
  | _ => False
theorem z21_0 : LOk Tryz.prog g21_0 (.block 0 (bodyAt (Tryz.f21.body.getD .skip) 0)) := by
  refine lb (ι := Nat × Dat × Nat × Dat × Int × Int × Int × ByteArray × Int × Nat × Dat × Nat × Dat × ByteArray × Int × Nat × Dat × Nat × Dat × Dat) (fuel := 8) (na := 0) (nt := 107) (nx := 3) (Lh := [2, 3, 7, 8, 9, 10, 11]) (Le := [4, 5]) (gl := []) (tc k31 (tc k42 (tc k46 (tc k47 (tc k48 tn))))) mix_ok (lam_of rfl (lc z21_2 (lc z21_4 ln))) rfl (fun f (l, j, n, m, D, C, A, v, w, o, g, p, b, x, y, t, i, u, d, z) K => GG default (e21_0 l j n m v w o g p b x y t i u d z) K (l21_0 l j n m v w o g p b x y t i u d z f D C A)) (fun (l, j, n, m, D, C, A, v, w, o, g, p, b, x, y, t, i, u, d, z) => [.ptr 0 0, .ptr 1 0, .ro [W Z, W Z] l j, .ro [W Z, W Z] n m, V Z D, V Z C, V Z A]) (fun (l, j, n, m, D, C, A, v, w, o, g, p, b, x, y, t, i, u, d, z) => [.cells 25 [.str v, V Z w, .ro [W Z, W Z] o g, .ro [W Z, W Z, W Z] p b], .cells 25 [.str x, V Z y, .ro [W Z, W Z] t i, .ro [W Z, W Z, W Z] u d], .row 25 [.str, W Z, .sl [W Z, W Z], .sl [W Z, W Z, W Z]] 2 z]) (fun (_, _, _, _, _, _, _, _, _, _, _, _, _, _, _, _, _, _, _, _) K => gg_none) ?_ ?_
  · rintro f ⟨l, j, n, m, D, C, A, v, w, o, g, p, b, x, y, t, i, u, d, z⟩ K hG
    refine ro (fun R => (cnd (n47 l j)
 (cnd (n47 n m)
 (cnd (decide (A ≤ (imax (m47 l j) (m47 n m))))
 (cnd (n47 l j)
 (cnd (bif (bif (bif (decide ((m47 l j) < A)) then false else true) then false else true) then true else (n47 n m))
 (cnd (bif (decide ((m47 l j) < A)) then true else (decide ((m47 n m) < A)))
 (R (XE.ret) [V Z A, V Z 0] [.cells 25 [.str v, V Z w, .ro [W Z, W Z] o g, .ro [W Z, W Z, W Z] p b], .cells 25 [.str x, V Z y, .ro [W Z, W Z] t i, .ro [W Z, W Z, W Z] u d], .row 25 [.str, W Z, .sl [W Z, W Z], .sl [W Z, W Z, W Z]] 2 z])
 (cnd (decide (A = 0))
 (R (XE.normal) [.ptr 0 0, .ptr 1 0, .ro [W Z, W Z] l j, .ro [W Z, W Z] n m, V Z D, V Z C, V Z (Z.wrap (A + 1))] [.cells 25 [.str v, V Z w, .ro [W Z, W Z] o g, .ro [W Z, W Z, W Z] p b], .cells 25 [.str x, V Z y, .ro [W Z, W Z] t i, .ro [W Z, W Z, W Z] u d], .row 25 [.str, W Z, .sl [W Z, W Z], .sl [W Z, W Z, W Z]] 2 z])
 (cnd ((o21_2 l j n m C A v w o g p b x y t i u d z D).isSome)
 (cnd ((o21_4 l j n m ((o21_2 l j n m C A v w o g p b x y t i u d z D).getD 0) A v w o g p b x y t i u d z C).isSome)
 (cnd (decide (0 ≤ Z.wrap ((o21_2 l j n m C A v w o g p b x y t i u d z D).getD default - 1) ∧ Z.wrap ((o21_2 l j n m C A v w o g p b x y t i u d z D).getD default - 1) < (↑p : Int)))
 (cnd (decide (0 ≤ b.ii (Z.wrap ((o21_2 l j n m C A v w o g p b x y t i u d z D).getD default - 1)).toNat (0 + 1 + 1) ∧ b.ii (Z.wrap ((o21_2 l j n m C A v w o g p b x y t i u d z D).getD default - 1)).toNat (0 + 1 + 1) < (↑o : Int)))
 (cnd (decide (0 ≤ Z.wrap ((o21_4 l j n m ((o21_2 l j n m C A v w o g p b x y t i u d z D).getD default) A v w o g p b x y t i u d z C).getD default - 1) ∧ Z.wrap ((o21_4 l j n m ((o21_2 l j n m C A v w o g p b x y t i u d z D).getD default) A v w o g p b x y t i u d z C).getD default - 1) < (↑u : Int)))
 (cnd (decide (0 ≤ d.ii (Z.wrap ((o21_4 l j n m ((o21_2 l j n m C A v w o g p b x y t i u d z D).getD default) A v w o g p b x y t i u d z C).getD default - 1)).toNat (0 + 1 + 1) ∧ d.ii (Z.wrap ((o21_4 l j n m ((o21_2 l j n m C A v w o g p b x y t i u d z D).getD default) A v w o g p b x y t i u d z C).getD default - 1)).toNat (0 + 1 + 1) < (↑t : Int)))
 (cnd (bif (bif (bif (bif (bif (decide ((g.ii ((b.ii ((Z.wrap (((o21_2 l j n m C A v w o g p b x y t i u d z D).getD 0) - 1)).toNat) 2).toNat) 0) = (i.ii ((d.ii ((Z.wrap (((o21_4 l j n m ((o21_2 l j n m C A v w o g p b x y t i u d z D).getD 0) A v w o g p b x y t i u d z C).getD 0) - 1)).toNat) 2).toNat) 0))) then (bif (decide ((g.ii ((b.ii ((Z.wrap (((o21_2 l j n m C A v w o g p b x y t i u d z D).getD 0) - 1)).toNat) 2).toNat) 1) = (i.ii ((d.ii ((Z.wrap (((o21_4 l j n m ((o21_2 l j n m C A v w o g p b x y t i u d z D).getD 0) A v w o g p b x y t i u d z C).getD 0) - 1)).toNat) 2).toNat) 1))) then true else false) else false) then false else true) then false else true) then false else true) then true else (decide (0 ≤ Z.wrap ((o21_2 l j n m C A v w o g p b x y t i u d z D).getD default - 1) ∧ Z.wrap ((o21_2 l j n m C A v w o g p b x y t i u d z D).getD default - 1) ≤ Z.wrap ((o21_2 l j n m C A v w o g p b x y t i u d z D).getD default + 1) ∧ Z.wrap ((o21_2 l j n m C A v w o g p b x y t i u d z D).getD default + 1) ≤ (↑l : Int))))
 (cnd (bif (bif (bif (bif (bif (decide ((g.ii ((b.ii ((Z.wrap (((o21_2 l j n m C A v w o g p b x y t i u d z D).getD 0) - 1)).toNat) 2).toNat) 0) = (i.ii ((d.ii ((Z.wrap (((o21_4 l j n m ((o21_2 l j n m C A v w o g p b x y t i u d z D).getD 0) A v w o g p b x y t i u d z C).getD 0) - 1)).toNat) 2).toNat) 0))) then (bif (decide ((g.ii ((b.ii ((Z.wrap (((o21_2 l j n m C A v w o g p b x y t i u d z D).getD 0) - 1)).toNat) 2).toNat) 1) = (i.ii ((d.ii ((Z.wrap (((o21_4 l j n m ((o21_2 l j n m C A v w o g p b x y t i u d z D).getD 0) A v w o g p b x y t i u d z C).getD 0) - 1)).toNat) 2).toNat) 1))) then true else false) else false) then false else true) then false else true) then false else true) then true else (n31 (((Z.wrap (((o21_2 l j n m C A v w o g p b x y t i u d z D).getD 0) + 1)) - (Z.wrap (((o21_2 l j n m C A v w o g p b x y t i u d z D).getD 0) - 1))).toNat) (j.shift ((Z.wrap (((o21_2 l j n m C A v w o g p b x y t i u d z D).getD 0) - 1)).toNat)) A))
 (cnd (bif (bif (bif (bif (bif (decide ((g.ii ((b.ii ((Z.wrap (((o21_2 l j n m C A v w o g p b x y t i u d z D).getD 0) - 1)).toNat) 2).toNat) 0) = (i.ii ((d.ii ((Z.wrap (((o21_4 l j n m ((o21_2 l j n m C A v w o g p b x y t i u d z D).getD 0) A v w o g p b x y t i u d z C).getD 0) - 1)).toNat) 2).toNat) 0))) then (bif (decide ((g.ii ((b.ii ((Z.wrap (((o21_2 l j n m C A v w o g p b x y t i u d z D).getD 0) - 1)).toNat) 2).toNat) 1) = (i.ii ((d.ii ((Z.wrap (((o21_4 l j n m ((o21_2 l j n m C A v w o g p b x y t i u d z D).getD 0) A v w o g p b x y t i u d z C).getD 0) - 1)).toNat) 2).toNat) 1))) then true else false) else false) then false else true) then false else true) then false else true) then true else (decide (0 ≤ Z.wrap ((o21_4 l j n m ((o21_2 l j n m C A v w o g p b x y t i u d z D).getD default) A v w o g p b x y t i u d z C).getD default - 1) ∧ Z.wrap ((o21_4 l j n m ((o21_2 l j n m C A v w o g p b x y t i u d z D).getD default) A v w o g p b x y t i u d z C).getD default - 1) ≤ Z.wrap ((o21_4 l j n m ((o21_2 l j n m C A v w o g p b x y t i u d z D).getD default) A v w o g p b x y t i u d z C).getD default + 1) ∧ Z.wrap ((o21_4 l j n m ((o21_2 l j n m C A v w o g p b x y t i u d z D).getD default) A v w o g p b x y t i u d z C).getD default + 1) ≤ (↑n : Int))))
 (cnd (bif (bif (bif (bif (bif (decide ((g.ii ((b.ii ((Z.wrap (((o21_2 l j n m C A v w o g p b x y t i u d z D).getD 0) - 1)).toNat) 2).toNat) 0) = (i.ii ((d.ii ((Z.wrap (((o21_4 l j n m ((o21_2 l j n m C A v w o g p b x y t i u d z D).getD 0) A v w o g p b x y t i u d z C).getD 0) - 1)).toNat) 2).toNat) 0))) then (bif (decide ((g.ii ((b.ii ((Z.wrap (((o21_2 l j n m C A v w o g p b x y t i u d z D).getD 0) - 1)).toNat) 2).toNat) 1) = (i.ii ((d.ii ((Z.wrap (((o21_4 l j n m ((o21_2 l j n m C A v w o g p b x y t i u d z D).getD 0) A v w o g p b x y t i u d z C).getD 0) - 1)).toNat) 2).toNat) 1))) then true else false) else false) then false else true) then false else true) then false else true) then true else (n31 (((Z.wrap (((o21_4 l j n m ((o21_2 l j n m C A v w o g p b x y t i u d z D).getD 0) A v w o g p b x y t i u d z C).getD 0) + 1)) - (Z.wrap (((o21_4 l j n m ((o21_2 l j n m C A v w o g p b x y t i u d z D).getD 0) A v w o g p b x y t i u d z C).getD 0) - 1))).toNat) (m.shift ((Z.wrap (((o21_4 l j n m ((o21_2 l j n m C A v w o g p b x y t i u d z D).getD 0) A v w o g p b x y t i u d z C).getD 0) - 1)).toNat)) A))
 (cnd (bif (bif (bif (decide ((g.ii ((b.ii ((Z.wrap (((o21_2 l j n m C A v w o g p b x y t i u d z D).getD 0) - 1)).toNat) 2).toNat) 0) = (i.ii ((d.ii ((Z.wrap (((o21_4 l j n m ((o21_2 l j n m C A v w o g p b x y t i u d z D).getD 0) A v w o g p b x y t i u d z C).getD 0) - 1)).toNat) 2).toNat) 0))) then (bif (decide ((g.ii ((b.ii ((Z.wrap (((o21_2 l j n m C A v w o g p b x y t i u d z D).getD 0) - 1)).toNat) 2).toNat) 1) = (i.ii ((d.ii ((Z.wrap (((o21_4 l j n m ((o21_2 l j n m C A v w o g p b x y t i u d z D).getD 0) A v w o g p b x y t i u d z C).getD 0) - 1)).toNat) 2).toNat) 1))) then true else false) else false) then false else true) then true else (bif (m48 (m31 (((Z.wrap (((o21_2 l j n m C A v w o g p b x y t i u d z D).getD 0) + 1)) - (Z.wrap (((o21_2 l j n m C A v w o g p b x y t i u d z D).getD 0) - 1))).toNat) (j.shift ((Z.wrap (((o21_2 l j n m C A v w o g p b x y t i u d z D).getD 0) - 1)).toNat)) A).1 (m31 (((Z.wrap (((o21_2 l j n m C A v w o g p b x y t i u d z D).getD 0) + 1)) - (Z.wrap (((o21_2 l j n m C A v w o g p b x y t i u d z D).getD 0) - 1))).toNat) (j.shift ((Z.wrap (((o21_2 l j n m C A v w o g p b x y t i u d z D).getD 0) - 1)).toNat)) A).2 (m31 (((Z.wrap (((o21_4 l j n m ((o21_2 l j n m C A v w o g p b x y t i u d z D).getD 0) A v w o g p b x y t i u d z C).getD 0) + 1)) - (Z.wrap (((o21_4 l j n m ((o21_2 l j n m C A v w o g p b x y t i u d z D).getD 0) A v w o g p b x y t i u d z C).getD 0) - 1))).toNat) (m.shift ((Z.wrap (((o21_4 l j n m ((o21_2 l j n m C A v w o g p b x y t i u d z D).getD 0) A v w o g p b x y t i u d z C).getD 0) - 1)).toNat)) A).1 (m31 (((Z.wrap (((o21_4 l j n m ((o21_2 l j n m C A v w o g p b x y t i u d z D).getD 0) A v w o g p b x y t i u d z C).getD 0) + 1)) - (Z.wrap (((o21_4 l j n m ((o21_2 l j n m C A v w o g p b x y t i u d z D).getD 0) A v w o g p b x y t i u d z C).getD 0) - 1))).toNat) (m.shift ((Z.wrap (((o21_4 l j n m ((o21_2 l j n m C A v w o g p b x y t i u d z D).getD 0) A v w o g p b x y t i u d z C).getD 0) - 1)).toNat)) A).2) then false else true))
 (R (XE.ret) [V Z A, V Z 0] [.cells 25 [.str v, V Z w, .ro [W Z, W Z] o g, .ro [W Z, W Z, W Z] p b], .cells 25 [.str x, V Z y, .ro [W Z, W Z] t i, .ro [W Z, W Z, W Z] u d], .row 25 [.str, W Z, .sl [W Z, W Z], .sl [W Z, W Z, W Z]] 2 z])
 (R (XE.normal) [.ptr 0 0, .ptr 1 0, .ro [W Z, W Z] l j, .ro [W Z, W Z] n m, V Z ((o21_2 l j n m C A v w o g p b x y t i u d z D).getD 0), V Z ((o21_4 l j n m ((o21_2 l j n m C A v w o g p b x y t i u d z D).getD 0) A v w o g p b x y t i u d z C).getD 0), V Z (Z.wrap (A + 1))] [.cells 25 [.str v, V Z w, .ro [W Z, W Z] o g, .ro [W Z, W Z, W Z] p b], .cells 25 [.str x, V Z y, .ro [W Z, W Z] t i, .ro [W Z, W Z, W Z] u d], .row 25 [.str, W Z, .sl [W Z, W Z], .sl [W Z, W Z, W Z]] 2 z]))
                  False)
                 False)
                False)
               False)
              False)
             False)
            False)
           False)
          False)
         False)))
      False)
     False)
 (R (XE.exit 0) [.any, .any] [.cells 25 [.str v, V Z w, .ro [W Z, W Z] o g, .ro [W Z, W Z, W Z] p b], .cells 25 [.str x, V Z y, .ro [W Z, W Z] t i, .ro [W Z, W Z, W Z] u d], .row 25 [.str, W Z, .sl [W Z, W Z], .sl [W Z, W Z, W Z]] 2 z]))
   False)
  False)) (fun R => by kernel_rfl) ?_
    exact cg hG fun h0 => cg h0 fun h1 => ch h1 (fun h2 => cg h2 fun h3 => cg h3 fun h4 => ch h4 (fun h5 => h5.2) (fun h5 => ch h5 (fun h6 => ⟨(_, _, _, _, _, _, _, _, _, _, _, _, _, _, _, _, _, _, _, _), rfl, rfl, h6⟩) (fun h6 => cg h6 fun h7 => cg h7 fun h8 => cg h8 fun h9 => cg h9 fun h10 => cg h10 fun h11 => cg h11 fun h12 => cg h12 fun h13 => cg h13 fun h14 => cg h14 fun h15 => cg h15 fun h16 => ch h16 (fun h17 => h17.2) (fun h17 => ⟨(_, _, _, _, _, _, _, _, _, _, _, _, _, _, _, _, _, _, _, _), rfl, rfl, h17⟩)))) (fun h2 => h2.2)
  · intro s k h
    unfold g21_0 at h
    split at h <;> try exact h.elim
    rename_i e1
    rw [needs_iff] at h
    exact ⟨_, e1, _, (_, _, _, _, _, _, _, _, _, _, _, _, _, _, _, _, _, _, _, _), rfl, rfl, h.1 _ (List.mem_singleton.2 rfl), h.2⟩
noncomputable def m21 (N : ByteArray) (O : Int) (E : Nat) (F : Dat) (G : Nat) (H : Dat) (P : ByteArray) (Q : Int) (I : Nat) (J : Dat) (L : Nat) (M : Dat) : Int × Int :=
  (cond (bif (decide ((m42 2 (datS [SV.str N, V Z O, SV.ro [Kd.int Z, Kd.int Z] E F, SV.ro [Kd.int Z, Kd.int Z, Kd.int Z] G H, SV.str P, V Z Q, SV.ro [Kd.int Z, Kd.int Z] I J, SV.ro [Kd.int Z, Kd.int Z, Kd.int Z] L M] 4)) = 0)) then false else true) (0, (m42 2 (datS [SV.str N, V Z O, SV.ro [Kd.int Z, Kd.int Z] E F, SV.ro [Kd.int Z, Kd.int Z, Kd.int Z] G H, SV.str P, V Z Q, SV.ro [Kd.int Z, Kd.int Z] I J, SV.ro [Kd.int Z, Kd.int Z, Kd.int Z] L M] 4))) (cond ((o21_0 (m46 N O E F G H).1 (m46 N O E F G H).2 (m46 P Q I J L M).1 (m46 P Q I J L M).2 N O E F G H P Q I J L M (datS [SV.str N, V Z O, SV.ro [Kd.int Z, Kd.int Z] E F, SV.ro [Kd.int Z, Kd.int Z, Kd.int Z] G H, SV.str P, V Z Q, SV.ro [Kd.int Z, Kd.int Z] I J, SV.ro [Kd.int Z, Kd.int Z, Kd.int Z] L M] 4) 1 1 0).getD default).1 (((o21_0 (m46 N O E F G H).1 (m46 N O E F G H).2 (m46 P Q I J L M).1 (m46 P Q I J L M).2 N O E F G H P Q I J L M (datS [SV.str N, V Z O, SV.ro [Kd.int Z, Kd.int Z] E F, SV.ro [Kd.int Z, Kd.int Z, Kd.int Z] G H, SV.str P, V Z Q, SV.ro [Kd.int Z, Kd.int Z] I J, SV.ro [Kd.int Z, Kd.int Z, Kd.int Z] L M] 4) 1 1 0).getD default).2.1.1, ((o21_0 (m46 N O E F G H).1 (m46 N O E F G H).2 (m46 P Q I J L M).1 (m46 P Q I J L M).2 N O E F G H P Q I J L M (datS [SV.str N, V Z O, SV.ro [Kd.int Z, Kd.int Z] E F, SV.ro [Kd.int Z, Kd.int Z, Kd.int Z] G H, SV.str P, V Z Q, SV.ro [Kd.int Z, Kd.int Z] I J, SV.ro [Kd.int Z, Kd.int Z, Kd.int Z] L M] 4) 1 1 0).getD default).2.1.2) (0, 12)))
noncomputable def n21 (N : ByteArray) (O : Int) (E : Nat) (F : Dat) (G : Nat) (H : Dat) (P : ByteArray) (Q : Int) (I : Nat) (J : Dat) (L : Nat) (M : Dat) : Bool :=
  ((n42 2 (datS [SV.str N, V Z O, SV.ro [Kd.int Z, Kd.int Z] E F, SV.ro [Kd.int Z, Kd.int Z, Kd.int Z] G H, SV.str P, V Z Q, SV.ro [Kd.int Z, Kd.int Z] I J, SV.ro [Kd.int Z, Kd.int Z, Kd.int Z] L M] 4)) && (cond (bif (decide ((m42 2 (datS [SV.str N, V Z O, SV.ro [Kd.int Z, Kd.int Z] E F, SV.ro [Kd.int Z, Kd.int Z, Kd.int Z] G H, SV.str P, V Z Q, SV.ro [Kd.int Z, Kd.int Z] I J, SV.ro [Kd.int Z, Kd.int Z, Kd.int Z] L M] 4)) = 0)) then false else true) true ((n46 N O E F G H) && ((n46 P Q I J L M) && (((o21_0 (m46 N O E F G H).1 (m46 N O E F G H).2 (m46 P Q I J L M).1 (m46 P Q I J L M).2 N O E F G H P Q I J L M (datS [SV.str N, V Z O, SV.ro [Kd.int Z, Kd.int Z] E F, SV.ro [Kd.int Z, Kd.int Z, Kd.int Z] G H, SV.str P, V Z Q, SV.ro [Kd.int Z, Kd.int Z] I J, SV.ro [Kd.int Z, Kd.int Z, Kd.int Z] L M] 4) 1 1 0).isSome) && true)))))
noncomputable def q21 (r : Int × Int) : SV × List Blk × List Blk := (.tup [V Z r.1, V Z r.2], [], [])
noncomputable def g21 : GF := fun vs bs => match vs, bs with
  | [.agg [.str N, V Z O, .ro [W Z, W Z] E F, .ro [W Z, W Z, W Z] G H], .agg [.str P, V Z Q, .ro [W Z, W Z] I J, .ro [W Z, W Z, W Z] L M]], [] => some (rs 0 (q21 (m21 N O E F G H P Q I J L M)) [n21 N O E F G H P Q I J L M])
  | _, _ => none
noncomputable def c21 : Ctr := genC [.a [.k, .k, .ro [W Z, W Z], .ro [W Z, W Z, W Z]], .a [.k, .k, .ro [W Z, W Z], .ro [W Z, W Z, W Z]]] g21
theorem k21 : CtrOk Tryz.prog c21 21 := cx (tc k31 (tc k42 (tc k46 (tc k47 (tc k48 tn))))) mix_ok 8 (fn := Tryz.f21) (c := (Tryz.f21.body.getD .skip)) (grs := []) (rh := .k) Tryz.func21 rfl (by kernel_rfl) (lam_of rfl (lc z21_2 (lc z21_4 (lc z21_0 ln)))) fun vs bs q h hn => by
  unfold g21 at h
  split at h <;> cases h
  rename_i N O E F G H P Q I J L M
  have hn := n1 hn
  exact ⟨_, rfl, ca (fun R => (cnd (n42 2 (datS [SV.str N, V Z O, SV.ro [Kd.int Z, Kd.int Z] E F, SV.ro [Kd.int Z, Kd.int Z, Kd.int Z] G H, SV.str P, V Z Q, SV.ro [Kd.int Z, Kd.int Z] I J, SV.ro [Kd.int Z, Kd.int Z, Kd.int Z] L M] 4))
 (cnd (bif (decide ((m42 2 (datS [SV.str N, V Z O, SV.ro [Kd.int Z, Kd.int Z] E F, SV.ro [Kd.int Z, Kd.int Z, Kd.int Z] G H, SV.str P, V Z Q, SV.ro [Kd.int Z, Kd.int Z] I J, SV.ro [Kd.int Z, Kd.int Z, Kd.int Z] L M] 4)) = 0)) then false else true)
 (R (.tup [V Z 0, V Z (m42 2 (datS [SV.str N, V Z O, SV.ro [Kd.int Z, Kd.int Z] E F, SV.ro [Kd.int Z, Kd.int Z, Kd.int Z] G H, SV.str P, V Z Q, SV.ro [Kd.int Z, Kd.int Z] I J, SV.ro [Kd.int Z, Kd.int Z, Kd.int Z] L M] 4))]) [] [])
 (cnd (n46 N O E F G H)
 (cnd (n46 P Q I J L M)
 (cnd ((o21_0 (m46 N O E F G H).1 (m46 N O E F G H).2 (m46 P Q I J L M).1 (m46 P Q I J L M).2 N O E F G H P Q I J L M (datS [SV.str N, V Z O, SV.ro [Kd.int Z, Kd.int Z] E F, SV.ro [Kd.int Z, Kd.int Z, Kd.int Z] G H, SV.str P, V Z Q, SV.ro [Kd.int Z, Kd.int Z] I J, SV.ro [Kd.int Z, Kd.int Z, Kd.int Z] L M] 4) 1 1 0).isSome)
 (cnd ((o21_0 (m46 N O E F G H).1 (m46 N O E F G H).2 (m46 P Q I J L M).1 (m46 P Q I J L M).2 N O E F G H P Q I J L M (datS [SV.str N, V Z O, SV.ro [Kd.int Z, Kd.int Z] E F, SV.ro [Kd.int Z, Kd.int Z, Kd.int Z] G H, SV.str P, V Z Q, SV.ro [Kd.int Z, Kd.int Z] I J, SV.ro [Kd.int Z, Kd.int Z, Kd.int Z] L M] 4) 1 1 0).getD default).1
 (R (.tup [V Z ((o21_0 (m46 N O E F G H).1 (m46 N O E F G H).2 (m46 P Q I J L M).1 (m46 P Q I J L M).2 N O E F G H P Q I J L M (datS [SV.str N, V Z O, SV.ro [Kd.int Z, Kd.int Z] E F, SV.ro [Kd.int Z, Kd.int Z, Kd.int Z] G H, SV.str P, V Z Q, SV.ro [Kd.int Z, Kd.int Z] I J, SV.ro [Kd.int Z, Kd.int Z, Kd.int Z] L M] 4) 1 1 0).getD default).2.1.1, V Z ((o21_0 (m46 N O E F G H).1 (m46 N O E F G H).2 (m46 P Q I J L M).1 (m46 P Q I J L M).2 N O E F G H P Q I J L M (datS [SV.str N, V Z O, SV.ro [Kd.int Z, Kd.int Z] E F, SV.ro [Kd.int Z, Kd.int Z, Kd.int Z] G H, SV.str P, V Z Q, SV.ro [Kd.int Z, Kd.int Z] I J, SV.ro [Kd.int Z, Kd.int Z, Kd.int Z] L M] 4) 1 1 0).getD default).2.1.2]) [] [])
 (R (.tup [V Z 0, V Z 12]) [] []))
      False)
     False)
    False))
  False)) (fun R => by kernel_rfl) (cn (al hn) (co (fun h0 => lf (cT h0 rfl) rfl) (fun h0 => cn (al (cf h0 (ar hn))) (cn (al (ar (cf h0 (ar hn)))) (cn (al (ar (ar (cf h0 (ar hn))))) (co (fun h1 => lf (cF h0 (cT h1 rfl)) rfl) (fun h1 => lf (cF h0 (cF h1 rfl)) rfl)))))))⟩

/-! ### shotline/profile.normal -/
noncomputable def l43_0 (y : Nat) (d : Dat) (J : Int) (C : ByteArray) (D : Int) (A : Nat) (o I : Dat) (E : ByteArray) (F : Int) (G : ByteArray) (H : Int) : Nat → Nat → Int → Nat → Nat → Dat → Dat → Dat → Option (Nat × Nat × Nat × Dat × Nat × Dat × Nat × Dat)
  | 0, _, _, _, _, _, _, _ => none
  | f + 1, x, g, l, b, p, z, w => (cond (decide (g < J)) (cond (decide (0 ≤ g ∧ g < ↑y)) (cond (decide (0 ≤ d.ii g.toNat (0 + 1 + 1) ∧ d.ii g.toNat (0 + 1 + 1) < (↑A : Int))) (cond (decide ((0 + l) ≤ l)) (cond (n64 l z (o.ii ((d.ii g.toNat 2).toNat) 0) (o.ii ((d.ii g.toNat 2).toNat) 1)) (cond (decide ((m64 l z (o.ii ((d.ii g.toNat 2).toNat) 0) (o.ii ((d.ii g.toNat 2).toNat) 1)) < 0)) (cond (decide ((l + 1) ≤ 1073741824)) (cond (decide ((0 + x) ≤ x)) (cond (n47 x p) (cond (bif (bif (decide ((0 : Int) < (↑b : Int))) then false else true) then true else (decide (0 ≤ Z.wrap ((↑b : Int) - 1) ∧ Z.wrap ((↑b : Int) - 1) < (↑b : Int)))) (cond (bif (bif (decide ((0 : Int) < (↑b : Int))) then false else true) then true else (decide (((Z.wrap ((↑b : Int) - 1)).toNat) < b))) (cond (bif (bif (bif (decide ((0 : Int) < (↑b : Int))) then (decide ((w.ii ((Z.wrap ((↑b : Int) - 1)).toNat) 2) = (↑l : Int))) else false) then false else true) then true else (decide (0 ≤ Z.wrap ((↑b : Int) - 1) ∧ Z.wrap ((↑b : Int) - 1) < (↑x : Int)))) (cond (bif (bif (bif (decide ((0 : Int) < (↑b : Int))) then (decide ((w.ii ((Z.wrap ((↑b : Int) - 1)).toNat) 2) = (↑l : Int))) else false) then false else true) then true else (decide (((Z.wrap ((↑b : Int) - 1)).toNat) < x))) (cond (bif (bif (bif (decide ((0 : Int) < (↑b : Int))) then (decide ((w.ii ((Z.wrap ((↑b : Int) - 1)).toNat) 2) = (↑l : Int))) else false) then false else true) then true else (decide (0 ≤ (↑b : Int) ∧ (↑b : Int) < (↑x : Int)))) (cond (bif (bif (bif (decide ((0 : Int) < (↑b : Int))) then (decide ((w.ii ((Z.wrap ((↑b : Int) - 1)).toNat) 2) = (↑l : Int))) else false) then false else true) then true else (decide (((↑b : Int).toNat) < x))) (cond (bif (bif (decide ((0 : Int) < (↑b : Int))) then (decide ((w.ii ((Z.wrap ((↑b : Int) - 1)).toNat) 2) = (↑l : Int))) else false) then (m65 (p.ii ((Z.wrap ((↑b : Int) - 1)).toNat) 0) (p.ii ((Z.wrap ((↑b : Int) - 1)).toNat) 1) (p.ii ((↑b : Int).toNat) 0) (p.ii ((↑b : Int).toNat) 1) (Z.wrap ((m47 x p) + (d.ii g.toNat 0))) (d.ii g.toNat 1)) else false) (cond (decide (0 ≤ Z.wrap ((↑b : Int) - 1) ∧ Z.wrap ((↑b : Int) - 1) < (↑b : Int))) (cond (decide (((Z.wrap ((↑b : Int) - 1)).toNat) < b)) (cond (decide (0 ≤ Z.wrap ((↑b : Int) - 1) ∧ Z.wrap ((↑b : Int) - 1) < (↑b : Int))) (cond (decide (((Z.wrap ((↑b : Int) - 1)).toNat) < b)) (cond (decide (0 ≤ Z.wrap ((↑b : Int) - 1) ∧ Z.wrap ((↑b : Int) - 1) < (↑b : Int))) (cond (decide (((Z.wrap ((↑b : Int) - 1)).toNat) < b)) (cond (decide (0 ≤ (↑b : Int) ∧ (↑b : Int) < (↑x : Int))) (cond (decide (((↑b : Int).toNat) < x)) (l43_0 y d J C D A o I E F G H f x (Z.wrap (g + 1)) (l + 1) b (p.upd ((↑b : Int).toNat) 0 [V Z (Z.wrap ((m47 x p) + (d.ii g.toNat 0))), V Z (d.ii g.toNat 1)]) (z.app l (datS [V Z (o.ii ((d.ii g.toNat 2).toNat) 0), V Z (o.ii ((d.ii g.toNat 2).toNat) 1)] 2)) ((w.upd ((Z.wrap ((↑b : Int) - 1)).toNat) 0 [V Z (Z.wrap ((w.ii ((Z.wrap ((↑b : Int) - 1)).toNat) 0) + (d.ii g.toNat 0)))]).upd ((Z.wrap ((↑b : Int) - 1)).toNat) 1 [V Z (d.ii g.toNat 1)])) none) none) none) none) none) none) none) none) (cond (decide ((b + 1) ≤ 1073741824)) (cond (decide ((x + 1) ≤ 1073741824)) (l43_0 y d J C D A o I E F G H f (x + 1) (Z.wrap (g + 1)) (l + 1) (b + 1) (p.app x (datS [V Z (Z.wrap ((m47 x p) + (d.ii g.toNat 0))), V Z (d.ii g.toNat 1)] 2)) (z.app l (datS [V Z (o.ii ((d.ii g.toNat 2).toNat) 0), V Z (o.ii ((d.ii g.toNat 2).toNat) 1)] 2)) (w.app b (datS [V Z (d.ii g.toNat 0), V Z (d.ii g.toNat 1), V Z (↑l : Int)] 3))) none) none)) none) none) none) none) none) none) none) none) none) (cond (decide ((0 + x) ≤ x)) (cond (n47 x p) (cond (bif (bif (decide ((0 : Int) < (↑b : Int))) then false else true) then true else (decide (0 ≤ Z.wrap ((↑b : Int) - 1) ∧ Z.wrap ((↑b : Int) - 1) < (↑b : Int)))) (cond (bif (bif (decide ((0 : Int) < (↑b : Int))) then false else true) then true else (decide (((Z.wrap ((↑b : Int) - 1)).toNat) < b))) (cond (bif (bif (bif (decide ((0 : Int) < (↑b : Int))) then (decide ((w.ii ((Z.wrap ((↑b : Int) - 1)).toNat) 2) = (m64 l z (o.ii ((d.ii g.toNat 2).toNat) 0) (o.ii ((d.ii g.toNat 2).toNat) 1)))) else false) then false else true) then true else (decide (0 ≤ Z.wrap ((↑b : Int) - 1) ∧ Z.wrap ((↑b : Int) - 1) < (↑x : Int)))) (cond (bif (bif (bif (decide ((0 : Int) < (↑b : Int))) then (decide ((w.ii ((Z.wrap ((↑b : Int) - 1)).toNat) 2) = (m64 l z (o.ii ((d.ii g.toNat 2).toNat) 0) (o.ii ((d.ii g.toNat 2).toNat) 1)))) else false) then false else true) then true else (decide (((Z.wrap ((↑b : Int) - 1)).toNat) < x))) (cond (bif (bif (bif (decide ((0 : Int) < (↑b : Int))) then (decide ((w.ii ((Z.wrap ((↑b : Int) - 1)).toNat) 2) = (m64 l z (o.ii ((d.ii g.toNat 2).toNat) 0) (o.ii ((d.ii g.toNat 2).toNat) 1)))) else false) then false else true) then true else (decide (0 ≤ (↑b : Int) ∧ (↑b : Int) < (↑x : Int)))) (cond (bif (bif (bif (decide ((0 : Int) < (↑b : Int))) then (decide ((w.ii ((Z.wrap ((↑b : Int) - 1)).toNat) 2) = (m64 l z (o.ii ((d.ii g.toNat 2).toNat) 0) (o.ii ((d.ii g.toNat 2).toNat) 1)))) else false) then false else true) then true else (decide (((↑b : Int).toNat) < x))) (cond (bif (bif (decide ((0 : Int) < (↑b : Int))) then (decide ((w.ii ((Z.wrap ((↑b : Int) - 1)).toNat) 2) = (m64 l z (o.ii ((d.ii g.toNat 2).toNat) 0) (o.ii ((d.ii g.toNat 2).toNat) 1)))) else false) then (m65 (p.ii ((Z.wrap ((↑b : Int) - 1)).toNat) 0) (p.ii ((Z.wrap ((↑b : Int) - 1)).toNat) 1) (p.ii ((↑b : Int).toNat) 0) (p.ii ((↑b : Int).toNat) 1) (Z.wrap ((m47 x p) + (d.ii g.toNat 0))) (d.ii g.toNat 1)) else false) (cond (decide (0 ≤ Z.wrap ((↑b : Int) - 1) ∧ Z.wrap ((↑b : Int) - 1) < (↑b : Int))) (cond (decide (((Z.wrap ((↑b : Int) - 1)).toNat) < b)) (cond (decide (0 ≤ Z.wrap ((↑b : Int) - 1) ∧ Z.wrap ((↑b : Int) - 1) < (↑b : Int))) (cond (decide (((Z.wrap ((↑b : Int) - 1)).toNat) < b)) (cond (decide (0 ≤ Z.wrap ((↑b : Int) - 1) ∧ Z.wrap ((↑b : Int) - 1) < (↑b : Int))) (cond (decide (((Z.wrap ((↑b : Int) - 1)).toNat) < b)) (cond (decide (0 ≤ (↑b : Int) ∧ (↑b : Int) < (↑x : Int))) (cond (decide (((↑b : Int).toNat) < x)) (l43_0 y d J C D A o I E F G H f x (Z.wrap (g + 1)) l b (p.upd ((↑b : Int).toNat) 0 [V Z (Z.wrap ((m47 x p) + (d.ii g.toNat 0))), V Z (d.ii g.toNat 1)]) z ((w.upd ((Z.wrap ((↑b : Int) - 1)).toNat) 0 [V Z (Z.wrap ((w.ii ((Z.wrap ((↑b : Int) - 1)).toNat) 0) + (d.ii g.toNat 0)))]).upd ((Z.wrap ((↑b : Int) - 1)).toNat) 1 [V Z (d.ii g.toNat 1)])) none) none) none) none) none) none) none) none) (cond (decide ((b + 1) ≤ 1073741824)) (cond (decide ((x + 1) ≤ 1073741824)) (l43_0 y d J C D A o I E F G H f (x + 1) (Z.wrap (g + 1)) l (b + 1) (p.app x (datS [V Z (Z.wrap ((m47 x p) + (d.ii g.toNat 0))), V Z (d.ii g.toNat 1)] 2)) z (w.app b (datS [V Z (d.ii g.toNat 0), V Z (d.ii g.toNat 1), V Z (m64 l z (o.ii ((d.ii g.toNat 2).toNat) 0) (o.ii ((d.ii g.toNat 2).toNat) 1))] 3))) none) none)) none) none) none) none) none) none) none) none)) none) none) none) none) (some (l, b, x, p, l, z, b, w)))
noncomputable abbrev o43_0 (y : Nat) (d : Dat) (J : Int) (C : ByteArray) (D : Int) (A : Nat) (o I : Dat) (E : ByteArray) (F : Int) (G : ByteArray) (H : Int) (x : Nat) (g : Int) (l b : Nat) (p z w : Dat) : Option (Nat × Nat × Nat × Dat × Nat × Dat × Nat × Dat) := l43_0 y d J C D A o I E F G H (x + y + J.toNat + g.toNat + C.size + D.toNat + A + E.size + F.toNat + G.size + H.toNat + l + b + 8) x g l b p z w
noncomputable def e43_0 (y : Nat) (d : Dat) (J : Int) (C : ByteArray) (D : Int) (A : Nat) (o I : Dat) (E : ByteArray) (F : Int) (G : ByteArray) (H : Int) (r : Nat × Nat × Nat × Dat × Nat × Dat × Nat × Dat) (K : XR) : Prop := K (XE.exit 0) [.ptr 0 0, .ptr 1 0, .ptr 2 0] [.cells 25 [.str C, V Z D, .ro [W Z, W Z] A o, .ro [W Z, W Z, W Z] y I], .cells 25 [.str E, V Z F, .nsl, .nsl], .cells 25 [.str G, V Z H, .gr 4 2 r.1, .gr 5 3 r.2.1], .row 77 [W Z, W Z] r.2.2.1 r.2.2.2.1, .row 75 [W Z, W Z] r.2.2.2.2.1 r.2.2.2.2.2.1, .row 72 [W Z, W Z, W Z] r.2.2.2.2.2.2.1 r.2.2.2.2.2.2.2]
noncomputable def g43_0 : LSum := fun s k => match czv 0 132 [1, 2, 3, 4, 18, 19, 20] 6 [⟨true, 4, 0, 3, 77, [W Z, W Z]⟩, ⟨false, 2, 2, 4, 75, [W Z, W Z]⟩, ⟨false, 2, 3, 5, 72, [W Z, W Z, W Z]⟩] s with
  | some ([.ptr 0 0, .ptr 1 0, .ptr 2 0, .gr 3 2 x, .ro [W Z, W Z, W Z] y d, V Z J, V Z g], [.cells 25 [.str C, V Z D, .ro [W Z, W Z] A o, .ro [W Z, W Z, W Z] b0_4 I], .cells 25 [.str E, V Z F, .nsl, .nsl], .cells 25 [.str G, V Z H, .gr 4 2 l, .gr 5 3 b], .row 77 [W Z, W Z] b3_0 p, .row 75 [W Z, W Z] b4_0 z, .row 72 [W Z, W Z, W Z] b5_0 w]) => needs [decide (y = b0_4), decide (x = b3_0), decide (l = b4_0), decide (b = b5_0), (o43_0 y d J C D A o I E F G H x g l b p z w).isSome] (e43_0 y d J C D A o I E F G H ((o43_0 y d J C D A o I E F G H x g l b p z w).getD default) fun e vs bs => inBlk 0 k e (mkSt 0 132 [1, 2, 3] vs 6 bs))
  | _ => False
theorem z43_0 : LOk Tryz.prog g43_0 (.block 0 (bodyAt (Tryz.f43.body.getD .skip) 0)) := by
  refine lb (ι := Nat × Nat × Dat × Int × Int × ByteArray × Int × Nat × Dat × Dat × ByteArray × Int × ByteArray × Int × Nat × Nat × Dat × Dat × Dat) (fuel := 8) (na := 0) (nt := 132) (nx := 6) (Lh := [1, 2, 3, 4, 18, 19, 20]) (Le := [1, 2, 3]) (gl := [⟨true, 4, 0, 3, 77, [W Z, W Z]⟩, ⟨false, 2, 2, 4, 75, [W Z, W Z]⟩, ⟨false, 2, 3, 5, 72, [W Z, W Z, W Z]⟩]) (tc k47 (tc k64 (tc k65 tn))) mix_ok noLam rfl (fun f (x, y, d, J, g, C, D, A, o, I, E, F, G, H, l, b, p, z, w) K => GG default (e43_0 y d J C D A o I E F G H) K (l43_0 y d J C D A o I E F G H f x g l b p z w)) (fun (x, y, d, J, g, C, D, A, o, I, E, F, G, H, l, b, p, z, w) => [.ptr 0 0, .ptr 1 0, .ptr 2 0, .gr 3 2 x, .ro [W Z, W Z, W Z] y d, V Z J, V Z g]) (fun (x, y, d, J, g, C, D, A, o, I, E, F, G, H, l, b, p, z, w) => [.cells 25 [.str C, V Z D, .ro [W Z, W Z] A o, .ro [W Z, W Z, W Z] y I], .cells 25 [.str E, V Z F, .nsl, .nsl], .cells 25 [.str G, V Z H, .gr 4 2 l, .gr 5 3 b], .row 77 [W Z, W Z] x p, .row 75 [W Z, W Z] l z, .row 72 [W Z, W Z, W Z] b w]) (fun (_, _, _, _, _, _, _, _, _, _, _, _, _, _, _, _, _, _, _) K => gg_none) ?_ ?_
  · rintro f ⟨x, y, d, J, g, C, D, A, o, I, E, F, G, H, l, b, p, z, w⟩ K hG
    refine ro (fun R => (cnd (decide (g < J))
 (cnd (decide (0 ≤ g ∧ g < ↑y))
 (cnd (decide (0 ≤ d.ii g.toNat (0 + 1 + 1) ∧ d.ii g.toNat (0 + 1 + 1) < (↑A : Int)))
 (cnd (decide ((0 + l) ≤ l))
 (cnd (n64 l z (o.ii ((d.ii g.toNat 2).toNat) 0) (o.ii ((d.ii g.toNat 2).toNat) 1))
 (cnd (decide ((m64 l z (o.ii ((d.ii g.toNat 2).toNat) 0) (o.ii ((d.ii g.toNat 2).toNat) 1)) < 0))
 (cnd (decide (l ≤ l))
 (cnd (decide ((l + 1) ≤ 1073741824))
 (cnd (decide ((0 + x) ≤ x))
 (cnd (n47 x p)
 (cnd (bif (bif (decide ((0 : Int) < (↑b : Int))) then false else true) then true else (decide (0 ≤ Z.wrap ((↑b : Int) - 1) ∧ Z.wrap ((↑b : Int) - 1) < (↑b : Int))))
 (cnd (bif (bif (decide ((0 : Int) < (↑b : Int))) then false else true) then true else (decide (((Z.wrap ((↑b : Int) - 1)).toNat) < b)))
 (cnd (bif (bif (bif (decide ((0 : Int) < (↑b : Int))) then (decide ((w.ii ((Z.wrap ((↑b : Int) - 1)).toNat) 2) = (↑l : Int))) else false) then false else true) then true else (decide (0 ≤ Z.wrap ((↑b : Int) - 1) ∧ Z.wrap ((↑b : Int) - 1) < (↑x : Int))))
 (cnd (bif (bif (bif (decide ((0 : Int) < (↑b : Int))) then (decide ((w.ii ((Z.wrap ((↑b : Int) - 1)).toNat) 2) = (↑l : Int))) else false) then false else true) then true else (decide (((Z.wrap ((↑b : Int) - 1)).toNat) < x)))
 (cnd (bif (bif (bif (decide ((0 : Int) < (↑b : Int))) then (decide ((w.ii ((Z.wrap ((↑b : Int) - 1)).toNat) 2) = (↑l : Int))) else false) then false else true) then true else (decide (0 ≤ (↑b : Int) ∧ (↑b : Int) < (↑x : Int))))
 (cnd (bif (bif (bif (decide ((0 : Int) < (↑b : Int))) then (decide ((w.ii ((Z.wrap ((↑b : Int) - 1)).toNat) 2) = (↑l : Int))) else false) then false else true) then true else (decide (((↑b : Int).toNat) < x)))
 (cnd (bif (bif (decide ((0 : Int) < (↑b : Int))) then (decide ((w.ii ((Z.wrap ((↑b : Int) - 1)).toNat) 2) = (↑l : Int))) else false) then (m65 (p.ii ((Z.wrap ((↑b : Int) - 1)).toNat) 0) (p.ii ((Z.wrap ((↑b : Int) - 1)).toNat) 1) (p.ii ((↑b : Int).toNat) 0) (p.ii ((↑b : Int).toNat) 1) (Z.wrap ((m47 x p) + (d.ii g.toNat 0))) (d.ii g.toNat 1)) else false)
 (cnd (decide (0 ≤ Z.wrap ((↑b : Int) - 1) ∧ Z.wrap ((↑b : Int) - 1) < (↑b : Int)))
 (cnd (decide (((Z.wrap ((↑b : Int) - 1)).toNat) < b))
 (cnd (decide (0 ≤ Z.wrap ((↑b : Int) - 1) ∧ Z.wrap ((↑b : Int) - 1) < (↑b : Int)))
 (cnd (decide (((Z.wrap ((↑b : Int) - 1)).toNat) < b))
 (cnd (decide (0 ≤ Z.wrap ((↑b : Int) - 1) ∧ Z.wrap ((↑b : Int) - 1) < (↑b : Int)))
 (cnd (decide (((Z.wrap ((↑b : Int) - 1)).toNat) < b))
 (cnd (decide (0 ≤ (↑b : Int) ∧ (↑b : Int) < (↑x : Int)))
 (cnd (decide (((↑b : Int).toNat) < x))
 (R (XE.normal) [.ptr 0 0, .ptr 1 0, .ptr 2 0, .gr 3 2 x, .ro [W Z, W Z, W Z] y d, V Z J, V Z (Z.wrap (g + 1))] [.cells 25 [.str C, V Z D, .ro [W Z, W Z] A o, .ro [W Z, W Z, W Z] y I], .cells 25 [.str E, V Z F, .nsl, .nsl], .cells 25 [.str G, V Z H, .gr 4 2 (l + 1), .gr 5 3 b], .row 77 [W Z, W Z] x (p.upd ((↑b : Int).toNat) 0 [V Z (Z.wrap ((m47 x p) + (d.ii g.toNat 0))), V Z (d.ii g.toNat 1)]), .row 75 [W Z, W Z] (l + 1) (z.app l (datS [V Z (o.ii ((d.ii g.toNat 2).toNat) 0), V Z (o.ii ((d.ii g.toNat 2).toNat) 1)] 2)), .row 72 [W Z, W Z, W Z] b ((w.upd ((Z.wrap ((↑b : Int) - 1)).toNat) 0 [V Z (Z.wrap ((w.ii ((Z.wrap ((↑b : Int) - 1)).toNat) 0) + (d.ii g.toNat 0)))]).upd ((Z.wrap ((↑b : Int) - 1)).toNat) 1 [V Z (d.ii g.toNat 1)])])
                          False)
                         False)
                        False)
                       False)
                      False)
                     False)
                    False)
                   False)
 (cnd (decide (b ≤ b))
 (cnd (decide ((b + 1) ≤ 1073741824))
 (cnd (decide (x ≤ x))
 (cnd (decide ((x + 1) ≤ 1073741824))
 (R (XE.normal) [.ptr 0 0, .ptr 1 0, .ptr 2 0, .gr 3 2 (x + 1), .ro [W Z, W Z, W Z] y d, V Z J, V Z (Z.wrap (g + 1))] [.cells 25 [.str C, V Z D, .ro [W Z, W Z] A o, .ro [W Z, W Z, W Z] y I], .cells 25 [.str E, V Z F, .nsl, .nsl], .cells 25 [.str G, V Z H, .gr 4 2 (l + 1), .gr 5 3 (b + 1)], .row 77 [W Z, W Z] (x + 1) (p.app x (datS [V Z (Z.wrap ((m47 x p) + (d.ii g.toNat 0))), V Z (d.ii g.toNat 1)] 2)), .row 75 [W Z, W Z] (l + 1) (z.app l (datS [V Z (o.ii ((d.ii g.toNat 2).toNat) 0), V Z (o.ii ((d.ii g.toNat 2).toNat) 1)] 2)), .row 72 [W Z, W Z, W Z] (b + 1) (w.app b (datS [V Z (d.ii g.toNat 0), V Z (d.ii g.toNat 1), V Z (↑l : Int)] 3))])
                      False)
                     False)
                    False)
                   False))
                 False)
                False)
               False)
              False)
             False)
            False)
           False)
          False)
         False)
        False)
 (cnd (decide ((0 + x) ≤ x))
 (cnd (n47 x p)
 (cnd (bif (bif (decide ((0 : Int) < (↑b : Int))) then false else true) then true else (decide (0 ≤ Z.wrap ((↑b : Int) - 1) ∧ Z.wrap ((↑b : Int) - 1) < (↑b : Int))))
 (cnd (bif (bif (decide ((0 : Int) < (↑b : Int))) then false else true) then true else (decide (((Z.wrap ((↑b : Int) - 1)).toNat) < b)))
 (cnd (bif (bif (bif (decide ((0 : Int) < (↑b : Int))) then (decide ((w.ii ((Z.wrap ((↑b : Int) - 1)).toNat) 2) = (m64 l z (o.ii ((d.ii g.toNat 2).toNat) 0) (o.ii ((d.ii g.toNat 2).toNat) 1)))) else false) then false else true) then true else (decide (0 ≤ Z.wrap ((↑b : Int) - 1) ∧ Z.wrap ((↑b : Int) - 1) < (↑x : Int))))
 (cnd (bif (bif (bif (decide ((0 : Int) < (↑b : Int))) then (decide ((w.ii ((Z.wrap ((↑b : Int) - 1)).toNat) 2) = (m64 l z (o.ii ((d.ii g.toNat 2).toNat) 0) (o.ii ((d.ii g.toNat 2).toNat) 1)))) else false) then false else true) then true else (decide (((Z.wrap ((↑b : Int) - 1)).toNat) < x)))
 (cnd (bif (bif (bif (decide ((0 : Int) < (↑b : Int))) then (decide ((w.ii ((Z.wrap ((↑b : Int) - 1)).toNat) 2) = (m64 l z (o.ii ((d.ii g.toNat 2).toNat) 0) (o.ii ((d.ii g.toNat 2).toNat) 1)))) else false) then false else true) then true else (decide (0 ≤ (↑b : Int) ∧ (↑b : Int) < (↑x : Int))))
 (cnd (bif (bif (bif (decide ((0 : Int) < (↑b : Int))) then (decide ((w.ii ((Z.wrap ((↑b : Int) - 1)).toNat) 2) = (m64 l z (o.ii ((d.ii g.toNat 2).toNat) 0) (o.ii ((d.ii g.toNat 2).toNat) 1)))) else false) then false else true) then true else (decide (((↑b : Int).toNat) < x)))
 (cnd (bif (bif (decide ((0 : Int) < (↑b : Int))) then (decide ((w.ii ((Z.wrap ((↑b : Int) - 1)).toNat) 2) = (m64 l z (o.ii ((d.ii g.toNat 2).toNat) 0) (o.ii ((d.ii g.toNat 2).toNat) 1)))) else false) then (m65 (p.ii ((Z.wrap ((↑b : Int) - 1)).toNat) 0) (p.ii ((Z.wrap ((↑b : Int) - 1)).toNat) 1) (p.ii ((↑b : Int).toNat) 0) (p.ii ((↑b : Int).toNat) 1) (Z.wrap ((m47 x p) + (d.ii g.toNat 0))) (d.ii g.toNat 1)) else false)
 (cnd (decide (0 ≤ Z.wrap ((↑b : Int) - 1) ∧ Z.wrap ((↑b : Int) - 1) < (↑b : Int)))
 (cnd (decide (((Z.wrap ((↑b : Int) - 1)).toNat) < b))
 (cnd (decide (0 ≤ Z.wrap ((↑b : Int) - 1) ∧ Z.wrap ((↑b : Int) - 1) < (↑b : Int)))
 (cnd (decide (((Z.wrap ((↑b : Int) - 1)).toNat) < b))
 (cnd (decide (0 ≤ Z.wrap ((↑b : Int) - 1) ∧ Z.wrap ((↑b : Int) - 1) < (↑b : Int)))
 (cnd (decide (((Z.wrap ((↑b : Int) - 1)).toNat) < b))
 (cnd (decide (0 ≤ (↑b : Int) ∧ (↑b : Int) < (↑x : Int)))
 (cnd (decide (((↑b : Int).toNat) < x))
 (R (XE.normal) [.ptr 0 0, .ptr 1 0, .ptr 2 0, .gr 3 2 x, .ro [W Z, W Z, W Z] y d, V Z J, V Z (Z.wrap (g + 1))] [.cells 25 [.str C, V Z D, .ro [W Z, W Z] A o, .ro [W Z, W Z, W Z] y I], .cells 25 [.str E, V Z F, .nsl, .nsl], .cells 25 [.str G, V Z H, .gr 4 2 l, .gr 5 3 b], .row 77 [W Z, W Z] x (p.upd ((↑b : Int).toNat) 0 [V Z (Z.wrap ((m47 x p) + (d.ii g.toNat 0))), V Z (d.ii g.toNat 1)]), .row 75 [W Z, W Z] l z, .row 72 [W Z, W Z, W Z] b ((w.upd ((Z.wrap ((↑b : Int) - 1)).toNat) 0 [V Z (Z.wrap ((w.ii ((Z.wrap ((↑b : Int) - 1)).toNat) 0) + (d.ii g.toNat 0)))]).upd ((Z.wrap ((↑b : Int) - 1)).toNat) 1 [V Z (d.ii g.toNat 1)])])
                        False)
                       False)
                      False)
                     False)
                    False)
                   False)
                  False)
                 False)
 (cnd (decide (b ≤ b))
 (cnd (decide ((b + 1) ≤ 1073741824))
 (cnd (decide (x ≤ x))
 (cnd (decide ((x + 1) ≤ 1073741824))
 (R (XE.normal) [.ptr 0 0, .ptr 1 0, .ptr 2 0, .gr 3 2 (x + 1), .ro [W Z, W Z, W Z] y d, V Z J, V Z (Z.wrap (g + 1))] [.cells 25 [.str C, V Z D, .ro [W Z, W Z] A o, .ro [W Z, W Z, W Z] y I], .cells 25 [.str E, V Z F, .nsl, .nsl], .cells 25 [.str G, V Z H, .gr 4 2 l, .gr 5 3 (b + 1)], .row 77 [W Z, W Z] (x + 1) (p.app x (datS [V Z (Z.wrap ((m47 x p) + (d.ii g.toNat 0))), V Z (d.ii g.toNat 1)] 2)), .row 75 [W Z, W Z] l z, .row 72 [W Z, W Z, W Z] (b + 1) (w.app b (datS [V Z (d.ii g.toNat 0), V Z (d.ii g.toNat 1), V Z (m64 l z (o.ii ((d.ii g.toNat 2).toNat) 0) (o.ii ((d.ii g.toNat 2).toNat) 1))] 3))])
                    False)
                   False)
                  False)
                 False))
               False)
              False)
             False)
            False)
           False)
          False)
         False)
        False))
      False)
     False)
    False)
   False)
 (R (XE.exit 0) [.ptr 0 0, .ptr 1 0, .ptr 2 0] [.cells 25 [.str C, V Z D, .ro [W Z, W Z] A o, .ro [W Z, W Z, W Z] y I], .cells 25 [.str E, V Z F, .nsl, .nsl], .cells 25 [.str G, V Z H, .gr 4 2 l, .gr 5 3 b], .row 77 [W Z, W Z] x p, .row 75 [W Z, W Z] l z, .row 72 [W Z, W Z, W Z] b w]))) (fun R => by kernel_rfl) ?_
    exact ch hG (fun h0 => cg h0 fun h1 => cg h1 fun h2 => cg h2 fun h3 => cg h3 fun h4 => ch h4 (fun h5 => cn (decide_eq_true (Nat.le_refl _)) (cg h5 fun h6 => cg h6 fun h7 => cg h7 fun h8 => cg h8 fun h9 => cg h9 fun h10 => cg h10 fun h11 => cg h11 fun h12 => cg h12 fun h13 => cg h13 fun h14 => ch h14 (fun h15 => cg h15 fun h16 => cg h16 fun h17 => cg h17 fun h18 => cg h18 fun h19 => cg h19 fun h20 => cg h20 fun h21 => cg h21 fun h22 => cg h22 fun h23 => ⟨(_, _, _, _, _, _, _, _, _, _, _, _, _, _, _, _, _, _, _), rfl, rfl, h23⟩) (fun h15 => cn (decide_eq_true (Nat.le_refl _)) (cg h15 fun h16 => cn (decide_eq_true (Nat.le_refl _)) (cg h16 fun h17 => ⟨(_, _, _, _, _, _, _, _, _, _, _, _, _, _, _, _, _, _, _), rfl, rfl, h17⟩))))) (fun h5 => cg h5 fun h6 => cg h6 fun h7 => cg h7 fun h8 => cg h8 fun h9 => cg h9 fun h10 => cg h10 fun h11 => cg h11 fun h12 => cg h12 fun h13 => ch h13 (fun h14 => cg h14 fun h15 => cg h15 fun h16 => cg h16 fun h17 => cg h17 fun h18 => cg h18 fun h19 => cg h19 fun h20 => cg h20 fun h21 => cg h21 fun h22 => ⟨(_, _, _, _, _, _, _, _, _, _, _, _, _, _, _, _, _, _, _), rfl, rfl, h22⟩) (fun h14 => cn (decide_eq_true (Nat.le_refl _)) (cg h14 fun h15 => cn (decide_eq_true (Nat.le_refl _)) (cg h15 fun h16 => ⟨(_, _, _, _, _, _, _, _, _, _, _, _, _, _, _, _, _, _, _), rfl, rfl, h16⟩))))) (fun h0 => h0.2)
  · intro s k h
    unfold g43_0 at h
    split at h <;> try exact h.elim
    rename_i e1
    rw [needs_iff] at h
    have hq := h.1
    simp only [List.mem_cons, forall_eq_or_imp, decide_eq_true_eq, List.not_mem_nil, false_imp_iff, implies_true, and_true] at hq
    obtain ⟨rfl, rfl, rfl, rfl, hq⟩ := hq
    exact ⟨_, e1, _, (_, _, _, _, _, _, _, _, _, _, _, _, _, _, _, _, _, _, _), rfl, rfl, hq, h.2⟩
noncomputable def m43 (m : ByteArray) (n : Int) (v : Nat) (u : Dat) (i : Nat) (j : Dat) : ByteArray × Int × Nat × Dat × Nat × Dat :=
  (cond (decide ((↑(((o43_0 i j (↑i : Int) m n v u j ({ data := #[] } : ByteArray) 0 m n 1 0 0 0 (datS [V Z 0, V Z 0] 2) noDat noDat).getD default).2.1) : Int) = 0)) (m, n, 1, (datS [V Z (u.ii 0 0), V Z (u.ii 0 1)] 2), ((o43_0 i j (↑i : Int) m n v u j ({ data := #[] } : ByteArray) 0 m n 1 0 0 0 (datS [V Z 0, V Z 0] 2) noDat noDat).getD default).2.1, ((o43_0 i j (↑i : Int) m n v u j ({ data := #[] } : ByteArray) 0 m n 1 0 0 0 (datS [V Z 0, V Z 0] 2) noDat noDat).getD default).2.2.2.2.2.2.2) (m, n, ((o43_0 i j (↑i : Int) m n v u j ({ data := #[] } : ByteArray) 0 m n 1 0 0 0 (datS [V Z 0, V Z 0] 2) noDat noDat).getD default).1, ((o43_0 i j (↑i : Int) m n v u j ({ data := #[] } : ByteArray) 0 m n 1 0 0 0 (datS [V Z 0, V Z 0] 2) noDat noDat).getD default).2.2.2.2.2.1, ((o43_0 i j (↑i : Int) m n v u j ({ data := #[] } : ByteArray) 0 m n 1 0 0 0 (datS [V Z 0, V Z 0] 2) noDat noDat).getD default).2.1, ((o43_0 i j (↑i : Int) m n v u j ({ data := #[] } : ByteArray) 0 m n 1 0 0 0 (datS [V Z 0, V Z 0] 2) noDat noDat).getD default).2.2.2.2.2.2.2))
noncomputable def n43 (m : ByteArray) (n : Int) (v : Nat) (u : Dat) (i : Nat) (j : Dat) : Bool :=
  (((o43_0 i j (↑i : Int) m n v u j ({ data := #[] } : ByteArray) 0 m n 1 0 0 0 (datS [V Z 0, V Z 0] 2) noDat noDat).isSome) && (cond (decide ((↑(((o43_0 i j (↑i : Int) m n v u j ({ data := #[] } : ByteArray) 0 m n 1 0 0 0 (datS [V Z 0, V Z 0] 2) noDat noDat).getD default).2.1) : Int) = 0)) ((decide ((0 : Int) ≤ (0 : Int) ∧ (0 : Int) < (↑v : Int))) && ((decide ((0 + ((o43_0 i j (↑i : Int) m n v u j ({ data := #[] } : ByteArray) 0 m n 1 0 0 0 (datS [V Z 0, V Z 0] 2) noDat noDat).getD default).2.1) ≤ ((o43_0 i j (↑i : Int) m n v u j ({ data := #[] } : ByteArray) 0 m n 1 0 0 0 (datS [V Z 0, V Z 0] 2) noDat noDat).getD default).2.2.2.2.2.2.1)) && true)) ((decide ((0 + ((o43_0 i j (↑i : Int) m n v u j ({ data := #[] } : ByteArray) 0 m n 1 0 0 0 (datS [V Z 0, V Z 0] 2) noDat noDat).getD default).1) ≤ ((o43_0 i j (↑i : Int) m n v u j ({ data := #[] } : ByteArray) 0 m n 1 0 0 0 (datS [V Z 0, V Z 0] 2) noDat noDat).getD default).2.2.2.2.1)) && ((decide ((0 + ((o43_0 i j (↑i : Int) m n v u j ({ data := #[] } : ByteArray) 0 m n 1 0 0 0 (datS [V Z 0, V Z 0] 2) noDat noDat).getD default).2.1) ≤ ((o43_0 i j (↑i : Int) m n v u j ({ data := #[] } : ByteArray) 0 m n 1 0 0 0 (datS [V Z 0, V Z 0] 2) noDat noDat).getD default).2.2.2.2.2.2.1)) && true))))
noncomputable def q43 (r : ByteArray × Int × Nat × Dat × Nat × Dat) : SV × List Blk × List Blk := (.agg [.str r.1, V Z r.2.1, .ro [W Z, W Z] r.2.2.1 r.2.2.2.1, .ro [W Z, W Z, W Z] r.2.2.2.2.1 r.2.2.2.2.2], [], [])
noncomputable def g43 : GF := fun vs bs => match vs, bs with
  | [.agg [.str m, V Z n, .ro [W Z, W Z] v u, .ro [W Z, W Z, W Z] i j]], [] => some (rs 0 (q43 (m43 m n v u i j)) [n43 m n v u i j])
  | _, _ => none
noncomputable def c43 : Ctr := genC [.a [.k, .k, .ro [W Z, W Z], .ro [W Z, W Z, W Z]]] g43
theorem k43 : CtrOk Tryz.prog c43 43 := cx (tc k47 (tc k64 (tc k65 tn))) mix_ok 8 (fn := Tryz.f43) (c := (Tryz.f43.body.getD .skip)) (grs := []) (rh := .t [.k, .k, .ro [W Z, W Z], .ro [W Z, W Z, W Z]]) Tryz.func43 rfl (by kernel_rfl) (lam_of rfl (lc z43_0 ln)) fun vs bs q h hn => by
  unfold g43 at h
  split at h <;> cases h
  rename_i m n v u i j
  have hn := n1 hn
  exact ⟨_, rfl, ca (fun R => (cnd (decide (i = i))
 (cnd ((o43_0 i j (↑i : Int) m n v u j ({ data := #[] } : ByteArray) 0 m n 1 0 0 0 (datS [V Z 0, V Z 0] 2) noDat noDat).isSome)
 (cnd (decide ((↑(((o43_0 i j (↑i : Int) m n v u j ({ data := #[] } : ByteArray) 0 m n 1 0 0 0 (datS [V Z 0, V Z 0] 2) noDat noDat).getD default).2.1) : Int) = 0))
 (cnd (decide ((0 : Int) ≤ (0 : Int) ∧ (0 : Int) < (↑v : Int)))
 (cnd (decide ((0 + ((o43_0 i j (↑i : Int) m n v u j ({ data := #[] } : ByteArray) 0 m n 1 0 0 0 (datS [V Z 0, V Z 0] 2) noDat noDat).getD default).2.1) ≤ ((o43_0 i j (↑i : Int) m n v u j ({ data := #[] } : ByteArray) 0 m n 1 0 0 0 (datS [V Z 0, V Z 0] 2) noDat noDat).getD default).2.2.2.2.2.2.1))
 (R (.agg [.str m, V Z n, .ro [W Z, W Z] 1 (datS [V Z (u.ii 0 0), V Z (u.ii 0 1)] 2), .ro [W Z, W Z, W Z] ((o43_0 i j (↑i : Int) m n v u j ({ data := #[] } : ByteArray) 0 m n 1 0 0 0 (datS [V Z 0, V Z 0] 2) noDat noDat).getD default).2.1 ((o43_0 i j (↑i : Int) m n v u j ({ data := #[] } : ByteArray) 0 m n 1 0 0 0 (datS [V Z 0, V Z 0] 2) noDat noDat).getD default).2.2.2.2.2.2.2]) [] [])
      False)
     False)
 (cnd (decide ((0 + ((o43_0 i j (↑i : Int) m n v u j ({ data := #[] } : ByteArray) 0 m n 1 0 0 0 (datS [V Z 0, V Z 0] 2) noDat noDat).getD default).1) ≤ ((o43_0 i j (↑i : Int) m n v u j ({ data := #[] } : ByteArray) 0 m n 1 0 0 0 (datS [V Z 0, V Z 0] 2) noDat noDat).getD default).2.2.2.2.1))
 (cnd (decide ((0 + ((o43_0 i j (↑i : Int) m n v u j ({ data := #[] } : ByteArray) 0 m n 1 0 0 0 (datS [V Z 0, V Z 0] 2) noDat noDat).getD default).2.1) ≤ ((o43_0 i j (↑i : Int) m n v u j ({ data := #[] } : ByteArray) 0 m n 1 0 0 0 (datS [V Z 0, V Z 0] 2) noDat noDat).getD default).2.2.2.2.2.2.1))
 (R (.agg [.str m, V Z n, .ro [W Z, W Z] ((o43_0 i j (↑i : Int) m n v u j ({ data := #[] } : ByteArray) 0 m n 1 0 0 0 (datS [V Z 0, V Z 0] 2) noDat noDat).getD default).1 ((o43_0 i j (↑i : Int) m n v u j ({ data := #[] } : ByteArray) 0 m n 1 0 0 0 (datS [V Z 0, V Z 0] 2) noDat noDat).getD default).2.2.2.2.2.1, .ro [W Z, W Z, W Z] ((o43_0 i j (↑i : Int) m n v u j ({ data := #[] } : ByteArray) 0 m n 1 0 0 0 (datS [V Z 0, V Z 0] 2) noDat noDat).getD default).2.1 ((o43_0 i j (↑i : Int) m n v u j ({ data := #[] } : ByteArray) 0 m n 1 0 0 0 (datS [V Z 0, V Z 0] 2) noDat noDat).getD default).2.2.2.2.2.2.2]) [] [])
      False)
     False))
   False)
  False)) (fun R => by kernel_rfl) (cn (decide_eq_true rfl) (cn (al hn) (co (fun h0 => cn (al (ct h0 (ar hn))) (cn (al (ar (ct h0 (ar hn)))) (lf (cT h0 rfl) rfl))) (fun h0 => cn (al (cf h0 (ar hn))) (cn (al (ar (cf h0 (ar hn)))) (lf (cF h0 rfl) rfl))))))⟩

/-! ### shotline/shotlineref02.number -/
noncomputable def l66_0 (d : Nat) (g : Dat) (a b : Int) : Nat → Int → Option (Bool × (Int) × (Unit))
  | 0, _ => none
  | f + 1, i => (cond (decide (i < (↑d : Int))) (cond (decide (0 ≤ i ∧ i < ↑d)) (cond (bif (decide ((g.ii i.toNat 0) = a)) then (bif (decide ((g.ii i.toNat 1) = b)) then true else false) else false) (some (true, i, default)) (l66_0 d g a b f (Z.wrap (i + 1)))) none) (some (false, default, ())))
noncomputable abbrev o66_0 (d : Nat) (g : Dat) (a b i : Int) : Option (Bool × (Int) × (Unit)) := l66_0 d g a b (d + i.toNat + a.toNat + b.toNat + 8) i
noncomputable def e66_0 (d : Nat) (g : Dat) (a b : Int) (r : Bool × (Int) × (Unit)) (K : XR) : Prop := cnd r.1 (K (XE.ret) [V Z r.2.1] [.cells 75 [V Z a, V Z b]]) (K (XE.exit 0) [.any] [.cells 75 [V Z a, V Z b]])
noncomputable def g66_0 : LSum := fun s k => match czv 0 19 [0, 3, 5] 1 [] s with
  | some ([.ro [W Z, W Z] d g, .ptr 0 0, V Z i], [.cells 75 [V Z a, V Z b]]) => needs [(o66_0 d g a b i).isSome] (e66_0 d g a b ((o66_0 d g a b i).getD default) fun e vs bs => inBlk 0 k e (mkSt 0 19 [4] vs 1 bs))
  | _ => False
theorem z66_0 : LOk Tryz.prog g66_0 (.block 0 (bodyAt (Tryz.f66.body.getD .skip) 0)) := by
  refine lb (ι := Nat × Dat × Int × Int × Int) (fuel := 8) (na := 0) (nt := 19) (nx := 1) (Lh := [0, 3, 5]) (Le := [4]) (gl := []) tn mix_ok noLam rfl (fun f (d, g, i, a, b) K => GG default (e66_0 d g a b) K (l66_0 d g a b f i)) (fun (d, g, i, a, b) => [.ro [W Z, W Z] d g, .ptr 0 0, V Z i]) (fun (d, g, i, a, b) => [.cells 75 [V Z a, V Z b]]) (fun (_, _, _, _, _) K => gg_none) ?_ ?_
  · rintro f ⟨d, g, i, a, b⟩ K hG
    refine ro (fun R => (cnd (decide (i < (↑d : Int)))
 (cnd (decide (0 ≤ i ∧ i < ↑d))
 (cnd (bif (decide ((g.ii i.toNat 0) = a)) then (bif (decide ((g.ii i.toNat 1) = b)) then true else false) else false)
 (R (XE.ret) [V Z i] [.cells 75 [V Z a, V Z b]])
 (R (XE.normal) [.ro [W Z, W Z] d g, .ptr 0 0, V Z (Z.wrap (i + 1))] [.cells 75 [V Z a, V Z b]]))
   False)
 (R (XE.exit 0) [.any] [.cells 75 [V Z a, V Z b]]))) (fun R => by kernel_rfl) ?_
    exact ch hG (fun h0 => cg h0 fun h1 => ch h1 (fun h2 => h2.2) (fun h2 => ⟨(_, _, _, _, _), rfl, rfl, h2⟩)) (fun h0 => h0.2)
  · intro s k h
    unfold g66_0 at h
    split at h <;> try exact h.elim
    rename_i e1
    rw [needs_iff] at h
    exact ⟨_, e1, _, (_, _, _, _, _), rfl, rfl, h.1 _ (List.mem_singleton.2 rfl), h.2⟩
noncomputable def m66 (m : Nat) (n : Dat) (j l : Int) : Int :=
  (cond ((o66_0 m n j l 0).getD default).1 ((o66_0 m n j l 0).getD default).2.1 (-1))
noncomputable def n66 (m : Nat) (n : Dat) (j l : Int) : Bool :=
  (((o66_0 m n j l 0).isSome) && true)
noncomputable def q66 (r : Int) : SV × List Blk × List Blk := (V Z r, [], [])
noncomputable def g66 : GF := fun vs bs => match vs, bs with
  | [.ro [W Z, W Z] m n, .agg [V Z j, V Z l]], [] => some (rs 0 (q66 (m66 m n j l)) [n66 m n j l])
  | _, _ => none
noncomputable def c66 : Ctr := genC [.ro [W Z, W Z], .k] g66
theorem k66 : CtrOk Tryz.prog c66 66 := cx tn mix_ok 8 (fn := Tryz.f66) (c := (Tryz.f66.body.getD .skip)) (grs := []) (rh := .k) Tryz.func66 rfl (by kernel_rfl) (lam_of rfl (lc z66_0 ln)) fun vs bs q h hn => by
  unfold g66 at h
  split at h <;> cases h
  rename_i m n j l
  have hn := n1 hn
  exact ⟨_, rfl, ca (fun R => (cnd ((o66_0 m n j l 0).isSome)
 (cnd ((o66_0 m n j l 0).getD default).1
 (R (V Z ((o66_0 m n j l 0).getD default).2.1) [] [])
 (R (V Z (-1)) [] []))
  False)) (fun R => by kernel_rfl) (cn (al hn) (co (fun h0 => lf (cT h0 rfl) rfl) (fun h0 => lf (cF h0 rfl) rfl)))⟩

/-! ### shotline/profile.DepthAt -/
noncomputable def m7 (i : ByteArray) (j : Int) (b : Nat) (d : Dat) (e : Nat) (g : Dat) (l : Int) : Int × Int × Int :=
  (cond (bif (decide ((m30 i j b d e g l).2.2 = 0)) then false else true) (0, 0, (m30 i j b d e g l).2.2) ((m32 (m31 (m30 i j b d e g l).1 (m30 i j b d e g l).2.1 l).1 (m31 (m30 i j b d e g l).1 (m30 i j b d e g l).2.1 l).2).1, (m32 (m31 (m30 i j b d e g l).1 (m30 i j b d e g l).2.1 l).1 (m31 (m30 i j b d e g l).1 (m30 i j b d e g l).2.1 l).2).2, 0))
noncomputable def n7 (i : ByteArray) (j : Int) (b : Nat) (d : Dat) (e : Nat) (g : Dat) (l : Int) : Bool :=
  ((n30 i j b d e g l) && (cond (bif (decide ((m30 i j b d e g l).2.2 = 0)) then false else true) true ((n31 (m30 i j b d e g l).1 (m30 i j b d e g l).2.1 l) && ((n32 (m31 (m30 i j b d e g l).1 (m30 i j b d e g l).2.1 l).1 (m31 (m30 i j b d e g l).1 (m30 i j b d e g l).2.1 l).2) && true))))
noncomputable def q7 (r : Int × Int × Int) : SV × List Blk × List Blk := (.tup [.agg [V Z r.1, V Z r.2.1], V Z r.2.2], [], [])
noncomputable def g7 : GF := fun vs bs => match vs, bs with
  | [.agg [.str i, V Z j, .ro [W Z, W Z] b d, .ro [W Z, W Z, W Z] e g], V Z l], [] => some (rs 0 (q7 (m7 i j b d e g l)) [n7 i j b d e g l])
  | _, _ => none
noncomputable def c7 : Ctr := genC [.a [.k, .k, .ro [W Z, W Z], .ro [W Z, W Z, W Z]], .k] g7
theorem k7 : CtrOk Tryz.prog c7 7 := cx (tc k31 (tc k32 (tc k30 tn))) mix_ok 8 (fn := Tryz.f7) (c := (Tryz.f7.body.getD .skip)) (grs := []) (rh := .k) Tryz.func7 rfl (by kernel_rfl) noLam fun vs bs q h hn => by
  unfold g7 at h
  split at h <;> cases h
  rename_i i j b d e g l
  have hn := n1 hn
  exact ⟨_, rfl, ca (fun R => (cnd (n30 i j b d e g l)
 (cnd (bif (decide ((m30 i j b d e g l).2.2 = 0)) then false else true)
 (R (.tup [.agg [V Z 0, V Z 0], V Z (m30 i j b d e g l).2.2]) [] [])
 (cnd (n31 (m30 i j b d e g l).1 (m30 i j b d e g l).2.1 l)
 (cnd (n32 (m31 (m30 i j b d e g l).1 (m30 i j b d e g l).2.1 l).1 (m31 (m30 i j b d e g l).1 (m30 i j b d e g l).2.1 l).2)
 (R (.tup [.agg [V Z (m32 (m31 (m30 i j b d e g l).1 (m30 i j b d e g l).2.1 l).1 (m31 (m30 i j b d e g l).1 (m30 i j b d e g l).2.1 l).2).1, V Z (m32 (m31 (m30 i j b d e g l).1 (m30 i j b d e g l).2.1 l).1 (m31 (m30 i j b d e g l).1 (m30 i j b d e g l).2.1 l).2).2], V Z 0]) [] [])
     False)
    False))
  False)) (fun R => by kernel_rfl) (cn (al hn) (co (fun h0 => lf (cT h0 rfl) rfl) (fun h0 => cn (al (cf h0 (ar hn))) (cn (al (ar (cf h0 (ar hn)))) (lf (cF h0 rfl) rfl)))))⟩

/-! ### shotline/profile.SameDive -/
noncomputable def m20 (n : ByteArray) (o : Int) (b : Nat) (d : Dat) (e : Nat) (g : Dat) (p : ByteArray) (s : Int) (i : Nat) (j : Dat) (l : Nat) (m : Dat) : Bool × Int :=
  (cond (bif (decide ((m42 2 (datS [SV.str n, V Z o, SV.ro [Kd.int Z, Kd.int Z] b d, SV.ro [Kd.int Z, Kd.int Z, Kd.int Z] e g, SV.str p, V Z s, SV.ro [Kd.int Z, Kd.int Z] i j, SV.ro [Kd.int Z, Kd.int Z, Kd.int Z] l m] 4)) = 0)) then false else true) (false, (m42 2 (datS [SV.str n, V Z o, SV.ro [Kd.int Z, Kd.int Z] b d, SV.ro [Kd.int Z, Kd.int Z, Kd.int Z] e g, SV.str p, V Z s, SV.ro [Kd.int Z, Kd.int Z] i j, SV.ro [Kd.int Z, Kd.int Z, Kd.int Z] l m] 4))) ((bif (bif (decide ((m43 n o b d e g).2.1 = (m43 p s i j l m).2.1)) then (m44 (m43 n o b d e g).2.2.1 (m43 n o b d e g).2.2.2.1 (m43 p s i j l m).2.2.1 (m43 p s i j l m).2.2.2.1) else false) then (m45 (m43 n o b d e g).2.2.2.2.1 (m43 n o b d e g).2.2.2.2.2 (m43 p s i j l m).2.2.2.2.1 (m43 p s i j l m).2.2.2.2.2) else false), 0))
noncomputable def n20 (n : ByteArray) (o : Int) (b : Nat) (d : Dat) (e : Nat) (g : Dat) (p : ByteArray) (s : Int) (i : Nat) (j : Dat) (l : Nat) (m : Dat) : Bool :=
  ((n42 2 (datS [SV.str n, V Z o, SV.ro [Kd.int Z, Kd.int Z] b d, SV.ro [Kd.int Z, Kd.int Z, Kd.int Z] e g, SV.str p, V Z s, SV.ro [Kd.int Z, Kd.int Z] i j, SV.ro [Kd.int Z, Kd.int Z, Kd.int Z] l m] 4)) && (cond (bif (decide ((m42 2 (datS [SV.str n, V Z o, SV.ro [Kd.int Z, Kd.int Z] b d, SV.ro [Kd.int Z, Kd.int Z, Kd.int Z] e g, SV.str p, V Z s, SV.ro [Kd.int Z, Kd.int Z] i j, SV.ro [Kd.int Z, Kd.int Z, Kd.int Z] l m] 4)) = 0)) then false else true) true ((n43 n o b d e g) && ((n43 p s i j l m) && ((bif (bif (decide ((m43 n o b d e g).2.1 = (m43 p s i j l m).2.1)) then false else true) then true else (n44 (m43 n o b d e g).2.2.1 (m43 n o b d e g).2.2.2.1 (m43 p s i j l m).2.2.1 (m43 p s i j l m).2.2.2.1)) && ((bif (bif (bif (decide ((m43 n o b d e g).2.1 = (m43 p s i j l m).2.1)) then (m44 (m43 n o b d e g).2.2.1 (m43 n o b d e g).2.2.2.1 (m43 p s i j l m).2.2.1 (m43 p s i j l m).2.2.2.1) else false) then false else true) then true else (n45 (m43 n o b d e g).2.2.2.2.1 (m43 n o b d e g).2.2.2.2.2 (m43 p s i j l m).2.2.2.2.1 (m43 p s i j l m).2.2.2.2.2)) && true))))))
noncomputable def q20 (r : Bool × Int) : SV × List Blk × List Blk := (.tup [.bool r.1, V Z r.2], [], [])
noncomputable def g20 : GF := fun vs bs => match vs, bs with
  | [.agg [.str n, V Z o, .ro [W Z, W Z] b d, .ro [W Z, W Z, W Z] e g], .agg [.str p, V Z s, .ro [W Z, W Z] i j, .ro [W Z, W Z, W Z] l m]], [] => some (rs 0 (q20 (m20 n o b d e g p s i j l m)) [n20 n o b d e g p s i j l m])
  | _, _ => none
noncomputable def c20 : Ctr := genC [.a [.k, .k, .ro [W Z, W Z], .ro [W Z, W Z, W Z]], .a [.k, .k, .ro [W Z, W Z], .ro [W Z, W Z, W Z]]] g20
theorem k20 : CtrOk Tryz.prog c20 20 := cx (tc k42 (tc k43 (tc k44 (tc k45 tn)))) mix_ok 8 (fn := Tryz.f20) (c := (Tryz.f20.body.getD .skip)) (grs := []) (rh := .k) Tryz.func20 rfl (by kernel_rfl) noLam fun vs bs q h hn => by
  unfold g20 at h
  split at h <;> cases h
  rename_i n o b d e g p s i j l m
  have hn := n1 hn
  exact ⟨_, rfl, ca (fun R => (cnd (n42 2 (datS [SV.str n, V Z o, SV.ro [Kd.int Z, Kd.int Z] b d, SV.ro [Kd.int Z, Kd.int Z, Kd.int Z] e g, SV.str p, V Z s, SV.ro [Kd.int Z, Kd.int Z] i j, SV.ro [Kd.int Z, Kd.int Z, Kd.int Z] l m] 4))
 (cnd (bif (decide ((m42 2 (datS [SV.str n, V Z o, SV.ro [Kd.int Z, Kd.int Z] b d, SV.ro [Kd.int Z, Kd.int Z, Kd.int Z] e g, SV.str p, V Z s, SV.ro [Kd.int Z, Kd.int Z] i j, SV.ro [Kd.int Z, Kd.int Z, Kd.int Z] l m] 4)) = 0)) then false else true)
 (R (.tup [.bool false, V Z (m42 2 (datS [SV.str n, V Z o, SV.ro [Kd.int Z, Kd.int Z] b d, SV.ro [Kd.int Z, Kd.int Z, Kd.int Z] e g, SV.str p, V Z s, SV.ro [Kd.int Z, Kd.int Z] i j, SV.ro [Kd.int Z, Kd.int Z, Kd.int Z] l m] 4))]) [] [])
 (cnd (n43 n o b d e g)
 (cnd (n43 p s i j l m)
 (cnd (bif (bif (decide ((m43 n o b d e g).2.1 = (m43 p s i j l m).2.1)) then false else true) then true else (n44 (m43 n o b d e g).2.2.1 (m43 n o b d e g).2.2.2.1 (m43 p s i j l m).2.2.1 (m43 p s i j l m).2.2.2.1))
 (cnd (bif (bif (bif (decide ((m43 n o b d e g).2.1 = (m43 p s i j l m).2.1)) then (m44 (m43 n o b d e g).2.2.1 (m43 n o b d e g).2.2.2.1 (m43 p s i j l m).2.2.1 (m43 p s i j l m).2.2.2.1) else false) then false else true) then true else (n45 (m43 n o b d e g).2.2.2.2.1 (m43 n o b d e g).2.2.2.2.2 (m43 p s i j l m).2.2.2.2.1 (m43 p s i j l m).2.2.2.2.2))
 (R (.tup [.bool (bif (bif (decide ((m43 n o b d e g).2.1 = (m43 p s i j l m).2.1)) then (m44 (m43 n o b d e g).2.2.1 (m43 n o b d e g).2.2.2.1 (m43 p s i j l m).2.2.1 (m43 p s i j l m).2.2.2.1) else false) then (m45 (m43 n o b d e g).2.2.2.2.1 (m43 n o b d e g).2.2.2.2.2 (m43 p s i j l m).2.2.2.2.1 (m43 p s i j l m).2.2.2.2.2) else false), V Z 0]) [] [])
       False)
      False)
     False)
    False))
  False)) (fun R => by kernel_rfl) (cn (al hn) (co (fun h0 => lf (cT h0 rfl) rfl) (fun h0 => cn (al (cf h0 (ar hn))) (cn (al (ar (cf h0 (ar hn)))) (cn (al (ar (ar (cf h0 (ar hn))))) (cn (al (ar (ar (ar (cf h0 (ar hn)))))) (lf (cF h0 rfl) rfl)))))))⟩

/-! ### shotline/shotlineref02.GasAt -/
noncomputable def l17_0 (w : Int) (g : ByteArray) (i : Int) (j : Nat) (l : Dat) (b : Nat) (d : Dat) : Nat → Int → Int → Option (Bool × (Int) × (Unit))
  | 0, _, _ => none
  | f + 1, x, m => (cond (decide (m < (↑b : Int))) (cond (decide (0 ≤ m ∧ m < ↑b)) (cond (decide (w ≤ (Z.wrap (x + (d.ii m.toNat 0))))) (cond (decide (0 ≤ m ∧ m < ↑b)) (some (true, (d.ii m.toNat 2), default)) none) (l17_0 w g i j l b d f (Z.wrap (x + (d.ii m.toNat 0))) (Z.wrap (m + 1)))) none) (some (false, default, ())))
noncomputable abbrev o17_0 (w : Int) (g : ByteArray) (i : Int) (j : Nat) (l : Dat) (b : Nat) (d : Dat) (x m : Int) : Option (Bool × (Int) × (Unit)) := l17_0 w g i j l b d (w.toNat + x.toNat + m.toNat + g.size + i.toNat + j + b + 8) x m
noncomputable def e17_0 (w : Int) (g : ByteArray) (i : Int) (j : Nat) (l : Dat) (b : Nat) (d : Dat) (r : Bool × (Int) × (Unit)) (K : XR) : Prop := cnd r.1 (K (XE.ret) [V Z r.2.1] [.cells 25 [.str g, V Z i, .ro [W Z, W Z] j l, .ro [W Z, W Z, W Z] b d]]) (K (XE.exit 0) [.any] [.cells 25 [.str g, V Z i, .ro [W Z, W Z] j l, .ro [W Z, W Z, W Z] b d]])
noncomputable def g17_0 : LSum := fun s k => match czv 0 31 [1, 2, 5, 6] 1 [] s with
  | some ([V Z w, .ptr 0 0, V Z x, V Z m], [.cells 25 [.str g, V Z i, .ro [W Z, W Z] j l, .ro [W Z, W Z, W Z] b d]]) => needs [(o17_0 w g i j l b d x m).isSome] (e17_0 w g i j l b d ((o17_0 w g i j l b d x m).getD default) fun e vs bs => inBlk 0 k e (mkSt 0 31 [4] vs 1 bs))
  | _ => False
theorem z17_0 : LOk Tryz.prog g17_0 (.block 0 (bodyAt (Tryz.f17.body.getD .skip) 0)) := by
  refine lb (ι := Int × Int × Int × ByteArray × Int × Nat × Dat × Nat × Dat) (fuel := 8) (na := 0) (nt := 31) (nx := 1) (Lh := [1, 2, 5, 6]) (Le := [4]) (gl := []) tn mix_ok noLam rfl (fun f (w, x, m, g, i, j, l, b, d) K => GG default (e17_0 w g i j l b d) K (l17_0 w g i j l b d f x m)) (fun (w, x, m, g, i, j, l, b, d) => [V Z w, .ptr 0 0, V Z x, V Z m]) (fun (w, x, m, g, i, j, l, b, d) => [.cells 25 [.str g, V Z i, .ro [W Z, W Z] j l, .ro [W Z, W Z, W Z] b d]]) (fun (_, _, _, _, _, _, _, _, _) K => gg_none) ?_ ?_
  · rintro f ⟨w, x, m, g, i, j, l, b, d⟩ K hG
    refine ro (fun R => (cnd (decide (m < (↑b : Int)))
 (cnd (decide (0 ≤ m ∧ m < ↑b))
 (cnd (decide (w ≤ (Z.wrap (x + (d.ii m.toNat 0)))))
 (cnd (decide (0 ≤ m ∧ m < ↑b))
 (R (XE.ret) [V Z (d.ii m.toNat 2)] [.cells 25 [.str g, V Z i, .ro [W Z, W Z] j l, .ro [W Z, W Z, W Z] b d]])
     False)
 (R (XE.normal) [V Z w, .ptr 0 0, V Z (Z.wrap (x + (d.ii m.toNat 0))), V Z (Z.wrap (m + 1))] [.cells 25 [.str g, V Z i, .ro [W Z, W Z] j l, .ro [W Z, W Z, W Z] b d]]))
   False)
 (R (XE.exit 0) [.any] [.cells 25 [.str g, V Z i, .ro [W Z, W Z] j l, .ro [W Z, W Z, W Z] b d]]))) (fun R => by kernel_rfl) ?_
    exact ch hG (fun h0 => cg h0 fun h1 => ch h1 (fun h2 => cg h2 fun h3 => h3.2) (fun h2 => ⟨(_, _, _, _, _, _, _, _, _), rfl, rfl, h2⟩)) (fun h0 => h0.2)
  · intro s k h
    unfold g17_0 at h
    split at h <;> try exact h.elim
    rename_i e1
    rw [needs_iff] at h
    exact ⟨_, e1, _, (_, _, _, _, _, _, _, _, _), rfl, rfl, h.1 _ (List.mem_singleton.2 rfl), h.2⟩
noncomputable def m17 (u : ByteArray) (v : Int) (n : Nat) (o : Dat) (p : Nat) (t : Dat) (y : Int) : Int :=
  (cond ((o17_0 y u v n o p t 0 0).getD default).1 ((o17_0 y u v n o p t 0 0).getD default).2.1 0)
noncomputable def n17 (u : ByteArray) (v : Int) (n : Nat) (o : Dat) (p : Nat) (t : Dat) (y : Int) : Bool :=
  (((o17_0 y u v n o p t 0 0).isSome) && true)
noncomputable def q17 (r : Int) : SV × List Blk × List Blk := (V Z r, [], [])
noncomputable def g17 : GF := fun vs bs => match vs, bs with
  | [.agg [.str u, V Z v, .ro [W Z, W Z] n o, .ro [W Z, W Z, W Z] p t], V Z y], [] => some (rs 0 (q17 (m17 u v n o p t y)) [n17 u v n o p t y])
  | _, _ => none
noncomputable def c17 : Ctr := genC [.a [.k, .k, .ro [W Z, W Z], .ro [W Z, W Z, W Z]], .k] g17
theorem k17 : CtrOk Tryz.prog c17 17 := cx tn mix_ok 8 (fn := Tryz.f17) (c := (Tryz.f17.body.getD .skip)) (grs := []) (rh := .k) Tryz.func17 rfl (by kernel_rfl) (lam_of rfl (lc z17_0 ln)) fun vs bs q h hn => by
  unfold g17 at h
  split at h <;> cases h
  rename_i u v n o p t y
  have hn := n1 hn
  exact ⟨_, rfl, ca (fun R => (cnd ((o17_0 y u v n o p t 0 0).isSome)
 (cnd ((o17_0 y u v n o p t 0 0).getD default).1
 (R (V Z ((o17_0 y u v n o p t 0 0).getD default).2.1) [] [])
 (R (V Z 0) [] []))
  False)) (fun R => by kernel_rfl) (cn (al hn) (co (fun h0 => lf (cT h0 rfl) rfl) (fun h0 => lf (cF h0 rfl) rfl)))⟩
/-! ### shotline/shotlineref02.Normal -/
noncomputable def l49_0 (x : ByteArray) (y : Int) (w : Nat) (o : Dat) (v : Nat) (n : Dat) (z : ByteArray) (A : Int) (C : ByteArray) (D : Int) : Nat → Int → Nat → Dat → Option (Nat × Nat × Dat)
  | 0, _, _, _ => none
  | f + 1, H, p, u => (cond (decide (H < (↑v : Int))) (cond (decide (0 ≤ H ∧ H < ↑v)) (cond (decide (0 ≤ n.ii H.toNat (0 + 1 + 1) ∧ n.ii H.toNat (0 + 1 + 1) < (↑w : Int))) (cond (decide ((0 + p) ≤ p)) (cond (n66 p u (o.ii ((n.ii H.toNat 2).toNat) 0) (o.ii ((n.ii H.toNat 2).toNat) 1)) (cond (decide ((m66 p u (o.ii ((n.ii H.toNat 2).toNat) 0) (o.ii ((n.ii H.toNat 2).toNat) 1)) < 0)) (cond (decide ((p + 1) ≤ 1073741824)) (l49_0 x y w o v n z A C D f (Z.wrap (H + 1)) (p + 1) (u.app p (datS [V Z (o.ii ((n.ii H.toNat 2).toNat) 0), V Z (o.ii ((n.ii H.toNat 2).toNat) 1)] 2))) none) (l49_0 x y w o v n z A C D f (Z.wrap (H + 1)) p u)) none) none) none) none) (some (p, p, u)))
noncomputable abbrev o49_0 (x : ByteArray) (y : Int) (w : Nat) (o : Dat) (v : Nat) (n : Dat) (z : ByteArray) (A : Int) (C : ByteArray) (D H : Int) (p : Nat) (u : Dat) : Option (Nat × Nat × Dat) := l49_0 x y w o v n z A C D (H.toNat + x.size + y.toNat + w + v + z.size + A.toNat + C.size + D.toNat + p + 8) H p u
noncomputable def e49_0 (x : ByteArray) (y : Int) (w : Nat) (o : Dat) (v : Nat) (n : Dat) (z : ByteArray) (A : Int) (C : ByteArray) (D : Int) (r : Nat × Nat × Dat) (K : XR) : Prop := K (XE.exit 0) [.ptr 0 0, .ptr 1 0, .ptr 2 0] [.cells 25 [.str x, V Z y, .ro [W Z, W Z] w o, .ro [W Z, W Z, W Z] v n], .cells 25 [.str z, V Z A, .nsl, .nsl], .cells 25 [.str C, V Z D, .gr 3 2 r.1, .nsl], .row 75 [W Z, W Z] r.2.1 r.2.2]
noncomputable def g49_0 : LSum := fun s k => match czv 0 160 [1, 2, 3, 4] 4 [⟨false, 2, 2, 3, 75, [W Z, W Z]⟩] s with
  | some ([.ptr 0 0, .ptr 1 0, .ptr 2 0, V Z H], [.cells 25 [.str x, V Z y, .ro [W Z, W Z] w o, .ro [W Z, W Z, W Z] v n], .cells 25 [.str z, V Z A, .nsl, .nsl], .cells 25 [.str C, V Z D, .gr 3 2 p, .nsl], .row 75 [W Z, W Z] G u]) => needs [decide (p = G), (o49_0 x y w o v n z A C D H p u).isSome] (e49_0 x y w o v n z A C D ((o49_0 x y w o v n z A C D H p u).getD default) fun e vs bs => inBlk 0 k e (mkSt 0 160 [1, 2, 3] vs 4 bs))
  | _ => False
theorem z49_0 : LOk Tryz.prog g49_0 (.block 0 (bodyAt (Tryz.f49.body.getD .skip) 0)) := by
  refine lb (ι := Int × ByteArray × Int × Nat × Dat × Nat × Dat × ByteArray × Int × ByteArray × Int × Nat × Dat) (fuel := 8) (na := 0) (nt := 160) (nx := 4) (Lh := [1, 2, 3, 4]) (Le := [1, 2, 3]) (gl := [⟨false, 2, 2, 3, 75, [W Z, W Z]⟩]) (tc k66 tn) mix_ok noLam rfl (fun f (H, x, y, w, o, v, n, z, A, C, D, p, u) K => GG default (e49_0 x y w o v n z A C D) K (l49_0 x y w o v n z A C D f H p u)) (fun (H, x, y, w, o, v, n, z, A, C, D, p, u) => [.ptr 0 0, .ptr 1 0, .ptr 2 0, V Z H]) (fun (H, x, y, w, o, v, n, z, A, C, D, p, u) => [.cells 25 [.str x, V Z y, .ro [W Z, W Z] w o, .ro [W Z, W Z, W Z] v n], .cells 25 [.str z, V Z A, .nsl, .nsl], .cells 25 [.str C, V Z D, .gr 3 2 p, .nsl], .row 75 [W Z, W Z] p u]) (fun (_, _, _, _, _, _, _, _, _, _, _, _, _) K => gg_none) ?_ ?_
  · rintro f ⟨H, x, y, w, o, v, n, z, A, C, D, p, u⟩ K hG
    refine ro (fun R => (cnd (decide (H < (↑v : Int)))
 (cnd (decide (0 ≤ H ∧ H < ↑v))
 (cnd (decide (0 ≤ n.ii H.toNat (0 + 1 + 1) ∧ n.ii H.toNat (0 + 1 + 1) < (↑w : Int)))
 (cnd (decide ((0 + p) ≤ p))
 (cnd (n66 p u (o.ii ((n.ii H.toNat 2).toNat) 0) (o.ii ((n.ii H.toNat 2).toNat) 1))
 (cnd (decide ((m66 p u (o.ii ((n.ii H.toNat 2).toNat) 0) (o.ii ((n.ii H.toNat 2).toNat) 1)) < 0))
 (cnd (decide (p ≤ p))
 (cnd (decide ((p + 1) ≤ 1073741824))
 (R (XE.normal) [.ptr 0 0, .ptr 1 0, .ptr 2 0, V Z (Z.wrap (H + 1))] [.cells 25 [.str x, V Z y, .ro [W Z, W Z] w o, .ro [W Z, W Z, W Z] v n], .cells 25 [.str z, V Z A, .nsl, .nsl], .cells 25 [.str C, V Z D, .gr 3 2 (p + 1), .nsl], .row 75 [W Z, W Z] (p + 1) (u.app p (datS [V Z (o.ii ((n.ii H.toNat 2).toNat) 0), V Z (o.ii ((n.ii H.toNat 2).toNat) 1)] 2))])
         False)
        False)
 (R (XE.normal) [.ptr 0 0, .ptr 1 0, .ptr 2 0, V Z (Z.wrap (H + 1))] [.cells 25 [.str x, V Z y, .ro [W Z, W Z] w o, .ro [W Z, W Z, W Z] v n], .cells 25 [.str z, V Z A, .nsl, .nsl], .cells 25 [.str C, V Z D, .gr 3 2 p, .nsl], .row 75 [W Z, W Z] p u]))
      False)
     False)
    False)
   False)
 (R (XE.exit 0) [.ptr 0 0, .ptr 1 0, .ptr 2 0] [.cells 25 [.str x, V Z y, .ro [W Z, W Z] w o, .ro [W Z, W Z, W Z] v n], .cells 25 [.str z, V Z A, .nsl, .nsl], .cells 25 [.str C, V Z D, .gr 3 2 p, .nsl], .row 75 [W Z, W Z] p u]))) (fun R => by kernel_rfl) ?_
    exact ch hG (fun h0 => cg h0 fun h1 => cg h1 fun h2 => cg h2 fun h3 => cg h3 fun h4 => ch h4 (fun h5 => cn (decide_eq_true (Nat.le_refl _)) (cg h5 fun h6 => ⟨(_, _, _, _, _, _, _, _, _, _, _, _, _), rfl, rfl, h6⟩)) (fun h5 => ⟨(_, _, _, _, _, _, _, _, _, _, _, _, _), rfl, rfl, h5⟩)) (fun h0 => h0.2)
  · intro s k h
    unfold g49_0 at h
    split at h <;> try exact h.elim
    rename_i e1
    rw [needs_iff] at h
    have hq := h.1
    simp only [List.mem_cons, forall_eq_or_imp, decide_eq_true_eq, List.not_mem_nil, false_imp_iff, implies_true, and_true] at hq
    obtain ⟨rfl, hq⟩ := hq
    exact ⟨_, e1, _, (_, _, _, _, _, _, _, _, _, _, _, _, _), rfl, rfl, hq, h.2⟩
noncomputable def l49_2 (x : ByteArray) (y : Int) (w : Nat) (o : Dat) (v : Nat) (n : Dat) (z : ByteArray) (A : Int) (C : ByteArray) (D : Int) (p G : Nat) (u : Dat) : Nat → Int → Nat → Dat → Option (Nat × Nat × Dat)
  | 0, _, _, _ => none
  | f + 1, E, m, F => (cond (decide (E < (↑v : Int))) (cond (decide (0 ≤ E ∧ E < ↑v)) (cond (decide (0 ≤ E ∧ E < ↑v)) (cond (decide (0 ≤ E ∧ E < ↑v)) (cond (decide (0 ≤ n.ii E.toNat (0 + 1 + 1) ∧ n.ii E.toNat (0 + 1 + 1) < (↑w : Int))) (cond (decide ((0 + p) ≤ G)) (cond (n66 p u (o.ii ((n.ii E.toNat 2).toNat) 0) (o.ii ((n.ii E.toNat 2).toNat) 1)) (cond (bif (bif (decide ((0 : Int) < (↑m : Int))) then false else true) then true else (decide (0 ≤ Z.wrap ((↑m : Int) - 1) ∧ Z.wrap ((↑m : Int) - 1) < (↑m : Int)))) (cond (bif (bif (decide ((0 : Int) < (↑m : Int))) then false else true) then true else (decide (((Z.wrap ((↑m : Int) - 1)).toNat) < m))) (cond (bif (decide ((0 : Int) < (↑m : Int))) then (decide ((F.ii ((Z.wrap ((↑m : Int) - 1)).toNat) 2) = (m66 p u (o.ii ((n.ii E.toNat 2).toNat) 0) (o.ii ((n.ii E.toNat 2).toNat) 1)))) else false) (cond (decide (0 ≤ Z.wrap ((↑m : Int) - 1) ∧ Z.wrap ((↑m : Int) - 1) < (↑m : Int))) (cond (decide (((Z.wrap ((↑m : Int) - 1)).toNat) < m)) (cond (decide (1 < (↑m : Int))) (cond (decide (0 ≤ Z.wrap ((↑m : Int) - 2) ∧ Z.wrap ((↑m : Int) - 2) < (↑m : Int))) (cond (decide (((Z.wrap ((↑m : Int) - 2)).toNat) < m)) (cond (decide ((Z.wrap ((Z.wrap ((F.ii ((Z.wrap ((↑m : Int) - 1)).toNat) 1) - (F.ii ((Z.wrap ((↑m : Int) - 2)).toNat) 1))) * (n.ii E.toNat 0))) = (Z.wrap ((Z.wrap ((n.ii E.toNat 1) - (F.ii ((Z.wrap ((↑m : Int) - 1)).toNat) 1))) * (F.ii ((Z.wrap ((↑m : Int) - 1)).toNat) 0))))) (cond (decide (0 ≤ Z.wrap ((↑m : Int) - 1) ∧ Z.wrap ((↑m : Int) - 1) < (↑m : Int))) (cond (decide (((Z.wrap ((↑m : Int) - 1)).toNat) < m)) (l49_2 x y w o v n z A C D p G u f (Z.wrap (E + 1)) m (F.upd ((Z.wrap ((↑m : Int) - 1)).toNat) 0 [V Z (Z.wrap ((F.ii ((Z.wrap ((↑m : Int) - 1)).toNat) 0) + (n.ii E.toNat 0))), V Z (n.ii E.toNat 1), V Z (m66 p u (o.ii ((n.ii E.toNat 2).toNat) 0) (o.ii ((n.ii E.toNat 2).toNat) 1))])) none) none) (cond (decide ((m + 1) ≤ 1073741824)) (l49_2 x y w o v n z A C D p G u f (Z.wrap (E + 1)) (m + 1) (F.app m (datS [V Z (n.ii E.toNat 0), V Z (n.ii E.toNat 1), V Z (m66 p u (o.ii ((n.ii E.toNat 2).toNat) 0) (o.ii ((n.ii E.toNat 2).toNat) 1))] 3))) none)) none) none) (cond (decide ((Z.wrap ((Z.wrap ((F.ii ((Z.wrap ((↑m : Int) - 1)).toNat) 1) - 0)) * (n.ii E.toNat 0))) = (Z.wrap ((Z.wrap ((n.ii E.toNat 1) - (F.ii ((Z.wrap ((↑m : Int) - 1)).toNat) 1))) * (F.ii ((Z.wrap ((↑m : Int) - 1)).toNat) 0))))) (cond (decide (0 ≤ Z.wrap ((↑m : Int) - 1) ∧ Z.wrap ((↑m : Int) - 1) < (↑m : Int))) (cond (decide (((Z.wrap ((↑m : Int) - 1)).toNat) < m)) (l49_2 x y w o v n z A C D p G u f (Z.wrap (E + 1)) m (F.upd ((Z.wrap ((↑m : Int) - 1)).toNat) 0 [V Z (Z.wrap ((F.ii ((Z.wrap ((↑m : Int) - 1)).toNat) 0) + (n.ii E.toNat 0))), V Z (n.ii E.toNat 1), V Z (m66 p u (o.ii ((n.ii E.toNat 2).toNat) 0) (o.ii ((n.ii E.toNat 2).toNat) 1))])) none) none) (cond (decide ((m + 1) ≤ 1073741824)) (l49_2 x y w o v n z A C D p G u f (Z.wrap (E + 1)) (m + 1) (F.app m (datS [V Z (n.ii E.toNat 0), V Z (n.ii E.toNat 1), V Z (m66 p u (o.ii ((n.ii E.toNat 2).toNat) 0) (o.ii ((n.ii E.toNat 2).toNat) 1))] 3))) none))) none) none) (cond (decide ((m + 1) ≤ 1073741824)) (l49_2 x y w o v n z A C D p G u f (Z.wrap (E + 1)) (m + 1) (F.app m (datS [V Z (n.ii E.toNat 0), V Z (n.ii E.toNat 1), V Z (m66 p u (o.ii ((n.ii E.toNat 2).toNat) 0) (o.ii ((n.ii E.toNat 2).toNat) 1))] 3))) none)) none) none) none) none) none) none) none) none) (some (m, m, F)))
noncomputable abbrev o49_2 (x : ByteArray) (y : Int) (w : Nat) (o : Dat) (v : Nat) (n : Dat) (z : ByteArray) (A : Int) (C : ByteArray) (D : Int) (p G : Nat) (u : Dat) (E : Int) (m : Nat) (F : Dat) : Option (Nat × Nat × Dat) := l49_2 x y w o v n z A C D p G u (E.toNat + x.size + y.toNat + w + v + z.size + A.toNat + C.size + D.toNat + p + m + G + 8) E m F
noncomputable def e49_2 (x : ByteArray) (y : Int) (w : Nat) (o : Dat) (v : Nat) (n : Dat) (z : ByteArray) (A : Int) (C : ByteArray) (D : Int) (p G : Nat) (u : Dat) (r : Nat × Nat × Dat) (K : XR) : Prop := K (XE.exit 2) [.ptr 1 0, .ptr 2 0] [.cells 25 [.str x, V Z y, .ro [W Z, W Z] w o, .ro [W Z, W Z, W Z] v n], .cells 25 [.str z, V Z A, .nsl, .nsl], .cells 25 [.str C, V Z D, .gr 3 2 p, .gr 4 3 r.1], .row 75 [W Z, W Z] G u, .row 72 [W Z, W Z, W Z] r.2.1 r.2.2]
noncomputable def g49_2 : LSum := fun s k => match czv 0 160 [1, 2, 3, 6] 5 [⟨false, 2, 2, 3, 75, [W Z, W Z]⟩, ⟨false, 2, 3, 4, 72, [W Z, W Z, W Z]⟩] s with
  | some ([.ptr 0 0, .ptr 1 0, .ptr 2 0, V Z E], [.cells 25 [.str x, V Z y, .ro [W Z, W Z] w o, .ro [W Z, W Z, W Z] v n], .cells 25 [.str z, V Z A, .nsl, .nsl], .cells 25 [.str C, V Z D, .gr 3 2 p, .gr 4 3 m], .row 75 [W Z, W Z] G u, .row 72 [W Z, W Z, W Z] b4_0 F]) => needs [decide (m = b4_0), (o49_2 x y w o v n z A C D p G u E m F).isSome] (e49_2 x y w o v n z A C D p G u ((o49_2 x y w o v n z A C D p G u E m F).getD default) fun e vs bs => inBlk 2 k e (mkSt 0 160 [2, 3] vs 5 bs))
  | _ => False
theorem z49_2 : LOk Tryz.prog g49_2 (.block 2 (bodyAt (Tryz.f49.body.getD .skip) 2)) := by
  refine lb (ι := Int × ByteArray × Int × Nat × Dat × Nat × Dat × ByteArray × Int × ByteArray × Int × Nat × Nat × Nat × Dat × Dat) (fuel := 8) (na := 0) (nt := 160) (nx := 5) (Lh := [1, 2, 3, 6]) (Le := [2, 3]) (gl := [⟨false, 2, 2, 3, 75, [W Z, W Z]⟩, ⟨false, 2, 3, 4, 72, [W Z, W Z, W Z]⟩]) (tc k66 tn) mix_ok (lam_of rfl (lc z49_0 ln)) rfl (fun f (E, x, y, w, o, v, n, z, A, C, D, p, m, G, u, F) K => GG default (e49_2 x y w o v n z A C D p G u) K (l49_2 x y w o v n z A C D p G u f E m F)) (fun (E, x, y, w, o, v, n, z, A, C, D, p, m, G, u, F) => [.ptr 0 0, .ptr 1 0, .ptr 2 0, V Z E]) (fun (E, x, y, w, o, v, n, z, A, C, D, p, m, G, u, F) => [.cells 25 [.str x, V Z y, .ro [W Z, W Z] w o, .ro [W Z, W Z, W Z] v n], .cells 25 [.str z, V Z A, .nsl, .nsl], .cells 25 [.str C, V Z D, .gr 3 2 p, .gr 4 3 m], .row 75 [W Z, W Z] G u, .row 72 [W Z, W Z, W Z] m F]) (fun (_, _, _, _, _, _, _, _, _, _, _, _, _, _, _, _) K => gg_none) ?_ ?_
  · rintro f ⟨E, x, y, w, o, v, n, z, A, C, D, p, m, G, u, F⟩ K hG
    refine ro (fun R => (cnd (decide (E < (↑v : Int)))
 (cnd (decide (0 ≤ E ∧ E < ↑v))
 (cnd (decide (0 ≤ E ∧ E < ↑v))
 (cnd (decide (0 ≤ E ∧ E < ↑v))
 (cnd (decide (0 ≤ n.ii E.toNat (0 + 1 + 1) ∧ n.ii E.toNat (0 + 1 + 1) < (↑w : Int)))
 (cnd (decide ((0 + p) ≤ G))
 (cnd (n66 p u (o.ii ((n.ii E.toNat 2).toNat) 0) (o.ii ((n.ii E.toNat 2).toNat) 1))
 (cnd (bif (bif (decide ((0 : Int) < (↑m : Int))) then false else true) then true else (decide (0 ≤ Z.wrap ((↑m : Int) - 1) ∧ Z.wrap ((↑m : Int) - 1) < (↑m : Int))))
 (cnd (bif (bif (decide ((0 : Int) < (↑m : Int))) then false else true) then true else (decide (((Z.wrap ((↑m : Int) - 1)).toNat) < m)))
 (cnd (bif (decide ((0 : Int) < (↑m : Int))) then (decide ((F.ii ((Z.wrap ((↑m : Int) - 1)).toNat) 2) = (m66 p u (o.ii ((n.ii E.toNat 2).toNat) 0) (o.ii ((n.ii E.toNat 2).toNat) 1)))) else false)
 (cnd (decide (0 ≤ Z.wrap ((↑m : Int) - 1) ∧ Z.wrap ((↑m : Int) - 1) < (↑m : Int)))
 (cnd (decide (((Z.wrap ((↑m : Int) - 1)).toNat) < m))
 (cnd (decide (1 < (↑m : Int)))
 (cnd (decide (0 ≤ Z.wrap ((↑m : Int) - 2) ∧ Z.wrap ((↑m : Int) - 2) < (↑m : Int)))
 (cnd (decide (((Z.wrap ((↑m : Int) - 2)).toNat) < m))
 (cnd (decide ((Z.wrap ((Z.wrap ((F.ii ((Z.wrap ((↑m : Int) - 1)).toNat) 1) - (F.ii ((Z.wrap ((↑m : Int) - 2)).toNat) 1))) * (n.ii E.toNat 0))) = (Z.wrap ((Z.wrap ((n.ii E.toNat 1) - (F.ii ((Z.wrap ((↑m : Int) - 1)).toNat) 1))) * (F.ii ((Z.wrap ((↑m : Int) - 1)).toNat) 0)))))
 (cnd (decide (0 ≤ Z.wrap ((↑m : Int) - 1) ∧ Z.wrap ((↑m : Int) - 1) < (↑m : Int)))
 (cnd (decide (((Z.wrap ((↑m : Int) - 1)).toNat) < m))
 (R (XE.normal) [.ptr 0 0, .ptr 1 0, .ptr 2 0, V Z (Z.wrap (E + 1))] [.cells 25 [.str x, V Z y, .ro [W Z, W Z] w o, .ro [W Z, W Z, W Z] v n], .cells 25 [.str z, V Z A, .nsl, .nsl], .cells 25 [.str C, V Z D, .gr 3 2 p, .gr 4 3 m], .row 75 [W Z, W Z] G u, .row 72 [W Z, W Z, W Z] m (F.upd ((Z.wrap ((↑m : Int) - 1)).toNat) 0 [V Z (Z.wrap ((F.ii ((Z.wrap ((↑m : Int) - 1)).toNat) 0) + (n.ii E.toNat 0))), V Z (n.ii E.toNat 1), V Z (m66 p u (o.ii ((n.ii E.toNat 2).toNat) 0) (o.ii ((n.ii E.toNat 2).toNat) 1))])])
                   False)
                  False)
 (cnd (decide (m ≤ m))
 (cnd (decide ((m + 1) ≤ 1073741824))
 (R (XE.normal) [.ptr 0 0, .ptr 1 0, .ptr 2 0, V Z (Z.wrap (E + 1))] [.cells 25 [.str x, V Z y, .ro [W Z, W Z] w o, .ro [W Z, W Z, W Z] v n], .cells 25 [.str z, V Z A, .nsl, .nsl], .cells 25 [.str C, V Z D, .gr 3 2 p, .gr 4 3 (m + 1)], .row 75 [W Z, W Z] G u, .row 72 [W Z, W Z, W Z] (m + 1) (F.app m (datS [V Z (n.ii E.toNat 0), V Z (n.ii E.toNat 1), V Z (m66 p u (o.ii ((n.ii E.toNat 2).toNat) 0) (o.ii ((n.ii E.toNat 2).toNat) 1))] 3))])
                   False)
                  False))
                False)
               False)
 (cnd (decide ((Z.wrap ((Z.wrap ((F.ii ((Z.wrap ((↑m : Int) - 1)).toNat) 1) - 0)) * (n.ii E.toNat 0))) = (Z.wrap ((Z.wrap ((n.ii E.toNat 1) - (F.ii ((Z.wrap ((↑m : Int) - 1)).toNat) 1))) * (F.ii ((Z.wrap ((↑m : Int) - 1)).toNat) 0)))))
 (cnd (decide (0 ≤ Z.wrap ((↑m : Int) - 1) ∧ Z.wrap ((↑m : Int) - 1) < (↑m : Int)))
 (cnd (decide (((Z.wrap ((↑m : Int) - 1)).toNat) < m))
 (R (XE.normal) [.ptr 0 0, .ptr 1 0, .ptr 2 0, V Z (Z.wrap (E + 1))] [.cells 25 [.str x, V Z y, .ro [W Z, W Z] w o, .ro [W Z, W Z, W Z] v n], .cells 25 [.str z, V Z A, .nsl, .nsl], .cells 25 [.str C, V Z D, .gr 3 2 p, .gr 4 3 m], .row 75 [W Z, W Z] G u, .row 72 [W Z, W Z, W Z] m (F.upd ((Z.wrap ((↑m : Int) - 1)).toNat) 0 [V Z (Z.wrap ((F.ii ((Z.wrap ((↑m : Int) - 1)).toNat) 0) + (n.ii E.toNat 0))), V Z (n.ii E.toNat 1), V Z (m66 p u (o.ii ((n.ii E.toNat 2).toNat) 0) (o.ii ((n.ii E.toNat 2).toNat) 1))])])
                 False)
                False)
 (cnd (decide (m ≤ m))
 (cnd (decide ((m + 1) ≤ 1073741824))
 (R (XE.normal) [.ptr 0 0, .ptr 1 0, .ptr 2 0, V Z (Z.wrap (E + 1))] [.cells 25 [.str x, V Z y, .ro [W Z, W Z] w o, .ro [W Z, W Z, W Z] v n], .cells 25 [.str z, V Z A, .nsl, .nsl], .cells 25 [.str C, V Z D, .gr 3 2 p, .gr 4 3 (m + 1)], .row 75 [W Z, W Z] G u, .row 72 [W Z, W Z, W Z] (m + 1) (F.app m (datS [V Z (n.ii E.toNat 0), V Z (n.ii E.toNat 1), V Z (m66 p u (o.ii ((n.ii E.toNat 2).toNat) 0) (o.ii ((n.ii E.toNat 2).toNat) 1))] 3))])
                 False)
                False)))
             False)
            False)
 (cnd (decide (m ≤ m))
 (cnd (decide ((m + 1) ≤ 1073741824))
 (R (XE.normal) [.ptr 0 0, .ptr 1 0, .ptr 2 0, V Z (Z.wrap (E + 1))] [.cells 25 [.str x, V Z y, .ro [W Z, W Z] w o, .ro [W Z, W Z, W Z] v n], .cells 25 [.str z, V Z A, .nsl, .nsl], .cells 25 [.str C, V Z D, .gr 3 2 p, .gr 4 3 (m + 1)], .row 75 [W Z, W Z] G u, .row 72 [W Z, W Z, W Z] (m + 1) (F.app m (datS [V Z (n.ii E.toNat 0), V Z (n.ii E.toNat 1), V Z (m66 p u (o.ii ((n.ii E.toNat 2).toNat) 0) (o.ii ((n.ii E.toNat 2).toNat) 1))] 3))])
             False)
            False))
          False)
         False)
        False)
       False)
      False)
     False)
    False)
   False)
 (R (XE.exit 2) [.ptr 1 0, .ptr 2 0] [.cells 25 [.str x, V Z y, .ro [W Z, W Z] w o, .ro [W Z, W Z, W Z] v n], .cells 25 [.str z, V Z A, .nsl, .nsl], .cells 25 [.str C, V Z D, .gr 3 2 p, .gr 4 3 m], .row 75 [W Z, W Z] G u, .row 72 [W Z, W Z, W Z] m F]))) (fun R => by kernel_rfl) ?_
    exact ch hG (fun h0 => cg h0 fun h1 => cg h1 fun h2 => cg h2 fun h3 => cg h3 fun h4 => cg h4 fun h5 => cg h5 fun h6 => cg h6 fun h7 => cg h7 fun h8 => ch h8 (fun h9 => cg h9 fun h10 => cg h10 fun h11 => ch h11 (fun h12 => cg h12 fun h13 => cg h13 fun h14 => ch h14 (fun h15 => cg h15 fun h16 => cg h16 fun h17 => ⟨(_, _, _, _, _, _, _, _, _, _, _, _, _, _, _, _), rfl, rfl, h17⟩) (fun h15 => cn (decide_eq_true (Nat.le_refl _)) (cg h15 fun h16 => ⟨(_, _, _, _, _, _, _, _, _, _, _, _, _, _, _, _), rfl, rfl, h16⟩))) (fun h12 => ch h12 (fun h13 => cg h13 fun h14 => cg h14 fun h15 => ⟨(_, _, _, _, _, _, _, _, _, _, _, _, _, _, _, _), rfl, rfl, h15⟩) (fun h13 => cn (decide_eq_true (Nat.le_refl _)) (cg h13 fun h14 => ⟨(_, _, _, _, _, _, _, _, _, _, _, _, _, _, _, _), rfl, rfl, h14⟩)))) (fun h9 => cn (decide_eq_true (Nat.le_refl _)) (cg h9 fun h10 => ⟨(_, _, _, _, _, _, _, _, _, _, _, _, _, _, _, _), rfl, rfl, h10⟩))) (fun h0 => h0.2)
  · intro s k h
    unfold g49_2 at h
    split at h <;> try exact h.elim
    rename_i e1
    rw [needs_iff] at h
    have hq := h.1
    simp only [List.mem_cons, forall_eq_or_imp, decide_eq_true_eq, List.not_mem_nil, false_imp_iff, implies_true, and_true] at hq
    obtain ⟨rfl, hq⟩ := hq
    exact ⟨_, e1, _, (_, _, _, _, _, _, _, _, _, _, _, _, _, _, _, _), rfl, rfl, hq, h.2⟩
noncomputable def m49 (b : ByteArray) (d : Int) (i : Nat) (g : Dat) (j : Nat) (l : Dat) : ByteArray × Int × Nat × Dat × Nat × Dat :=
  (cond (decide ((↑(((o49_0 b d i g j l ({ data := #[] } : ByteArray) 0 b d 0 0 noDat).getD default).1) : Int) = 0)) (b, d, (((o49_0 b d i g j l ({ data := #[] } : ByteArray) 0 b d 0 0 noDat).getD default).1 + 1), (((o49_0 b d i g j l ({ data := #[] } : ByteArray) 0 b d 0 0 noDat).getD default).2.2.app ((o49_0 b d i g j l ({ data := #[] } : ByteArray) 0 b d 0 0 noDat).getD default).1 (datS [V Z (g.ii 0 0), V Z (g.ii 0 1)] 2)), ((o49_2 b d i g j l ({ data := #[] } : ByteArray) 0 b d (((o49_0 b d i g j l ({ data := #[] } : ByteArray) 0 b d 0 0 noDat).getD default).1 + 1) (((o49_0 b d i g j l ({ data := #[] } : ByteArray) 0 b d 0 0 noDat).getD default).1 + 1) (((o49_0 b d i g j l ({ data := #[] } : ByteArray) 0 b d 0 0 noDat).getD default).2.2.app ((o49_0 b d i g j l ({ data := #[] } : ByteArray) 0 b d 0 0 noDat).getD default).1 (datS [V Z (g.ii 0 0), V Z (g.ii 0 1)] 2)) 0 0 noDat).getD default).1, ((o49_2 b d i g j l ({ data := #[] } : ByteArray) 0 b d (((o49_0 b d i g j l ({ data := #[] } : ByteArray) 0 b d 0 0 noDat).getD default).1 + 1) (((o49_0 b d i g j l ({ data := #[] } : ByteArray) 0 b d 0 0 noDat).getD default).1 + 1) (((o49_0 b d i g j l ({ data := #[] } : ByteArray) 0 b d 0 0 noDat).getD default).2.2.app ((o49_0 b d i g j l ({ data := #[] } : ByteArray) 0 b d 0 0 noDat).getD default).1 (datS [V Z (g.ii 0 0), V Z (g.ii 0 1)] 2)) 0 0 noDat).getD default).2.2) (b, d, ((o49_0 b d i g j l ({ data := #[] } : ByteArray) 0 b d 0 0 noDat).getD default).1, ((o49_0 b d i g j l ({ data := #[] } : ByteArray) 0 b d 0 0 noDat).getD default).2.2, ((o49_2 b d i g j l ({ data := #[] } : ByteArray) 0 b d ((o49_0 b d i g j l ({ data := #[] } : ByteArray) 0 b d 0 0 noDat).getD default).1 ((o49_0 b d i g j l ({ data := #[] } : ByteArray) 0 b d 0 0 noDat).getD default).2.1 ((o49_0 b d i g j l ({ data := #[] } : ByteArray) 0 b d 0 0 noDat).getD default).2.2 0 0 noDat).getD default).1, ((o49_2 b d i g j l ({ data := #[] } : ByteArray) 0 b d ((o49_0 b d i g j l ({ data := #[] } : ByteArray) 0 b d 0 0 noDat).getD default).1 ((o49_0 b d i g j l ({ data := #[] } : ByteArray) 0 b d 0 0 noDat).getD default).2.1 ((o49_0 b d i g j l ({ data := #[] } : ByteArray) 0 b d 0 0 noDat).getD default).2.2 0 0 noDat).getD default).2.2))
noncomputable def n49 (b : ByteArray) (d : Int) (i : Nat) (g : Dat) (j : Nat) (l : Dat) : Bool :=
  (((o49_0 b d i g j l ({ data := #[] } : ByteArray) 0 b d 0 0 noDat).isSome) && (cond (decide ((↑(((o49_0 b d i g j l ({ data := #[] } : ByteArray) 0 b d 0 0 noDat).getD default).1) : Int) = 0)) ((decide ((0 : Int) ≤ (0 : Int) ∧ (0 : Int) < (↑i : Int))) && ((decide (((o49_0 b d i g j l ({ data := #[] } : ByteArray) 0 b d 0 0 noDat).getD default).1 ≤ ((o49_0 b d i g j l ({ data := #[] } : ByteArray) 0 b d 0 0 noDat).getD default).2.1)) && ((decide ((((o49_0 b d i g j l ({ data := #[] } : ByteArray) 0 b d 0 0 noDat).getD default).1 + 1) ≤ 1073741824)) && (((o49_2 b d i g j l ({ data := #[] } : ByteArray) 0 b d (((o49_0 b d i g j l ({ data := #[] } : ByteArray) 0 b d 0 0 noDat).getD default).1 + 1) (((o49_0 b d i g j l ({ data := #[] } : ByteArray) 0 b d 0 0 noDat).getD default).1 + 1) (((o49_0 b d i g j l ({ data := #[] } : ByteArray) 0 b d 0 0 noDat).getD default).2.2.app ((o49_0 b d i g j l ({ data := #[] } : ByteArray) 0 b d 0 0 noDat).getD default).1 (datS [V Z (g.ii 0 0), V Z (g.ii 0 1)] 2)) 0 0 noDat).isSome) && ((decide ((0 + (((o49_0 b d i g j l ({ data := #[] } : ByteArray) 0 b d 0 0 noDat).getD default).1 + 1)) ≤ (((o49_0 b d i g j l ({ data := #[] } : ByteArray) 0 b d 0 0 noDat).getD default).1 + 1))) && ((decide ((0 + ((o49_2 b d i g j l ({ data := #[] } : ByteArray) 0 b d (((o49_0 b d i g j l ({ data := #[] } : ByteArray) 0 b d 0 0 noDat).getD default).1 + 1) (((o49_0 b d i g j l ({ data := #[] } : ByteArray) 0 b d 0 0 noDat).getD default).1 + 1) (((o49_0 b d i g j l ({ data := #[] } : ByteArray) 0 b d 0 0 noDat).getD default).2.2.app ((o49_0 b d i g j l ({ data := #[] } : ByteArray) 0 b d 0 0 noDat).getD default).1 (datS [V Z (g.ii 0 0), V Z (g.ii 0 1)] 2)) 0 0 noDat).getD default).1) ≤ ((o49_2 b d i g j l ({ data := #[] } : ByteArray) 0 b d (((o49_0 b d i g j l ({ data := #[] } : ByteArray) 0 b d 0 0 noDat).getD default).1 + 1) (((o49_0 b d i g j l ({ data := #[] } : ByteArray) 0 b d 0 0 noDat).getD default).1 + 1) (((o49_0 b d i g j l ({ data := #[] } : ByteArray) 0 b d 0 0 noDat).getD default).2.2.app ((o49_0 b d i g j l ({ data := #[] } : ByteArray) 0 b d 0 0 noDat).getD default).1 (datS [V Z (g.ii 0 0), V Z (g.ii 0 1)] 2)) 0 0 noDat).getD default).2.1)) && true)))))) (((o49_2 b d i g j l ({ data := #[] } : ByteArray) 0 b d ((o49_0 b d i g j l ({ data := #[] } : ByteArray) 0 b d 0 0 noDat).getD default).1 ((o49_0 b d i g j l ({ data := #[] } : ByteArray) 0 b d 0 0 noDat).getD default).2.1 ((o49_0 b d i g j l ({ data := #[] } : ByteArray) 0 b d 0 0 noDat).getD default).2.2 0 0 noDat).isSome) && ((decide ((0 + ((o49_0 b d i g j l ({ data := #[] } : ByteArray) 0 b d 0 0 noDat).getD default).1) ≤ ((o49_0 b d i g j l ({ data := #[] } : ByteArray) 0 b d 0 0 noDat).getD default).2.1)) && ((decide ((0 + ((o49_2 b d i g j l ({ data := #[] } : ByteArray) 0 b d ((o49_0 b d i g j l ({ data := #[] } : ByteArray) 0 b d 0 0 noDat).getD default).1 ((o49_0 b d i g j l ({ data := #[] } : ByteArray) 0 b d 0 0 noDat).getD default).2.1 ((o49_0 b d i g j l ({ data := #[] } : ByteArray) 0 b d 0 0 noDat).getD default).2.2 0 0 noDat).getD default).1) ≤ ((o49_2 b d i g j l ({ data := #[] } : ByteArray) 0 b d ((o49_0 b d i g j l ({ data := #[] } : ByteArray) 0 b d 0 0 noDat).getD default).1 ((o49_0 b d i g j l ({ data := #[] } : ByteArray) 0 b d 0 0 noDat).getD default).2.1 ((o49_0 b d i g j l ({ data := #[] } : ByteArray) 0 b d 0 0 noDat).getD default).2.2 0 0 noDat).getD default).2.1)) && true)))))
noncomputable def q49 (r : ByteArray × Int × Nat × Dat × Nat × Dat) : SV × List Blk × List Blk := (.agg [.str r.1, V Z r.2.1, .ro [W Z, W Z] r.2.2.1 r.2.2.2.1, .ro [W Z, W Z, W Z] r.2.2.2.2.1 r.2.2.2.2.2], [], [])
noncomputable def g49 : GF := fun vs bs => match vs, bs with
  | [.agg [.str b, V Z d, .ro [W Z, W Z] i g, .ro [W Z, W Z, W Z] j l]], [] => some (rs 0 (q49 (m49 b d i g j l)) [n49 b d i g j l])
  | _, _ => none
noncomputable def c49 : Ctr := genC [.a [.k, .k, .ro [W Z, W Z], .ro [W Z, W Z, W Z]]] g49
theorem k49 : CtrOk Tryz.prog c49 49 := cx (tc k66 tn) mix_ok 8 (fn := Tryz.f49) (c := (Tryz.f49.body.getD .skip)) (grs := []) (rh := .t [.k, .k, .ro [W Z, W Z], .ro [W Z, W Z, W Z]]) Tryz.func49 rfl (by kernel_rfl) (lam_of rfl (lc z49_0 (lc z49_2 ln))) fun vs bs q h hn => by
  unfold g49 at h
  split at h <;> cases h
  rename_i b d i g j l
  have hn := n1 hn
  exact ⟨_, rfl, ca (fun R => (cnd ((o49_0 b d i g j l ({ data := #[] } : ByteArray) 0 b d 0 0 noDat).isSome)
 (cnd (decide ((↑(((o49_0 b d i g j l ({ data := #[] } : ByteArray) 0 b d 0 0 noDat).getD default).1) : Int) = 0))
 (cnd (decide ((0 : Int) ≤ (0 : Int) ∧ (0 : Int) < (↑i : Int)))
 (cnd (decide (((o49_0 b d i g j l ({ data := #[] } : ByteArray) 0 b d 0 0 noDat).getD default).1 ≤ ((o49_0 b d i g j l ({ data := #[] } : ByteArray) 0 b d 0 0 noDat).getD default).2.1))
 (cnd (decide ((((o49_0 b d i g j l ({ data := #[] } : ByteArray) 0 b d 0 0 noDat).getD default).1 + 1) ≤ 1073741824))
 (cnd ((o49_2 b d i g j l ({ data := #[] } : ByteArray) 0 b d (((o49_0 b d i g j l ({ data := #[] } : ByteArray) 0 b d 0 0 noDat).getD default).1 + 1) (((o49_0 b d i g j l ({ data := #[] } : ByteArray) 0 b d 0 0 noDat).getD default).1 + 1) (((o49_0 b d i g j l ({ data := #[] } : ByteArray) 0 b d 0 0 noDat).getD default).2.2.app ((o49_0 b d i g j l ({ data := #[] } : ByteArray) 0 b d 0 0 noDat).getD default).1 (datS [V Z (g.ii 0 0), V Z (g.ii 0 1)] 2)) 0 0 noDat).isSome)
 (cnd (decide ((0 + (((o49_0 b d i g j l ({ data := #[] } : ByteArray) 0 b d 0 0 noDat).getD default).1 + 1)) ≤ (((o49_0 b d i g j l ({ data := #[] } : ByteArray) 0 b d 0 0 noDat).getD default).1 + 1)))
 (cnd (decide ((0 + ((o49_2 b d i g j l ({ data := #[] } : ByteArray) 0 b d (((o49_0 b d i g j l ({ data := #[] } : ByteArray) 0 b d 0 0 noDat).getD default).1 + 1) (((o49_0 b d i g j l ({ data := #[] } : ByteArray) 0 b d 0 0 noDat).getD default).1 + 1) (((o49_0 b d i g j l ({ data := #[] } : ByteArray) 0 b d 0 0 noDat).getD default).2.2.app ((o49_0 b d i g j l ({ data := #[] } : ByteArray) 0 b d 0 0 noDat).getD default).1 (datS [V Z (g.ii 0 0), V Z (g.ii 0 1)] 2)) 0 0 noDat).getD default).1) ≤ ((o49_2 b d i g j l ({ data := #[] } : ByteArray) 0 b d (((o49_0 b d i g j l ({ data := #[] } : ByteArray) 0 b d 0 0 noDat).getD default).1 + 1) (((o49_0 b d i g j l ({ data := #[] } : ByteArray) 0 b d 0 0 noDat).getD default).1 + 1) (((o49_0 b d i g j l ({ data := #[] } : ByteArray) 0 b d 0 0 noDat).getD default).2.2.app ((o49_0 b d i g j l ({ data := #[] } : ByteArray) 0 b d 0 0 noDat).getD default).1 (datS [V Z (g.ii 0 0), V Z (g.ii 0 1)] 2)) 0 0 noDat).getD default).2.1))
 (R (.agg [.str b, V Z d, .ro [W Z, W Z] (((o49_0 b d i g j l ({ data := #[] } : ByteArray) 0 b d 0 0 noDat).getD default).1 + 1) (((o49_0 b d i g j l ({ data := #[] } : ByteArray) 0 b d 0 0 noDat).getD default).2.2.app ((o49_0 b d i g j l ({ data := #[] } : ByteArray) 0 b d 0 0 noDat).getD default).1 (datS [V Z (g.ii 0 0), V Z (g.ii 0 1)] 2)), .ro [W Z, W Z, W Z] ((o49_2 b d i g j l ({ data := #[] } : ByteArray) 0 b d (((o49_0 b d i g j l ({ data := #[] } : ByteArray) 0 b d 0 0 noDat).getD default).1 + 1) (((o49_0 b d i g j l ({ data := #[] } : ByteArray) 0 b d 0 0 noDat).getD default).1 + 1) (((o49_0 b d i g j l ({ data := #[] } : ByteArray) 0 b d 0 0 noDat).getD default).2.2.app ((o49_0 b d i g j l ({ data := #[] } : ByteArray) 0 b d 0 0 noDat).getD default).1 (datS [V Z (g.ii 0 0), V Z (g.ii 0 1)] 2)) 0 0 noDat).getD default).1 ((o49_2 b d i g j l ({ data := #[] } : ByteArray) 0 b d (((o49_0 b d i g j l ({ data := #[] } : ByteArray) 0 b d 0 0 noDat).getD default).1 + 1) (((o49_0 b d i g j l ({ data := #[] } : ByteArray) 0 b d 0 0 noDat).getD default).1 + 1) (((o49_0 b d i g j l ({ data := #[] } : ByteArray) 0 b d 0 0 noDat).getD default).2.2.app ((o49_0 b d i g j l ({ data := #[] } : ByteArray) 0 b d 0 0 noDat).getD default).1 (datS [V Z (g.ii 0 0), V Z (g.ii 0 1)] 2)) 0 0 noDat).getD default).2.2]) [] [])
         False)
        False)
       False)
      False)
     False)
    False)
 (cnd ((o49_2 b d i g j l ({ data := #[] } : ByteArray) 0 b d ((o49_0 b d i g j l ({ data := #[] } : ByteArray) 0 b d 0 0 noDat).getD default).1 ((o49_0 b d i g j l ({ data := #[] } : ByteArray) 0 b d 0 0 noDat).getD default).2.1 ((o49_0 b d i g j l ({ data := #[] } : ByteArray) 0 b d 0 0 noDat).getD default).2.2 0 0 noDat).isSome)
 (cnd (decide ((0 + ((o49_0 b d i g j l ({ data := #[] } : ByteArray) 0 b d 0 0 noDat).getD default).1) ≤ ((o49_0 b d i g j l ({ data := #[] } : ByteArray) 0 b d 0 0 noDat).getD default).2.1))
 (cnd (decide ((0 + ((o49_2 b d i g j l ({ data := #[] } : ByteArray) 0 b d ((o49_0 b d i g j l ({ data := #[] } : ByteArray) 0 b d 0 0 noDat).getD default).1 ((o49_0 b d i g j l ({ data := #[] } : ByteArray) 0 b d 0 0 noDat).getD default).2.1 ((o49_0 b d i g j l ({ data := #[] } : ByteArray) 0 b d 0 0 noDat).getD default).2.2 0 0 noDat).getD default).1) ≤ ((o49_2 b d i g j l ({ data := #[] } : ByteArray) 0 b d ((o49_0 b d i g j l ({ data := #[] } : ByteArray) 0 b d 0 0 noDat).getD default).1 ((o49_0 b d i g j l ({ data := #[] } : ByteArray) 0 b d 0 0 noDat).getD default).2.1 ((o49_0 b d i g j l ({ data := #[] } : ByteArray) 0 b d 0 0 noDat).getD default).2.2 0 0 noDat).getD default).2.1))
 (R (.agg [.str b, V Z d, .ro [W Z, W Z] ((o49_0 b d i g j l ({ data := #[] } : ByteArray) 0 b d 0 0 noDat).getD default).1 ((o49_0 b d i g j l ({ data := #[] } : ByteArray) 0 b d 0 0 noDat).getD default).2.2, .ro [W Z, W Z, W Z] ((o49_2 b d i g j l ({ data := #[] } : ByteArray) 0 b d ((o49_0 b d i g j l ({ data := #[] } : ByteArray) 0 b d 0 0 noDat).getD default).1 ((o49_0 b d i g j l ({ data := #[] } : ByteArray) 0 b d 0 0 noDat).getD default).2.1 ((o49_0 b d i g j l ({ data := #[] } : ByteArray) 0 b d 0 0 noDat).getD default).2.2 0 0 noDat).getD default).1 ((o49_2 b d i g j l ({ data := #[] } : ByteArray) 0 b d ((o49_0 b d i g j l ({ data := #[] } : ByteArray) 0 b d 0 0 noDat).getD default).1 ((o49_0 b d i g j l ({ data := #[] } : ByteArray) 0 b d 0 0 noDat).getD default).2.1 ((o49_0 b d i g j l ({ data := #[] } : ByteArray) 0 b d 0 0 noDat).getD default).2.2 0 0 noDat).getD default).2.2]) [] [])
      False)
     False)
    False))
  False)) (fun R => by kernel_rfl) (cn (al hn) (co (fun h0 => cn (al (ct h0 (ar hn))) (cn (al (ar (ct h0 (ar hn)))) (cn (al (ar (ar (ct h0 (ar hn))))) (cn (al (ar (ar (ar (ct h0 (ar hn)))))) (cn (al (ar (ar (ar (ar (ct h0 (ar hn))))))) (cn (al (ar (ar (ar (ar (ar (ct h0 (ar hn)))))))) (lf (cT h0 rfl) rfl))))))) (fun h0 => cn (al (cf h0 (ar hn))) (cn (al (ar (cf h0 (ar hn)))) (cn (al (ar (ar (cf h0 (ar hn))))) (lf (cF h0 rfl) rfl))))))⟩

/-! ### shotline/shotlineref02.SameDive -/
noncomputable def m22 (i : ByteArray) (j : Int) (b : Nat) (d : Dat) (e : Nat) (g : Dat) (p : ByteArray) (s : Int) (l : Nat) (m : Dat) (n : Nat) (o : Dat) : Bool :=
  (m19 (m49 i j b d e g).1 (m49 i j b d e g).2.1 (m49 i j b d e g).2.2.1 (m49 i j b d e g).2.2.2.1 (m49 i j b d e g).2.2.2.2.1 (m49 i j b d e g).2.2.2.2.2 (m49 i j b d e g).1 (m49 p s l m n o).2.1 (m49 p s l m n o).2.2.1 (m49 p s l m n o).2.2.2.1 (m49 p s l m n o).2.2.2.2.1 (m49 p s l m n o).2.2.2.2.2)
noncomputable def n22 (i : ByteArray) (j : Int) (b : Nat) (d : Dat) (e : Nat) (g : Dat) (p : ByteArray) (s : Int) (l : Nat) (m : Dat) (n : Nat) (o : Dat) : Bool :=
  ((n49 i j b d e g) && ((n49 p s l m n o) && ((n19 (m49 i j b d e g).1 (m49 i j b d e g).2.1 (m49 i j b d e g).2.2.1 (m49 i j b d e g).2.2.2.1 (m49 i j b d e g).2.2.2.2.1 (m49 i j b d e g).2.2.2.2.2 (m49 i j b d e g).1 (m49 p s l m n o).2.1 (m49 p s l m n o).2.2.1 (m49 p s l m n o).2.2.2.1 (m49 p s l m n o).2.2.2.2.1 (m49 p s l m n o).2.2.2.2.2) && true)))
noncomputable def q22 (r : Bool) : SV × List Blk × List Blk := (.bool r, [], [])
noncomputable def g22 : GF := fun vs bs => match vs, bs with
  | [.agg [.str i, V Z j, .ro [W Z, W Z] b d, .ro [W Z, W Z, W Z] e g], .agg [.str p, V Z s, .ro [W Z, W Z] l m, .ro [W Z, W Z, W Z] n o]], [] => some (rs 0 (q22 (m22 i j b d e g p s l m n o)) [n22 i j b d e g p s l m n o])
  | _, _ => none
noncomputable def c22 : Ctr := genC [.a [.k, .k, .ro [W Z, W Z], .ro [W Z, W Z, W Z]], .a [.k, .k, .ro [W Z, W Z], .ro [W Z, W Z, W Z]]] g22
theorem k22 : CtrOk Tryz.prog c22 22 := cx (tc k19 (tc k49 tn)) mix_ok 8 (fn := Tryz.f22) (c := (Tryz.f22.body.getD .skip)) (grs := []) (rh := .k) Tryz.func22 rfl (by kernel_rfl) noLam fun vs bs q h hn => by
  unfold g22 at h
  split at h <;> cases h
  rename_i i j b d e g p s l m n o
  have hn := n1 hn
  exact ⟨_, rfl, ca (fun R => (cnd (n49 i j b d e g)
 (cnd (n49 p s l m n o)
 (cnd (n19 (m49 i j b d e g).1 (m49 i j b d e g).2.1 (m49 i j b d e g).2.2.1 (m49 i j b d e g).2.2.2.1 (m49 i j b d e g).2.2.2.2.1 (m49 i j b d e g).2.2.2.2.2 (m49 i j b d e g).1 (m49 p s l m n o).2.1 (m49 p s l m n o).2.2.1 (m49 p s l m n o).2.2.2.1 (m49 p s l m n o).2.2.2.2.1 (m49 p s l m n o).2.2.2.2.2)
 (R (.bool (m19 (m49 i j b d e g).1 (m49 i j b d e g).2.1 (m49 i j b d e g).2.2.1 (m49 i j b d e g).2.2.2.1 (m49 i j b d e g).2.2.2.2.1 (m49 i j b d e g).2.2.2.2.2 (m49 i j b d e g).1 (m49 p s l m n o).2.1 (m49 p s l m n o).2.2.1 (m49 p s l m n o).2.2.2.1 (m49 p s l m n o).2.2.2.2.1 (m49 p s l m n o).2.2.2.2.2)) [] [])
    False)
   False)
  False)) (fun R => by kernel_rfl) (cn (al hn) (cn (al (ar hn)) (cn (al (ar (ar hn))) (lf rfl rfl))))⟩
/-! ### shotline/shotlineref02.FirstDiffer -/
noncomputable def l23_0 (J : Nat) (L : Dat) (M : Nat) (N : Dat) (i : ByteArray) (j : Int) (d : Nat) (b : Dat) (l : Nat) (m : Dat) (o : ByteArray) (p : Int) (n : Nat) (g : Dat) (t : Nat) (u : Dat) : Nat → Int → Option (Bool × (Int) × (Unit))
  | 0, _ => none
  | f + 1, v => (cond (n13 i j d b l m) (cond (n13 o p n g t u) (cond (decide (v ≤ (imax (m13 i j d b l m) (m13 o p n g t u)))) (cond (n13 i j d b l m) (cond (bif (bif (bif (decide ((m13 i j d b l m) < v)) then false else true) then false else true) then true else (n13 o p n g t u)) (cond (bif (decide ((m13 i j d b l m) < v)) then true else (decide ((m13 o p n g t u) < v))) (some (true, v, default)) (cond (n40 J L v) (cond (n40 M N v) (cond (bif (decide ((Z.wrap ((m40 J L v).1 * (m40 M N v).2)) = (Z.wrap ((m40 M N v).1 * (m40 J L v).2)))) then false else true) (some (true, v, default)) (cond (bif (bif (decide ((0 : Int) < v)) then false else true) then true else (n17 i j d b l m v)) (cond (bif (bif (decide ((0 : Int) < v)) then false else true) then true else (decide (0 ≤ m17 i j d b l m v ∧ m17 i j d b l m v < (↑d : Int)))) (cond (bif (bif (decide ((0 : Int) < v)) then false else true) then true else (n17 o p n g t u v)) (cond (bif (bif (decide ((0 : Int) < v)) then false else true) then true else (decide (0 ≤ m17 o p n g t u v ∧ m17 o p n g t u v < (↑n : Int)))) (cond (bif (decide ((0 : Int) < v)) then (bif (bif (decide ((b.ii ((m17 i j d b l m v).toNat) 0) = (g.ii ((m17 o p n g t u v).toNat) 0))) then (bif (decide ((b.ii ((m17 i j d b l m v).toNat) 1) = (g.ii ((m17 o p n g t u v).toNat) 1))) then true else false) else false) then false else true) else false) (some (true, v, default)) (l23_0 J L M N i j d b l m o p n g t u f (Z.wrap (v + 1)))) none) none) none) none)) none) none)) none) none) (some (false, default, ()))) none) none)
noncomputable abbrev o23_0 (J : Nat) (L : Dat) (M : Nat) (N : Dat) (i : ByteArray) (j : Int) (d : Nat) (b : Dat) (l : Nat) (m : Dat) (o : ByteArray) (p : Int) (n : Nat) (g : Dat) (t : Nat) (u : Dat) (v : Int) : Option (Bool × (Int) × (Unit)) := l23_0 J L M N i j d b l m o p n g t u ((m13 i j d b l m).toNat + (m13 o p n g t u).toNat + 8) v
noncomputable def e23_0 (J : Nat) (L : Dat) (M : Nat) (N : Dat) (i : ByteArray) (j : Int) (d : Nat) (b : Dat) (l : Nat) (m : Dat) (o : ByteArray) (p : Int) (n : Nat) (g : Dat) (t : Nat) (u : Dat) (r : Bool × (Int) × (Unit)) (K : XR) : Prop := cnd r.1 (K (XE.ret) [V Z r.2.1] [.cells 25 [.str i, V Z j, .ro [W Z, W Z] d b, .ro [W Z, W Z, W Z] l m], .cells 25 [.str o, V Z p, .ro [W Z, W Z] n g, .ro [W Z, W Z, W Z] t u]]) (K (XE.exit 0) [.any] [.cells 25 [.str i, V Z j, .ro [W Z, W Z] d b, .ro [W Z, W Z, W Z] l m], .cells 25 [.str o, V Z p, .ro [W Z, W Z] n g, .ro [W Z, W Z, W Z] t u]])
noncomputable def g23_0 : LSum := fun s k => match czv 0 76 [2, 3, 5, 6, 7] 2 [] s with
  | some ([.ptr 0 0, .ptr 1 0, .ro [W Z, W Z] J L, .ro [W Z, W Z] M N, V Z v], [.cells 25 [.str i, V Z j, .ro [W Z, W Z] d b, .ro [W Z, W Z, W Z] l m], .cells 25 [.str o, V Z p, .ro [W Z, W Z] n g, .ro [W Z, W Z, W Z] t u]]) => needs [(o23_0 J L M N i j d b l m o p n g t u v).isSome] (e23_0 J L M N i j d b l m o p n g t u ((o23_0 J L M N i j d b l m o p n g t u v).getD default) fun e vs bs => inBlk 0 k e (mkSt 0 76 [4] vs 2 bs))
  | _ => False
theorem z23_0 : LOk Tryz.prog g23_0 (.block 0 (bodyAt (Tryz.f23.body.getD .skip) 0)) := by
  refine lb (ι := Nat × Dat × Nat × Dat × Int × ByteArray × Int × Nat × Dat × Nat × Dat × ByteArray × Int × Nat × Dat × Nat × Dat) (fuel := 8) (na := 0) (nt := 76) (nx := 2) (Lh := [2, 3, 5, 6, 7]) (Le := [4]) (gl := []) (tc k13 (tc k16 (tc k17 (tc k40 tn)))) mix_ok noLam rfl (fun f (J, L, M, N, v, i, j, d, b, l, m, o, p, n, g, t, u) K => GG default (e23_0 J L M N i j d b l m o p n g t u) K (l23_0 J L M N i j d b l m o p n g t u f v)) (fun (J, L, M, N, v, i, j, d, b, l, m, o, p, n, g, t, u) => [.ptr 0 0, .ptr 1 0, .ro [W Z, W Z] J L, .ro [W Z, W Z] M N, V Z v]) (fun (J, L, M, N, v, i, j, d, b, l, m, o, p, n, g, t, u) => [.cells 25 [.str i, V Z j, .ro [W Z, W Z] d b, .ro [W Z, W Z, W Z] l m], .cells 25 [.str o, V Z p, .ro [W Z, W Z] n g, .ro [W Z, W Z, W Z] t u]]) (fun (_, _, _, _, _, _, _, _, _, _, _, _, _, _, _, _, _) K => gg_none) ?_ ?_
  · rintro f ⟨J, L, M, N, v, i, j, d, b, l, m, o, p, n, g, t, u⟩ K hG
    refine ro (fun R => (cnd (n13 i j d b l m)
 (cnd (n13 o p n g t u)
 (cnd (decide (v ≤ (imax (m13 i j d b l m) (m13 o p n g t u))))
 (cnd (n13 i j d b l m)
 (cnd (bif (bif (bif (decide ((m13 i j d b l m) < v)) then false else true) then false else true) then true else (n13 o p n g t u))
 (cnd (bif (decide ((m13 i j d b l m) < v)) then true else (decide ((m13 o p n g t u) < v)))
 (R (XE.ret) [V Z v] [.cells 25 [.str i, V Z j, .ro [W Z, W Z] d b, .ro [W Z, W Z, W Z] l m], .cells 25 [.str o, V Z p, .ro [W Z, W Z] n g, .ro [W Z, W Z, W Z] t u]])
 (cnd (n40 J L v)
 (cnd (n40 M N v)
 (cnd (bif (decide ((Z.wrap ((m40 J L v).1 * (m40 M N v).2)) = (Z.wrap ((m40 M N v).1 * (m40 J L v).2)))) then false else true)
 (R (XE.ret) [V Z v] [.cells 25 [.str i, V Z j, .ro [W Z, W Z] d b, .ro [W Z, W Z, W Z] l m], .cells 25 [.str o, V Z p, .ro [W Z, W Z] n g, .ro [W Z, W Z, W Z] t u]])
 (cnd (bif (bif (decide ((0 : Int) < v)) then false else true) then true else (n17 i j d b l m v))
 (cnd (bif (bif (decide ((0 : Int) < v)) then false else true) then true else (decide (0 ≤ m17 i j d b l m v ∧ m17 i j d b l m v < (↑d : Int))))
 (cnd (bif (bif (decide ((0 : Int) < v)) then false else true) then true else (n17 o p n g t u v))
 (cnd (bif (bif (decide ((0 : Int) < v)) then false else true) then true else (decide (0 ≤ m17 o p n g t u v ∧ m17 o p n g t u v < (↑n : Int))))
 (cnd (bif (decide ((0 : Int) < v)) then (bif (bif (decide ((b.ii ((m17 i j d b l m v).toNat) 0) = (g.ii ((m17 o p n g t u v).toNat) 0))) then (bif (decide ((b.ii ((m17 i j d b l m v).toNat) 1) = (g.ii ((m17 o p n g t u v).toNat) 1))) then true else false) else false) then false else true) else false)
 (R (XE.ret) [V Z v] [.cells 25 [.str i, V Z j, .ro [W Z, W Z] d b, .ro [W Z, W Z, W Z] l m], .cells 25 [.str o, V Z p, .ro [W Z, W Z] n g, .ro [W Z, W Z, W Z] t u]])
 (R (XE.normal) [.ptr 0 0, .ptr 1 0, .ro [W Z, W Z] J L, .ro [W Z, W Z] M N, V Z (Z.wrap (v + 1))] [.cells 25 [.str i, V Z j, .ro [W Z, W Z] d b, .ro [W Z, W Z, W Z] l m], .cells 25 [.str o, V Z p, .ro [W Z, W Z] n g, .ro [W Z, W Z, W Z] t u]]))
              False)
             False)
            False)
           False))
         False)
        False))
      False)
     False)
 (R (XE.exit 0) [.any] [.cells 25 [.str i, V Z j, .ro [W Z, W Z] d b, .ro [W Z, W Z, W Z] l m], .cells 25 [.str o, V Z p, .ro [W Z, W Z] n g, .ro [W Z, W Z, W Z] t u]]))
   False)
  False)) (fun R => by kernel_rfl) ?_
    exact cg hG fun h0 => cg h0 fun h1 => ch h1 (fun h2 => cg h2 fun h3 => cg h3 fun h4 => ch h4 (fun h5 => h5.2) (fun h5 => cg h5 fun h6 => cg h6 fun h7 => ch h7 (fun h8 => h8.2) (fun h8 => cg h8 fun h9 => cg h9 fun h10 => cg h10 fun h11 => cg h11 fun h12 => ch h12 (fun h13 => h13.2) (fun h13 => ⟨(_, _, _, _, _, _, _, _, _, _, _, _, _, _, _, _, _), rfl, rfl, h13⟩)))) (fun h2 => h2.2)
  · intro s k h
    unfold g23_0 at h
    split at h <;> try exact h.elim
    rename_i e1
    rw [needs_iff] at h
    exact ⟨_, e1, _, (_, _, _, _, _, _, _, _, _, _, _, _, _, _, _, _, _), rfl, rfl, h.1 _ (List.mem_singleton.2 rfl), h.2⟩
noncomputable def m23 (F : ByteArray) (G : Int) (w : Nat) (x : Dat) (y : Nat) (z : Dat) (H : ByteArray) (I : Int) (A : Nat) (C : Dat) (D : Nat) (E : Dat) : Int :=
  (cond ((o23_0 (m16 F G w x y z).1 (m16 F G w x y z).2 (m16 H I A C D E).1 (m16 H I A C D E).2 F G w x y z H I A C D E 0).getD default).1 ((o23_0 (m16 F G w x y z).1 (m16 F G w x y z).2 (m16 H I A C D E).1 (m16 H I A C D E).2 F G w x y z H I A C D E 0).getD default).2.1 (-1))
noncomputable def n23 (F : ByteArray) (G : Int) (w : Nat) (x : Dat) (y : Nat) (z : Dat) (H : ByteArray) (I : Int) (A : Nat) (C : Dat) (D : Nat) (E : Dat) : Bool :=
  ((n16 F G w x y z) && ((n16 H I A C D E) && (((o23_0 (m16 F G w x y z).1 (m16 F G w x y z).2 (m16 H I A C D E).1 (m16 H I A C D E).2 F G w x y z H I A C D E 0).isSome) && true)))
noncomputable def q23 (r : Int) : SV × List Blk × List Blk := (V Z r, [], [])
noncomputable def g23 : GF := fun vs bs => match vs, bs with
  | [.agg [.str F, V Z G, .ro [W Z, W Z] w x, .ro [W Z, W Z, W Z] y z], .agg [.str H, V Z I, .ro [W Z, W Z] A C, .ro [W Z, W Z, W Z] D E]], [] => some (rs 0 (q23 (m23 F G w x y z H I A C D E)) [n23 F G w x y z H I A C D E])
  | _, _ => none
noncomputable def c23 : Ctr := genC [.a [.k, .k, .ro [W Z, W Z], .ro [W Z, W Z, W Z]], .a [.k, .k, .ro [W Z, W Z], .ro [W Z, W Z, W Z]]] g23
theorem k23 : CtrOk Tryz.prog c23 23 := cx (tc k13 (tc k16 (tc k17 (tc k40 tn)))) mix_ok 8 (fn := Tryz.f23) (c := (Tryz.f23.body.getD .skip)) (grs := []) (rh := .k) Tryz.func23 rfl (by kernel_rfl) (lam_of rfl (lc z23_0 ln)) fun vs bs q h hn => by
  unfold g23 at h
  split at h <;> cases h
  rename_i F G w x y z H I A C D E
  have hn := n1 hn
  exact ⟨_, rfl, ca (fun R => (cnd (n16 F G w x y z)
 (cnd (n16 H I A C D E)
 (cnd ((o23_0 (m16 F G w x y z).1 (m16 F G w x y z).2 (m16 H I A C D E).1 (m16 H I A C D E).2 F G w x y z H I A C D E 0).isSome)
 (cnd ((o23_0 (m16 F G w x y z).1 (m16 F G w x y z).2 (m16 H I A C D E).1 (m16 H I A C D E).2 F G w x y z H I A C D E 0).getD default).1
 (R (V Z ((o23_0 (m16 F G w x y z).1 (m16 F G w x y z).2 (m16 H I A C D E).1 (m16 H I A C D E).2 F G w x y z H I A C D E 0).getD default).2.1) [] [])
 (R (V Z (-1)) [] []))
    False)
   False)
  False)) (fun R => by kernel_rfl) (cn (al hn) (cn (al (ar hn)) (cn (al (ar (ar hn))) (co (fun h0 => lf (cT h0 rfl) rfl) (fun h0 => lf (cF h0 rfl) rfl)))))⟩
end Go.Proofs.YtchhhoamnagbfaaGreatDoor
