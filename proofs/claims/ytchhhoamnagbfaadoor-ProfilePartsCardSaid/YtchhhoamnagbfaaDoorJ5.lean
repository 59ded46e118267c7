/-
  Contracts of functions: models, equations by the kernel, contracts. Conditions: none.
-/
import Derived.Test.YtchhhoamnagbfaaDoorJ4
import Derived.KernelRfl
namespace Go.Proofs.YtchhhoamnagbfaaDoor
open Go Go.Sy
set_option linter.unusedVariables false
set_option linter.unusedSimpArgs false
set_option maxRecDepth 100000
set_option maxHeartbeats 2000000
attribute [local irreducible] Go.IntKind.wrap Int.tdiv Int.tmod Int.fdiv
open Go.Sy renaming tabOk_cons → tc, tabOk_nil → tn, cnd_need → cn, leaf_of → lf, cnd_gg → cg, cnd_gg2 → ch, cond_f → cf, cond_t → ct, cnd_of → co, callOf → ca, roundOf → ro, cnd_not → nn, lams_cons → lc, lams_nil → ln, condT → cT, condF → cF, need1 → n1, resOf → rs, and_l → al, and_r → ar, or_gg → og, ctr_of → cx, loop_blk → lb
open Go.IntKind renaming i64 → Z
open Go.Sy.SV renaming int → V
open Go.Sy.Kd renaming int → W
noncomputable def bt30649_0 : ByteArray := { data := #[OfNat.ofNat 112, OfNat.ofNat 108, OfNat.ofNat 97, OfNat.ofNat 110, OfNat.ofNat 32, OfNat.ofNat 112, OfNat.ofNat 10, OfNat.ofNat 115, OfNat.ofNat 117, OfNat.ofNat 114, OfNat.ofNat 102, OfNat.ofNat 97, OfNat.ofNat 99, OfNat.ofNat 101, OfNat.ofNat 32, OfNat.ofNat 49, OfNat.ofNat 48, OfNat.ofNat 49, OfNat.ofNat 51, OfNat.ofNat 10, OfNat.ofNat 103, OfNat.ofNat 97, OfNat.ofNat 115, OfNat.ofNat 32, OfNat.ofNat 50, OfNat.ofNat 49, OfNat.ofNat 48, OfNat.ofNat 32, OfNat.ofNat 48, OfNat.ofNat 10, OfNat.ofNat 103, OfNat.ofNat 97, OfNat.ofNat 115, OfNat.ofNat 32, OfNat.ofNat 53, OfNat.ofNat 48, OfNat.ofNat 48, OfNat.ofNat 32, OfNat.ofNat 48, OfNat.ofNat 10, OfNat.ofNat 108, OfNat.ofNat 101, OfNat.ofNat 103, OfNat.ofNat 32, OfNat.ofNat 49, OfNat.ofNat 58, OfNat.ofNat 48, OfNat.ofNat 48, OfNat.ofNat 32, OfNat.ofNat 49, OfNat.ofNat 56, OfNat.ofNat 32, OfNat.ofNat 48, OfNat.ofNat 10, OfNat.ofNat 108, OfNat.ofNat 101, OfNat.ofNat 103, OfNat.ofNat 32, OfNat.ofNat 49, OfNat.ofNat 48, OfNat.ofNat 58, OfNat.ofNat 48, OfNat.ofNat 48, OfNat.ofNat 32, OfNat.ofNat 49, OfNat.ofNat 56, OfNat.ofNat 32, OfNat.ofNat 48, OfNat.ofNat 10, OfNat.ofNat 108, OfNat.ofNat 101, OfNat.ofNat 103, OfNat.ofNat 32, OfNat.ofNat 50, OfNat.ofNat 58, OfNat.ofNat 48, OfNat.ofNat 48, OfNat.ofNat 32, OfNat.ofNat 54, OfNat.ofNat 32, OfNat.ofNat 48, OfNat.ofNat 10, OfNat.ofNat 108, OfNat.ofNat 101, OfNat.ofNat 103, OfNat.ofNat 32, OfNat.ofNat 53, OfNat.ofNat 58, OfNat.ofNat 48, OfNat.ofNat 48, OfNat.ofNat 32, OfNat.ofNat 54, OfNat.ofNat 32, OfNat.ofNat 49, OfNat.ofNat 10] }
/-! ### shotline/profile.Print -/
noncomputable def l51_0 (E : Nat) (o : Dat) (J : Int) (w : ByteArray) (x : Int) (y : Dat) (H : Nat) (z A C D : Dat) : Nat → Int → Nat → Nat → Dat → Option (Nat × Nat × Dat)
  | 0, _, _, _, _ => none
  | f + 1, G, p, t, u => (cond (decide (G < J)) (cond (decide (0 ≤ G ∧ G < ↑E)) (cond (n88 (o.ii G.toNat 0)) (cond (n88 (o.ii G.toNat 1)) (cond (n85u 3 (datS [SV.str ({ data := #[OfNat.ofNat 103, OfNat.ofNat 97, OfNat.ofNat 115] } : ByteArray), SV.str (m88 (o.ii G.toNat 0)), SV.str (m88 (o.ii G.toNat 1))] 1) p t u) (l51_0 E o J w x y H z A C D f (Z.wrap (G + 1)) (m85u 3 (datS [SV.str ({ data := #[OfNat.ofNat 103, OfNat.ofNat 97, OfNat.ofNat 115] } : ByteArray), SV.str (m88 (o.ii G.toNat 0)), SV.str (m88 (o.ii G.toNat 1))] 1) p t u).1 (m85u 3 (datS [SV.str ({ data := #[OfNat.ofNat 103, OfNat.ofNat 97, OfNat.ofNat 115] } : ByteArray), SV.str (m88 (o.ii G.toNat 0)), SV.str (m88 (o.ii G.toNat 1))] 1) p t u).2.1 (m85u 3 (datS [SV.str ({ data := #[OfNat.ofNat 103, OfNat.ofNat 97, OfNat.ofNat 115] } : ByteArray), SV.str (m88 (o.ii G.toNat 0)), SV.str (m88 (o.ii G.toNat 1))] 1) p t u).2.2) none) none) none) none) (some (p, t, u)))
noncomputable abbrev o51_0 (E : Nat) (o : Dat) (J : Int) (w : ByteArray) (x : Int) (y : Dat) (H : Nat) (z A C D : Dat) (G : Int) (p t : Nat) (u : Dat) : Option (Nat × Nat × Dat) := l51_0 E o J w x y H z A C D (E + J.toNat + G.toNat + w.size + x.toNat + H + p + t + 8) G p t u
noncomputable def e51_0 (E : Nat) (o : Dat) (J : Int) (w : ByteArray) (x : Int) (y : Dat) (H : Nat) (z A C D : Dat) (r : Nat × Nat × Dat) (K : XR) : Prop := K (XE.exit 0) [.ptr 0 0, .ptr 2 0, .fn 85 [.ptr 2 0]] [.cells 41 [.str w, V Z x, .ro [W Z, W Z] E y, .ro [W Z, W Z, W Z] H z], .row 41 [.str, W Z, .sl [W Z, W Z], .sl [W Z, W Z, W Z]] 1 A, .cells 125 [.ptr 2 0, .gr 6 1 r.1], .row 9 [.str] 2 C, .unk, .row 9 [.str] 2 D, .row 5 [.int .u8] r.2.1 r.2.2]
noncomputable def g51_0 : LSum := fun s k => match czv 0 76 [1, 5, 6, 30, 31, 32] 7 [⟨false, 2, 1, 6, 5, [.int .u8]⟩] s with
  | some ([.ptr 0 0, .ptr 2 0, .fn 85 [.ptr 2 0], .ro [W Z, W Z] E o, V Z J, V Z G], [.cells 41 [.str w, V Z x, .ro [W Z, W Z] I y, .ro [W Z, W Z, W Z] H z], .row 41 [.str, W Z, .sl [W Z, W Z], .sl [W Z, W Z, W Z]] 1 A, .cells 125 [.ptr 2 0, .gr 6 1 p], .row 9 [.str] 2 C, .unk, .row 9 [.str] 2 D, .row 5 [.int .u8] t u]) => needs [decide (E = I), (o51_0 E o J w x y H z A C D G p t u).isSome] (e51_0 E o J w x y H z A C D ((o51_0 E o J w x y H z A C D G p t u).getD default) fun e vs bs => inBlk 0 k e (mkSt 0 76 [1, 5, 6] vs 7 bs))
  | _ => False
theorem z51_0 : LOk Tryd.prog g51_0 (.block 0 (bodyAt (Tryd.f51.body.getD .skip) 0)) := by
  refine lb (ι := Nat × Dat × Int × Int × ByteArray × Int × Dat × Nat × Dat × Dat × Nat × Dat × Dat × Nat × Dat) (fuel := 8) (na := 0) (nt := 76) (nx := 7) (Lh := [1, 5, 6, 30, 31, 32]) (Le := [1, 5, 6]) (gl := [⟨false, 2, 1, 6, 5, [.int .u8]⟩]) (tc k60 (tc k85 (tc k88 (tc k89 (tc k90 tn))))) mix_ok noLam rfl (fun f (E, o, J, G, w, x, y, H, z, A, p, C, D, t, u) K => GG default (e51_0 E o J w x y H z A C D) K (l51_0 E o J w x y H z A C D f G p t u)) (fun (E, o, J, G, w, x, y, H, z, A, p, C, D, t, u) => [.ptr 0 0, .ptr 2 0, .fn 85 [.ptr 2 0], .ro [W Z, W Z] E o, V Z J, V Z G]) (fun (E, o, J, G, w, x, y, H, z, A, p, C, D, t, u) => [.cells 41 [.str w, V Z x, .ro [W Z, W Z] E y, .ro [W Z, W Z, W Z] H z], .row 41 [.str, W Z, .sl [W Z, W Z], .sl [W Z, W Z, W Z]] 1 A, .cells 125 [.ptr 2 0, .gr 6 1 p], .row 9 [.str] 2 C, .unk, .row 9 [.str] 2 D, .row 5 [.int .u8] t u]) (fun (_, _, _, _, _, _, _, _, _, _, _, _, _, _, _) K => gg_none) ?_ ?_
  · rintro f ⟨E, o, J, G, w, x, y, H, z, A, p, C, D, t, u⟩ K hG
    refine ro (fun R => (cnd (decide (G < J))
 (cnd (decide (0 ≤ G ∧ G < ↑E))
 (cnd (n88 (o.ii G.toNat 0))
 (cnd (n88 (o.ii G.toNat 1))
 (cnd (n85u 3 (datS [SV.str ({ data := #[OfNat.ofNat 103, OfNat.ofNat 97, OfNat.ofNat 115] } : ByteArray), SV.str (m88 (o.ii G.toNat 0)), SV.str (m88 (o.ii G.toNat 1))] 1) p t u)
 (R (XE.normal) [.ptr 0 0, .ptr 2 0, .fn 85 [.ptr 2 0], .ro [W Z, W Z] E o, V Z J, V Z (Z.wrap (G + 1))] [.cells 41 [.str w, V Z x, .ro [W Z, W Z] E y, .ro [W Z, W Z, W Z] H z], .row 41 [.str, W Z, .sl [W Z, W Z], .sl [W Z, W Z, W Z]] 1 A, .cells 125 [.ptr 2 0, .gr 6 1 (m85u 3 (datS [SV.str ({ data := #[OfNat.ofNat 103, OfNat.ofNat 97, OfNat.ofNat 115] } : ByteArray), SV.str (m88 (o.ii G.toNat 0)), SV.str (m88 (o.ii G.toNat 1))] 1) p t u).1], .row 9 [.str] 2 C, .unk, .row 9 [.str] 2 D, .row 5 [.int .u8] (m85u 3 (datS [SV.str ({ data := #[OfNat.ofNat 103, OfNat.ofNat 97, OfNat.ofNat 115] } : ByteArray), SV.str (m88 (o.ii G.toNat 0)), SV.str (m88 (o.ii G.toNat 1))] 1) p t u).2.1 (m85u 3 (datS [SV.str ({ data := #[OfNat.ofNat 103, OfNat.ofNat 97, OfNat.ofNat 115] } : ByteArray), SV.str (m88 (o.ii G.toNat 0)), SV.str (m88 (o.ii G.toNat 1))] 1) p t u).2.2])
      False)
     False)
    False)
   False)
 (R (XE.exit 0) [.ptr 0 0, .ptr 2 0, .fn 85 [.ptr 2 0]] [.cells 41 [.str w, V Z x, .ro [W Z, W Z] E y, .ro [W Z, W Z, W Z] H z], .row 41 [.str, W Z, .sl [W Z, W Z], .sl [W Z, W Z, W Z]] 1 A, .cells 125 [.ptr 2 0, .gr 6 1 p], .row 9 [.str] 2 C, .unk, .row 9 [.str] 2 D, .row 5 [.int .u8] t u]))) (fun R => by kernel_rfl) ?_
    exact ch hG (fun h0 => cg h0 fun h1 => cg h1 fun h2 => cg h2 fun h3 => cg h3 fun h4 => ⟨(_, _, _, _, _, _, _, _, _, _, _, _, _, _, _), rfl, rfl, h4⟩) (fun h0 => h0.2)
  · intro s k h
    unfold g51_0 at h
    split at h <;> try exact h.elim
    rename_i e1
    rw [needs_iff] at h
    have hq := h.1
    simp only [List.mem_cons, forall_eq_or_imp, decide_eq_true_eq, List.not_mem_nil, false_imp_iff, implies_true, and_true] at hq
    obtain ⟨rfl, hq⟩ := hq
    exact ⟨_, e1, _, (_, _, _, _, _, _, _, _, _, _, _, _, _, _, _), rfl, rfl, hq, h.2⟩
noncomputable def l51_2 (F : Nat) (m : Dat) (L : Int) (w : ByteArray) (x : Int) (I : Nat) (y z A C D : Dat) : Nat → Int → Nat → Nat → Dat → Option (Nat × Nat × Dat)
  | 0, _, _, _, _ => none
  | f + 1, n, p, t, u => (cond (decide (n < L)) (cond (decide (0 ≤ n ∧ n < ↑F)) (cond (n88 (Z.wrap ((m.ii n.toNat 0).tdiv 60))) (cond (decide ((((m88 (Z.wrap ((m.ii n.toNat 0).tdiv 60))).size) + 1) ≤ 9223372036854775807)) (cond (n88 (Z.wrap (100 + ((m.ii n.toNat 0).tmod 60)))) (cond (decide ((0 : Int) ≤ (1 : Int) ∧ (1 : Int) ≤ (↑(m88 (Z.wrap ((100 : Int) + (m.ii n.toNat (0 : Nat)).tmod (60 : Int)))).size : Int) ∧ (↑(m88 (Z.wrap ((100 : Int) + (m.ii n.toNat (0 : Nat)).tmod (60 : Int)))).size : Int) ≤ (↑(m88 (Z.wrap ((100 : Int) + (m.ii n.toNat (0 : Nat)).tmod (60 : Int)))).size : Int))) (cond (decide (((((m88 (Z.wrap ((m.ii n.toNat 0).tdiv 60))) ++ ({ data := #[OfNat.ofNat 58] } : ByteArray)).size) + (((m88 (Z.wrap (100 + ((m.ii n.toNat 0).tmod 60)))).extract 1 ((↑((m88 (Z.wrap (100 + ((m.ii n.toNat 0).tmod 60)))).size) : Int).toNat)).size)) ≤ 9223372036854775807)) (cond (n89 (m.ii n.toNat 1)) (cond (n88 (m.ii n.toNat 2)) (cond (n85u 4 (datS [SV.str ({ data := #[OfNat.ofNat 108, OfNat.ofNat 101, OfNat.ofNat 103] } : ByteArray), SV.str (((m88 (Z.wrap ((m.ii n.toNat 0).tdiv 60))) ++ ({ data := #[OfNat.ofNat 58] } : ByteArray)) ++ ((m88 (Z.wrap (100 + ((m.ii n.toNat 0).tmod 60)))).extract 1 ((↑((m88 (Z.wrap (100 + ((m.ii n.toNat 0).tmod 60)))).size) : Int).toNat))), SV.str (m89 (m.ii n.toNat 1)), SV.str (m88 (m.ii n.toNat 2))] 1) p t u) (l51_2 F m L w x I y z A C D f (Z.wrap (n + 1)) (m85u 4 (datS [SV.str ({ data := #[OfNat.ofNat 108, OfNat.ofNat 101, OfNat.ofNat 103] } : ByteArray), SV.str (((m88 (Z.wrap ((m.ii n.toNat 0).tdiv 60))) ++ ({ data := #[OfNat.ofNat 58] } : ByteArray)) ++ ((m88 (Z.wrap (100 + ((m.ii n.toNat 0).tmod 60)))).extract 1 ((↑((m88 (Z.wrap (100 + ((m.ii n.toNat 0).tmod 60)))).size) : Int).toNat))), SV.str (m89 (m.ii n.toNat 1)), SV.str (m88 (m.ii n.toNat 2))] 1) p t u).1 (m85u 4 (datS [SV.str ({ data := #[OfNat.ofNat 108, OfNat.ofNat 101, OfNat.ofNat 103] } : ByteArray), SV.str (((m88 (Z.wrap ((m.ii n.toNat 0).tdiv 60))) ++ ({ data := #[OfNat.ofNat 58] } : ByteArray)) ++ ((m88 (Z.wrap (100 + ((m.ii n.toNat 0).tmod 60)))).extract 1 ((↑((m88 (Z.wrap (100 + ((m.ii n.toNat 0).tmod 60)))).size) : Int).toNat))), SV.str (m89 (m.ii n.toNat 1)), SV.str (m88 (m.ii n.toNat 2))] 1) p t u).2.1 (m85u 4 (datS [SV.str ({ data := #[OfNat.ofNat 108, OfNat.ofNat 101, OfNat.ofNat 103] } : ByteArray), SV.str (((m88 (Z.wrap ((m.ii n.toNat 0).tdiv 60))) ++ ({ data := #[OfNat.ofNat 58] } : ByteArray)) ++ ((m88 (Z.wrap (100 + ((m.ii n.toNat 0).tmod 60)))).extract 1 ((↑((m88 (Z.wrap (100 + ((m.ii n.toNat 0).tmod 60)))).size) : Int).toNat))), SV.str (m89 (m.ii n.toNat 1)), SV.str (m88 (m.ii n.toNat 2))] 1) p t u).2.2) none) none) none) none) none) none) none) none) none) (some (p, t, u)))
noncomputable abbrev o51_2 (F : Nat) (m : Dat) (L : Int) (w : ByteArray) (x : Int) (I : Nat) (y z A C D : Dat) (n : Int) (p t : Nat) (u : Dat) : Option (Nat × Nat × Dat) := l51_2 F m L w x I y z A C D (F + L.toNat + n.toNat + w.size + x.toNat + I + p + t + 8) n p t u
noncomputable def e51_2 (F : Nat) (m : Dat) (L : Int) (w : ByteArray) (x : Int) (I : Nat) (y z A C D : Dat) (r : Nat × Nat × Dat) (K : XR) : Prop := K (XE.exit 2) [.ptr 2 0] [.cells 41 [.str w, V Z x, .ro [W Z, W Z] I y, .ro [W Z, W Z, W Z] F z], .row 41 [.str, W Z, .sl [W Z, W Z], .sl [W Z, W Z, W Z]] 1 A, .cells 125 [.ptr 2 0, .gr 6 1 r.1], .row 9 [.str] 2 C, .unk, .row 9 [.str] 2 D, .row 5 [.int .u8] r.2.1 r.2.2]
noncomputable def g51_2 : LSum := fun s k => match czv 0 76 [5, 6, 47, 48, 49] 7 [⟨false, 2, 1, 6, 5, [.int .u8]⟩] s with
  | some ([.ptr 2 0, .fn 85 [.ptr 2 0], .ro [W Z, W Z, W Z] F m, V Z L, V Z n], [.cells 41 [.str w, V Z x, .ro [W Z, W Z] I y, .ro [W Z, W Z, W Z] H z], .row 41 [.str, W Z, .sl [W Z, W Z], .sl [W Z, W Z, W Z]] 1 A, .cells 125 [.ptr 2 0, .gr 6 1 p], .row 9 [.str] 2 C, .unk, .row 9 [.str] 2 D, .row 5 [.int .u8] t u]) => needs [decide (F = H), (o51_2 F m L w x I y z A C D n p t u).isSome] (e51_2 F m L w x I y z A C D ((o51_2 F m L w x I y z A C D n p t u).getD default) fun e vs bs => inBlk 2 k e (mkSt 0 76 [5] vs 7 bs))
  | _ => False
theorem z51_2 : LOk Tryd.prog g51_2 (.block 2 (bodyAt (Tryd.f51.body.getD .skip) 2)) := by
  refine lb (ι := Nat × Dat × Int × Int × ByteArray × Int × Nat × Dat × Dat × Dat × Nat × Dat × Dat × Nat × Dat) (fuel := 8) (na := 0) (nt := 76) (nx := 7) (Lh := [5, 6, 47, 48, 49]) (Le := [5]) (gl := [⟨false, 2, 1, 6, 5, [.int .u8]⟩]) (tc k60 (tc k85 (tc k88 (tc k89 (tc k90 tn))))) mix_ok (lam_of rfl (lc z51_0 ln)) rfl (fun f (F, m, L, n, w, x, I, y, z, A, p, C, D, t, u) K => GG default (e51_2 F m L w x I y z A C D) K (l51_2 F m L w x I y z A C D f n p t u)) (fun (F, m, L, n, w, x, I, y, z, A, p, C, D, t, u) => [.ptr 2 0, .fn 85 [.ptr 2 0], .ro [W Z, W Z, W Z] F m, V Z L, V Z n]) (fun (F, m, L, n, w, x, I, y, z, A, p, C, D, t, u) => [.cells 41 [.str w, V Z x, .ro [W Z, W Z] I y, .ro [W Z, W Z, W Z] F z], .row 41 [.str, W Z, .sl [W Z, W Z], .sl [W Z, W Z, W Z]] 1 A, .cells 125 [.ptr 2 0, .gr 6 1 p], .row 9 [.str] 2 C, .unk, .row 9 [.str] 2 D, .row 5 [.int .u8] t u]) (fun (_, _, _, _, _, _, _, _, _, _, _, _, _, _, _) K => gg_none) ?_ ?_
  · rintro f ⟨F, m, L, n, w, x, I, y, z, A, p, C, D, t, u⟩ K hG
    refine ro (fun R => (cnd (decide (n < L))
 (cnd (decide (0 ≤ n ∧ n < ↑F))
 (cnd (n88 (Z.wrap ((m.ii n.toNat 0).tdiv 60)))
 (cnd (decide ((((m88 (Z.wrap ((m.ii n.toNat 0).tdiv 60))).size) + 1) ≤ 9223372036854775807))
 (cnd (n88 (Z.wrap (100 + ((m.ii n.toNat 0).tmod 60))))
 (cnd (decide ((0 : Int) ≤ (1 : Int) ∧ (1 : Int) ≤ (↑(m88 (Z.wrap ((100 : Int) + (m.ii n.toNat (0 : Nat)).tmod (60 : Int)))).size : Int) ∧ (↑(m88 (Z.wrap ((100 : Int) + (m.ii n.toNat (0 : Nat)).tmod (60 : Int)))).size : Int) ≤ (↑(m88 (Z.wrap ((100 : Int) + (m.ii n.toNat (0 : Nat)).tmod (60 : Int)))).size : Int)))
 (cnd (decide (((((m88 (Z.wrap ((m.ii n.toNat 0).tdiv 60))) ++ ({ data := #[OfNat.ofNat 58] } : ByteArray)).size) + (((m88 (Z.wrap (100 + ((m.ii n.toNat 0).tmod 60)))).extract 1 ((↑((m88 (Z.wrap (100 + ((m.ii n.toNat 0).tmod 60)))).size) : Int).toNat)).size)) ≤ 9223372036854775807))
 (cnd (n89 (m.ii n.toNat 1))
 (cnd (n88 (m.ii n.toNat 2))
 (cnd (n85u 4 (datS [SV.str ({ data := #[OfNat.ofNat 108, OfNat.ofNat 101, OfNat.ofNat 103] } : ByteArray), SV.str (((m88 (Z.wrap ((m.ii n.toNat 0).tdiv 60))) ++ ({ data := #[OfNat.ofNat 58] } : ByteArray)) ++ ((m88 (Z.wrap (100 + ((m.ii n.toNat 0).tmod 60)))).extract 1 ((↑((m88 (Z.wrap (100 + ((m.ii n.toNat 0).tmod 60)))).size) : Int).toNat))), SV.str (m89 (m.ii n.toNat 1)), SV.str (m88 (m.ii n.toNat 2))] 1) p t u)
 (R (XE.normal) [.ptr 2 0, .fn 85 [.ptr 2 0], .ro [W Z, W Z, W Z] F m, V Z L, V Z (Z.wrap (n + 1))] [.cells 41 [.str w, V Z x, .ro [W Z, W Z] I y, .ro [W Z, W Z, W Z] F z], .row 41 [.str, W Z, .sl [W Z, W Z], .sl [W Z, W Z, W Z]] 1 A, .cells 125 [.ptr 2 0, .gr 6 1 (m85u 4 (datS [SV.str ({ data := #[OfNat.ofNat 108, OfNat.ofNat 101, OfNat.ofNat 103] } : ByteArray), SV.str (((m88 (Z.wrap ((m.ii n.toNat 0).tdiv 60))) ++ ({ data := #[OfNat.ofNat 58] } : ByteArray)) ++ ((m88 (Z.wrap (100 + ((m.ii n.toNat 0).tmod 60)))).extract 1 ((↑((m88 (Z.wrap (100 + ((m.ii n.toNat 0).tmod 60)))).size) : Int).toNat))), SV.str (m89 (m.ii n.toNat 1)), SV.str (m88 (m.ii n.toNat 2))] 1) p t u).1], .row 9 [.str] 2 C, .unk, .row 9 [.str] 2 D, .row 5 [.int .u8] (m85u 4 (datS [SV.str ({ data := #[OfNat.ofNat 108, OfNat.ofNat 101, OfNat.ofNat 103] } : ByteArray), SV.str (((m88 (Z.wrap ((m.ii n.toNat 0).tdiv 60))) ++ ({ data := #[OfNat.ofNat 58] } : ByteArray)) ++ ((m88 (Z.wrap (100 + ((m.ii n.toNat 0).tmod 60)))).extract 1 ((↑((m88 (Z.wrap (100 + ((m.ii n.toNat 0).tmod 60)))).size) : Int).toNat))), SV.str (m89 (m.ii n.toNat 1)), SV.str (m88 (m.ii n.toNat 2))] 1) p t u).2.1 (m85u 4 (datS [SV.str ({ data := #[OfNat.ofNat 108, OfNat.ofNat 101, OfNat.ofNat 103] } : ByteArray), SV.str (((m88 (Z.wrap ((m.ii n.toNat 0).tdiv 60))) ++ ({ data := #[OfNat.ofNat 58] } : ByteArray)) ++ ((m88 (Z.wrap (100 + ((m.ii n.toNat 0).tmod 60)))).extract 1 ((↑((m88 (Z.wrap (100 + ((m.ii n.toNat 0).tmod 60)))).size) : Int).toNat))), SV.str (m89 (m.ii n.toNat 1)), SV.str (m88 (m.ii n.toNat 2))] 1) p t u).2.2])
           False)
          False)
         False)
        False)
       False)
      False)
     False)
    False)
   False)
 (R (XE.exit 2) [.ptr 2 0] [.cells 41 [.str w, V Z x, .ro [W Z, W Z] I y, .ro [W Z, W Z, W Z] F z], .row 41 [.str, W Z, .sl [W Z, W Z], .sl [W Z, W Z, W Z]] 1 A, .cells 125 [.ptr 2 0, .gr 6 1 p], .row 9 [.str] 2 C, .unk, .row 9 [.str] 2 D, .row 5 [.int .u8] t u]))) (fun R => by kernel_rfl) ?_
    exact ch hG (fun h0 => cg h0 fun h1 => cg h1 fun h2 => cg h2 fun h3 => cg h3 fun h4 => cg h4 fun h5 => cg h5 fun h6 => cg h6 fun h7 => cg h7 fun h8 => cg h8 fun h9 => ⟨(_, _, _, _, _, _, _, _, _, _, _, _, _, _, _), rfl, rfl, h9⟩) (fun h0 => h0.2)
  · intro s k h
    unfold g51_2 at h
    split at h <;> try exact h.elim
    rename_i e1
    rw [needs_iff] at h
    have hq := h.1
    simp only [List.mem_cons, forall_eq_or_imp, decide_eq_true_eq, List.not_mem_nil, false_imp_iff, implies_true, and_true] at hq
    obtain ⟨rfl, hq⟩ := hq
    exact ⟨_, e1, _, (_, _, _, _, _, _, _, _, _, _, _, _, _, _, _), rfl, rfl, hq, h.2⟩
noncomputable def t51_0 (l : ByteArray) (j : Int) (d : Nat) (i : Dat) (b : Nat) (g : Dat) : Dat := datS [SV.str l, V Z j, SV.ro [Kd.int Z, Kd.int Z] d i, SV.ro [Kd.int Z, Kd.int Z, Kd.int Z] b g] 4
noncomputable def t51_1 (l : ByteArray) (j : Int) (d : Nat) (i : Dat) (b : Nat) (g : Dat) : Dat := datS [SV.str ({ data := #[OfNat.ofNat 112, OfNat.ofNat 108, OfNat.ofNat 97, OfNat.ofNat 110] } : ByteArray), SV.str l] 1
noncomputable def t51_2 (l : ByteArray) (j : Int) (d : Nat) (i : Dat) (b : Nat) (g : Dat) : Dat := datS [SV.str ({ data := #[OfNat.ofNat 115, OfNat.ofNat 117, OfNat.ofNat 114, OfNat.ofNat 102, OfNat.ofNat 97, OfNat.ofNat 99, OfNat.ofNat 101] } : ByteArray), SV.str (m88 j)] 1
noncomputable def t51_3 (l : ByteArray) (j : Int) (d : Nat) (i : Dat) (b : Nat) (g : Dat) : Nat := (m85f 2 (t51_1 l j d i b g) 0 0 noDat).2.1
noncomputable def t51_4 (l : ByteArray) (j : Int) (d : Nat) (i : Dat) (b : Nat) (g : Dat) : Dat := (m85f 2 (t51_1 l j d i b g) 0 0 noDat).2.2
noncomputable def t51_5 (l : ByteArray) (j : Int) (d : Nat) (i : Dat) (b : Nat) (g : Dat) : Nat := (m85u 2 (t51_2 l j d i b g) (m85f 2 (t51_1 l j d i b g) 0 0 noDat).1 (t51_3 l j d i b g) (t51_4 l j d i b g)).1
noncomputable def t51_6 (l : ByteArray) (j : Int) (d : Nat) (i : Dat) (b : Nat) (g : Dat) : Nat := (m85u 2 (t51_2 l j d i b g) (m85f 2 (t51_1 l j d i b g) 0 0 noDat).1 (t51_3 l j d i b g) (t51_4 l j d i b g)).2.1
noncomputable def t51_7 (l : ByteArray) (j : Int) (d : Nat) (i : Dat) (b : Nat) (g : Dat) : Dat := (m85u 2 (t51_2 l j d i b g) (m85f 2 (t51_1 l j d i b g) 0 0 noDat).1 (t51_3 l j d i b g) (t51_4 l j d i b g)).2.2
noncomputable def t51_8 (l : ByteArray) (j : Int) (d : Nat) (i : Dat) (b : Nat) (g : Dat) : Nat := ((o51_0 d i (↑d : Int) l j i b g (t51_0 l j d i b g) (t51_1 l j d i b g) (t51_2 l j d i b g) 0 (t51_5 l j d i b g) (t51_6 l j d i b g) (t51_7 l j d i b g)).getD default).1
noncomputable def t51_9 (l : ByteArray) (j : Int) (d : Nat) (i : Dat) (b : Nat) (g : Dat) : Nat := ((o51_0 d i (↑d : Int) l j i b g (t51_0 l j d i b g) (t51_1 l j d i b g) (t51_2 l j d i b g) 0 (t51_5 l j d i b g) (t51_6 l j d i b g) (t51_7 l j d i b g)).getD default).2.1
noncomputable def t51_10 (l : ByteArray) (j : Int) (d : Nat) (i : Dat) (b : Nat) (g : Dat) : Dat := ((o51_0 d i (↑d : Int) l j i b g (t51_0 l j d i b g) (t51_1 l j d i b g) (t51_2 l j d i b g) 0 (t51_5 l j d i b g) (t51_6 l j d i b g) (t51_7 l j d i b g)).getD default).2.2
noncomputable def t51_11 (l : ByteArray) (j : Int) (d : Nat) (i : Dat) (b : Nat) (g : Dat) : Nat := ((o51_2 b g (↑b : Int) l j d i g (t51_0 l j d i b g) (t51_1 l j d i b g) (t51_2 l j d i b g) 0 (t51_8 l j d i b g) (t51_9 l j d i b g) (t51_10 l j d i b g)).getD default).1
noncomputable def t51_12 (l : ByteArray) (j : Int) (d : Nat) (i : Dat) (b : Nat) (g : Dat) : Dat := ((o51_2 b g (↑b : Int) l j d i g (t51_0 l j d i b g) (t51_1 l j d i b g) (t51_2 l j d i b g) 0 (t51_8 l j d i b g) (t51_9 l j d i b g) (t51_10 l j d i b g)).getD default).2.2
noncomputable def U51 (l : ByteArray) (j : Int) (d : Nat) (i : Dat) (b : Nat) (g z0 z1 z2 : Dat) (z3 : Nat) (z4 : Dat) (z5 z6 : Nat) (z7 : Dat) (z8 z9 : Nat) (z10 : Dat) (z11 : Nat) (z12 : Dat) (R : SV → List Blk → List Blk → Prop) : Prop :=
 (cnd (n60 1 z0)
 (cnd (bif (decide ((m60 1 z0) = 0)) then false else true)
 (R (.tup [.str ({ data := #[] } : ByteArray), V Z (m60 1 z0)]) [] [])
 (cnd (n85f 2 z1 0 0 noDat)
 (cnd (n88 j)
 (cnd (n85u 2 z2 (m85f 2 z1 0 0 noDat).1 z3 z4)
 (cnd (decide (d = d))
 (cnd ((o51_0 d i (↑d : Int) l j i b g z0 z1 z2 0 z5 z6 z7).isSome)
 (cnd (decide (b = b))
 (cnd ((o51_2 b g (↑b : Int) l j d i g z0 z1 z2 0 z8 z9 z10).isSome)
 (cnd (n90 z11 ((o51_2 b g (↑b : Int) l j d i g z0 z1 z2 0 z8 z9 z10).getD default).2.1 z12)
 (R (.tup [.str (m90 z11 z12), V Z 0]) [] [])
           False)
          False)
         False)
        False)
       False)
      False)
     False)
    False))
  False)
noncomputable def w51 (l : ByteArray) (j : Int) (d : Nat) (i : Dat) (b : Nat) (g z0 z1 z2 : Dat) (z3 : Nat) (z4 : Dat) (z5 z6 : Nat) (z7 : Dat) (z8 z9 : Nat) (z10 : Dat) (z11 : Nat) (z12 : Dat) : ByteArray × Int :=
  (cond (bif (decide ((m60 1 z0) = 0)) then false else true) (({ data := #[] } : ByteArray), (m60 1 z0)) ((m90 z11 z12), 0))
noncomputable def v51 (l : ByteArray) (j : Int) (d : Nat) (i : Dat) (b : Nat) (g z0 z1 z2 : Dat) (z3 : Nat) (z4 : Dat) (z5 z6 : Nat) (z7 : Dat) (z8 z9 : Nat) (z10 : Dat) (z11 : Nat) (z12 : Dat) : Bool :=
  ((n60 1 z0) && (cond (bif (decide ((m60 1 z0) = 0)) then false else true) true ((n85f 2 z1 0 0 noDat) && ((n88 j) && ((n85u 2 z2 (m85f 2 z1 0 0 noDat).1 z3 z4) && (((o51_0 d i (↑d : Int) l j i b g z0 z1 z2 0 z5 z6 z7).isSome) && (((o51_2 b g (↑b : Int) l j d i g z0 z1 z2 0 z8 z9 z10).isSome) && ((n90 z11 ((o51_2 b g (↑b : Int) l j d i g z0 z1 z2 0 z8 z9 z10).getD default).2.1 z12) && true))))))))
noncomputable def m51 (l : ByteArray) (j : Int) (d : Nat) (i : Dat) (b : Nat) (g : Dat) : ByteArray × Int := w51 l j d i b g (t51_0 l j d i b g) (t51_1 l j d i b g) (t51_2 l j d i b g) (t51_3 l j d i b g) (t51_4 l j d i b g) (t51_5 l j d i b g) (t51_6 l j d i b g) (t51_7 l j d i b g) (t51_8 l j d i b g) (t51_9 l j d i b g) (t51_10 l j d i b g) (t51_11 l j d i b g) (t51_12 l j d i b g)
noncomputable def n51 (l : ByteArray) (j : Int) (d : Nat) (i : Dat) (b : Nat) (g : Dat) : Bool := v51 l j d i b g (t51_0 l j d i b g) (t51_1 l j d i b g) (t51_2 l j d i b g) (t51_3 l j d i b g) (t51_4 l j d i b g) (t51_5 l j d i b g) (t51_6 l j d i b g) (t51_7 l j d i b g) (t51_8 l j d i b g) (t51_9 l j d i b g) (t51_10 l j d i b g) (t51_11 l j d i b g) (t51_12 l j d i b g)
noncomputable def q51 (r : ByteArray × Int) : SV × List Blk × List Blk := (.tup [.str r.1, V Z r.2], [], [])
noncomputable def g51 : GF := fun vs bs => match vs, bs with
  | [.agg [.str l, V Z j, .ro [W Z, W Z] d i, .ro [W Z, W Z, W Z] b g]], [] => some (rs 0 (q51 (m51 l j d i b g)) [n51 l j d i b g])
  | _, _ => none
noncomputable def c51 : Ctr := genC [.a [.k, .k, .ro [W Z, W Z], .ro [W Z, W Z, W Z]]] g51
theorem u51 (l : ByteArray) (j : Int) (d : Nat) (i : Dat) (b : Nat) (g z0 z1 z2 : Dat) (z3 : Nat) (z4 : Dat) (z5 z6 : Nat) (z7 : Dat) (z8 z9 : Nat) (z10 : Dat) (z11 : Nat) (z12 : Dat) (hn : v51 l j d i b g z0 z1 z2 z3 z4 z5 z6 z7 z8 z9 z10 z11 z12 = true) : U51 l j d i b g z0 z1 z2 z3 z4 z5 z6 z7 z8 z9 z10 z11 z12 (fun v U N => (v, U, N) = q51 (w51 l j d i b g z0 z1 z2 z3 z4 z5 z6 z7 z8 z9 z10 z11 z12)) :=
  cn (al hn) (co (fun h0 => lf (cT h0 rfl) rfl) (fun h0 => cn (al (cf h0 (ar hn))) (cn (al (ar (cf h0 (ar hn)))) (cn (al (ar (ar (cf h0 (ar hn))))) (cn (decide_eq_true rfl) (cn (al (ar (ar (ar (cf h0 (ar hn)))))) (cn (decide_eq_true rfl) (cn (al (ar (ar (ar (ar (cf h0 (ar hn))))))) (cn (al (ar (ar (ar (ar (ar (cf h0 (ar hn)))))))) (lf (cF h0 rfl) rfl))))))))))
theorem k51 : CtrOk Tryd.prog c51 51 := cx (tc k60 (tc k85 (tc k88 (tc k89 (tc k90 tn))))) mix_ok 8 (fn := Tryd.f51) (c := (Tryd.f51.body.getD .skip)) (grs := []) (rh := .k) Tryd.func51 rfl (by kernel_rfl) (lam_of rfl (lc z51_0 (lc z51_2 ln))) fun vs bs q h hn => by
  unfold g51 at h
  split at h <;> cases h
  rename_i l j d i b g
  have hn := n1 hn
  exact ⟨_, rfl, ca (fun R => U51 l j d i b g (t51_0 l j d i b g) (t51_1 l j d i b g) (t51_2 l j d i b g) (t51_3 l j d i b g) (t51_4 l j d i b g) (t51_5 l j d i b g) (t51_6 l j d i b g) (t51_7 l j d i b g) (t51_8 l j d i b g) (t51_9 l j d i b g) (t51_10 l j d i b g) (t51_11 l j d i b g) (t51_12 l j d i b g) R) (fun R => by kernel_rfl) (u51 l j d i b g (t51_0 l j d i b g) (t51_1 l j d i b g) (t51_2 l j d i b g) (t51_3 l j d i b g) (t51_4 l j d i b g) (t51_5 l j d i b g) (t51_6 l j d i b g) (t51_7 l j d i b g) (t51_8 l j d i b g) (t51_9 l j d i b g) (t51_10 l j d i b g) (t51_11 l j d i b g) (t51_12 l j d i b g) hn)⟩
/-! ### shotline/shotlinelaw02.awake -/
noncomputable def m10  : Bool :=
  (bif (bif (bif (bif (bif (bif (bif (bif (bif (decide ((m21 m47.1 m47.2.1 2 m47.2.2.1 4 m47.2.2.2).2 = 0)) then (decide ((m21 m47.1 m47.2.1 2 m47.2.2.1 4 m47.2.2.2).1 = 1080)) else false) then (decide ((m48 m47.1 m47.2.1 2 m47.2.2.1 4 m47.2.2.2 701).2.2 = 0)) else false) then (bif (decide ((m48 m47.1 m47.2.1 2 m47.2.2.1 4 m47.2.2.2 701).1 = 1390)) then (bif (decide ((m48 m47.1 m47.2.1 2 m47.2.2.1 4 m47.2.2.2 701).2.1 = 1390)) then true else false) else false) else false) then (decide ((m23 m47.1 m47.2.1 2 m47.2.2.1 4 m47.2.2.2).2.2 = 0)) else false) then (bif (decide ((m23 m47.1 m47.2.1 2 m47.2.2.1 4 m47.2.2.2).1 = 1350)) then (bif (decide ((m23 m47.1 m47.2.1 2 m47.2.2.1 4 m47.2.2.2).2.1 = 1350)) then true else false) else false) else false) then (decide ((m49 4 m50 9 4 (datS [V Z 0, V Z 1, V Z 1, V Z 2] 1)).2 = 0)) else false) then (decide ((m49 4 m50 9 4 (datS [V Z 0, V Z 1, V Z 1, V Z 2] 1)).1 = 3)) else false) then (decide ((m51 m47.1 m47.2.1 2 m47.2.2.1 4 m47.2.2.2).2 = 0)) else false) then (decide ((m51 m47.1 m47.2.1 2 m47.2.2.1 4 m47.2.2.2).1 = (bt30649_0))) else false)
noncomputable def n10  : Bool :=
  ((n21 m47.1 m47.2.1 2 m47.2.2.1 4 m47.2.2.2) && ((n48 m47.1 m47.2.1 2 m47.2.2.1 4 m47.2.2.2 701) && ((n23 m47.1 m47.2.1 2 m47.2.2.1 4 m47.2.2.2) && ((n49 4 m50 9 4 (datS [V Z 0, V Z 1, V Z 1, V Z 2] 1)) && ((n51 m47.1 m47.2.1 2 m47.2.2.1 4 m47.2.2.2) && true)))))
noncomputable def q10 (r : Bool) : SV × List Blk × List Blk := (.bool r, [], [])
noncomputable def g10 : GF := fun vs bs => match vs, bs with
  | [], [] => some (rs 0 (q10 (m10)) [n10 ])
  | _, _ => none
noncomputable def c10 : Ctr := genC [] g10
theorem k10 : CtrOk Tryd.prog c10 10 := cx (tc k21 (tc k23 (tc k47 (tc k48 (tc k49 (tc k50 (tc k51 tn))))))) mix_ok 8 (fn := Tryd.f10) (c := (Tryd.f10.body.getD .skip)) (grs := []) (rh := .k) Tryd.func10 rfl (by kernel_rfl) noLam fun vs bs q h hn => by
  unfold g10 at h
  split at h <;> cases h
  have hn := n1 hn
  exact ⟨_, rfl, ca (fun R => (cnd (n21 m47.1 m47.2.1 2 m47.2.2.1 4 m47.2.2.2)
 (cnd (n48 m47.1 m47.2.1 2 m47.2.2.1 4 m47.2.2.2 701)
 (cnd (n23 m47.1 m47.2.1 2 m47.2.2.1 4 m47.2.2.2)
 (cnd (n49 4 m50 9 4 (datS [V Z 0, V Z 1, V Z 1, V Z 2] 1))
 (cnd (n51 m47.1 m47.2.1 2 m47.2.2.1 4 m47.2.2.2)
 (R (.bool (bif (bif (bif (bif (bif (bif (bif (bif (bif (decide ((m21 m47.1 m47.2.1 2 m47.2.2.1 4 m47.2.2.2).2 = 0)) then (decide ((m21 m47.1 m47.2.1 2 m47.2.2.1 4 m47.2.2.2).1 = 1080)) else false) then (decide ((m48 m47.1 m47.2.1 2 m47.2.2.1 4 m47.2.2.2 701).2.2 = 0)) else false) then (bif (decide ((m48 m47.1 m47.2.1 2 m47.2.2.1 4 m47.2.2.2 701).1 = 1390)) then (bif (decide ((m48 m47.1 m47.2.1 2 m47.2.2.1 4 m47.2.2.2 701).2.1 = 1390)) then true else false) else false) else false) then (decide ((m23 m47.1 m47.2.1 2 m47.2.2.1 4 m47.2.2.2).2.2 = 0)) else false) then (bif (decide ((m23 m47.1 m47.2.1 2 m47.2.2.1 4 m47.2.2.2).1 = 1350)) then (bif (decide ((m23 m47.1 m47.2.1 2 m47.2.2.1 4 m47.2.2.2).2.1 = 1350)) then true else false) else false) else false) then (decide ((m49 4 m50 9 4 (datS [V Z 0, V Z 1, V Z 1, V Z 2] 1)).2 = 0)) else false) then (decide ((m49 4 m50 9 4 (datS [V Z 0, V Z 1, V Z 1, V Z 2] 1)).1 = 3)) else false) then (decide ((m51 m47.1 m47.2.1 2 m47.2.2.1 4 m47.2.2.2).2 = 0)) else false) then (decide ((m51 m47.1 m47.2.1 2 m47.2.2.1 4 m47.2.2.2).1 = (bt30649_0))) else false)) [] [])
      False)
     False)
    False)
   False)
  False)) (fun R => by kernel_rfl) (cn (al hn) (cn (al (ar hn)) (cn (al (ar (ar hn))) (cn (al (ar (ar (ar hn)))) (cn (al (ar (ar (ar (ar hn))))) (lf rfl rfl))))))⟩
/-! ### shotline/shotlinelaw02.ProfileParts -/
noncomputable def l8_0 (I : Int) (t : ByteArray) (u : Int) (w : Nat) (C : Dat) (p : Nat) (n : Dat) (x : ByteArray) (y : Int) (z : Nat) (D : Dat) (A : Nat) (E : Dat) : Nat → Nat → Int → Int → Dat → Option (Nat × Nat × Dat)
  | 0, _, _, _, _ => none
  | f + 1, H, G, o, F => (cond (decide (o < (↑p : Int))) (cond (decide (0 ≤ o ∧ o < ↑p)) (cond (decide (I < (Z.wrap (G + (n.ii o.toNat 0))))) (cond (decide (0 ≤ o ∧ o < ↑p)) (cond (decide ((H + 1) ≤ 1073741824)) (l8_0 I t u w C p n x y z D A E f (H + 1) (Z.wrap (G + (n.ii o.toNat 0))) (Z.wrap (o + 1)) (F.app H (datS [V Z (imin (n.ii o.toNat 0) (Z.wrap ((Z.wrap (G + (n.ii o.toNat 0))) - I))), V Z (n.ii o.toNat 1), V Z (n.ii o.toNat 2)] 3))) none) none) (l8_0 I t u w C p n x y z D A E f H (Z.wrap (G + (n.ii o.toNat 0))) (Z.wrap (o + 1)) F)) none) (some (H, H, F)))
noncomputable abbrev o8_0 (I : Int) (t : ByteArray) (u : Int) (w : Nat) (C : Dat) (p : Nat) (n : Dat) (x : ByteArray) (y : Int) (z : Nat) (D : Dat) (A : Nat) (E : Dat) (H : Nat) (G o : Int) (F : Dat) : Option (Nat × Nat × Dat) := l8_0 I t u w C p n x y z D A E (I.toNat + H + G.toNat + o.toNat + t.size + u.toNat + w + p + x.size + y.toNat + z + A + 8) H G o F
noncomputable def e8_0 (I : Int) (t : ByteArray) (u : Int) (w : Nat) (C : Dat) (p : Nat) (n : Dat) (x : ByteArray) (y : Int) (z : Nat) (D : Dat) (A : Nat) (E : Dat) (r : Nat × Nat × Dat) (K : XR) : Prop := K (XE.exit 0) [.ptr 0 0, .ptr 1 0, .gr 2 3 r.1] [.cells 41 [.str t, V Z u, .ro [W Z, W Z] w C, .ro [W Z, W Z, W Z] p n], .cells 41 [.str x, V Z y, .ro [W Z, W Z] z D, .ro [W Z, W Z, W Z] A E], .row 74 [W Z, W Z, W Z] r.2.1 r.2.2]
noncomputable def g8_0 : LSum := fun s k => match czv 0 117 [1, 2, 5, 9, 10, 11] 3 [⟨true, 9, 0, 2, 74, [W Z, W Z, W Z]⟩] s with
  | some ([V Z I, .ptr 0 0, .ptr 1 0, .gr 2 3 H, V Z G, V Z o], [.cells 41 [.str t, V Z u, .ro [W Z, W Z] w C, .ro [W Z, W Z, W Z] p n], .cells 41 [.str x, V Z y, .ro [W Z, W Z] z D, .ro [W Z, W Z, W Z] A E], .row 74 [W Z, W Z, W Z] b2_0 F]) => needs [decide (H = b2_0), (o8_0 I t u w C p n x y z D A E H G o F).isSome] (e8_0 I t u w C p n x y z D A E ((o8_0 I t u w C p n x y z D A E H G o F).getD default) fun e vs bs => inBlk 0 k e (mkSt 0 117 [2, 5, 9] vs 3 bs))
  | _ => False
theorem z8_0 : LOk Tryd.prog g8_0 (.block 0 (bodyAt (Tryd.f8.body.getD .skip) 0)) := by
  refine lb (ι := Int × Nat × Int × Int × ByteArray × Int × Nat × Dat × Nat × Dat × ByteArray × Int × Nat × Dat × Nat × Dat × Dat) (fuel := 8) (na := 0) (nt := 117) (nx := 3) (Lh := [1, 2, 5, 9, 10, 11]) (Le := [2, 5, 9]) (gl := [⟨true, 9, 0, 2, 74, [W Z, W Z, W Z]⟩]) (tc k10 (tc k18 (tc k20 (tc k21 (tc k35 (tc k36s (tc k37 (tc k41 (tc k43 tn))))))))) mix_ok noLam rfl (fun f (I, H, G, o, t, u, w, C, p, n, x, y, z, D, A, E, F) K => GG default (e8_0 I t u w C p n x y z D A E) K (l8_0 I t u w C p n x y z D A E f H G o F)) (fun (I, H, G, o, t, u, w, C, p, n, x, y, z, D, A, E, F) => [V Z I, .ptr 0 0, .ptr 1 0, .gr 2 3 H, V Z G, V Z o]) (fun (I, H, G, o, t, u, w, C, p, n, x, y, z, D, A, E, F) => [.cells 41 [.str t, V Z u, .ro [W Z, W Z] w C, .ro [W Z, W Z, W Z] p n], .cells 41 [.str x, V Z y, .ro [W Z, W Z] z D, .ro [W Z, W Z, W Z] A E], .row 74 [W Z, W Z, W Z] H F]) (fun (_, _, _, _, _, _, _, _, _, _, _, _, _, _, _, _, _) K => gg_none) ?_ ?_
  · rintro f ⟨I, H, G, o, t, u, w, C, p, n, x, y, z, D, A, E, F⟩ K hG
    refine ro (fun R => (cnd (decide (o < (↑p : Int)))
 (cnd (decide (0 ≤ o ∧ o < ↑p))
 (cnd (decide (I < (Z.wrap (G + (n.ii o.toNat 0)))))
 (cnd (decide (0 ≤ o ∧ o < ↑p))
 (cnd (decide (H ≤ H))
 (cnd (decide ((H + 1) ≤ 1073741824))
 (R (XE.normal) [V Z I, .ptr 0 0, .ptr 1 0, .gr 2 3 (H + 1), V Z (Z.wrap (G + (n.ii o.toNat 0))), V Z (Z.wrap (o + 1))] [.cells 41 [.str t, V Z u, .ro [W Z, W Z] w C, .ro [W Z, W Z, W Z] p n], .cells 41 [.str x, V Z y, .ro [W Z, W Z] z D, .ro [W Z, W Z, W Z] A E], .row 74 [W Z, W Z, W Z] (H + 1) (F.app H (datS [V Z (imin (n.ii o.toNat 0) (Z.wrap ((Z.wrap (G + (n.ii o.toNat 0))) - I))), V Z (n.ii o.toNat 1), V Z (n.ii o.toNat 2)] 3))])
       False)
      False)
     False)
 (R (XE.normal) [V Z I, .ptr 0 0, .ptr 1 0, .gr 2 3 H, V Z (Z.wrap (G + (n.ii o.toNat 0))), V Z (Z.wrap (o + 1))] [.cells 41 [.str t, V Z u, .ro [W Z, W Z] w C, .ro [W Z, W Z, W Z] p n], .cells 41 [.str x, V Z y, .ro [W Z, W Z] z D, .ro [W Z, W Z, W Z] A E], .row 74 [W Z, W Z, W Z] H F]))
   False)
 (R (XE.exit 0) [.ptr 0 0, .ptr 1 0, .gr 2 3 H] [.cells 41 [.str t, V Z u, .ro [W Z, W Z] w C, .ro [W Z, W Z, W Z] p n], .cells 41 [.str x, V Z y, .ro [W Z, W Z] z D, .ro [W Z, W Z, W Z] A E], .row 74 [W Z, W Z, W Z] H F]))) (fun R => by kernel_rfl) ?_
    exact ch hG (fun h0 => cg h0 fun h1 => ch h1 (fun h2 => cg h2 fun h3 => cn (decide_eq_true (Nat.le_refl _)) (cg h3 fun h4 => ⟨(_, _, _, _, _, _, _, _, _, _, _, _, _, _, _, _, _), rfl, rfl, h4⟩)) (fun h2 => ⟨(_, _, _, _, _, _, _, _, _, _, _, _, _, _, _, _, _), rfl, rfl, h2⟩)) (fun h0 => h0.2)
  · intro s k h
    unfold g8_0 at h
    split at h <;> try exact h.elim
    rename_i e1
    rw [needs_iff] at h
    have hq := h.1
    simp only [List.mem_cons, forall_eq_or_imp, decide_eq_true_eq, List.not_mem_nil, false_imp_iff, implies_true, and_true] at hq
    obtain ⟨rfl, hq⟩ := hq
    exact ⟨_, e1, _, (_, _, _, _, _, _, _, _, _, _, _, _, _, _, _, _, _), rfl, rfl, hq, h.2⟩
noncomputable def t8_0 (j : ByteArray) (l : Int) (d : Nat) (g : Dat) (b : Nat) (i : Dat) (m : Int) : Bool := n20 j l d g b i
noncomputable def t8_1 (j : ByteArray) (l : Int) (d : Nat) (g : Dat) (b : Nat) (i : Dat) (m : Int) : ByteArray := (m20 j l d g b i).1
noncomputable def t8_2 (j : ByteArray) (l : Int) (d : Nat) (g : Dat) (b : Nat) (i : Dat) (m : Int) : Int := (m20 j l d g b i).2.1
noncomputable def t8_3 (j : ByteArray) (l : Int) (d : Nat) (g : Dat) (b : Nat) (i : Dat) (m : Int) : Nat := (m20 j l d g b i).2.2.1
noncomputable def t8_4 (j : ByteArray) (l : Int) (d : Nat) (g : Dat) (b : Nat) (i : Dat) (m : Int) : Dat := (m20 j l d g b i).2.2.2.1
noncomputable def t8_5 (j : ByteArray) (l : Int) (d : Nat) (g : Dat) (b : Nat) (i : Dat) (m : Int) : Nat := (m20 j l d g b i).2.2.2.2.1
noncomputable def t8_6 (j : ByteArray) (l : Int) (d : Nat) (g : Dat) (b : Nat) (i : Dat) (m : Int) : Dat := (m20 j l d g b i).2.2.2.2.2
noncomputable def t8_7 (j : ByteArray) (l : Int) (d : Nat) (g : Dat) (b : Nat) (i : Dat) (m : Int) : ByteArray := (m43 (t8_1 j l d g b i m) (t8_2 j l d g b i m) (t8_3 j l d g b i m) (t8_4 j l d g b i m) (t8_5 j l d g b i m) (t8_6 j l d g b i m) m).1
noncomputable def t8_8 (j : ByteArray) (l : Int) (d : Nat) (g : Dat) (b : Nat) (i : Dat) (m : Int) : Int := (m43 (t8_1 j l d g b i m) (t8_2 j l d g b i m) (t8_3 j l d g b i m) (t8_4 j l d g b i m) (t8_5 j l d g b i m) (t8_6 j l d g b i m) m).2.1
noncomputable def t8_9 (j : ByteArray) (l : Int) (d : Nat) (g : Dat) (b : Nat) (i : Dat) (m : Int) : Nat := (m43 (t8_1 j l d g b i m) (t8_2 j l d g b i m) (t8_3 j l d g b i m) (t8_4 j l d g b i m) (t8_5 j l d g b i m) (t8_6 j l d g b i m) m).2.2.1
noncomputable def t8_10 (j : ByteArray) (l : Int) (d : Nat) (g : Dat) (b : Nat) (i : Dat) (m : Int) : Dat := (m43 (t8_1 j l d g b i m) (t8_2 j l d g b i m) (t8_3 j l d g b i m) (t8_4 j l d g b i m) (t8_5 j l d g b i m) (t8_6 j l d g b i m) m).2.2.2.1
noncomputable def t8_11 (j : ByteArray) (l : Int) (d : Nat) (g : Dat) (b : Nat) (i : Dat) (m : Int) : Nat := (m43 (t8_1 j l d g b i m) (t8_2 j l d g b i m) (t8_3 j l d g b i m) (t8_4 j l d g b i m) (t8_5 j l d g b i m) (t8_6 j l d g b i m) m).2.2.2.2.1
noncomputable def t8_12 (j : ByteArray) (l : Int) (d : Nat) (g : Dat) (b : Nat) (i : Dat) (m : Int) : Dat := (m43 (t8_1 j l d g b i m) (t8_2 j l d g b i m) (t8_3 j l d g b i m) (t8_4 j l d g b i m) (t8_5 j l d g b i m) (t8_6 j l d g b i m) m).2.2.2.2.2.1
noncomputable def t8_13 (j : ByteArray) (l : Int) (d : Nat) (g : Dat) (b : Nat) (i : Dat) (m : Int) : Bool := n20 (t8_7 j l d g b i m) (t8_8 j l d g b i m) (t8_9 j l d g b i m) (t8_10 j l d g b i m) (t8_11 j l d g b i m) (t8_12 j l d g b i m)
noncomputable def t8_14 (j : ByteArray) (l : Int) (d : Nat) (g : Dat) (b : Nat) (i : Dat) (m : Int) : ByteArray := (m20 (t8_7 j l d g b i m) (t8_8 j l d g b i m) (t8_9 j l d g b i m) (t8_10 j l d g b i m) (t8_11 j l d g b i m) (t8_12 j l d g b i m)).1
noncomputable def t8_15 (j : ByteArray) (l : Int) (d : Nat) (g : Dat) (b : Nat) (i : Dat) (m : Int) : Int := (m20 (t8_7 j l d g b i m) (t8_8 j l d g b i m) (t8_9 j l d g b i m) (t8_10 j l d g b i m) (t8_11 j l d g b i m) (t8_12 j l d g b i m)).2.1
noncomputable def t8_16 (j : ByteArray) (l : Int) (d : Nat) (g : Dat) (b : Nat) (i : Dat) (m : Int) : Nat := (m20 (t8_7 j l d g b i m) (t8_8 j l d g b i m) (t8_9 j l d g b i m) (t8_10 j l d g b i m) (t8_11 j l d g b i m) (t8_12 j l d g b i m)).2.2.1
noncomputable def t8_17 (j : ByteArray) (l : Int) (d : Nat) (g : Dat) (b : Nat) (i : Dat) (m : Int) : Dat := (m20 (t8_7 j l d g b i m) (t8_8 j l d g b i m) (t8_9 j l d g b i m) (t8_10 j l d g b i m) (t8_11 j l d g b i m) (t8_12 j l d g b i m)).2.2.2.1
noncomputable def t8_18 (j : ByteArray) (l : Int) (d : Nat) (g : Dat) (b : Nat) (i : Dat) (m : Int) : Nat := (m20 (t8_7 j l d g b i m) (t8_8 j l d g b i m) (t8_9 j l d g b i m) (t8_10 j l d g b i m) (t8_11 j l d g b i m) (t8_12 j l d g b i m)).2.2.2.2.1
noncomputable def t8_19 (j : ByteArray) (l : Int) (d : Nat) (g : Dat) (b : Nat) (i : Dat) (m : Int) : Dat := (m20 (t8_7 j l d g b i m) (t8_8 j l d g b i m) (t8_9 j l d g b i m) (t8_10 j l d g b i m) (t8_11 j l d g b i m) (t8_12 j l d g b i m)).2.2.2.2.2
noncomputable def t8_20 (j : ByteArray) (l : Int) (d : Nat) (g : Dat) (b : Nat) (i : Dat) (m : Int) : Nat := ((o8_0 m j l d g b i (t8_7 j l d g b i m) (t8_8 j l d g b i m) (t8_9 j l d g b i m) (t8_10 j l d g b i m) (t8_11 j l d g b i m) (t8_12 j l d g b i m) 0 0 0 noDat).getD default).1
noncomputable def t8_21 (j : ByteArray) (l : Int) (d : Nat) (g : Dat) (b : Nat) (i : Dat) (m : Int) : Dat := ((o8_0 m j l d g b i (t8_7 j l d g b i m) (t8_8 j l d g b i m) (t8_9 j l d g b i m) (t8_10 j l d g b i m) (t8_11 j l d g b i m) (t8_12 j l d g b i m) 0 0 0 noDat).getD default).2.2
noncomputable def t8_22 (j : ByteArray) (l : Int) (d : Nat) (g : Dat) (b : Nat) (i : Dat) (m : Int) : Int := (m35 (t8_14 j l d g b i m) (t8_15 j l d g b i m) (t8_16 j l d g b i m) (t8_17 j l d g b i m) (t8_18 j l d g b i m) (t8_19 j l d g b i m) (m36r (t8_20 j l d g b i m) (t8_21 j l d g b i m)).1 (m36r (t8_20 j l d g b i m) (t8_21 j l d g b i m)).2.2).2.2.2.2.2.2
noncomputable def t8_23 (j : ByteArray) (l : Int) (d : Nat) (g : Dat) (b : Nat) (i : Dat) (m : Int) : ByteArray := (m35 (t8_14 j l d g b i m) (t8_15 j l d g b i m) (t8_16 j l d g b i m) (t8_17 j l d g b i m) (t8_18 j l d g b i m) (t8_19 j l d g b i m) (m36r (t8_20 j l d g b i m) (t8_21 j l d g b i m)).1 (m36r (t8_20 j l d g b i m) (t8_21 j l d g b i m)).2.2).1
noncomputable def t8_24 (j : ByteArray) (l : Int) (d : Nat) (g : Dat) (b : Nat) (i : Dat) (m : Int) : Int := (m35 (t8_14 j l d g b i m) (t8_15 j l d g b i m) (t8_16 j l d g b i m) (t8_17 j l d g b i m) (t8_18 j l d g b i m) (t8_19 j l d g b i m) (m36r (t8_20 j l d g b i m) (t8_21 j l d g b i m)).1 (m36r (t8_20 j l d g b i m) (t8_21 j l d g b i m)).2.2).2.1
noncomputable def t8_25 (j : ByteArray) (l : Int) (d : Nat) (g : Dat) (b : Nat) (i : Dat) (m : Int) : Nat := (m35 (t8_14 j l d g b i m) (t8_15 j l d g b i m) (t8_16 j l d g b i m) (t8_17 j l d g b i m) (t8_18 j l d g b i m) (t8_19 j l d g b i m) (m36r (t8_20 j l d g b i m) (t8_21 j l d g b i m)).1 (m36r (t8_20 j l d g b i m) (t8_21 j l d g b i m)).2.2).2.2.1
noncomputable def t8_26 (j : ByteArray) (l : Int) (d : Nat) (g : Dat) (b : Nat) (i : Dat) (m : Int) : Dat := (m35 (t8_14 j l d g b i m) (t8_15 j l d g b i m) (t8_16 j l d g b i m) (t8_17 j l d g b i m) (t8_18 j l d g b i m) (t8_19 j l d g b i m) (m36r (t8_20 j l d g b i m) (t8_21 j l d g b i m)).1 (m36r (t8_20 j l d g b i m) (t8_21 j l d g b i m)).2.2).2.2.2.1
noncomputable def t8_27 (j : ByteArray) (l : Int) (d : Nat) (g : Dat) (b : Nat) (i : Dat) (m : Int) : Nat := (m35 (t8_14 j l d g b i m) (t8_15 j l d g b i m) (t8_16 j l d g b i m) (t8_17 j l d g b i m) (t8_18 j l d g b i m) (t8_19 j l d g b i m) (m36r (t8_20 j l d g b i m) (t8_21 j l d g b i m)).1 (m36r (t8_20 j l d g b i m) (t8_21 j l d g b i m)).2.2).2.2.2.2.1
noncomputable def t8_28 (j : ByteArray) (l : Int) (d : Nat) (g : Dat) (b : Nat) (i : Dat) (m : Int) : Dat := (m35 (t8_14 j l d g b i m) (t8_15 j l d g b i m) (t8_16 j l d g b i m) (t8_17 j l d g b i m) (t8_18 j l d g b i m) (t8_19 j l d g b i m) (m36r (t8_20 j l d g b i m) (t8_21 j l d g b i m)).1 (m36r (t8_20 j l d g b i m) (t8_21 j l d g b i m)).2.2).2.2.2.2.2.1
noncomputable def U8 (j : ByteArray) (l : Int) (d : Nat) (g : Dat) (b : Nat) (i : Dat) (m : Int) (z0 : Bool) (z1 : ByteArray) (z2 : Int) (z3 : Nat) (z4 : Dat) (z5 : Nat) (z6 : Dat) (z7 : ByteArray) (z8 : Int) (z9 : Nat) (z10 : Dat) (z11 : Nat) (z12 : Dat) (z13 : Bool) (z14 : ByteArray) (z15 : Int) (z16 : Nat) (z17 : Dat) (z18 : Nat) (z19 : Dat) (z20 : Nat) (z21 : Dat) (z22 : Int) (z23 : ByteArray) (z24 : Int) (z25 : Nat) (z26 : Dat) (z27 : Nat) (z28 : Dat) (R : SV → List Blk → List Blk → Prop) : Prop :=
 (cnd (n10)
 (cnd (bif m10 then false else true)
 (R (.bool false) [] [])
 (cnd (bif (m18 j l d g b i) then false else true)
 (R (.bool true) [] [])
 (cnd (z0)
 (cnd (n43 z1 z2 z3 z4 z5 z6 m)
 (cnd (bif (decide ((m43 z1 z2 z3 z4 z5 z6 m).2.2.2.2.2.2 = 0)) then false else true)
 (R (.bool (m37 z7 z8 z9 z10 z11 z12)) [] [])
 (cnd (decide ((↑b : Int) < (↑z11 : Int)))
 (R (.bool false) [] [])
 (cnd (z13)
 (cnd (n21 z14 z15 z16 z17 z18 z19)
 (cnd (bif (bif (decide ((m21 z14 z15 z16 z17 z18 z19).2 = 0)) then false else true) then true else (bif (decide ((m21 z14 z15 z16 z17 z18 z19).1 = m)) then false else true))
 (R (.bool false) [] [])
 (cnd ((o8_0 m j l d g b i z7 z8 z9 z10 z11 z12 0 0 0 noDat).isSome)
 (cnd (z13)
 (cnd (decide ((0 + z20) ≤ ((o8_0 m j l d g b i z7 z8 z9 z10 z11 z12 0 0 0 noDat).getD default).2.1))
 (cnd (n36r z20 z21)
 (cnd (decide ((m36r z20 z21).1 ≤ (m36r z20 z21).2.1))
 (cnd (n35 z14 z15 z16 z17 z18 z19 (m36r z20 z21).1 (m36r z20 z21).2.2)
 (cnd (bif (decide (z22 = 0)) then false else true)
 (R (.bool (bif (decide (z22 = 8)) then (decide ((↑b : Int) = 60)) else false)) [] [])
 (cnd (z0)
 (cnd (n41 z23 z24 z25 z26 z27 z28 z1 z2 z3 z4 z5 z6)
 (R (.bool (bif (decide ((m41 z23 z24 z25 z26 z27 z28 z1 z2 z3 z4 z5 z6).2 = 0)) then (m41 z23 z24 z25 z26 z27 z28 z1 z2 z3 z4 z5 z6).1 else false)) [] [])
                    False)
                   False))
                 False)
                False)
               False)
              False)
             False)
            False))
          False)
         False)))
      False)
     False)))
  False)
noncomputable def w8 (j : ByteArray) (l : Int) (d : Nat) (g : Dat) (b : Nat) (i : Dat) (m : Int) (z0 : Bool) (z1 : ByteArray) (z2 : Int) (z3 : Nat) (z4 : Dat) (z5 : Nat) (z6 : Dat) (z7 : ByteArray) (z8 : Int) (z9 : Nat) (z10 : Dat) (z11 : Nat) (z12 : Dat) (z13 : Bool) (z14 : ByteArray) (z15 : Int) (z16 : Nat) (z17 : Dat) (z18 : Nat) (z19 : Dat) (z20 : Nat) (z21 : Dat) (z22 : Int) (z23 : ByteArray) (z24 : Int) (z25 : Nat) (z26 : Dat) (z27 : Nat) (z28 : Dat) : Bool :=
  (cond (bif m10 then false else true) false (cond (bif (m18 j l d g b i) then false else true) true (cond (bif (decide ((m43 z1 z2 z3 z4 z5 z6 m).2.2.2.2.2.2 = 0)) then false else true) (m37 z7 z8 z9 z10 z11 z12) (cond (decide ((↑b : Int) < (↑z11 : Int))) false (cond (bif (bif (decide ((m21 z14 z15 z16 z17 z18 z19).2 = 0)) then false else true) then true else (bif (decide ((m21 z14 z15 z16 z17 z18 z19).1 = m)) then false else true)) false (cond (bif (decide (z22 = 0)) then false else true) (bif (decide (z22 = 8)) then (decide ((↑b : Int) = 60)) else false) (bif (decide ((m41 z23 z24 z25 z26 z27 z28 z1 z2 z3 z4 z5 z6).2 = 0)) then (m41 z23 z24 z25 z26 z27 z28 z1 z2 z3 z4 z5 z6).1 else false)))))))
noncomputable def v8 (j : ByteArray) (l : Int) (d : Nat) (g : Dat) (b : Nat) (i : Dat) (m : Int) (z0 : Bool) (z1 : ByteArray) (z2 : Int) (z3 : Nat) (z4 : Dat) (z5 : Nat) (z6 : Dat) (z7 : ByteArray) (z8 : Int) (z9 : Nat) (z10 : Dat) (z11 : Nat) (z12 : Dat) (z13 : Bool) (z14 : ByteArray) (z15 : Int) (z16 : Nat) (z17 : Dat) (z18 : Nat) (z19 : Dat) (z20 : Nat) (z21 : Dat) (z22 : Int) (z23 : ByteArray) (z24 : Int) (z25 : Nat) (z26 : Dat) (z27 : Nat) (z28 : Dat) : Bool :=
  ((n10) && (cond (bif m10 then false else true) true (cond (bif (m18 j l d g b i) then false else true) true ((z0) && ((n43 z1 z2 z3 z4 z5 z6 m) && (cond (bif (decide ((m43 z1 z2 z3 z4 z5 z6 m).2.2.2.2.2.2 = 0)) then false else true) true (cond (decide ((↑b : Int) < (↑z11 : Int))) true ((z13) && ((n21 z14 z15 z16 z17 z18 z19) && (cond (bif (bif (decide ((m21 z14 z15 z16 z17 z18 z19).2 = 0)) then false else true) then true else (bif (decide ((m21 z14 z15 z16 z17 z18 z19).1 = m)) then false else true)) true (((o8_0 m j l d g b i z7 z8 z9 z10 z11 z12 0 0 0 noDat).isSome) && ((z13) && ((decide ((0 + z20) ≤ ((o8_0 m j l d g b i z7 z8 z9 z10 z11 z12 0 0 0 noDat).getD default).2.1)) && ((n36r z20 z21) && ((decide ((m36r z20 z21).1 ≤ (m36r z20 z21).2.1)) && ((n35 z14 z15 z16 z17 z18 z19 (m36r z20 z21).1 (m36r z20 z21).2.2) && (cond (bif (decide (z22 = 0)) then false else true) true ((z0) && ((n41 z23 z24 z25 z26 z27 z28 z1 z2 z3 z4 z5 z6) && true)))))))))))))))))))
noncomputable def m8 (j : ByteArray) (l : Int) (d : Nat) (g : Dat) (b : Nat) (i : Dat) (m : Int) : Bool := w8 j l d g b i m (t8_0 j l d g b i m) (t8_1 j l d g b i m) (t8_2 j l d g b i m) (t8_3 j l d g b i m) (t8_4 j l d g b i m) (t8_5 j l d g b i m) (t8_6 j l d g b i m) (t8_7 j l d g b i m) (t8_8 j l d g b i m) (t8_9 j l d g b i m) (t8_10 j l d g b i m) (t8_11 j l d g b i m) (t8_12 j l d g b i m) (t8_13 j l d g b i m) (t8_14 j l d g b i m) (t8_15 j l d g b i m) (t8_16 j l d g b i m) (t8_17 j l d g b i m) (t8_18 j l d g b i m) (t8_19 j l d g b i m) (t8_20 j l d g b i m) (t8_21 j l d g b i m) (t8_22 j l d g b i m) (t8_23 j l d g b i m) (t8_24 j l d g b i m) (t8_25 j l d g b i m) (t8_26 j l d g b i m) (t8_27 j l d g b i m) (t8_28 j l d g b i m)
noncomputable def n8 (j : ByteArray) (l : Int) (d : Nat) (g : Dat) (b : Nat) (i : Dat) (m : Int) : Bool := v8 j l d g b i m (t8_0 j l d g b i m) (t8_1 j l d g b i m) (t8_2 j l d g b i m) (t8_3 j l d g b i m) (t8_4 j l d g b i m) (t8_5 j l d g b i m) (t8_6 j l d g b i m) (t8_7 j l d g b i m) (t8_8 j l d g b i m) (t8_9 j l d g b i m) (t8_10 j l d g b i m) (t8_11 j l d g b i m) (t8_12 j l d g b i m) (t8_13 j l d g b i m) (t8_14 j l d g b i m) (t8_15 j l d g b i m) (t8_16 j l d g b i m) (t8_17 j l d g b i m) (t8_18 j l d g b i m) (t8_19 j l d g b i m) (t8_20 j l d g b i m) (t8_21 j l d g b i m) (t8_22 j l d g b i m) (t8_23 j l d g b i m) (t8_24 j l d g b i m) (t8_25 j l d g b i m) (t8_26 j l d g b i m) (t8_27 j l d g b i m) (t8_28 j l d g b i m)
noncomputable def q8 (r : Bool) : SV × List Blk × List Blk := (.bool r, [], [])
noncomputable def g8 : GF := fun vs bs => match vs, bs with
  | [.agg [.str j, V Z l, .ro [W Z, W Z] d g, .ro [W Z, W Z, W Z] b i], V Z m], [] => some (rs 0 (q8 (m8 j l d g b i m)) [n8 j l d g b i m])
  | _, _ => none
noncomputable def c8 : Ctr := genC [.a [.k, .k, .ro [W Z, W Z], .ro [W Z, W Z, W Z]], .k] g8
theorem u8 (j : ByteArray) (l : Int) (d : Nat) (g : Dat) (b : Nat) (i : Dat) (m : Int) (z0 : Bool) (z1 : ByteArray) (z2 : Int) (z3 : Nat) (z4 : Dat) (z5 : Nat) (z6 : Dat) (z7 : ByteArray) (z8 : Int) (z9 : Nat) (z10 : Dat) (z11 : Nat) (z12 : Dat) (z13 : Bool) (z14 : ByteArray) (z15 : Int) (z16 : Nat) (z17 : Dat) (z18 : Nat) (z19 : Dat) (z20 : Nat) (z21 : Dat) (z22 : Int) (z23 : ByteArray) (z24 : Int) (z25 : Nat) (z26 : Dat) (z27 : Nat) (z28 : Dat) (hn : v8 j l d g b i m z0 z1 z2 z3 z4 z5 z6 z7 z8 z9 z10 z11 z12 z13 z14 z15 z16 z17 z18 z19 z20 z21 z22 z23 z24 z25 z26 z27 z28 = true) : U8 j l d g b i m z0 z1 z2 z3 z4 z5 z6 z7 z8 z9 z10 z11 z12 z13 z14 z15 z16 z17 z18 z19 z20 z21 z22 z23 z24 z25 z26 z27 z28 (fun v U N => (v, U, N) = q8 (w8 j l d g b i m z0 z1 z2 z3 z4 z5 z6 z7 z8 z9 z10 z11 z12 z13 z14 z15 z16 z17 z18 z19 z20 z21 z22 z23 z24 z25 z26 z27 z28)) :=
  cn (al hn) (co (fun h0 => lf (cT h0 rfl) rfl) (fun h0 => co (fun h1 => lf (cF h0 (cT h1 rfl)) rfl) (fun h1 => cn (al (cf h1 (cf h0 (ar hn)))) (cn (al (ar (cf h1 (cf h0 (ar hn))))) (co (fun h2 => lf (cF h0 (cF h1 (cT h2 rfl))) rfl) (fun h2 => co (fun h3 => lf (cF h0 (cF h1 (cF h2 (cT h3 rfl)))) rfl) (fun h3 => cn (al (cf h3 (cf h2 (ar (ar (cf h1 (cf h0 (ar hn)))))))) (cn (al (ar (cf h3 (cf h2 (ar (ar (cf h1 (cf h0 (ar hn))))))))) (co (fun h4 => lf (cF h0 (cF h1 (cF h2 (cF h3 (cT h4 rfl))))) rfl) (fun h4 => cn (al (cf h4 (ar (ar (cf h3 (cf h2 (ar (ar (cf h1 (cf h0 (ar hn))))))))))) (cn (al (ar (cf h4 (ar (ar (cf h3 (cf h2 (ar (ar (cf h1 (cf h0 (ar hn)))))))))))) (cn (al (ar (ar (cf h4 (ar (ar (cf h3 (cf h2 (ar (ar (cf h1 (cf h0 (ar hn))))))))))))) (cn (al (ar (ar (ar (cf h4 (ar (ar (cf h3 (cf h2 (ar (ar (cf h1 (cf h0 (ar hn)))))))))))))) (cn (al (ar (ar (ar (ar (cf h4 (ar (ar (cf h3 (cf h2 (ar (ar (cf h1 (cf h0 (ar hn))))))))))))))) (cn (al (ar (ar (ar (ar (ar (cf h4 (ar (ar (cf h3 (cf h2 (ar (ar (cf h1 (cf h0 (ar hn)))))))))))))))) (co (fun h5 => lf (cF h0 (cF h1 (cF h2 (cF h3 (cF h4 (cT h5 rfl)))))) rfl) (fun h5 => cn (al (cf h5 (ar (ar (ar (ar (ar (ar (cf h4 (ar (ar (cf h3 (cf h2 (ar (ar (cf h1 (cf h0 (ar hn)))))))))))))))))) (cn (al (ar (cf h5 (ar (ar (ar (ar (ar (ar (cf h4 (ar (ar (cf h3 (cf h2 (ar (ar (cf h1 (cf h0 (ar hn))))))))))))))))))) (lf (cF h0 (cF h1 (cF h2 (cF h3 (cF h4 (cF h5 rfl)))))) rfl)))))))))))))))))))
theorem k8 : CtrOk Tryd.prog c8 8 := cx (tc k10 (tc k18 (tc k20 (tc k21 (tc k35 (tc k36s (tc k37 (tc k41 (tc k43 tn))))))))) mix_ok 8 (fn := Tryd.f8) (c := (Tryd.f8.body.getD .skip)) (grs := []) (rh := .k) Tryd.func8 rfl (by kernel_rfl) (lam_of rfl (lc z8_0 ln)) fun vs bs q h hn => by
  unfold g8 at h
  split at h <;> cases h
  rename_i j l d g b i m
  have hn := n1 hn
  exact ⟨_, rfl, ca (fun R => U8 j l d g b i m (t8_0 j l d g b i m) (t8_1 j l d g b i m) (t8_2 j l d g b i m) (t8_3 j l d g b i m) (t8_4 j l d g b i m) (t8_5 j l d g b i m) (t8_6 j l d g b i m) (t8_7 j l d g b i m) (t8_8 j l d g b i m) (t8_9 j l d g b i m) (t8_10 j l d g b i m) (t8_11 j l d g b i m) (t8_12 j l d g b i m) (t8_13 j l d g b i m) (t8_14 j l d g b i m) (t8_15 j l d g b i m) (t8_16 j l d g b i m) (t8_17 j l d g b i m) (t8_18 j l d g b i m) (t8_19 j l d g b i m) (t8_20 j l d g b i m) (t8_21 j l d g b i m) (t8_22 j l d g b i m) (t8_23 j l d g b i m) (t8_24 j l d g b i m) (t8_25 j l d g b i m) (t8_26 j l d g b i m) (t8_27 j l d g b i m) (t8_28 j l d g b i m) R) (fun R => by kernel_rfl) (u8 j l d g b i m (t8_0 j l d g b i m) (t8_1 j l d g b i m) (t8_2 j l d g b i m) (t8_3 j l d g b i m) (t8_4 j l d g b i m) (t8_5 j l d g b i m) (t8_6 j l d g b i m) (t8_7 j l d g b i m) (t8_8 j l d g b i m) (t8_9 j l d g b i m) (t8_10 j l d g b i m) (t8_11 j l d g b i m) (t8_12 j l d g b i m) (t8_13 j l d g b i m) (t8_14 j l d g b i m) (t8_15 j l d g b i m) (t8_16 j l d g b i m) (t8_17 j l d g b i m) (t8_18 j l d g b i m) (t8_19 j l d g b i m) (t8_20 j l d g b i m) (t8_21 j l d g b i m) (t8_22 j l d g b i m) (t8_23 j l d g b i m) (t8_24 j l d g b i m) (t8_25 j l d g b i m) (t8_26 j l d g b i m) (t8_27 j l d g b i m) (t8_28 j l d g b i m) hn)⟩
end Go.Proofs.YtchhhoamnagbfaaDoor
