/-
  Contracts of functions: models, equations by the kernel, contracts. Conditions: none.
-/
import Derived.Test.YtchhhoamnagbfaaDoorI5
import Derived.KernelRfl
namespace Go.Proofs.YtchhhoamnagbfaaDoor
open Go Go.Sy
set_option linter.unusedVariables false
set_option linter.unusedSimpArgs false
set_option maxRecDepth 100000
set_option maxHeartbeats 2000000
attribute [local irreducible] Go.IntKind.wrap Int.tdiv Int.tmod Int.fdiv
open Go.Sy renaming tabOk_cons → tc, tabOk_nil → tn, cnd_need → cn, leaf_of → lf, cnd_gg → cg, cnd_gg2 → ch, cond_f → cf, cond_t → ct, cnd_of → co, callOf → ca, roundOf → ro, cnd_not → nn, lams_cons → lc, lams_nil → ln, condT → cT, condF → cF, need1 → n1, resOf → rs, and_l → al, and_r → ar, or_gg → og, ctr_of → cx, loop_blk → lb
open Go.IntKind renaming i64 → Z
open Go.Sy.SV renaming int → V
open Go.Sy.Kd renaming int → W
noncomputable def bt30649_0 : ByteArray := { data := #[OfNat.ofNat 112, OfNat.ofNat 108, OfNat.ofNat 97, OfNat.ofNat 110, OfNat.ofNat 32, OfNat.ofNat 112, OfNat.ofNat 10, OfNat.ofNat 115, OfNat.ofNat 117, OfNat.ofNat 114, OfNat.ofNat 102, OfNat.ofNat 97, OfNat.ofNat 99, OfNat.ofNat 101, OfNat.ofNat 32, OfNat.ofNat 49, OfNat.ofNat 48, OfNat.ofNat 49, OfNat.ofNat 51, OfNat.ofNat 10, OfNat.ofNat 103, OfNat.ofNat 97, OfNat.ofNat 115, OfNat.ofNat 32, OfNat.ofNat 50, OfNat.ofNat 49, OfNat.ofNat 48, OfNat.ofNat 32, OfNat.ofNat 48, OfNat.ofNat 10, OfNat.ofNat 103, OfNat.ofNat 97, OfNat.ofNat 115, OfNat.ofNat 32, OfNat.ofNat 53, OfNat.ofNat 48, OfNat.ofNat 48, OfNat.ofNat 32, OfNat.ofNat 48, OfNat.ofNat 10, OfNat.ofNat 108, OfNat.ofNat 101, OfNat.ofNat 103, OfNat.ofNat 32, OfNat.ofNat 49, OfNat.ofNat 58, OfNat.ofNat 48, OfNat.ofNat 48, OfNat.ofNat 32, OfNat.ofNat 49, OfNat.ofNat 56, OfNat.ofNat 32, OfNat.ofNat 48, OfNat.ofNat 10, OfNat.ofNat 108, OfNat.ofNat 101, OfNat.ofNat 103, OfNat.ofNat 32, OfNat.ofNat 49, OfNat.ofNat 48, OfNat.ofNat 58, OfNat.ofNat 48, OfNat.ofNat 48, OfNat.ofNat 32, OfNat.ofNat 49, OfNat.ofNat 56, OfNat.ofNat 32, OfNat.ofNat 48, OfNat.ofNat 10, OfNat.ofNat 108, OfNat.ofNat 101, OfNat.ofNat 103, OfNat.ofNat 32, OfNat.ofNat 50, OfNat.ofNat 58, OfNat.ofNat 48, OfNat.ofNat 48, OfNat.ofNat 32, OfNat.ofNat 54, OfNat.ofNat 32, OfNat.ofNat 48, OfNat.ofNat 10, OfNat.ofNat 108, OfNat.ofNat 101, OfNat.ofNat 103, OfNat.ofNat 32, OfNat.ofNat 53, OfNat.ofNat 58, OfNat.ofNat 48, OfNat.ofNat 48, OfNat.ofNat 32, OfNat.ofNat 54, OfNat.ofNat 32, OfNat.ofNat 49, OfNat.ofNat 10] }
/-! ### shotline/profile.Print -/
noncomputable def l51_0 (E : Nat) (o : Dat) (J : Int) (w : ByteArray) (x : Int) (y : Dat) (H : Nat) (z A C D : Dat) : Nat → Int → Nat → Nat → Dat → Option (Nat × Nat × Dat)
  | 0, _, _, _, _ => none
  | f + 1, G, p, t, u => (cond (decide (G < J)) (cond (decide (0 ≤ G ∧ G < ↑E)) (cond (n88 (o.ii G.toNat 0)) (cond (n88 (o.ii G.toNat 1)) (cond (n85u 3 (datS [SV.str ({ data := #[OfNat.ofNat 103, OfNat.ofNat 97, OfNat.ofNat 115] } : ByteArray), SV.str (m88 (o.ii G.toNat 0)), SV.str (m88 (o.ii G.toNat 1))] 1) p t u) (l51_0 E o J w x y H z A C D f (Z.wrap (G + 1)) (m85u 3 (datS [SV.str ({ data := #[OfNat.ofNat 103, OfNat.ofNat 97, OfNat.ofNat 115] } : ByteArray), SV.str (m88 (o.ii G.toNat 0)), SV.str (m88 (o.ii G.toNat 1))] 1) p t u).1 (m85u 3 (datS [SV.str ({ data := #[OfNat.ofNat 103, OfNat.ofNat 97, OfNat.ofNat 115] } : ByteArray), SV.str (m88 (o.ii G.toNat 0)), SV.str (m88 (o.ii G.toNat 1))] 1) p t u).2.1 (m85u 3 (datS [SV.str ({ data := #[OfNat.ofNat 103, OfNat.ofNat 97, OfNat.ofNat 115] } : ByteArray), SV.str (m88 (o.ii G.toNat 0)), SV.str (m88 (o.ii G.toNat 1))] 1) p t u).2.2) none) none) none) none) (some (p, t, u)))
noncomputable abbrev o51_0 (E : Nat) (o : Dat) (J : Int) (w : ByteArray) (x : Int) (y : Dat) (H : Nat) (z A C D : Dat) (G : Int) (p t : Nat) (u : Dat) : Option (Nat × Nat × Dat) := l51_0 E o J w x y H z A C D (E + J.toNat + G.toNat + w.size + x.toNat + H + p + t + 8) G p t u
noncomputable def e51_0 (E : Nat) (o : Dat) (J : Int) (w : ByteArray) (x : Int) (y : Dat) (H : Nat) (z A C D : Dat) (r : Nat × Nat × Dat) (K : XR) : Prop := K (XE.exit 0) [.ptr 0 0, .ptr 2 0, .fn 85 [.ptr 2 0]] [.cells 41 [.str w, V Z x, .ro [W Z, W Z] E y, .ro [W Z, W Z, W Z] H z], .row 41 [.str, W Z, .sl [W Z, W Z], .sl [W Z, W Z, W Z]] 1 A, .cells 125 [.ptr 2 0, .gr 6 1 r.1], .row 9 [.str] 2 C, .unk, .row 9 [.str] 2 D, .row 5 [.int .u8] r.2.1 r.2.2]
noncomputable def g51_0 : LSum := fun s k => match czv 0 76 [1, 5, 6, 30, 31, 32] 7 [⟨false, 2, 1, 6, 5, [.int .u8]⟩] s with
  | some ([.ptr 0 0, .ptr 2 0, .fn 85 [.ptr 2 0], .ro [W Z, W Z] E o, V Z J, V Z G], [.cells 41 [.str w, V Z x, .ro [W Z, W Z] I y, .ro [W Z, W Z, W Z] H z], .row 41 [.str, W Z, .sl [W Z, W Z], .sl [W Z, W Z, W Z]] 1 A, .cells 125 [.ptr 2 0, .gr 6 1 p], .row 9 [.str] 2 C, .unk, .row 9 [.str] 2 D, .row 5 [.int .u8] t u]) => needs [decide (E = I), (o51_0 E o J w x y H z A C D G p t u).isSome] (e51_0 E o J w x y H z A C D ((o51_0 E o J w x y H z A C D G p t u).getD default) fun e vs bs => inBlk 0 k e (mkSt 0 76 [1, 5, 6] vs 7 bs))
  | _ => False
theorem z51_0 : LOk Tryd.prog g51_0 (.block 0 (bodyAt (Tryd.f51.body.getD .skip) 0)) := by
  refine lb (ι := Nat × Dat × Int × Int × ByteArray × Int × Dat × Nat × Dat × Dat × Nat × Dat × Dat × Nat × Dat) (fuel := 8) (na := 0) (nt := 76) (nx := 7) (Lh := [1, 5, 6, 30, 31, 32]) (Le := [1, 5, 6]) (gl := [⟨false, 2, 1, 6, 5, [.int .u8]⟩]) (tc k60 (tc k85 (tc k88 (tc k89 (tc k90 tn))))) mix_ok noLam rfl (fun f (E, o, J, G, w, x, y, H, z, A, p, C, D, t, u) K => GG default (e51_0 E o J w x y H z A C D) K (l51_0 E o J w x y H z A C D f G p t u)) (fun (E, o, J, G, w, x, y, H, z, A, p, C, D, t, u) => [.ptr 0 0, .ptr 2 0, .fn 85 [.ptr 2 0], .ro [W Z, W Z] E o, V Z J, V Z G]) (fun (E, o, J, G, w, x, y, H, z, A, p, C, D, t, u) => [.cells 41 [.str w, V Z x, .ro [W Z, W Z] E y, .ro [W Z, W Z, W Z] H z], .row 41 [.str, W Z, .sl [W Z, W Z], .sl [W Z, W Z, W Z]] 1 A, .cells 125 [.ptr 2 0, .gr 6 1 p], .row 9 [.str] 2 C, .unk, .row 9 [.str] 2 D, .row 5 [.int .u8] t u]) (fun (_, _, _, _, _, _, _, _, _, _, _, _, _, _, _) K => gg_none) ?_ ?_
  · rintro f ⟨E, o, J, G, w, x, y, H, z, A, p, C, D, t, u⟩ K hG
    refine ro (fun R => (cnd (decide (G < J))
 (cnd (decide (0 ≤ G ∧ G < ↑E))
 (cnd (n88 (o.ii G.toNat 0))
 (cnd (n88 (o.ii G.toNat 1))
 (cnd (n85u 3 (datS [SV.str ({ data := #[OfNat.ofNat 103, OfNat.ofNat 97, OfNat.ofNat 115] } : ByteArray), SV.str (m88 (o.ii G.toNat 0)), SV.str (m88 (o.ii G.toNat 1))] 1) p t u)
 (R (XE.normal) [.ptr 0 0, .ptr 2 0, .fn 85 [.ptr 2 0], .ro [W Z, W Z] E o, V Z J, V Z (Z.wrap (G + 1))] [.cells 41 [.str w, V Z x, .ro [W Z, W Z] E y, .ro [W Z, W Z, W Z] H z], .row 41 [.str, W Z, .sl [W Z, W Z], .sl [W Z, W Z, W Z]] 1 A, .cells 125 [.ptr 2 0, .gr 6 1 (m85u 3 (datS [SV.str ({ data := #[OfNat.ofNat 103, OfNat.ofNat 97, OfNat.ofNat 115] } : ByteArray), SV.str (m88 (o.ii G.toNat 0)), SV.str (m88 (o.ii G.toNat 1))] 1) p t u).1], .row 9 [.str] 2 C, .unk, .row 9 [.str] 2 D, .row 5 [.int .u8] (m85u 3 (datS [SV.str ({ data := #[OfNat.ofNat 103, OfNat.ofNat 97, OfNat.ofNat 115] } : ByteArray), SV.str (m88 (o.ii G.toNat 0)), SV.str (m88 (o.ii G.toNat 1))] 1) p t u).2.1 (m85u 3 (datS [SV.str ({ data := #[OfNat.ofNat 103, OfNat.ofNat 97, OfNat.ofNat 115] } : ByteArray), SV.str (m88 (o.ii G.toNat 0)), SV.str (m88 (o.ii G.toNat 1))] 1) p t u).2.2])
      False)
     False)
    False)
   False)
 (R (XE.exit 0) [.ptr 0 0, .ptr 2 0, .fn 85 [.ptr 2 0]] [.cells 41 [.str w, V Z x, .ro [W Z, W Z] E y, .ro [W Z, W Z, W Z] H z], .row 41 [.str, W Z, .sl [W Z, W Z], .sl [W Z, W Z, W Z]] 1 A, .cells 125 [.ptr 2 0, .gr 6 1 p], .row 9 [.str] 2 C, .unk, .row 9 [.str] 2 D, .row 5 [.int .u8] t u]))) (fun R => by kernel_rfl) ?_
    exact ch hG (fun h0 => cg h0 fun h1 => cg h1 fun h2 => cg h2 fun h3 => cg h3 fun h4 => ⟨(_, _, _, _, _, _, _, _, _, _, _, _, _, _, _), rfl, rfl, h4⟩) (fun h0 => h0.2)
  · intro s k h
    unfold g51_0 at h
    split at h <;> try exact h.elim
    rename_i e1
    rw [needs_iff] at h
    have hq := h.1
    simp only [List.mem_cons, forall_eq_or_imp, decide_eq_true_eq, List.not_mem_nil, false_imp_iff, implies_true, and_true] at hq
    obtain ⟨rfl, hq⟩ := hq
    exact ⟨_, e1, _, (_, _, _, _, _, _, _, _, _, _, _, _, _, _, _), rfl, rfl, hq, h.2⟩
noncomputable def l51_2 (F : Nat) (m : Dat) (L : Int) (w : ByteArray) (x : Int) (I : Nat) (y z A C D : Dat) : Nat → Int → Nat → Nat → Dat → Option (Nat × Nat × Dat)
  | 0, _, _, _, _ => none
  | f + 1, n, p, t, u => (cond (decide (n < L)) (cond (decide (0 ≤ n ∧ n < ↑F)) (cond (n88 (Z.wrap ((m.ii n.toNat 0).tdiv 60))) (cond (decide ((((m88 (Z.wrap ((m.ii n.toNat 0).tdiv 60))).size) + 1) ≤ 9223372036854775807)) (cond (n88 (Z.wrap (100 + ((m.ii n.toNat 0).tmod 60)))) (cond (decide ((0 : Int) ≤ (1 : Int) ∧ (1 : Int) ≤ (↑(m88 (Z.wrap ((100 : Int) + (m.ii n.toNat (0 : Nat)).tmod (60 : Int)))).size : Int) ∧ (↑(m88 (Z.wrap ((100 : Int) + (m.ii n.toNat (0 : Nat)).tmod (60 : Int)))).size : Int) ≤ (↑(m88 (Z.wrap ((100 : Int) + (m.ii n.toNat (0 : Nat)).tmod (60 : Int)))).size : Int))) (cond (decide (((((m88 (Z.wrap ((m.ii n.toNat 0).tdiv 60))) ++ ({ data := #[OfNat.ofNat 58] } : ByteArray)).size) + (((m88 (Z.wrap (100 + ((m.ii n.toNat 0).tmod 60)))).extract 1 ((↑((m88 (Z.wrap (100 + ((m.ii n.toNat 0).tmod 60)))).size) : Int).toNat)).size)) ≤ 9223372036854775807)) (cond (n89 (m.ii n.toNat 1)) (cond (n88 (m.ii n.toNat 2)) (cond (n85u 4 (datS [SV.str ({ data := #[OfNat.ofNat 108, OfNat.ofNat 101, OfNat.ofNat 103] } : ByteArray), SV.str (((m88 (Z.wrap ((m.ii n.toNat 0).tdiv 60))) ++ ({ data := #[OfNat.ofNat 58] } : ByteArray)) ++ ((m88 (Z.wrap (100 + ((m.ii n.toNat 0).tmod 60)))).extract 1 ((↑((m88 (Z.wrap (100 + ((m.ii n.toNat 0).tmod 60)))).size) : Int).toNat))), SV.str (m89 (m.ii n.toNat 1)), SV.str (m88 (m.ii n.toNat 2))] 1) p t u) (l51_2 F m L w x I y z A C D f (Z.wrap (n + 1)) (m85u 4 (datS [SV.str ({ data := #[OfNat.ofNat 108, OfNat.ofNat 101, OfNat.ofNat 103] } : ByteArray), SV.str (((m88 (Z.wrap ((m.ii n.toNat 0).tdiv 60))) ++ ({ data := #[OfNat.ofNat 58] } : ByteArray)) ++ ((m88 (Z.wrap (100 + ((m.ii n.toNat 0).tmod 60)))).extract 1 ((↑((m88 (Z.wrap (100 + ((m.ii n.toNat 0).tmod 60)))).size) : Int).toNat))), SV.str (m89 (m.ii n.toNat 1)), SV.str (m88 (m.ii n.toNat 2))] 1) p t u).1 (m85u 4 (datS [SV.str ({ data := #[OfNat.ofNat 108, OfNat.ofNat 101, OfNat.ofNat 103] } : ByteArray), SV.str (((m88 (Z.wrap ((m.ii n.toNat 0).tdiv 60))) ++ ({ data := #[OfNat.ofNat 58] } : ByteArray)) ++ ((m88 (Z.wrap (100 + ((m.ii n.toNat 0).tmod 60)))).extract 1 ((↑((m88 (Z.wrap (100 + ((m.ii n.toNat 0).tmod 60)))).size) : Int).toNat))), SV.str (m89 (m.ii n.toNat 1)), SV.str (m88 (m.ii n.toNat 2))] 1) p t u).2.1 (m85u 4 (datS [SV.str ({ data := #[OfNat.ofNat 108, OfNat.ofNat 101, OfNat.ofNat 103] } : ByteArray), SV.str (((m88 (Z.wrap ((m.ii n.toNat 0).tdiv 60))) ++ ({ data := #[OfNat.ofNat 58] } : ByteArray)) ++ ((m88 (Z.wrap (100 + ((m.ii n.toNat 0).tmod 60)))).extract 1 ((↑((m88 (Z.wrap (100 + ((m.ii n.toNat 0).tmod 60)))).size) : Int).toNat))), SV.str (m89 (m.ii n.toNat 1)), SV.str (m88 (m.ii n.toNat 2))] 1) p t u).2.2) none) none) none) none) none) none) none) none) none) (some (p, t, u)))
noncomputable abbrev o51_2 (F : Nat) (m : Dat) (L : Int) (w : ByteArray) (x : Int) (I : Nat) (y z A C D : Dat) (n : Int) (p t : Nat) (u : Dat) : Option (Nat × Nat × Dat) := l51_2 F m L w x I y z A C D (F + L.toNat + n.toNat + w.size + x.toNat + I + p + t + 8) n p t u
noncomputable def e51_2 (F : Nat) (m : Dat) (L : Int) (w : ByteArray) (x : Int) (I : Nat) (y z A C D : Dat) (r : Nat × Nat × Dat) (K : XR) : Prop := K (XE.exit 2) [.ptr 2 0] [.cells 41 [.str w, V Z x, .ro [W Z, W Z] I y, .ro [W Z, W Z, W Z] F z], .row 41 [.str, W Z, .sl [W Z, W Z], .sl [W Z, W Z, W Z]] 1 A, .cells 125 [.ptr 2 0, .gr 6 1 r.1], .row 9 [.str] 2 C, .unk, .row 9 [.str] 2 D, .row 5 [.int .u8] r.2.1 r.2.2]
noncomputable def g51_2 : LSum := fun s k => match czv 0 76 [5, 6, 47, 48, 49] 7 [⟨false, 2, 1, 6, 5, [.int .u8]⟩] s with
  | some ([.ptr 2 0, .fn 85 [.ptr 2 0], .ro [W Z, W Z, W Z] F m, V Z L, V Z n], [.cells 41 [.str w, V Z x, .ro [W Z, W Z] I y, .ro [W Z, W Z, W Z] H z], .row 41 [.str, W Z, .sl [W Z, W Z], .sl [W Z, W Z, W Z]] 1 A, .cells 125 [.ptr 2 0, .gr 6 1 p], .row 9 [.str] 2 C, .unk, .row 9 [.str] 2 D, .row 5 [.int .u8] t u]) => needs [decide (F = H), (o51_2 F m L w x I y z A C D n p t u).isSome] (e51_2 F m L w x I y z A C D ((o51_2 F m L w x I y z A C D n p t u).getD default) fun e vs bs => inBlk 2 k e (mkSt 0 76 [5] vs 7 bs))
  | _ => False
theorem z51_2 : LOk Tryd.prog g51_2 (.block 2 (bodyAt (Tryd.f51.body.getD .skip) 2)) := by
  refine lb (ι := Nat × Dat × Int × Int × ByteArray × Int × Nat × Dat × Dat × Dat × Nat × Dat × Dat × Nat × Dat) (fuel := 8) (na := 0) (nt := 76) (nx := 7) (Lh := [5, 6, 47, 48, 49]) (Le := [5]) (gl := [⟨false, 2, 1, 6, 5, [.int .u8]⟩]) (tc k60 (tc k85 (tc k88 (tc k89 (tc k90 tn))))) mix_ok (lam_of rfl (lc z51_0 ln)) rfl (fun f (F, m, L, n, w, x, I, y, z, A, p, C, D, t, u) K => GG default (e51_2 F m L w x I y z A C D) K (l51_2 F m L w x I y z A C D f n p t u)) (fun (F, m, L, n, w, x, I, y, z, A, p, C, D, t, u) => [.ptr 2 0, .fn 85 [.ptr 2 0], .ro [W Z, W Z, W Z] F m, V Z L, V Z n]) (fun (F, m, L, n, w, x, I, y, z, A, p, C, D, t, u) => [.cells 41 [.str w, V Z x, .ro [W Z, W Z] I y, .ro [W Z, W Z, W Z] F z], .row 41 [.str, W Z, .sl [W Z, W Z], .sl [W Z, W Z, W Z]] 1 A, .cells 125 [.ptr 2 0, .gr 6 1 p], .row 9 [.str] 2 C, .unk, .row 9 [.str] 2 D, .row 5 [.int .u8] t u]) (fun (_, _, _, _, _, _, _, _, _, _, _, _, _, _, _) K => gg_none) ?_ ?_
  · rintro f ⟨F, m, L, n, w, x, I, y, z, A, p, C, D, t, u⟩ K hG
    refine ro (fun R => (cnd (decide (n < L))
 (cnd (decide (0 ≤ n ∧ n < ↑F))
 (cnd (n88 (Z.wrap ((m.ii n.toNat 0).tdiv 60)))
 (cnd (decide ((((m88 (Z.wrap ((m.ii n.toNat 0).tdiv 60))).size) + 1) ≤ 9223372036854775807))
 (cnd (n88 (Z.wrap (100 + ((m.ii n.toNat 0).tmod 60))))
 (cnd (decide ((0 : Int) ≤ (1 : Int) ∧ (1 : Int) ≤ (↑(m88 (Z.wrap ((100 : Int) + (m.ii n.toNat (0 : Nat)).tmod (60 : Int)))).size : Int) ∧ (↑(m88 (Z.wrap ((100 : Int) + (m.ii n.toNat (0 : Nat)).tmod (60 : Int)))).size : Int) ≤ (↑(m88 (Z.wrap ((100 : Int) + (m.ii n.toNat (0 : Nat)).tmod (60 : Int)))).size : Int)))
 (cnd (decide (((((m88 (Z.wrap ((m.ii n.toNat 0).tdiv 60))) ++ ({ data := #[OfNat.ofNat 58] } : ByteArray)).size) + (((m88 (Z.wrap (100 + ((m.ii n.toNat 0).tmod 60)))).extract 1 ((↑((m88 (Z.wrap (100 + ((m.ii n.toNat 0).tmod 60)))).size) : Int).toNat)).size)) ≤ 9223372036854775807))
 (cnd (n89 (m.ii n.toNat 1))
 (cnd (n88 (m.ii n.toNat 2))
 (cnd (n85u 4 (datS [SV.str ({ data := #[OfNat.ofNat 108, OfNat.ofNat 101, OfNat.ofNat 103] } : ByteArray), SV.str (((m88 (Z.wrap ((m.ii n.toNat 0).tdiv 60))) ++ ({ data := #[OfNat.ofNat 58] } : ByteArray)) ++ ((m88 (Z.wrap (100 + ((m.ii n.toNat 0).tmod 60)))).extract 1 ((↑((m88 (Z.wrap (100 + ((m.ii n.toNat 0).tmod 60)))).size) : Int).toNat))), SV.str (m89 (m.ii n.toNat 1)), SV.str (m88 (m.ii n.toNat 2))] 1) p t u)
 (R (XE.normal) [.ptr 2 0, .fn 85 [.ptr 2 0], .ro [W Z, W Z, W Z] F m, V Z L, V Z (Z.wrap (n + 1))] [.cells 41 [.str w, V Z x, .ro [W Z, W Z] I y, .ro [W Z, W Z, W Z] F z], .row 41 [.str, W Z, .sl [W Z, W Z], .sl [W Z, W Z, W Z]] 1 A, .cells 125 [.ptr 2 0, .gr 6 1 (m85u 4 (datS [SV.str ({ data := #[OfNat.ofNat 108, OfNat.ofNat 101, OfNat.ofNat 103] } : ByteArray), SV.str (((m88 (Z.wrap ((m.ii n.toNat 0).tdiv 60))) ++ ({ data := #[OfNat.ofNat 58] } : ByteArray)) ++ ((m88 (Z.wrap (100 + ((m.ii n.toNat 0).tmod 60)))).extract 1 ((↑((m88 (Z.wrap (100 + ((m.ii n.toNat 0).tmod 60)))).size) : Int).toNat))), SV.str (m89 (m.ii n.toNat 1)), SV.str (m88 (m.ii n.toNat 2))] 1) p t u).1], .row 9 [.str] 2 C, .unk, .row 9 [.str] 2 D, .row 5 [.int .u8] (m85u 4 (datS [SV.str ({ data := #[OfNat.ofNat 108, OfNat.ofNat 101, OfNat.ofNat 103] } : ByteArray), SV.str (((m88 (Z.wrap ((m.ii n.toNat 0).tdiv 60))) ++ ({ data := #[OfNat.ofNat 58] } : ByteArray)) ++ ((m88 (Z.wrap (100 + ((m.ii n.toNat 0).tmod 60)))).extract 1 ((↑((m88 (Z.wrap (100 + ((m.ii n.toNat 0).tmod 60)))).size) : Int).toNat))), SV.str (m89 (m.ii n.toNat 1)), SV.str (m88 (m.ii n.toNat 2))] 1) p t u).2.1 (m85u 4 (datS [SV.str ({ data := #[OfNat.ofNat 108, OfNat.ofNat 101, OfNat.ofNat 103] } : ByteArray), SV.str (((m88 (Z.wrap ((m.ii n.toNat 0).tdiv 60))) ++ ({ data := #[OfNat.ofNat 58] } : ByteArray)) ++ ((m88 (Z.wrap (100 + ((m.ii n.toNat 0).tmod 60)))).extract 1 ((↑((m88 (Z.wrap (100 + ((m.ii n.toNat 0).tmod 60)))).size) : Int).toNat))), SV.str (m89 (m.ii n.toNat 1)), SV.str (m88 (m.ii n.toNat 2))] 1) p t u).2.2])
           False)
          False)
         False)
        False)
       False)
      False)
     False)
    False)
   False)
 (R (XE.exit 2) [.ptr 2 0] [.cells 41 [.str w, V Z x, .ro [W Z, W Z] I y, .ro [W Z, W Z, W Z] F z], .row 41 [.str, W Z, .sl [W Z, W Z], .sl [W Z, W Z, W Z]] 1 A, .cells 125 [.ptr 2 0, .gr 6 1 p], .row 9 [.str] 2 C, .unk, .row 9 [.str] 2 D, .row 5 [.int .u8] t u]))) (fun R => by kernel_rfl) ?_
    exact ch hG (fun h0 => cg h0 fun h1 => cg h1 fun h2 => cg h2 fun h3 => cg h3 fun h4 => cg h4 fun h5 => cg h5 fun h6 => cg h6 fun h7 => cg h7 fun h8 => cg h8 fun h9 => ⟨(_, _, _, _, _, _, _, _, _, _, _, _, _, _, _), rfl, rfl, h9⟩) (fun h0 => h0.2)
  · intro s k h
    unfold g51_2 at h
    split at h <;> try exact h.elim
    rename_i e1
    rw [needs_iff] at h
    have hq := h.1
    simp only [List.mem_cons, forall_eq_or_imp, decide_eq_true_eq, List.not_mem_nil, false_imp_iff, implies_true, and_true] at hq
    obtain ⟨rfl, hq⟩ := hq
    exact ⟨_, e1, _, (_, _, _, _, _, _, _, _, _, _, _, _, _, _, _), rfl, rfl, hq, h.2⟩
noncomputable def t51_0 (l : ByteArray) (j : Int) (d : Nat) (i : Dat) (b : Nat) (g : Dat) : Dat := datS [SV.str l, V Z j, SV.ro [Kd.int Z, Kd.int Z] d i, SV.ro [Kd.int Z, Kd.int Z, Kd.int Z] b g] 4
noncomputable def t51_1 (l : ByteArray) (j : Int) (d : Nat) (i : Dat) (b : Nat) (g : Dat) : Dat := datS [SV.str ({ data := #[OfNat.ofNat 112, OfNat.ofNat 108, OfNat.ofNat 97, OfNat.ofNat 110] } : ByteArray), SV.str l] 1
noncomputable def t51_2 (l : ByteArray) (j : Int) (d : Nat) (i : Dat) (b : Nat) (g : Dat) : Dat := datS [SV.str ({ data := #[OfNat.ofNat 115, OfNat.ofNat 117, OfNat.ofNat 114, OfNat.ofNat 102, OfNat.ofNat 97, OfNat.ofNat 99, OfNat.ofNat 101] } : ByteArray), SV.str (m88 j)] 1
noncomputable def t51_3 (l : ByteArray) (j : Int) (d : Nat) (i : Dat) (b : Nat) (g : Dat) : Nat := (m85f 2 (t51_1 l j d i b g) 0 0 noDat).2.1
noncomputable def t51_4 (l : ByteArray) (j : Int) (d : Nat) (i : Dat) (b : Nat) (g : Dat) : Dat := (m85f 2 (t51_1 l j d i b g) 0 0 noDat).2.2
noncomputable def t51_5 (l : ByteArray) (j : Int) (d : Nat) (i : Dat) (b : Nat) (g : Dat) : Nat := (m85u 2 (t51_2 l j d i b g) (m85f 2 (t51_1 l j d i b g) 0 0 noDat).1 (t51_3 l j d i b g) (t51_4 l j d i b g)).1
noncomputable def t51_6 (l : ByteArray) (j : Int) (d : Nat) (i : Dat) (b : Nat) (g : Dat) : Nat := (m85u 2 (t51_2 l j d i b g) (m85f 2 (t51_1 l j d i b g) 0 0 noDat).1 (t51_3 l j d i b g) (t51_4 l j d i b g)).2.1
noncomputable def t51_7 (l : ByteArray) (j : Int) (d : Nat) (i : Dat) (b : Nat) (g : Dat) : Dat := (m85u 2 (t51_2 l j d i b g) (m85f 2 (t51_1 l j d i b g) 0 0 noDat).1 (t51_3 l j d i b g) (t51_4 l j d i b g)).2.2
noncomputable def t51_8 (l : ByteArray) (j : Int) (d : Nat) (i : Dat) (b : Nat) (g : Dat) : Nat := ((o51_0 d i (↑d : Int) l j i b g (t51_0 l j d i b g) (t51_1 l j d i b g) (t51_2 l j d i b g) 0 (t51_5 l j d i b g) (t51_6 l j d i b g) (t51_7 l j d i b g)).getD default).1
noncomputable def t51_9 (l : ByteArray) (j : Int) (d : Nat) (i : Dat) (b : Nat) (g : Dat) : Nat := ((o51_0 d i (↑d : Int) l j i b g (t51_0 l j d i b g) (t51_1 l j d i b g) (t51_2 l j d i b g) 0 (t51_5 l j d i b g) (t51_6 l j d i b g) (t51_7 l j d i b g)).getD default).2.1
noncomputable def t51_10 (l : ByteArray) (j : Int) (d : Nat) (i : Dat) (b : Nat) (g : Dat) : Dat := ((o51_0 d i (↑d : Int) l j i b g (t51_0 l j d i b g) (t51_1 l j d i b g) (t51_2 l j d i b g) 0 (t51_5 l j d i b g) (t51_6 l j d i b g) (t51_7 l j d i b g)).getD default).2.2
noncomputable def t51_11 (l : ByteArray) (j : Int) (d : Nat) (i : Dat) (b : Nat) (g : Dat) : Nat := ((o51_2 b g (↑b : Int) l j d i g (t51_0 l j d i b g) (t51_1 l j d i b g) (t51_2 l j d i b g) 0 (t51_8 l j d i b g) (t51_9 l j d i b g) (t51_10 l j d i b g)).getD default).1
noncomputable def t51_12 (l : ByteArray) (j : Int) (d : Nat) (i : Dat) (b : Nat) (g : Dat) : Dat := ((o51_2 b g (↑b : Int) l j d i g (t51_0 l j d i b g) (t51_1 l j d i b g) (t51_2 l j d i b g) 0 (t51_8 l j d i b g) (t51_9 l j d i b g) (t51_10 l j d i b g)).getD default).2.2
noncomputable def U51 (l : ByteArray) (j : Int) (d : Nat) (i : Dat) (b : Nat) (g z0 z1 z2 : Dat) (z3 : Nat) (z4 : Dat) (z5 z6 : Nat) (z7 : Dat) (z8 z9 : Nat) (z10 : Dat) (z11 : Nat) (z12 : Dat) (R : SV → List Blk → List Blk → Prop) : Prop :=
 (cnd (n60 1 z0)
 (cnd (bif (decide ((m60 1 z0) = 0)) then false else true)
 (R (.tup [.str ({ data := #[] } : ByteArray), V Z (m60 1 z0)]) [] [])
 (cnd (n85f 2 z1 0 0 noDat)
 (cnd (n88 j)
 (cnd (n85u 2 z2 (m85f 2 z1 0 0 noDat).1 z3 z4)
 (cnd (decide (d = d))
 (cnd ((o51_0 d i (↑d : Int) l j i b g z0 z1 z2 0 z5 z6 z7).isSome)
 (cnd (decide (b = b))
 (cnd ((o51_2 b g (↑b : Int) l j d i g z0 z1 z2 0 z8 z9 z10).isSome)
 (cnd (n90 z11 ((o51_2 b g (↑b : Int) l j d i g z0 z1 z2 0 z8 z9 z10).getD default).2.1 z12)
 (R (.tup [.str (m90 z11 z12), V Z 0]) [] [])
           False)
          False)
         False)
        False)
       False)
      False)
     False)
    False))
  False)
noncomputable def w51 (l : ByteArray) (j : Int) (d : Nat) (i : Dat) (b : Nat) (g z0 z1 z2 : Dat) (z3 : Nat) (z4 : Dat) (z5 z6 : Nat) (z7 : Dat) (z8 z9 : Nat) (z10 : Dat) (z11 : Nat) (z12 : Dat) : ByteArray × Int :=
  (cond (bif (decide ((m60 1 z0) = 0)) then false else true) (({ data := #[] } : ByteArray), (m60 1 z0)) ((m90 z11 z12), 0))
noncomputable def v51 (l : ByteArray) (j : Int) (d : Nat) (i : Dat) (b : Nat) (g z0 z1 z2 : Dat) (z3 : Nat) (z4 : Dat) (z5 z6 : Nat) (z7 : Dat) (z8 z9 : Nat) (z10 : Dat) (z11 : Nat) (z12 : Dat) : Bool :=
  ((n60 1 z0) && (cond (bif (decide ((m60 1 z0) = 0)) then false else true) true ((n85f 2 z1 0 0 noDat) && ((n88 j) && ((n85u 2 z2 (m85f 2 z1 0 0 noDat).1 z3 z4) && (((o51_0 d i (↑d : Int) l j i b g z0 z1 z2 0 z5 z6 z7).isSome) && (((o51_2 b g (↑b : Int) l j d i g z0 z1 z2 0 z8 z9 z10).isSome) && ((n90 z11 ((o51_2 b g (↑b : Int) l j d i g z0 z1 z2 0 z8 z9 z10).getD default).2.1 z12) && true))))))))
noncomputable def m51 (l : ByteArray) (j : Int) (d : Nat) (i : Dat) (b : Nat) (g : Dat) : ByteArray × Int := w51 l j d i b g (t51_0 l j d i b g) (t51_1 l j d i b g) (t51_2 l j d i b g) (t51_3 l j d i b g) (t51_4 l j d i b g) (t51_5 l j d i b g) (t51_6 l j d i b g) (t51_7 l j d i b g) (t51_8 l j d i b g) (t51_9 l j d i b g) (t51_10 l j d i b g) (t51_11 l j d i b g) (t51_12 l j d i b g)
noncomputable def n51 (l : ByteArray) (j : Int) (d : Nat) (i : Dat) (b : Nat) (g : Dat) : Bool := v51 l j d i b g (t51_0 l j d i b g) (t51_1 l j d i b g) (t51_2 l j d i b g) (t51_3 l j d i b g) (t51_4 l j d i b g) (t51_5 l j d i b g) (t51_6 l j d i b g) (t51_7 l j d i b g) (t51_8 l j d i b g) (t51_9 l j d i b g) (t51_10 l j d i b g) (t51_11 l j d i b g) (t51_12 l j d i b g)
noncomputable def q51 (r : ByteArray × Int) : SV × List Blk × List Blk := (.tup [.str r.1, V Z r.2], [], [])
noncomputable def g51 : GF := fun vs bs => match vs, bs with
  | [.agg [.str l, V Z j, .ro [W Z, W Z] d i, .ro [W Z, W Z, W Z] b g]], [] => some (rs 0 (q51 (m51 l j d i b g)) [n51 l j d i b g])
  | _, _ => none
noncomputable def c51 : Ctr := genC [.a [.k, .k, .ro [W Z, W Z], .ro [W Z, W Z, W Z]]] g51
theorem u51 (l : ByteArray) (j : Int) (d : Nat) (i : Dat) (b : Nat) (g z0 z1 z2 : Dat) (z3 : Nat) (z4 : Dat) (z5 z6 : Nat) (z7 : Dat) (z8 z9 : Nat) (z10 : Dat) (z11 : Nat) (z12 : Dat) (hn : v51 l j d i b g z0 z1 z2 z3 z4 z5 z6 z7 z8 z9 z10 z11 z12 = true) : U51 l j d i b g z0 z1 z2 z3 z4 z5 z6 z7 z8 z9 z10 z11 z12 (fun v U N => (v, U, N) = q51 (w51 l j d i b g z0 z1 z2 z3 z4 z5 z6 z7 z8 z9 z10 z11 z12)) :=
  cn (al hn) (co (fun h0 => lf (cT h0 rfl) rfl) (fun h0 => cn (al (cf h0 (ar hn))) (cn (al (ar (cf h0 (ar hn)))) (cn (al (ar (ar (cf h0 (ar hn))))) (cn (decide_eq_true rfl) (cn (al (ar (ar (ar (cf h0 (ar hn)))))) (cn (decide_eq_true rfl) (cn (al (ar (ar (ar (ar (cf h0 (ar hn))))))) (cn (al (ar (ar (ar (ar (ar (cf h0 (ar hn)))))))) (lf (cF h0 rfl) rfl))))))))))
theorem k51 : CtrOk Tryd.prog c51 51 := cx (tc k60 (tc k85 (tc k88 (tc k89 (tc k90 tn))))) mix_ok 8 (fn := Tryd.f51) (c := (Tryd.f51.body.getD .skip)) (grs := []) (rh := .k) Tryd.func51 rfl (by kernel_rfl) (lam_of rfl (lc z51_0 (lc z51_2 ln))) fun vs bs q h hn => by
  unfold g51 at h
  split at h <;> cases h
  rename_i l j d i b g
  have hn := n1 hn
  exact ⟨_, rfl, ca (fun R => U51 l j d i b g (t51_0 l j d i b g) (t51_1 l j d i b g) (t51_2 l j d i b g) (t51_3 l j d i b g) (t51_4 l j d i b g) (t51_5 l j d i b g) (t51_6 l j d i b g) (t51_7 l j d i b g) (t51_8 l j d i b g) (t51_9 l j d i b g) (t51_10 l j d i b g) (t51_11 l j d i b g) (t51_12 l j d i b g) R) (fun R => by kernel_rfl) (u51 l j d i b g (t51_0 l j d i b g) (t51_1 l j d i b g) (t51_2 l j d i b g) (t51_3 l j d i b g) (t51_4 l j d i b g) (t51_5 l j d i b g) (t51_6 l j d i b g) (t51_7 l j d i b g) (t51_8 l j d i b g) (t51_9 l j d i b g) (t51_10 l j d i b g) (t51_11 l j d i b g) (t51_12 l j d i b g) hn)⟩
/-! ### shotline/shotlinelaw02.awake -/
noncomputable def m10  : Bool :=
  (bif (bif (bif (bif (bif (bif (bif (bif (bif (decide ((m21 m47.1 m47.2.1 2 m47.2.2.1 4 m47.2.2.2).2 = 0)) then (decide ((m21 m47.1 m47.2.1 2 m47.2.2.1 4 m47.2.2.2).1 = 1080)) else false) then (decide ((m48 m47.1 m47.2.1 2 m47.2.2.1 4 m47.2.2.2 701).2.2 = 0)) else false) then (bif (decide ((m48 m47.1 m47.2.1 2 m47.2.2.1 4 m47.2.2.2 701).1 = 1390)) then (bif (decide ((m48 m47.1 m47.2.1 2 m47.2.2.1 4 m47.2.2.2 701).2.1 = 1390)) then true else false) else false) else false) then (decide ((m23 m47.1 m47.2.1 2 m47.2.2.1 4 m47.2.2.2).2.2 = 0)) else false) then (bif (decide ((m23 m47.1 m47.2.1 2 m47.2.2.1 4 m47.2.2.2).1 = 1350)) then (bif (decide ((m23 m47.1 m47.2.1 2 m47.2.2.1 4 m47.2.2.2).2.1 = 1350)) then true else false) else false) else false) then (decide ((m49 4 m50 9 4 (datS [V Z 0, V Z 1, V Z 1, V Z 2] 1)).2 = 0)) else false) then (decide ((m49 4 m50 9 4 (datS [V Z 0, V Z 1, V Z 1, V Z 2] 1)).1 = 3)) else false) then (decide ((m51 m47.1 m47.2.1 2 m47.2.2.1 4 m47.2.2.2).2 = 0)) else false) then (decide ((m51 m47.1 m47.2.1 2 m47.2.2.1 4 m47.2.2.2).1 = (bt30649_0))) else false)
noncomputable def n10  : Bool :=
  ((n21 m47.1 m47.2.1 2 m47.2.2.1 4 m47.2.2.2) && ((n48 m47.1 m47.2.1 2 m47.2.2.1 4 m47.2.2.2 701) && ((n23 m47.1 m47.2.1 2 m47.2.2.1 4 m47.2.2.2) && ((n49 4 m50 9 4 (datS [V Z 0, V Z 1, V Z 1, V Z 2] 1)) && ((n51 m47.1 m47.2.1 2 m47.2.2.1 4 m47.2.2.2) && true)))))
noncomputable def q10 (r : Bool) : SV × List Blk × List Blk := (.bool r, [], [])
noncomputable def g10 : GF := fun vs bs => match vs, bs with
  | [], [] => some (rs 0 (q10 (m10)) [n10 ])
  | _, _ => none
noncomputable def c10 : Ctr := genC [] g10
theorem k10 : CtrOk Tryd.prog c10 10 := cx (tc k21 (tc k23 (tc k47 (tc k48 (tc k49 (tc k50 (tc k51 tn))))))) mix_ok 8 (fn := Tryd.f10) (c := (Tryd.f10.body.getD .skip)) (grs := []) (rh := .k) Tryd.func10 rfl (by kernel_rfl) noLam fun vs bs q h hn => by
  unfold g10 at h
  split at h <;> cases h
  have hn := n1 hn
  exact ⟨_, rfl, ca (fun R => (cnd (n21 m47.1 m47.2.1 2 m47.2.2.1 4 m47.2.2.2)
 (cnd (n48 m47.1 m47.2.1 2 m47.2.2.1 4 m47.2.2.2 701)
 (cnd (n23 m47.1 m47.2.1 2 m47.2.2.1 4 m47.2.2.2)
 (cnd (n49 4 m50 9 4 (datS [V Z 0, V Z 1, V Z 1, V Z 2] 1))
 (cnd (n51 m47.1 m47.2.1 2 m47.2.2.1 4 m47.2.2.2)
 (R (.bool (bif (bif (bif (bif (bif (bif (bif (bif (bif (decide ((m21 m47.1 m47.2.1 2 m47.2.2.1 4 m47.2.2.2).2 = 0)) then (decide ((m21 m47.1 m47.2.1 2 m47.2.2.1 4 m47.2.2.2).1 = 1080)) else false) then (decide ((m48 m47.1 m47.2.1 2 m47.2.2.1 4 m47.2.2.2 701).2.2 = 0)) else false) then (bif (decide ((m48 m47.1 m47.2.1 2 m47.2.2.1 4 m47.2.2.2 701).1 = 1390)) then (bif (decide ((m48 m47.1 m47.2.1 2 m47.2.2.1 4 m47.2.2.2 701).2.1 = 1390)) then true else false) else false) else false) then (decide ((m23 m47.1 m47.2.1 2 m47.2.2.1 4 m47.2.2.2).2.2 = 0)) else false) then (bif (decide ((m23 m47.1 m47.2.1 2 m47.2.2.1 4 m47.2.2.2).1 = 1350)) then (bif (decide ((m23 m47.1 m47.2.1 2 m47.2.2.1 4 m47.2.2.2).2.1 = 1350)) then true else false) else false) else false) then (decide ((m49 4 m50 9 4 (datS [V Z 0, V Z 1, V Z 1, V Z 2] 1)).2 = 0)) else false) then (decide ((m49 4 m50 9 4 (datS [V Z 0, V Z 1, V Z 1, V Z 2] 1)).1 = 3)) else false) then (decide ((m51 m47.1 m47.2.1 2 m47.2.2.1 4 m47.2.2.2).2 = 0)) else false) then (decide ((m51 m47.1 m47.2.1 2 m47.2.2.1 4 m47.2.2.2).1 = (bt30649_0))) else false)) [] [])
      False)
     False)
    False)
   False)
  False)) (fun R => by kernel_rfl) (cn (al hn) (cn (al (ar hn)) (cn (al (ar (ar hn))) (cn (al (ar (ar (ar hn)))) (cn (al (ar (ar (ar (ar hn))))) (lf rfl rfl))))))⟩
/-! ### shotline/shotlinelaw02.ProfileNormals -/
noncomputable def t7_0 (i : ByteArray) (j : Int) (b : Nat) (d : Dat) (e : Nat) (g : Dat) : Bool := n20 i j b d e g
noncomputable def t7_1 (i : ByteArray) (j : Int) (b : Nat) (d : Dat) (e : Nat) (g : Dat) : ByteArray := (m20 i j b d e g).1
noncomputable def t7_2 (i : ByteArray) (j : Int) (b : Nat) (d : Dat) (e : Nat) (g : Dat) : Int := (m20 i j b d e g).2.1
noncomputable def t7_3 (i : ByteArray) (j : Int) (b : Nat) (d : Dat) (e : Nat) (g : Dat) : Nat := (m20 i j b d e g).2.2.1
noncomputable def t7_4 (i : ByteArray) (j : Int) (b : Nat) (d : Dat) (e : Nat) (g : Dat) : Dat := (m20 i j b d e g).2.2.2.1
noncomputable def t7_5 (i : ByteArray) (j : Int) (b : Nat) (d : Dat) (e : Nat) (g : Dat) : Nat := (m20 i j b d e g).2.2.2.2.1
noncomputable def t7_6 (i : ByteArray) (j : Int) (b : Nat) (d : Dat) (e : Nat) (g : Dat) : Dat := (m20 i j b d e g).2.2.2.2.2
noncomputable def t7_7 (i : ByteArray) (j : Int) (b : Nat) (d : Dat) (e : Nat) (g : Dat) : Int := (m25 i j b d e g).2
noncomputable def t7_8 (i : ByteArray) (j : Int) (b : Nat) (d : Dat) (e : Nat) (g : Dat) : Int := (m39 (t7_1 i j b d e g) (t7_2 i j b d e g) (t7_3 i j b d e g) (t7_4 i j b d e g) (t7_5 i j b d e g) (t7_6 i j b d e g)).2.2.2.2.2.2
noncomputable def t7_9 (i : ByteArray) (j : Int) (b : Nat) (d : Dat) (e : Nat) (g : Dat) : ByteArray := (m39 (t7_1 i j b d e g) (t7_2 i j b d e g) (t7_3 i j b d e g) (t7_4 i j b d e g) (t7_5 i j b d e g) (t7_6 i j b d e g)).1
noncomputable def t7_10 (i : ByteArray) (j : Int) (b : Nat) (d : Dat) (e : Nat) (g : Dat) : Int := (m39 (t7_1 i j b d e g) (t7_2 i j b d e g) (t7_3 i j b d e g) (t7_4 i j b d e g) (t7_5 i j b d e g) (t7_6 i j b d e g)).2.1
noncomputable def t7_11 (i : ByteArray) (j : Int) (b : Nat) (d : Dat) (e : Nat) (g : Dat) : Nat := (m39 (t7_1 i j b d e g) (t7_2 i j b d e g) (t7_3 i j b d e g) (t7_4 i j b d e g) (t7_5 i j b d e g) (t7_6 i j b d e g)).2.2.1
noncomputable def t7_12 (i : ByteArray) (j : Int) (b : Nat) (d : Dat) (e : Nat) (g : Dat) : Dat := (m39 (t7_1 i j b d e g) (t7_2 i j b d e g) (t7_3 i j b d e g) (t7_4 i j b d e g) (t7_5 i j b d e g) (t7_6 i j b d e g)).2.2.2.1
noncomputable def t7_13 (i : ByteArray) (j : Int) (b : Nat) (d : Dat) (e : Nat) (g : Dat) : Nat := (m39 (t7_1 i j b d e g) (t7_2 i j b d e g) (t7_3 i j b d e g) (t7_4 i j b d e g) (t7_5 i j b d e g) (t7_6 i j b d e g)).2.2.2.2.1
noncomputable def t7_14 (i : ByteArray) (j : Int) (b : Nat) (d : Dat) (e : Nat) (g : Dat) : Dat := (m39 (t7_1 i j b d e g) (t7_2 i j b d e g) (t7_3 i j b d e g) (t7_4 i j b d e g) (t7_5 i j b d e g) (t7_6 i j b d e g)).2.2.2.2.2.1
noncomputable def t7_15 (i : ByteArray) (j : Int) (b : Nat) (d : Dat) (e : Nat) (g : Dat) : ByteArray := (m40 i j b d e g).1
noncomputable def t7_16 (i : ByteArray) (j : Int) (b : Nat) (d : Dat) (e : Nat) (g : Dat) : Int := (m40 i j b d e g).2.1
noncomputable def t7_17 (i : ByteArray) (j : Int) (b : Nat) (d : Dat) (e : Nat) (g : Dat) : Nat := (m40 i j b d e g).2.2.1
noncomputable def t7_18 (i : ByteArray) (j : Int) (b : Nat) (d : Dat) (e : Nat) (g : Dat) : Dat := (m40 i j b d e g).2.2.2.1
noncomputable def t7_19 (i : ByteArray) (j : Int) (b : Nat) (d : Dat) (e : Nat) (g : Dat) : Nat := (m40 i j b d e g).2.2.2.2.1
noncomputable def t7_20 (i : ByteArray) (j : Int) (b : Nat) (d : Dat) (e : Nat) (g : Dat) : Dat := (m40 i j b d e g).2.2.2.2.2
noncomputable def t7_21 (i : ByteArray) (j : Int) (b : Nat) (d : Dat) (e : Nat) (g : Dat) : Bool := n20 (t7_9 i j b d e g) (t7_10 i j b d e g) (t7_11 i j b d e g) (t7_12 i j b d e g) (t7_13 i j b d e g) (t7_14 i j b d e g)
noncomputable def t7_22 (i : ByteArray) (j : Int) (b : Nat) (d : Dat) (e : Nat) (g : Dat) : ByteArray := (m20 (t7_9 i j b d e g) (t7_10 i j b d e g) (t7_11 i j b d e g) (t7_12 i j b d e g) (t7_13 i j b d e g) (t7_14 i j b d e g)).1
noncomputable def t7_23 (i : ByteArray) (j : Int) (b : Nat) (d : Dat) (e : Nat) (g : Dat) : Int := (m20 (t7_9 i j b d e g) (t7_10 i j b d e g) (t7_11 i j b d e g) (t7_12 i j b d e g) (t7_13 i j b d e g) (t7_14 i j b d e g)).2.1
noncomputable def t7_24 (i : ByteArray) (j : Int) (b : Nat) (d : Dat) (e : Nat) (g : Dat) : Nat := (m20 (t7_9 i j b d e g) (t7_10 i j b d e g) (t7_11 i j b d e g) (t7_12 i j b d e g) (t7_13 i j b d e g) (t7_14 i j b d e g)).2.2.1
noncomputable def t7_25 (i : ByteArray) (j : Int) (b : Nat) (d : Dat) (e : Nat) (g : Dat) : Dat := (m20 (t7_9 i j b d e g) (t7_10 i j b d e g) (t7_11 i j b d e g) (t7_12 i j b d e g) (t7_13 i j b d e g) (t7_14 i j b d e g)).2.2.2.1
noncomputable def t7_26 (i : ByteArray) (j : Int) (b : Nat) (d : Dat) (e : Nat) (g : Dat) : Nat := (m20 (t7_9 i j b d e g) (t7_10 i j b d e g) (t7_11 i j b d e g) (t7_12 i j b d e g) (t7_13 i j b d e g) (t7_14 i j b d e g)).2.2.2.2.1
noncomputable def t7_27 (i : ByteArray) (j : Int) (b : Nat) (d : Dat) (e : Nat) (g : Dat) : Dat := (m20 (t7_9 i j b d e g) (t7_10 i j b d e g) (t7_11 i j b d e g) (t7_12 i j b d e g) (t7_13 i j b d e g) (t7_14 i j b d e g)).2.2.2.2.2
noncomputable def t7_28 (i : ByteArray) (j : Int) (b : Nat) (d : Dat) (e : Nat) (g : Dat) : Int := (m39 (t7_22 i j b d e g) (t7_23 i j b d e g) (t7_24 i j b d e g) (t7_25 i j b d e g) (t7_26 i j b d e g) (t7_27 i j b d e g)).2.2.2.2.2.2
noncomputable def t7_29 (i : ByteArray) (j : Int) (b : Nat) (d : Dat) (e : Nat) (g : Dat) : ByteArray := (m39 (t7_22 i j b d e g) (t7_23 i j b d e g) (t7_24 i j b d e g) (t7_25 i j b d e g) (t7_26 i j b d e g) (t7_27 i j b d e g)).1
noncomputable def t7_30 (i : ByteArray) (j : Int) (b : Nat) (d : Dat) (e : Nat) (g : Dat) : Int := (m39 (t7_22 i j b d e g) (t7_23 i j b d e g) (t7_24 i j b d e g) (t7_25 i j b d e g) (t7_26 i j b d e g) (t7_27 i j b d e g)).2.1
noncomputable def t7_31 (i : ByteArray) (j : Int) (b : Nat) (d : Dat) (e : Nat) (g : Dat) : Nat := (m39 (t7_22 i j b d e g) (t7_23 i j b d e g) (t7_24 i j b d e g) (t7_25 i j b d e g) (t7_26 i j b d e g) (t7_27 i j b d e g)).2.2.1
noncomputable def t7_32 (i : ByteArray) (j : Int) (b : Nat) (d : Dat) (e : Nat) (g : Dat) : Dat := (m39 (t7_22 i j b d e g) (t7_23 i j b d e g) (t7_24 i j b d e g) (t7_25 i j b d e g) (t7_26 i j b d e g) (t7_27 i j b d e g)).2.2.2.1
noncomputable def t7_33 (i : ByteArray) (j : Int) (b : Nat) (d : Dat) (e : Nat) (g : Dat) : Nat := (m39 (t7_22 i j b d e g) (t7_23 i j b d e g) (t7_24 i j b d e g) (t7_25 i j b d e g) (t7_26 i j b d e g) (t7_27 i j b d e g)).2.2.2.2.1
noncomputable def t7_34 (i : ByteArray) (j : Int) (b : Nat) (d : Dat) (e : Nat) (g : Dat) : Dat := (m39 (t7_22 i j b d e g) (t7_23 i j b d e g) (t7_24 i j b d e g) (t7_25 i j b d e g) (t7_26 i j b d e g) (t7_27 i j b d e g)).2.2.2.2.2.1
noncomputable def U7 (i : ByteArray) (j : Int) (b : Nat) (d : Dat) (e : Nat) (g : Dat) (z0 : Bool) (z1 : ByteArray) (z2 : Int) (z3 : Nat) (z4 : Dat) (z5 : Nat) (z6 : Dat) (z7 z8 : Int) (z9 : ByteArray) (z10 : Int) (z11 : Nat) (z12 : Dat) (z13 : Nat) (z14 : Dat) (z15 : ByteArray) (z16 : Int) (z17 : Nat) (z18 : Dat) (z19 : Nat) (z20 : Dat) (z21 : Bool) (z22 : ByteArray) (z23 : Int) (z24 : Nat) (z25 : Dat) (z26 : Nat) (z27 : Dat) (z28 : Int) (z29 : ByteArray) (z30 : Int) (z31 : Nat) (z32 : Dat) (z33 : Nat) (z34 : Dat) (R : SV → List Blk → List Blk → Prop) : Prop :=
 (cnd (n10)
 (cnd (bif m10 then false else true)
 (R (.bool false) [] [])
 (cnd (bif (m18 i j b d e g) then false else true)
 (R (.bool true) [] [])
 (cnd (z0)
 (cnd (n39 z1 z2 z3 z4 z5 z6)
 (cnd (n25 i j b d e g)
 (cnd (bif (decide (z7 = 0)) then false else true)
 (R (.bool (bif (decide (z8 = z7)) then (m37 z9 z10 z11 z12 z13 z14) else false)) [] [])
 (cnd (bif (bif (bif (bif (decide (z8 = 0)) then false else true) then false else true) then false else true) then true else (n40 i j b d e g))
 (cnd (bif (bif (bif (bif (decide (z8 = 0)) then false else true) then false else true) then false else true) then true else (n38 z9 z10 z11 z12 z13 z14 z15 z16 z17 z18 z19 z20))
 (cnd (bif (bif (decide (z8 = 0)) then false else true) then true else (bif (m38 z9 z10 z11 z12 z13 z14 z15 z16 z17 z18 z19 z20) then false else true))
 (R (.bool false) [] [])
 (cnd (z21)
 (cnd (n39 z22 z23 z24 z25 z26 z27)
 (cnd (z0)
 (cnd (z21)
 (cnd (n41 z1 z2 z3 z4 z5 z6 z22 z23 z24 z25 z26 z27)
 (cnd (bif (bif (bif (bif (decide (z28 = 0)) then false else true) then false else true) then false else true) then true else (n38 z9 z10 z11 z12 z13 z14 z29 z30 z31 z32 z33 z34))
 (cnd (bif (bif (bif (bif (decide (z28 = 0)) then false else true) then true else (bif (m38 z9 z10 z11 z12 z13 z14 z29 z30 z31 z32 z33 z34) then false else true)) then true else (bif (decide ((m41 z1 z2 z3 z4 z5 z6 z22 z23 z24 z25 z26 z27).2 = 0)) then false else true)) then true else (bif (m41 z1 z2 z3 z4 z5 z6 z22 z23 z24 z25 z26 z27).1 then false else true))
 (R (.bool false) [] [])
 (cnd (n26 i j b d e g)
 (cnd (decide ((5000 : Int) < (m26 i j b d e g)))
 (R (.bool true) [] [])
 (cnd (z0)
 (cnd (z21)
 (cnd (n42 z1 z2 z3 z4 z5 z6 z22 z23 z24 z25 z26 z27)
 (R (.bool (decide ((m42 z1 z2 z3 z4 z5 z6 z22 z23 z24 z25 z26 z27).2 = 12))) [] [])
                       False)
                      False)
                     False))
                   False))
                 False)
                False)
               False)
              False)
             False)
            False))
          False)
         False))
       False)
      False)
     False)))
  False)
noncomputable def w7 (i : ByteArray) (j : Int) (b : Nat) (d : Dat) (e : Nat) (g : Dat) (z0 : Bool) (z1 : ByteArray) (z2 : Int) (z3 : Nat) (z4 : Dat) (z5 : Nat) (z6 : Dat) (z7 z8 : Int) (z9 : ByteArray) (z10 : Int) (z11 : Nat) (z12 : Dat) (z13 : Nat) (z14 : Dat) (z15 : ByteArray) (z16 : Int) (z17 : Nat) (z18 : Dat) (z19 : Nat) (z20 : Dat) (z21 : Bool) (z22 : ByteArray) (z23 : Int) (z24 : Nat) (z25 : Dat) (z26 : Nat) (z27 : Dat) (z28 : Int) (z29 : ByteArray) (z30 : Int) (z31 : Nat) (z32 : Dat) (z33 : Nat) (z34 : Dat) : Bool :=
  (cond (bif m10 then false else true) false (cond (bif (m18 i j b d e g) then false else true) true (cond (bif (decide (z7 = 0)) then false else true) (bif (decide (z8 = z7)) then (m37 z9 z10 z11 z12 z13 z14) else false) (cond (bif (bif (decide (z8 = 0)) then false else true) then true else (bif (m38 z9 z10 z11 z12 z13 z14 z15 z16 z17 z18 z19 z20) then false else true)) false (cond (bif (bif (bif (bif (decide (z28 = 0)) then false else true) then true else (bif (m38 z9 z10 z11 z12 z13 z14 z29 z30 z31 z32 z33 z34) then false else true)) then true else (bif (decide ((m41 z1 z2 z3 z4 z5 z6 z22 z23 z24 z25 z26 z27).2 = 0)) then false else true)) then true else (bif (m41 z1 z2 z3 z4 z5 z6 z22 z23 z24 z25 z26 z27).1 then false else true)) false (cond (decide ((5000 : Int) < (m26 i j b d e g))) true (decide ((m42 z1 z2 z3 z4 z5 z6 z22 z23 z24 z25 z26 z27).2 = 12))))))))
noncomputable def v7 (i : ByteArray) (j : Int) (b : Nat) (d : Dat) (e : Nat) (g : Dat) (z0 : Bool) (z1 : ByteArray) (z2 : Int) (z3 : Nat) (z4 : Dat) (z5 : Nat) (z6 : Dat) (z7 z8 : Int) (z9 : ByteArray) (z10 : Int) (z11 : Nat) (z12 : Dat) (z13 : Nat) (z14 : Dat) (z15 : ByteArray) (z16 : Int) (z17 : Nat) (z18 : Dat) (z19 : Nat) (z20 : Dat) (z21 : Bool) (z22 : ByteArray) (z23 : Int) (z24 : Nat) (z25 : Dat) (z26 : Nat) (z27 : Dat) (z28 : Int) (z29 : ByteArray) (z30 : Int) (z31 : Nat) (z32 : Dat) (z33 : Nat) (z34 : Dat) : Bool :=
  ((n10) && (cond (bif m10 then false else true) true (cond (bif (m18 i j b d e g) then false else true) true ((z0) && ((n39 z1 z2 z3 z4 z5 z6) && ((n25 i j b d e g) && (cond (bif (decide (z7 = 0)) then false else true) true ((bif (bif (bif (bif (decide (z8 = 0)) then false else true) then false else true) then false else true) then true else (n40 i j b d e g)) && ((bif (bif (bif (bif (decide (z8 = 0)) then false else true) then false else true) then false else true) then true else (n38 z9 z10 z11 z12 z13 z14 z15 z16 z17 z18 z19 z20)) && (cond (bif (bif (decide (z8 = 0)) then false else true) then true else (bif (m38 z9 z10 z11 z12 z13 z14 z15 z16 z17 z18 z19 z20) then false else true)) true ((z21) && ((n39 z22 z23 z24 z25 z26 z27) && ((z0) && ((z21) && ((n41 z1 z2 z3 z4 z5 z6 z22 z23 z24 z25 z26 z27) && ((bif (bif (bif (bif (decide (z28 = 0)) then false else true) then false else true) then false else true) then true else (n38 z9 z10 z11 z12 z13 z14 z29 z30 z31 z32 z33 z34)) && (cond (bif (bif (bif (bif (decide (z28 = 0)) then false else true) then true else (bif (m38 z9 z10 z11 z12 z13 z14 z29 z30 z31 z32 z33 z34) then false else true)) then true else (bif (decide ((m41 z1 z2 z3 z4 z5 z6 z22 z23 z24 z25 z26 z27).2 = 0)) then false else true)) then true else (bif (m41 z1 z2 z3 z4 z5 z6 z22 z23 z24 z25 z26 z27).1 then false else true)) true ((n26 i j b d e g) && (cond (decide ((5000 : Int) < (m26 i j b d e g))) true ((z0) && ((z21) && ((n42 z1 z2 z3 z4 z5 z6 z22 z23 z24 z25 z26 z27) && true))))))))))))))))))))))
noncomputable def m7 (i : ByteArray) (j : Int) (b : Nat) (d : Dat) (e : Nat) (g : Dat) : Bool := w7 i j b d e g (t7_0 i j b d e g) (t7_1 i j b d e g) (t7_2 i j b d e g) (t7_3 i j b d e g) (t7_4 i j b d e g) (t7_5 i j b d e g) (t7_6 i j b d e g) (t7_7 i j b d e g) (t7_8 i j b d e g) (t7_9 i j b d e g) (t7_10 i j b d e g) (t7_11 i j b d e g) (t7_12 i j b d e g) (t7_13 i j b d e g) (t7_14 i j b d e g) (t7_15 i j b d e g) (t7_16 i j b d e g) (t7_17 i j b d e g) (t7_18 i j b d e g) (t7_19 i j b d e g) (t7_20 i j b d e g) (t7_21 i j b d e g) (t7_22 i j b d e g) (t7_23 i j b d e g) (t7_24 i j b d e g) (t7_25 i j b d e g) (t7_26 i j b d e g) (t7_27 i j b d e g) (t7_28 i j b d e g) (t7_29 i j b d e g) (t7_30 i j b d e g) (t7_31 i j b d e g) (t7_32 i j b d e g) (t7_33 i j b d e g) (t7_34 i j b d e g)
noncomputable def n7 (i : ByteArray) (j : Int) (b : Nat) (d : Dat) (e : Nat) (g : Dat) : Bool := v7 i j b d e g (t7_0 i j b d e g) (t7_1 i j b d e g) (t7_2 i j b d e g) (t7_3 i j b d e g) (t7_4 i j b d e g) (t7_5 i j b d e g) (t7_6 i j b d e g) (t7_7 i j b d e g) (t7_8 i j b d e g) (t7_9 i j b d e g) (t7_10 i j b d e g) (t7_11 i j b d e g) (t7_12 i j b d e g) (t7_13 i j b d e g) (t7_14 i j b d e g) (t7_15 i j b d e g) (t7_16 i j b d e g) (t7_17 i j b d e g) (t7_18 i j b d e g) (t7_19 i j b d e g) (t7_20 i j b d e g) (t7_21 i j b d e g) (t7_22 i j b d e g) (t7_23 i j b d e g) (t7_24 i j b d e g) (t7_25 i j b d e g) (t7_26 i j b d e g) (t7_27 i j b d e g) (t7_28 i j b d e g) (t7_29 i j b d e g) (t7_30 i j b d e g) (t7_31 i j b d e g) (t7_32 i j b d e g) (t7_33 i j b d e g) (t7_34 i j b d e g)
noncomputable def q7 (r : Bool) : SV × List Blk × List Blk := (.bool r, [], [])
noncomputable def g7 : GF := fun vs bs => match vs, bs with
  | [.agg [.str i, V Z j, .ro [W Z, W Z] b d, .ro [W Z, W Z, W Z] e g]], [] => some (rs 0 (q7 (m7 i j b d e g)) [n7 i j b d e g])
  | _, _ => none
noncomputable def c7 : Ctr := genC [.a [.k, .k, .ro [W Z, W Z], .ro [W Z, W Z, W Z]]] g7
theorem u7 (i : ByteArray) (j : Int) (b : Nat) (d : Dat) (e : Nat) (g : Dat) (z0 : Bool) (z1 : ByteArray) (z2 : Int) (z3 : Nat) (z4 : Dat) (z5 : Nat) (z6 : Dat) (z7 z8 : Int) (z9 : ByteArray) (z10 : Int) (z11 : Nat) (z12 : Dat) (z13 : Nat) (z14 : Dat) (z15 : ByteArray) (z16 : Int) (z17 : Nat) (z18 : Dat) (z19 : Nat) (z20 : Dat) (z21 : Bool) (z22 : ByteArray) (z23 : Int) (z24 : Nat) (z25 : Dat) (z26 : Nat) (z27 : Dat) (z28 : Int) (z29 : ByteArray) (z30 : Int) (z31 : Nat) (z32 : Dat) (z33 : Nat) (z34 : Dat) (hn : v7 i j b d e g z0 z1 z2 z3 z4 z5 z6 z7 z8 z9 z10 z11 z12 z13 z14 z15 z16 z17 z18 z19 z20 z21 z22 z23 z24 z25 z26 z27 z28 z29 z30 z31 z32 z33 z34 = true) : U7 i j b d e g z0 z1 z2 z3 z4 z5 z6 z7 z8 z9 z10 z11 z12 z13 z14 z15 z16 z17 z18 z19 z20 z21 z22 z23 z24 z25 z26 z27 z28 z29 z30 z31 z32 z33 z34 (fun v U N => (v, U, N) = q7 (w7 i j b d e g z0 z1 z2 z3 z4 z5 z6 z7 z8 z9 z10 z11 z12 z13 z14 z15 z16 z17 z18 z19 z20 z21 z22 z23 z24 z25 z26 z27 z28 z29 z30 z31 z32 z33 z34)) :=
  cn (al hn) (co (fun h0 => lf (cT h0 rfl) rfl) (fun h0 => co (fun h1 => lf (cF h0 (cT h1 rfl)) rfl) (fun h1 => cn (al (cf h1 (cf h0 (ar hn)))) (cn (al (ar (cf h1 (cf h0 (ar hn))))) (cn (al (ar (ar (cf h1 (cf h0 (ar hn)))))) (co (fun h2 => lf (cF h0 (cF h1 (cT h2 rfl))) rfl) (fun h2 => cn (al (cf h2 (ar (ar (ar (cf h1 (cf h0 (ar hn)))))))) (cn (al (ar (cf h2 (ar (ar (ar (cf h1 (cf h0 (ar hn))))))))) (co (fun h3 => lf (cF h0 (cF h1 (cF h2 (cT h3 rfl)))) rfl) (fun h3 => cn (al (cf h3 (ar (ar (cf h2 (ar (ar (ar (cf h1 (cf h0 (ar hn))))))))))) (cn (al (ar (cf h3 (ar (ar (cf h2 (ar (ar (ar (cf h1 (cf h0 (ar hn)))))))))))) (cn (al (ar (ar (cf h3 (ar (ar (cf h2 (ar (ar (ar (cf h1 (cf h0 (ar hn))))))))))))) (cn (al (ar (ar (ar (cf h3 (ar (ar (cf h2 (ar (ar (ar (cf h1 (cf h0 (ar hn)))))))))))))) (cn (al (ar (ar (ar (ar (cf h3 (ar (ar (cf h2 (ar (ar (ar (cf h1 (cf h0 (ar hn))))))))))))))) (cn (al (ar (ar (ar (ar (ar (cf h3 (ar (ar (cf h2 (ar (ar (ar (cf h1 (cf h0 (ar hn)))))))))))))))) (co (fun h4 => lf (cF h0 (cF h1 (cF h2 (cF h3 (cT h4 rfl))))) rfl) (fun h4 => cn (al (cf h4 (ar (ar (ar (ar (ar (ar (cf h3 (ar (ar (cf h2 (ar (ar (ar (cf h1 (cf h0 (ar hn)))))))))))))))))) (co (fun h5 => lf (cF h0 (cF h1 (cF h2 (cF h3 (cF h4 (cT h5 rfl)))))) rfl) (fun h5 => cn (al (cf h5 (ar (cf h4 (ar (ar (ar (ar (ar (ar (cf h3 (ar (ar (cf h2 (ar (ar (ar (cf h1 (cf h0 (ar hn)))))))))))))))))))) (cn (al (ar (cf h5 (ar (cf h4 (ar (ar (ar (ar (ar (ar (cf h3 (ar (ar (cf h2 (ar (ar (ar (cf h1 (cf h0 (ar hn))))))))))))))))))))) (cn (al (ar (ar (cf h5 (ar (cf h4 (ar (ar (ar (ar (ar (ar (cf h3 (ar (ar (cf h2 (ar (ar (ar (cf h1 (cf h0 (ar hn)))))))))))))))))))))) (lf (cF h0 (cF h1 (cF h2 (cF h3 (cF h4 (cF h5 rfl)))))) rfl))))))))))))))))))))))
theorem k7 : CtrOk Tryd.prog c7 7 := cx (tc k10 (tc k18 (tc k20 (tc k25 (tc k26 (tc k37 (tc k38 (tc k39 (tc k40 (tc k41 (tc k42 tn))))))))))) mix_ok 8 (fn := Tryd.f7) (c := (Tryd.f7.body.getD .skip)) (grs := []) (rh := .k) Tryd.func7 rfl (by kernel_rfl) noLam fun vs bs q h hn => by
  unfold g7 at h
  split at h <;> cases h
  rename_i i j b d e g
  have hn := n1 hn
  exact ⟨_, rfl, ca (fun R => U7 i j b d e g (t7_0 i j b d e g) (t7_1 i j b d e g) (t7_2 i j b d e g) (t7_3 i j b d e g) (t7_4 i j b d e g) (t7_5 i j b d e g) (t7_6 i j b d e g) (t7_7 i j b d e g) (t7_8 i j b d e g) (t7_9 i j b d e g) (t7_10 i j b d e g) (t7_11 i j b d e g) (t7_12 i j b d e g) (t7_13 i j b d e g) (t7_14 i j b d e g) (t7_15 i j b d e g) (t7_16 i j b d e g) (t7_17 i j b d e g) (t7_18 i j b d e g) (t7_19 i j b d e g) (t7_20 i j b d e g) (t7_21 i j b d e g) (t7_22 i j b d e g) (t7_23 i j b d e g) (t7_24 i j b d e g) (t7_25 i j b d e g) (t7_26 i j b d e g) (t7_27 i j b d e g) (t7_28 i j b d e g) (t7_29 i j b d e g) (t7_30 i j b d e g) (t7_31 i j b d e g) (t7_32 i j b d e g) (t7_33 i j b d e g) (t7_34 i j b d e g) R) (fun R => by kernel_rfl) (u7 i j b d e g (t7_0 i j b d e g) (t7_1 i j b d e g) (t7_2 i j b d e g) (t7_3 i j b d e g) (t7_4 i j b d e g) (t7_5 i j b d e g) (t7_6 i j b d e g) (t7_7 i j b d e g) (t7_8 i j b d e g) (t7_9 i j b d e g) (t7_10 i j b d e g) (t7_11 i j b d e g) (t7_12 i j b d e g) (t7_13 i j b d e g) (t7_14 i j b d e g) (t7_15 i j b d e g) (t7_16 i j b d e g) (t7_17 i j b d e g) (t7_18 i j b d e g) (t7_19 i j b d e g) (t7_20 i j b d e g) (t7_21 i j b d e g) (t7_22 i j b d e g) (t7_23 i j b d e g) (t7_24 i j b d e g) (t7_25 i j b d e g) (t7_26 i j b d e g) (t7_27 i j b d e g) (t7_28 i j b d e g) (t7_29 i j b d e g) (t7_30 i j b d e g) (t7_31 i j b d e g) (t7_32 i j b d e g) (t7_33 i j b d e g) (t7_34 i j b d e g) hn)⟩
end Go.Proofs.YtchhhoamnagbfaaDoor
