/-
  Contracts of functions: models, equations by the kernel, contracts. Conditions: none.
-/
import Derived.Test.YtchhhoamnagbfaaDoorC10
import Derived.KernelRfl
namespace Go.Proofs.YtchhhoamnagbfaaDoor
open Go Go.Sy
set_option linter.unusedVariables false
set_option linter.unusedSimpArgs false
set_option maxRecDepth 100000
set_option maxHeartbeats 2000000
attribute [local irreducible] Go.IntKind.wrap Int.tdiv Int.tmod Int.fdiv
open Go.Sy renaming tabOk_cons → tc, tabOk_nil → tn, cnd_need → cn, leaf_of → lf, cnd_gg → cg, cnd_gg2 → ch, cond_f → cf, cond_t → ct, cnd_of → co, callOf → ca, roundOf → ro, cnd_not → nn, lams_cons → lc, lams_nil → ln, condT → cT, condF → cF, need1 → n1, resOf → rs, and_l → al, and_r → ar, or_gg → og, ctr_of → cx, loop_blk → lb
open Go.IntKind renaming i64 → Z
open Go.Sy.SV renaming int → V
open Go.Sy.Kd renaming int → W
noncomputable def bt30649_0 : ByteArray := { data := #[OfNat.ofNat 112, OfNat.ofNat 108, OfNat.ofNat 97, OfNat.ofNat 110, OfNat.ofNat 32, OfNat.ofNat 112, OfNat.ofNat 10, OfNat.ofNat 115, OfNat.ofNat 117, OfNat.ofNat 114, OfNat.ofNat 102, OfNat.ofNat 97, OfNat.ofNat 99, OfNat.ofNat 101, OfNat.ofNat 32, OfNat.ofNat 49, OfNat.ofNat 48, OfNat.ofNat 49, OfNat.ofNat 51, OfNat.ofNat 10, OfNat.ofNat 103, OfNat.ofNat 97, OfNat.ofNat 115, OfNat.ofNat 32, OfNat.ofNat 50, OfNat.ofNat 49, OfNat.ofNat 48, OfNat.ofNat 32, OfNat.ofNat 48, OfNat.ofNat 10, OfNat.ofNat 103, OfNat.ofNat 97, OfNat.ofNat 115, OfNat.ofNat 32, OfNat.ofNat 53, OfNat.ofNat 48, OfNat.ofNat 48, OfNat.ofNat 32, OfNat.ofNat 48, OfNat.ofNat 10, OfNat.ofNat 108, OfNat.ofNat 101, OfNat.ofNat 103, OfNat.ofNat 32, OfNat.ofNat 49, OfNat.ofNat 58, OfNat.ofNat 48, OfNat.ofNat 48, OfNat.ofNat 32, OfNat.ofNat 49, OfNat.ofNat 56, OfNat.ofNat 32, OfNat.ofNat 48, OfNat.ofNat 10, OfNat.ofNat 108, OfNat.ofNat 101, OfNat.ofNat 103, OfNat.ofNat 32, OfNat.ofNat 49, OfNat.ofNat 48, OfNat.ofNat 58, OfNat.ofNat 48, OfNat.ofNat 48, OfNat.ofNat 32, OfNat.ofNat 49, OfNat.ofNat 56, OfNat.ofNat 32, OfNat.ofNat 48, OfNat.ofNat 10, OfNat.ofNat 108, OfNat.ofNat 101, OfNat.ofNat 103, OfNat.ofNat 32, OfNat.ofNat 50, OfNat.ofNat 58, OfNat.ofNat 48, OfNat.ofNat 48, OfNat.ofNat 32, OfNat.ofNat 54, OfNat.ofNat 32, OfNat.ofNat 48, OfNat.ofNat 10, OfNat.ofNat 108, OfNat.ofNat 101, OfNat.ofNat 103, OfNat.ofNat 32, OfNat.ofNat 53, OfNat.ofNat 58, OfNat.ofNat 48, OfNat.ofNat 48, OfNat.ofNat 32, OfNat.ofNat 54, OfNat.ofNat 32, OfNat.ofNat 49, OfNat.ofNat 10] }
/-! ### shotline/profile.Print -/
noncomputable def l51_0 (E : Nat) (o : Dat) (J : Int) (w : ByteArray) (x : Int) (y : Dat) (H : Nat) (z A C D : Dat) : Nat → Int → Nat → Nat → Dat → Option (Nat × Nat × Dat)
  | 0, _, _, _, _ => none
  | f + 1, G, p, t, u => (cond (decide (G < J)) (cond (decide (0 ≤ G ∧ G < ↑E)) (cond (n88 (o.ii G.toNat 0)) (cond (n88 (o.ii G.toNat 1)) (cond (n85u 3 (datS [SV.str ({ data := #[OfNat.ofNat 103, OfNat.ofNat 97, OfNat.ofNat 115] } : ByteArray), SV.str (m88 (o.ii G.toNat 0)), SV.str (m88 (o.ii G.toNat 1))] 1) p t u) (l51_0 E o J w x y H z A C D f (Z.wrap (G + 1)) (m85u 3 (datS [SV.str ({ data := #[OfNat.ofNat 103, OfNat.ofNat 97, OfNat.ofNat 115] } : ByteArray), SV.str (m88 (o.ii G.toNat 0)), SV.str (m88 (o.ii G.toNat 1))] 1) p t u).1 (m85u 3 (datS [SV.str ({ data := #[OfNat.ofNat 103, OfNat.ofNat 97, OfNat.ofNat 115] } : ByteArray), SV.str (m88 (o.ii G.toNat 0)), SV.str (m88 (o.ii G.toNat 1))] 1) p t u).2.1 (m85u 3 (datS [SV.str ({ data := #[OfNat.ofNat 103, OfNat.ofNat 97, OfNat.ofNat 115] } : ByteArray), SV.str (m88 (o.ii G.toNat 0)), SV.str (m88 (o.ii G.toNat 1))] 1) p t u).2.2) none) none) none) none) (some (p, t, u)))
noncomputable abbrev o51_0 (E : Nat) (o : Dat) (J : Int) (w : ByteArray) (x : Int) (y : Dat) (H : Nat) (z A C D : Dat) (G : Int) (p t : Nat) (u : Dat) : Option (Nat × Nat × Dat) := l51_0 E o J w x y H z A C D (E + J.toNat + G.toNat + w.size + x.toNat + H + p + t + 8) G p t u
noncomputable def e51_0 (E : Nat) (o : Dat) (J : Int) (w : ByteArray) (x : Int) (y : Dat) (H : Nat) (z A C D : Dat) (r : Nat × Nat × Dat) (K : XR) : Prop := K (XE.exit 0) [.ptr 0 0, .ptr 2 0, .fn 85 [.ptr 2 0]] [.cells 41 [.str w, V Z x, .ro [W Z, W Z] E y, .ro [W Z, W Z, W Z] H z], .row 41 [.str, W Z, .sl [W Z, W Z], .sl [W Z, W Z, W Z]] 1 A, .cells 125 [.ptr 2 0, .gr 6 1 r.1], .row 9 [.str] 2 C, .unk, .row 9 [.str] 2 D, .row 5 [.int .u8] r.2.1 r.2.2]
noncomputable def g51_0 : LSum := fun s k => match czv 0 76 [1, 5, 6, 30, 31, 32] 7 [⟨false, 2, 1, 6, 5, [.int .u8]⟩] s with
  | some ([.ptr 0 0, .ptr 2 0, .fn 85 [.ptr 2 0], .ro [W Z, W Z] E o, V Z J, V Z G], [.cells 41 [.str w, V Z x, .ro [W Z, W Z] I y, .ro [W Z, W Z, W Z] H z], .row 41 [.str, W Z, .sl [W Z, W Z], .sl [W Z, W Z, W Z]] 1 A, .cells 125 [.ptr 2 0, .gr 6 1 p], .row 9 [.str] 2 C, .unk, .row 9 [.str] 2 D, .row 5 [.int .u8] t u]) => needs [decide (E = I), (o51_0 E o J w x y H z A C D G p t u).isSome] (e51_0 E o J w x y H z A C D ((o51_0 E o J w x y H z A C D G p t u).getD default) fun e vs bs => inBlk 0 k e (mkSt 0 76 [1, 5, 6] vs 7 bs))
  | _ => False
theorem z51_0 : LOk Tryd.prog g51_0 (.block 0 (bodyAt (Tryd.f51.body.getD .skip) 0)) := by
  refine lb (ι := Nat × Dat × Int × Int × ByteArray × Int × Dat × Nat × Dat × Dat × Nat × Dat × Dat × Nat × Dat) (fuel := 8) (na := 0) (nt := 76) (nx := 7) (Lh := [1, 5, 6, 30, 31, 32]) (Le := [1, 5, 6]) (gl := [⟨false, 2, 1, 6, 5, [.int .u8]⟩]) (tc k60 (tc k85 (tc k88 (tc k89 (tc k90 tn))))) mix_ok noLam rfl (fun f (E, o, J, G, w, x, y, H, z, A, p, C, D, t, u) K => GG default (e51_0 E o J w x y H z A C D) K (l51_0 E o J w x y H z A C D f G p t u)) (fun (E, o, J, G, w, x, y, H, z, A, p, C, D, t, u) => [.ptr 0 0, .ptr 2 0, .fn 85 [.ptr 2 0], .ro [W Z, W Z] E o, V Z J, V Z G]) (fun (E, o, J, G, w, x, y, H, z, A, p, C, D, t, u) => [.cells 41 [.str w, V Z x, .ro [W Z, W Z] E y, .ro [W Z, W Z, W Z] H z], .row 41 [.str, W Z, .sl [W Z, W Z], .sl [W Z, W Z, W Z]] 1 A, .cells 125 [.ptr 2 0, .gr 6 1 p], .row 9 [.str] 2 C, .unk, .row 9 [.str] 2 D, .row 5 [.int .u8] t u]) (fun (_, _, _, _, _, _, _, _, _, _, _, _, _, _, _) K => gg_none) ?_ ?_
  · rintro f ⟨E, o, J, G, w, x, y, H, z, A, p, C, D, t, u⟩ K hG
    refine ro (fun R => (cnd (decide (G < J))
 (cnd (decide (0 ≤ G ∧ G < ↑E))
 (cnd (n88 (o.ii G.toNat 0))
 (cnd (n88 (o.ii G.toNat 1))
 (cnd (n85u 3 (datS [SV.str ({ data := #[OfNat.ofNat 103, OfNat.ofNat 97, OfNat.ofNat 115] } : ByteArray), SV.str (m88 (o.ii G.toNat 0)), SV.str (m88 (o.ii G.toNat 1))] 1) p t u)
 (R (XE.normal) [.ptr 0 0, .ptr 2 0, .fn 85 [.ptr 2 0], .ro [W Z, W Z] E o, V Z J, V Z (Z.wrap (G + 1))] [.cells 41 [.str w, V Z x, .ro [W Z, W Z] E y, .ro [W Z, W Z, W Z] H z], .row 41 [.str, W Z, .sl [W Z, W Z], .sl [W Z, W Z, W Z]] 1 A, .cells 125 [.ptr 2 0, .gr 6 1 (m85u 3 (datS [SV.str ({ data := #[OfNat.ofNat 103, OfNat.ofNat 97, OfNat.ofNat 115] } : ByteArray), SV.str (m88 (o.ii G.toNat 0)), SV.str (m88 (o.ii G.toNat 1))] 1) p t u).1], .row 9 [.str] 2 C, .unk, .row 9 [.str] 2 D, .row 5 [.int .u8] (m85u 3 (datS [SV.str ({ data := #[OfNat.ofNat 103, OfNat.ofNat 97, OfNat.ofNat 115] } : ByteArray), SV.str (m88 (o.ii G.toNat 0)), SV.str (m88 (o.ii G.toNat 1))] 1) p t u).2.1 (m85u 3 (datS [SV.str ({ data := #[OfNat.ofNat 103, OfNat.ofNat 97, OfNat.ofNat 115] } : ByteArray), SV.str (m88 (o.ii G.toNat 0)), SV.str (m88 (o.ii G.toNat 1))] 1) p t u).2.2])
      False)
     False)
    False)
   False)
 (R (XE.exit 0) [.ptr 0 0, .ptr 2 0, .fn 85 [.ptr 2 0]] [.cells 41 [.str w, V Z x, .ro [W Z, W Z] E y, .ro [W Z, W Z, W Z] H z], .row 41 [.str, W Z, .sl [W Z, W Z], .sl [W Z, W Z, W Z]] 1 A, .cells 125 [.ptr 2 0, .gr 6 1 p], .row 9 [.str] 2 C, .unk, .row 9 [.str] 2 D, .row 5 [.int .u8] t u]))) (fun R => by kernel_rfl) ?_
    exact ch hG (fun h0 => cg h0 fun h1 => cg h1 fun h2 => cg h2 fun h3 => cg h3 fun h4 => ⟨(_, _, _, _, _, _, _, _, _, _, _, _, _, _, _), rfl, rfl, h4⟩) (fun h0 => h0.2)
  · intro s k h
    unfold g51_0 at h
    split at h <;> try exact h.elim
    rename_i e1
    rw [needs_iff] at h
    have hq := h.1
    simp only [List.mem_cons, forall_eq_or_imp, decide_eq_true_eq, List.not_mem_nil, false_imp_iff, implies_true, and_true] at hq
    obtain ⟨rfl, hq⟩ := hq
    exact ⟨_, e1, _, (_, _, _, _, _, _, _, _, _, _, _, _, _, _, _), rfl, rfl, hq, h.2⟩
noncomputable def l51_2 (F : Nat) (m : Dat) (L : Int) (w : ByteArray) (x : Int) (I : Nat) (y z A C D : Dat) : Nat → Int → Nat → Nat → Dat → Option (Nat × Nat × Dat)
  | 0, _, _, _, _ => none
  | f + 1, n, p, t, u => (cond (decide (n < L)) (cond (decide (0 ≤ n ∧ n < ↑F)) (cond (n88 (Z.wrap ((m.ii n.toNat 0).tdiv 60))) (cond (decide ((((m88 (Z.wrap ((m.ii n.toNat 0).tdiv 60))).size) + 1) ≤ 9223372036854775807)) (cond (n88 (Z.wrap (100 + ((m.ii n.toNat 0).tmod 60)))) (cond (decide ((0 : Int) ≤ (1 : Int) ∧ (1 : Int) ≤ (↑(m88 (Z.wrap ((100 : Int) + (m.ii n.toNat (0 : Nat)).tmod (60 : Int)))).size : Int) ∧ (↑(m88 (Z.wrap ((100 : Int) + (m.ii n.toNat (0 : Nat)).tmod (60 : Int)))).size : Int) ≤ (↑(m88 (Z.wrap ((100 : Int) + (m.ii n.toNat (0 : Nat)).tmod (60 : Int)))).size : Int))) (cond (decide (((((m88 (Z.wrap ((m.ii n.toNat 0).tdiv 60))) ++ ({ data := #[OfNat.ofNat 58] } : ByteArray)).size) + (((m88 (Z.wrap (100 + ((m.ii n.toNat 0).tmod 60)))).extract 1 ((↑((m88 (Z.wrap (100 + ((m.ii n.toNat 0).tmod 60)))).size) : Int).toNat)).size)) ≤ 9223372036854775807)) (cond (n89 (m.ii n.toNat 1)) (cond (n88 (m.ii n.toNat 2)) (cond (n85u 4 (datS [SV.str ({ data := #[OfNat.ofNat 108, OfNat.ofNat 101, OfNat.ofNat 103] } : ByteArray), SV.str (((m88 (Z.wrap ((m.ii n.toNat 0).tdiv 60))) ++ ({ data := #[OfNat.ofNat 58] } : ByteArray)) ++ ((m88 (Z.wrap (100 + ((m.ii n.toNat 0).tmod 60)))).extract 1 ((↑((m88 (Z.wrap (100 + ((m.ii n.toNat 0).tmod 60)))).size) : Int).toNat))), SV.str (m89 (m.ii n.toNat 1)), SV.str (m88 (m.ii n.toNat 2))] 1) p t u) (l51_2 F m L w x I y z A C D f (Z.wrap (n + 1)) (m85u 4 (datS [SV.str ({ data := #[OfNat.ofNat 108, OfNat.ofNat 101, OfNat.ofNat 103] } : ByteArray), SV.str (((m88 (Z.wrap ((m.ii n.toNat 0).tdiv 60))) ++ ({ data := #[OfNat.ofNat 58] } : ByteArray)) ++ ((m88 (Z.wrap (100 + ((m.ii n.toNat 0).tmod 60)))).extract 1 ((↑((m88 (Z.wrap (100 + ((m.ii n.toNat 0).tmod 60)))).size) : Int).toNat))), SV.str (m89 (m.ii n.toNat 1)), SV.str (m88 (m.ii n.toNat 2))] 1) p t u).1 (m85u 4 (datS [SV.str ({ data := #[OfNat.ofNat 108, OfNat.ofNat 101, OfNat.ofNat 103] } : ByteArray), SV.str (((m88 (Z.wrap ((m.ii n.toNat 0).tdiv 60))) ++ ({ data := #[OfNat.ofNat 58] } : ByteArray)) ++ ((m88 (Z.wrap (100 + ((m.ii n.toNat 0).tmod 60)))).extract 1 ((↑((m88 (Z.wrap (100 + ((m.ii n.toNat 0).tmod 60)))).size) : Int).toNat))), SV.str (m89 (m.ii n.toNat 1)), SV.str (m88 (m.ii n.toNat 2))] 1) p t u).2.1 (m85u 4 (datS [SV.str ({ data := #[OfNat.ofNat 108, OfNat.ofNat 101, OfNat.ofNat 103] } : ByteArray), SV.str (((m88 (Z.wrap ((m.ii n.toNat 0).tdiv 60))) ++ ({ data := #[OfNat.ofNat 58] } : ByteArray)) ++ ((m88 (Z.wrap (100 + ((m.ii n.toNat 0).tmod 60)))).extract 1 ((↑((m88 (Z.wrap (100 + ((m.ii n.toNat 0).tmod 60)))).size) : Int).toNat))), SV.str (m89 (m.ii n.toNat 1)), SV.str (m88 (m.ii n.toNat 2))] 1) p t u).2.2) none) none) none) none) none) none) none) none) none) (some (p, t, u)))
noncomputable abbrev o51_2 (F : Nat) (m : Dat) (L : Int) (w : ByteArray) (x : Int) (I : Nat) (y z A C D : Dat) (n : Int) (p t : Nat) (u : Dat) : Option (Nat × Nat × Dat) := l51_2 F m L w x I y z A C D (F + L.toNat + n.toNat + w.size + x.toNat + I + p + t + 8) n p t u
noncomputable def e51_2 (F : Nat) (m : Dat) (L : Int) (w : ByteArray) (x : Int) (I : Nat) (y z A C D : Dat) (r : Nat × Nat × Dat) (K : XR) : Prop := K (XE.exit 2) [.ptr 2 0] [.cells 41 [.str w, V Z x, .ro [W Z, W Z] I y, .ro [W Z, W Z, W Z] F z], .row 41 [.str, W Z, .sl [W Z, W Z], .sl [W Z, W Z, W Z]] 1 A, .cells 125 [.ptr 2 0, .gr 6 1 r.1], .row 9 [.str] 2 C, .unk, .row 9 [.str] 2 D, .row 5 [.int .u8] r.2.1 r.2.2]
noncomputable def g51_2 : LSum := fun s k => match czv 0 76 [5, 6, 47, 48, 49] 7 [⟨false, 2, 1, 6, 5, [.int .u8]⟩] s with
  | some ([.ptr 2 0, .fn 85 [.ptr 2 0], .ro [W Z, W Z, W Z] F m, V Z L, V Z n], [.cells 41 [.str w, V Z x, .ro [W Z, W Z] I y, .ro [W Z, W Z, W Z] H z], .row 41 [.str, W Z, .sl [W Z, W Z], .sl [W Z, W Z, W Z]] 1 A, .cells 125 [.ptr 2 0, .gr 6 1 p], .row 9 [.str] 2 C, .unk, .row 9 [.str] 2 D, .row 5 [.int .u8] t u]) => needs [decide (F = H), (o51_2 F m L w x I y z A C D n p t u).isSome] (e51_2 F m L w x I y z A C D ((o51_2 F m L w x I y z A C D n p t u).getD default) fun e vs bs => inBlk 2 k e (mkSt 0 76 [5] vs 7 bs))
  | _ => False
theorem z51_2 : LOk Tryd.prog g51_2 (.block 2 (bodyAt (Tryd.f51.body.getD .skip) 2)) := by
  refine lb (ι := Nat × Dat × Int × Int × ByteArray × Int × Nat × Dat × Dat × Dat × Nat × Dat × Dat × Nat × Dat) (fuel := 8) (na := 0) (nt := 76) (nx := 7) (Lh := [5, 6, 47, 48, 49]) (Le := [5]) (gl := [⟨false, 2, 1, 6, 5, [.int .u8]⟩]) (tc k60 (tc k85 (tc k88 (tc k89 (tc k90 tn))))) mix_ok (lam_of rfl (lc z51_0 ln)) rfl (fun f (F, m, L, n, w, x, I, y, z, A, p, C, D, t, u) K => GG default (e51_2 F m L w x I y z A C D) K (l51_2 F m L w x I y z A C D f n p t u)) (fun (F, m, L, n, w, x, I, y, z, A, p, C, D, t, u) => [.ptr 2 0, .fn 85 [.ptr 2 0], .ro [W Z, W Z, W Z] F m, V Z L, V Z n]) (fun (F, m, L, n, w, x, I, y, z, A, p, C, D, t, u) => [.cells 41 [.str w, V Z x, .ro [W Z, W Z] I y, .ro [W Z, W Z, W Z] F z], .row 41 [.str, W Z, .sl [W Z, W Z], .sl [W Z, W Z, W Z]] 1 A, .cells 125 [.ptr 2 0, .gr 6 1 p], .row 9 [.str] 2 C, .unk, .row 9 [.str] 2 D, .row 5 [.int .u8] t u]) (fun (_, _, _, _, _, _, _, _, _, _, _, _, _, _, _) K => gg_none) ?_ ?_
  · rintro f ⟨F, m, L, n, w, x, I, y, z, A, p, C, D, t, u⟩ K hG
    refine ro (fun R => (cnd (decide (n < L))
 (cnd (decide (0 ≤ n ∧ n < ↑F))
 (cnd (n88 (Z.wrap ((m.ii n.toNat 0).tdiv 60)))
 (cnd (decide ((((m88 (Z.wrap ((m.ii n.toNat 0).tdiv 60))).size) + 1) ≤ 9223372036854775807))
 (cnd (n88 (Z.wrap (100 + ((m.ii n.toNat 0).tmod 60))))
 (cnd (decide ((0 : Int) ≤ (1 : Int) ∧ (1 : Int) ≤ (↑(m88 (Z.wrap ((100 : Int) + (m.ii n.toNat (0 : Nat)).tmod (60 : Int)))).size : Int) ∧ (↑(m88 (Z.wrap ((100 : Int) + (m.ii n.toNat (0 : Nat)).tmod (60 : Int)))).size : Int) ≤ (↑(m88 (Z.wrap ((100 : Int) + (m.ii n.toNat (0 : Nat)).tmod (60 : Int)))).size : Int)))
 (cnd (decide (((((m88 (Z.wrap ((m.ii n.toNat 0).tdiv 60))) ++ ({ data := #[OfNat.ofNat 58] } : ByteArray)).size) + (((m88 (Z.wrap (100 + ((m.ii n.toNat 0).tmod 60)))).extract 1 ((↑((m88 (Z.wrap (100 + ((m.ii n.toNat 0).tmod 60)))).size) : Int).toNat)).size)) ≤ 9223372036854775807))
 (cnd (n89 (m.ii n.toNat 1))
 (cnd (n88 (m.ii n.toNat 2))
 (cnd (n85u 4 (datS [SV.str ({ data := #[OfNat.ofNat 108, OfNat.ofNat 101, OfNat.ofNat 103] } : ByteArray), SV.str (((m88 (Z.wrap ((m.ii n.toNat 0).tdiv 60))) ++ ({ data := #[OfNat.ofNat 58] } : ByteArray)) ++ ((m88 (Z.wrap (100 + ((m.ii n.toNat 0).tmod 60)))).extract 1 ((↑((m88 (Z.wrap (100 + ((m.ii n.toNat 0).tmod 60)))).size) : Int).toNat))), SV.str (m89 (m.ii n.toNat 1)), SV.str (m88 (m.ii n.toNat 2))] 1) p t u)
 (R (XE.normal) [.ptr 2 0, .fn 85 [.ptr 2 0], .ro [W Z, W Z, W Z] F m, V Z L, V Z (Z.wrap (n + 1))] [.cells 41 [.str w, V Z x, .ro [W Z, W Z] I y, .ro [W Z, W Z, W Z] F z], .row 41 [.str, W Z, .sl [W Z, W Z], .sl [W Z, W Z, W Z]] 1 A, .cells 125 [.ptr 2 0, .gr 6 1 (m85u 4 (datS [SV.str ({ data := #[OfNat.ofNat 108, OfNat.ofNat 101, OfNat.ofNat 103] } : ByteArray), SV.str (((m88 (Z.wrap ((m.ii n.toNat 0).tdiv 60))) ++ ({ data := #[OfNat.ofNat 58] } : ByteArray)) ++ ((m88 (Z.wrap (100 + ((m.ii n.toNat 0).tmod 60)))).extract 1 ((↑((m88 (Z.wrap (100 + ((m.ii n.toNat 0).tmod 60)))).size) : Int).toNat))), SV.str (m89 (m.ii n.toNat 1)), SV.str (m88 (m.ii n.toNat 2))] 1) p t u).1], .row 9 [.str] 2 C, .unk, .row 9 [.str] 2 D, .row 5 [.int .u8] (m85u 4 (datS [SV.str ({ data := #[OfNat.ofNat 108, OfNat.ofNat 101, OfNat.ofNat 103] } : ByteArray), SV.str (((m88 (Z.wrap ((m.ii n.toNat 0).tdiv 60))) ++ ({ data := #[OfNat.ofNat 58] } : ByteArray)) ++ ((m88 (Z.wrap (100 + ((m.ii n.toNat 0).tmod 60)))).extract 1 ((↑((m88 (Z.wrap (100 + ((m.ii n.toNat 0).tmod 60)))).size) : Int).toNat))), SV.str (m89 (m.ii n.toNat 1)), SV.str (m88 (m.ii n.toNat 2))] 1) p t u).2.1 (m85u 4 (datS [SV.str ({ data := #[OfNat.ofNat 108, OfNat.ofNat 101, OfNat.ofNat 103] } : ByteArray), SV.str (((m88 (Z.wrap ((m.ii n.toNat 0).tdiv 60))) ++ ({ data := #[OfNat.ofNat 58] } : ByteArray)) ++ ((m88 (Z.wrap (100 + ((m.ii n.toNat 0).tmod 60)))).extract 1 ((↑((m88 (Z.wrap (100 + ((m.ii n.toNat 0).tmod 60)))).size) : Int).toNat))), SV.str (m89 (m.ii n.toNat 1)), SV.str (m88 (m.ii n.toNat 2))] 1) p t u).2.2])
           False)
          False)
         False)
        False)
       False)
      False)
     False)
    False)
   False)
 (R (XE.exit 2) [.ptr 2 0] [.cells 41 [.str w, V Z x, .ro [W Z, W Z] I y, .ro [W Z, W Z, W Z] F z], .row 41 [.str, W Z, .sl [W Z, W Z], .sl [W Z, W Z, W Z]] 1 A, .cells 125 [.ptr 2 0, .gr 6 1 p], .row 9 [.str] 2 C, .unk, .row 9 [.str] 2 D, .row 5 [.int .u8] t u]))) (fun R => by kernel_rfl) ?_
    exact ch hG (fun h0 => cg h0 fun h1 => cg h1 fun h2 => cg h2 fun h3 => cg h3 fun h4 => cg h4 fun h5 => cg h5 fun h6 => cg h6 fun h7 => cg h7 fun h8 => cg h8 fun h9 => ⟨(_, _, _, _, _, _, _, _, _, _, _, _, _, _, _), rfl, rfl, h9⟩) (fun h0 => h0.2)
  · intro s k h
    unfold g51_2 at h
    split at h <;> try exact h.elim
    rename_i e1
    rw [needs_iff] at h
    have hq := h.1
    simp only [List.mem_cons, forall_eq_or_imp, decide_eq_true_eq, List.not_mem_nil, false_imp_iff, implies_true, and_true] at hq
    obtain ⟨rfl, hq⟩ := hq
    exact ⟨_, e1, _, (_, _, _, _, _, _, _, _, _, _, _, _, _, _, _), rfl, rfl, hq, h.2⟩
noncomputable def t51_0 (l : ByteArray) (j : Int) (d : Nat) (i : Dat) (b : Nat) (g : Dat) : Dat := datS [SV.str l, V Z j, SV.ro [Kd.int Z, Kd.int Z] d i, SV.ro [Kd.int Z, Kd.int Z, Kd.int Z] b g] 4
noncomputable def t51_1 (l : ByteArray) (j : Int) (d : Nat) (i : Dat) (b : Nat) (g : Dat) : Dat := datS [SV.str ({ data := #[OfNat.ofNat 112, OfNat.ofNat 108, OfNat.ofNat 97, OfNat.ofNat 110] } : ByteArray), SV.str l] 1
noncomputable def t51_2 (l : ByteArray) (j : Int) (d : Nat) (i : Dat) (b : Nat) (g : Dat) : Dat := datS [SV.str ({ data := #[OfNat.ofNat 115, OfNat.ofNat 117, OfNat.ofNat 114, OfNat.ofNat 102, OfNat.ofNat 97, OfNat.ofNat 99, OfNat.ofNat 101] } : ByteArray), SV.str (m88 j)] 1
noncomputable def t51_3 (l : ByteArray) (j : Int) (d : Nat) (i : Dat) (b : Nat) (g : Dat) : Nat := (m85f 2 (t51_1 l j d i b g) 0 0 noDat).2.1
noncomputable def t51_4 (l : ByteArray) (j : Int) (d : Nat) (i : Dat) (b : Nat) (g : Dat) : Dat := (m85f 2 (t51_1 l j d i b g) 0 0 noDat).2.2
noncomputable def t51_5 (l : ByteArray) (j : Int) (d : Nat) (i : Dat) (b : Nat) (g : Dat) : Nat := (m85u 2 (t51_2 l j d i b g) (m85f 2 (t51_1 l j d i b g) 0 0 noDat).1 (t51_3 l j d i b g) (t51_4 l j d i b g)).1
noncomputable def t51_6 (l : ByteArray) (j : Int) (d : Nat) (i : Dat) (b : Nat) (g : Dat) : Nat := (m85u 2 (t51_2 l j d i b g) (m85f 2 (t51_1 l j d i b g) 0 0 noDat).1 (t51_3 l j d i b g) (t51_4 l j d i b g)).2.1
noncomputable def t51_7 (l : ByteArray) (j : Int) (d : Nat) (i : Dat) (b : Nat) (g : Dat) : Dat := (m85u 2 (t51_2 l j d i b g) (m85f 2 (t51_1 l j d i b g) 0 0 noDat).1 (t51_3 l j d i b g) (t51_4 l j d i b g)).2.2
noncomputable def t51_8 (l : ByteArray) (j : Int) (d : Nat) (i : Dat) (b : Nat) (g : Dat) : Nat := ((o51_0 d i (↑d : Int) l j i b g (t51_0 l j d i b g) (t51_1 l j d i b g) (t51_2 l j d i b g) 0 (t51_5 l j d i b g) (t51_6 l j d i b g) (t51_7 l j d i b g)).getD default).1
noncomputable def t51_9 (l : ByteArray) (j : Int) (d : Nat) (i : Dat) (b : Nat) (g : Dat) : Nat := ((o51_0 d i (↑d : Int) l j i b g (t51_0 l j d i b g) (t51_1 l j d i b g) (t51_2 l j d i b g) 0 (t51_5 l j d i b g) (t51_6 l j d i b g) (t51_7 l j d i b g)).getD default).2.1
noncomputable def t51_10 (l : ByteArray) (j : Int) (d : Nat) (i : Dat) (b : Nat) (g : Dat) : Dat := ((o51_0 d i (↑d : Int) l j i b g (t51_0 l j d i b g) (t51_1 l j d i b g) (t51_2 l j d i b g) 0 (t51_5 l j d i b g) (t51_6 l j d i b g) (t51_7 l j d i b g)).getD default).2.2
noncomputable def t51_11 (l : ByteArray) (j : Int) (d : Nat) (i : Dat) (b : Nat) (g : Dat) : Nat := ((o51_2 b g (↑b : Int) l j d i g (t51_0 l j d i b g) (t51_1 l j d i b g) (t51_2 l j d i b g) 0 (t51_8 l j d i b g) (t51_9 l j d i b g) (t51_10 l j d i b g)).getD default).1
noncomputable def t51_12 (l : ByteArray) (j : Int) (d : Nat) (i : Dat) (b : Nat) (g : Dat) : Dat := ((o51_2 b g (↑b : Int) l j d i g (t51_0 l j d i b g) (t51_1 l j d i b g) (t51_2 l j d i b g) 0 (t51_8 l j d i b g) (t51_9 l j d i b g) (t51_10 l j d i b g)).getD default).2.2
noncomputable def U51 (l : ByteArray) (j : Int) (d : Nat) (i : Dat) (b : Nat) (g z0 z1 z2 : Dat) (z3 : Nat) (z4 : Dat) (z5 z6 : Nat) (z7 : Dat) (z8 z9 : Nat) (z10 : Dat) (z11 : Nat) (z12 : Dat) (R : SV → List Blk → List Blk → Prop) : Prop :=
 (cnd (n60 1 z0)
 (cnd (bif (decide ((m60 1 z0) = 0)) then false else true)
 (R (.tup [.str ({ data := #[] } : ByteArray), V Z (m60 1 z0)]) [] [])
 (cnd (n85f 2 z1 0 0 noDat)
 (cnd (n88 j)
 (cnd (n85u 2 z2 (m85f 2 z1 0 0 noDat).1 z3 z4)
 (cnd (decide (d = d))
 (cnd ((o51_0 d i (↑d : Int) l j i b g z0 z1 z2 0 z5 z6 z7).isSome)
 (cnd (decide (b = b))
 (cnd ((o51_2 b g (↑b : Int) l j d i g z0 z1 z2 0 z8 z9 z10).isSome)
 (cnd (n90 z11 ((o51_2 b g (↑b : Int) l j d i g z0 z1 z2 0 z8 z9 z10).getD default).2.1 z12)
 (R (.tup [.str (m90 z11 z12), V Z 0]) [] [])
           False)
          False)
         False)
        False)
       False)
      False)
     False)
    False))
  False)
noncomputable def w51 (l : ByteArray) (j : Int) (d : Nat) (i : Dat) (b : Nat) (g z0 z1 z2 : Dat) (z3 : Nat) (z4 : Dat) (z5 z6 : Nat) (z7 : Dat) (z8 z9 : Nat) (z10 : Dat) (z11 : Nat) (z12 : Dat) : ByteArray × Int :=
  (cond (bif (decide ((m60 1 z0) = 0)) then false else true) (({ data := #[] } : ByteArray), (m60 1 z0)) ((m90 z11 z12), 0))
noncomputable def v51 (l : ByteArray) (j : Int) (d : Nat) (i : Dat) (b : Nat) (g z0 z1 z2 : Dat) (z3 : Nat) (z4 : Dat) (z5 z6 : Nat) (z7 : Dat) (z8 z9 : Nat) (z10 : Dat) (z11 : Nat) (z12 : Dat) : Bool :=
  ((n60 1 z0) && (cond (bif (decide ((m60 1 z0) = 0)) then false else true) true ((n85f 2 z1 0 0 noDat) && ((n88 j) && ((n85u 2 z2 (m85f 2 z1 0 0 noDat).1 z3 z4) && (((o51_0 d i (↑d : Int) l j i b g z0 z1 z2 0 z5 z6 z7).isSome) && (((o51_2 b g (↑b : Int) l j d i g z0 z1 z2 0 z8 z9 z10).isSome) && ((n90 z11 ((o51_2 b g (↑b : Int) l j d i g z0 z1 z2 0 z8 z9 z10).getD default).2.1 z12) && true))))))))
noncomputable def m51 (l : ByteArray) (j : Int) (d : Nat) (i : Dat) (b : Nat) (g : Dat) : ByteArray × Int := w51 l j d i b g (t51_0 l j d i b g) (t51_1 l j d i b g) (t51_2 l j d i b g) (t51_3 l j d i b g) (t51_4 l j d i b g) (t51_5 l j d i b g) (t51_6 l j d i b g) (t51_7 l j d i b g) (t51_8 l j d i b g) (t51_9 l j d i b g) (t51_10 l j d i b g) (t51_11 l j d i b g) (t51_12 l j d i b g)
noncomputable def n51 (l : ByteArray) (j : Int) (d : Nat) (i : Dat) (b : Nat) (g : Dat) : Bool := v51 l j d i b g (t51_0 l j d i b g) (t51_1 l j d i b g) (t51_2 l j d i b g) (t51_3 l j d i b g) (t51_4 l j d i b g) (t51_5 l j d i b g) (t51_6 l j d i b g) (t51_7 l j d i b g) (t51_8 l j d i b g) (t51_9 l j d i b g) (t51_10 l j d i b g) (t51_11 l j d i b g) (t51_12 l j d i b g)
noncomputable def q51 (r : ByteArray × Int) : SV × List Blk × List Blk := (.tup [.str r.1, V Z r.2], [], [])
noncomputable def g51 : GF := fun vs bs => match vs, bs with
  | [.agg [.str l, V Z j, .ro [W Z, W Z] d i, .ro [W Z, W Z, W Z] b g]], [] => some (rs 0 (q51 (m51 l j d i b g)) [n51 l j d i b g])
  | _, _ => none
noncomputable def c51 : Ctr := genC [.a [.k, .k, .ro [W Z, W Z], .ro [W Z, W Z, W Z]]] g51
theorem u51 (l : ByteArray) (j : Int) (d : Nat) (i : Dat) (b : Nat) (g z0 z1 z2 : Dat) (z3 : Nat) (z4 : Dat) (z5 z6 : Nat) (z7 : Dat) (z8 z9 : Nat) (z10 : Dat) (z11 : Nat) (z12 : Dat) (hn : v51 l j d i b g z0 z1 z2 z3 z4 z5 z6 z7 z8 z9 z10 z11 z12 = true) : U51 l j d i b g z0 z1 z2 z3 z4 z5 z6 z7 z8 z9 z10 z11 z12 (fun v U N => (v, U, N) = q51 (w51 l j d i b g z0 z1 z2 z3 z4 z5 z6 z7 z8 z9 z10 z11 z12)) :=
  cn (al hn) (co (fun h0 => lf (cT h0 rfl) rfl) (fun h0 => cn (al (cf h0 (ar hn))) (cn (al (ar (cf h0 (ar hn)))) (cn (al (ar (ar (cf h0 (ar hn))))) (cn (decide_eq_true rfl) (cn (al (ar (ar (ar (cf h0 (ar hn)))))) (cn (decide_eq_true rfl) (cn (al (ar (ar (ar (ar (cf h0 (ar hn))))))) (cn (al (ar (ar (ar (ar (ar (cf h0 (ar hn)))))))) (lf (cF h0 rfl) rfl))))))))))
theorem k51 : CtrOk Tryd.prog c51 51 := cx (tc k60 (tc k85 (tc k88 (tc k89 (tc k90 tn))))) mix_ok 8 (fn := Tryd.f51) (c := (Tryd.f51.body.getD .skip)) (grs := []) (rh := .k) Tryd.func51 rfl (by kernel_rfl) (lam_of rfl (lc z51_0 (lc z51_2 ln))) fun vs bs q h hn => by
  unfold g51 at h
  split at h <;> cases h
  rename_i l j d i b g
  have hn := n1 hn
  exact ⟨_, rfl, ca (fun R => U51 l j d i b g (t51_0 l j d i b g) (t51_1 l j d i b g) (t51_2 l j d i b g) (t51_3 l j d i b g) (t51_4 l j d i b g) (t51_5 l j d i b g) (t51_6 l j d i b g) (t51_7 l j d i b g) (t51_8 l j d i b g) (t51_9 l j d i b g) (t51_10 l j d i b g) (t51_11 l j d i b g) (t51_12 l j d i b g) R) (fun R => by kernel_rfl) (u51 l j d i b g (t51_0 l j d i b g) (t51_1 l j d i b g) (t51_2 l j d i b g) (t51_3 l j d i b g) (t51_4 l j d i b g) (t51_5 l j d i b g) (t51_6 l j d i b g) (t51_7 l j d i b g) (t51_8 l j d i b g) (t51_9 l j d i b g) (t51_10 l j d i b g) (t51_11 l j d i b g) (t51_12 l j d i b g) hn)⟩
/-! ### shotline/profile.CheckLabels -/
noncomputable def l49_0 (w : Nat) (z : Dat) (D : Int) (n : Nat) (v : Dat) (C : Int) (a : Dat) (g i : Int) : Nat → Int → Option (Bool × (Int × Int) × (Unit))
  | 0, _ => none
  | f + 1, A => (cond (decide (A < C)) (cond (decide (0 ≤ A ∧ A < ↑n)) (cond (bif (m52 (v.ii A.toNat 0) 0 200) then false else true) (some (true, (0, 2), default)) (l49_0 w z D n v C a g i f (Z.wrap (A + 1)))) none) (some (false, default, ())))
noncomputable abbrev o49_0 (w : Nat) (z : Dat) (D : Int) (n : Nat) (v : Dat) (C : Int) (a : Dat) (g i A : Int) : Option (Bool × (Int × Int) × (Unit)) := l49_0 w z D n v C a g i (w + D.toNat + n + C.toNat + A.toNat + g.toNat + i.toNat + 8) A
noncomputable def e49_0 (w : Nat) (z : Dat) (D : Int) (n : Nat) (v : Dat) (C : Int) (a : Dat) (g i : Int) (r : Bool × (Int × Int) × (Unit)) (K : XR) : Prop := cnd r.1 (K (XE.ret) [.ro [W Z, W Z] w z, V Z D, .ptr 0 0, .ptr 1 0, .ptr 2 0] [.cells 77 [.ro [W Z] n a], .cells 3 [V Z r.2.1.1], .cells 27 [V Z r.2.1.2]]) (K (XE.exit 0) [.ro [W Z, W Z] w z, V Z D, .ptr 0 0, .ptr 1 0, .ptr 2 0] [.cells 77 [.ro [W Z] n a], .cells 3 [V Z g], .cells 27 [V Z i]])
noncomputable def g49_0 : LSum := fun s k => match czv 0 60 [0, 1, 5, 6, 7, 24, 25, 26] 3 [] s with
  | some ([.ro [W Z, W Z] w z, V Z D, .ptr 0 0, .ptr 1 0, .ptr 2 0, .ro [W Z] n v, V Z C, V Z A], [.cells 77 [.ro [W Z] p a], .cells 3 [V Z g], .cells 27 [V Z i]]) => needs [decide (n = p), (o49_0 w z D n v C a g i A).isSome] (e49_0 w z D n v C a g i ((o49_0 w z D n v C a g i A).getD default) fun e vs bs => inBlk 0 k e (mkSt 0 60 [0, 1, 5, 6, 7] vs 3 bs))
  | _ => False
theorem z49_0 : LOk Tryd.prog g49_0 (.block 0 (bodyAt (Tryd.f49.body.getD .skip) 0)) := by
  refine lb (ι := Nat × Dat × Int × Nat × Dat × Int × Int × Dat × Int × Int) (fuel := 8) (na := 0) (nt := 60) (nx := 3) (Lh := [0, 1, 5, 6, 7, 24, 25, 26]) (Le := [0, 1, 5, 6, 7]) (gl := []) (tc k52 (tc k81 (tc k82 tn))) mix_ok noLam rfl (fun f (w, z, D, n, v, C, A, a, g, i) K => GG default (e49_0 w z D n v C a g i) K (l49_0 w z D n v C a g i f A)) (fun (w, z, D, n, v, C, A, a, g, i) => [.ro [W Z, W Z] w z, V Z D, .ptr 0 0, .ptr 1 0, .ptr 2 0, .ro [W Z] n v, V Z C, V Z A]) (fun (w, z, D, n, v, C, A, a, g, i) => [.cells 77 [.ro [W Z] n a], .cells 3 [V Z g], .cells 27 [V Z i]]) (fun (_, _, _, _, _, _, _, _, _, _) K => gg_none) ?_ ?_
  · rintro f ⟨w, z, D, n, v, C, A, a, g, i⟩ K hG
    refine ro (fun R => (cnd (decide (A < C))
 (cnd (decide (0 ≤ A ∧ A < ↑n))
 (cnd (bif (m52 (v.ii A.toNat 0) 0 200) then false else true)
 (R (XE.ret) [.ro [W Z, W Z] w z, V Z D, .ptr 0 0, .ptr 1 0, .ptr 2 0] [.cells 77 [.ro [W Z] n a], .cells 3 [V Z 0], .cells 27 [V Z 2]])
 (R (XE.normal) [.ro [W Z, W Z] w z, V Z D, .ptr 0 0, .ptr 1 0, .ptr 2 0, .ro [W Z] n v, V Z C, V Z (Z.wrap (A + 1))] [.cells 77 [.ro [W Z] n a], .cells 3 [V Z g], .cells 27 [V Z i]]))
   False)
 (R (XE.exit 0) [.ro [W Z, W Z] w z, V Z D, .ptr 0 0, .ptr 1 0, .ptr 2 0] [.cells 77 [.ro [W Z] n a], .cells 3 [V Z g], .cells 27 [V Z i]]))) (fun R => by kernel_rfl) ?_
    exact ch hG (fun h0 => cg h0 fun h1 => ch h1 (fun h2 => h2.2) (fun h2 => ⟨(_, _, _, _, _, _, _, _, _, _), rfl, rfl, h2⟩)) (fun h0 => h0.2)
  · intro s k h
    unfold g49_0 at h
    split at h <;> try exact h.elim
    rename_i e1
    rw [needs_iff] at h
    have hq := h.1
    simp only [List.mem_cons, forall_eq_or_imp, decide_eq_true_eq, List.not_mem_nil, false_imp_iff, implies_true, and_true] at hq
    obtain ⟨rfl, hq⟩ := hq
    exact ⟨_, e1, _, (_, _, _, _, _, _, _, _, _, _), rfl, rfl, hq, h.2⟩
noncomputable def l49_2 (b d : Dat) (p : Nat) (a : Dat) (g i : Int) (Y : Dat) : Nat → Nat → Option (Bool × (Unit) × (Int × Int))
  | 0, kk => some (true, (), default)
  | f + 1, kk => (cond (decide (0 ≤ Y.ii kk 1 ∧ Y.ii kk 1 < (↑p : Int))) (cond (decide ((0 : Int) ≤ Y.ii kk (0 : Nat) ∧ Y.ii kk (0 : Nat) < (↑p : Int))) (cond (decide ((Z.wrap ((a.ii ((Y.ii kk 0).toNat) 0) + 1)) < (a.ii ((Y.ii kk 1).toNat) 0))) (some (false, default, (0, 22))) (l49_2 b d p a g i Y f (kk + 1) )) none) none)
noncomputable abbrev o49_2 (b d : Dat) (p : Nat) (a : Dat) (g i : Int)   : Option (Bool × (Unit) × (Int × Int)) := l49_2 b d p a g i (Y102 b d) (N102 b d) 0 
noncomputable def e49_2 (b d : Dat) (p : Nat) (a : Dat) (g i : Int) (r : Bool × (Unit) × (Int × Int)) (K : XR) : Prop := cnd r.1 (K (XE.normal) [] [.cells 77 [.ro [W Z] p a], .cells 3 [V Z g], .cells 27 [V Z i]]) (K (XE.ret) [] [.cells 77 [.ro [W Z] p a], .cells 3 [V Z r.2.2.1], .cells 27 [V Z r.2.2.2]])
noncomputable def g49_2 : LSum := fun s k => match czv 0 60 [5, 6, 7, 40] 3 [] s with
  | some ([.ptr 0 0, .ptr 1 0, .ptr 2 0, .fn 102 [.rp [.sl [W Z, W Z]] b 0 0, .rp [W Z] d 0 0]], [.cells 77 [.ro [W Z] p a], .cells 3 [V Z g], .cells 27 [V Z i]]) => needs [(o49_2 b d p a g i  ).isSome, (ok102 b d)] (e49_2 b d p a g i ((o49_2 b d p a g i  ).getD default) fun e _ bs => inBlk 2 k e (mkSt 0 60 [5, 6, 7, 40] [.ptr 0 0, .ptr 1 0, .ptr 2 0, .fn 102 [.rp [.sl [W Z, W Z]] b 0 0, .rp [W Z] d 0 0]] 3 bs))
  | _ => False
theorem y49_2 (b d : Dat) (p : Nat) (a : Dat) (g i : Int) (Y : Dat) (kk : Nat) (R : XR) : rfRound Tryd.prog [(52, c52), (81, c81), (82, c82)] (lamOf [(0, g49_0)]) 8 (asgOf (bodyAt (Tryd.f49.body.getD .skip) 2)) (unloop (bodyAt (Tryd.f49.body.getD .skip) 2)) (putAll (mkSt 3 60 [5, 6, 7, 40] [.ptr 0 0, .ptr 1 0, .ptr 2 0, .fn 102 [.rp [.sl [W Z, W Z]] b 0 0, .rp [W Z] d 0 0]] 3 [.cells 77 [.ro [W Z] p a], .cells 3 [V Z g], .cells 27 [V Z i]]) [41, 42] [V Z (Y.ii kk 0), V Z (Y.ii kk 1)]) (canonK 3 60 [] [] 3 [] R) =
 (cnd (decide (0 ≤ Y.ii kk 1 ∧ Y.ii kk 1 < (↑p : Int)))
 (cnd (decide ((0 : Int) ≤ Y.ii kk (0 : Nat) ∧ Y.ii kk (0 : Nat) < (↑p : Int)))
 (cnd (decide ((Z.wrap ((a.ii ((Y.ii kk 0).toNat) 0) + 1)) < (a.ii ((Y.ii kk 1).toNat) 0)))
 (R (XE.ret) [] [.cells 77 [.ro [W Z] p a], .cells 3 [V Z 0], .cells 27 [V Z 22]])
 (R (XE.normal) [] [.cells 77 [.ro [W Z] p a], .cells 3 [V Z g], .cells 27 [V Z i]]))
   False)
  False) := by kernel_rfl
theorem z49_2 : LOk Tryd.prog g49_2 (.block 2 (bodyAt (Tryd.f49.body.getD .skip) 2)) := by
  refine rf_blk (ι := Unit) (τ := Dat × Dat × Nat × Dat × Int × Int) (L := [(52, c52), (81, c81), (82, c82)]) (Λ := (lamOf [(0, g49_0)])) (fuel := 8) (na := 0) (ns := 3) (nt := 60) (nx := 3) (Lh := [5, 6, 7, 40]) (gl := []) (gf := 102) (tc k52 (tc k81 (tc k82 tn))) mix_ok (lam_of rfl (lc z49_0 ln)) rfl rfl rfl rfl rfl rfl (enters_ok Tryd.func102 (by kernel_rfl) (by kernel_rfl)) [] rfl
    (fun t => [.ptr 0 0, .ptr 1 0, .ptr 2 0, .fn 102 [.rp [.sl [W Z, W Z]] t.1 0 0, .rp [W Z] t.2.1 0 0]]) (fun t => [.rp [.sl [W Z, W Z]] t.1 0 0, .rp [W Z] t.2.1 0 0]) (fun t => [.rp [.sl [W Z, W Z]] t.1 0 0, .rp [W Z] t.2.1 0 0]) (fun t => [.cells 77 [.ro [W Z] t.2.2.1 t.2.2.2.1], .cells 3 [V Z t.2.2.2.2.1], .cells 27 [V Z t.2.2.2.2.2]]) (fun t => (N102 t.1 t.2.1)) (fun t k => [V Z ((Y102 t.1 t.2.1).ii k 0), V Z ((Y102 t.1 t.2.1).ii k 1)]) (fun t x => [.cells 77 [.ro [W Z] t.2.2.1 t.2.2.2.1], .cells 3 [V Z t.2.2.2.2.1], .cells 27 [V Z t.2.2.2.2.2]])
    (fun t k x K => GG default (e49_2 t.1 t.2.1 t.2.2.1 t.2.2.2.1 t.2.2.2.2.1 t.2.2.2.2.2) K (l49_2 t.1 t.2.1 t.2.2.1 t.2.2.2.1 t.2.2.2.2.1 t.2.2.2.2.2 (Y102 t.1 t.2.1) ((N102 t.1 t.2.1) - k) k )) (fun t => (ok102 t.1 t.2.1))
    (fun t => rfl) (fun t => rfl) (fun t => rfl) (fun t hok => (iter32 t.1 t.2.1 hok)) (fun t j hj => by simp at hj) (fun t j hj => by simp at hj) (fun t k => rfl) ?_ ?_ ?_
  · rintro ⟨b, d, p, a, g, i⟩ kk ⟨⟩ K hk hG
    obtain ⟨r, hr⟩ : ∃ r, (N102 b d) - kk = r + 1 := ⟨(N102 b d) - kk - 1, by have hk' : kk < (N102 b d) := hk; omega⟩
    have hr' : (N102 b d) - (kk + 1) = r := by omega
    have hG : GG default (e49_2 b d p a g i) K (l49_2 b d p a g i (Y102 b d) ((N102 b d) - kk) kk ) := hG
    rw [hr] at hG
    have key : ∀ x : Unit, GG default (e49_2 b d p a g i) K (l49_2 b d p a g i (Y102 b d) r (kk + 1) ) → GG default (e49_2 b d p a g i) K (l49_2 b d p a g i (Y102 b d) ((N102 b d) - (kk + 1)) (kk + 1) ) := fun x h => by rw [hr']; exact h
    refine propOf (y49_2 b d p a g i (Y102 b d) kk _) ?_
    exact cg hG fun h0 => cg h0 fun h1 => ch h1 (fun h2 => h2.2) (fun h2 => ⟨(), rfl, key () h2⟩)
  · rintro ⟨b, d, p, a, g, i⟩ ⟨⟩ K h
    have h : GG default (e49_2 b d p a g i) K (l49_2 b d p a g i (Y102 b d) ((N102 b d) - (N102 b d)) (N102 b d) ) := h
    rw [Nat.sub_self] at h
    exact h.2
  · intro s k h
    unfold g49_2 at h
    split at h <;> try exact h.elim
    rename_i e1
    rw [needs_iff] at h
    exact ⟨(_, _, _, _, _, _), (), e1, rfl, h.1 _ (List.mem_cons_of_mem _ (List.mem_singleton.2 rfl)), h.1 _ (List.mem_cons_self ..), h.2⟩
noncomputable def m49 (m : Nat) (o : Dat) (y : Int) (l : Nat) (u : Dat) : Int × Int :=
  (cond (bif (decide ((m81 m o y) = 0)) then false else true) (0, (m81 m o y)) (cond (bif (decide ((↑l : Int) = (↑m : Int))) then false else true) (0, 10) (cond ((o49_0 m o y l u (↑l : Int) u 0 0 0).getD default).1 (((o49_0 m o y l u (↑l : Int) u 0 0 0).getD default).2.1.1, ((o49_0 m o y l u (↑l : Int) u 0 0 0).getD default).2.1.2) (cond (bif (decide ((u.ii 0 0) = 0)) then false else true) (0, 22) (cond ((o49_2 (m82 m o y).1 (m82 m o y).2 l u 0 0).getD default).1 ((Z.wrap ((u.ii ((Z.wrap ((↑l : Int) - 1)).toNat) 0) + 1)), 0) (((o49_2 (m82 m o y).1 (m82 m o y).2 l u 0 0).getD default).2.2.1, ((o49_2 (m82 m o y).1 (m82 m o y).2 l u 0 0).getD default).2.2.2))))))
noncomputable def n49 (m : Nat) (o : Dat) (y : Int) (l : Nat) (u : Dat) : Bool :=
  ((n81 m o y) && (cond (bif (decide ((m81 m o y) = 0)) then false else true) true (cond (bif (decide ((↑l : Int) = (↑m : Int))) then false else true) true (((o49_0 m o y l u (↑l : Int) u 0 0 0).isSome) && (cond ((o49_0 m o y l u (↑l : Int) u 0 0 0).getD default).1 true ((decide ((0 : Int) ≤ (0 : Int) ∧ (0 : Int) < (↑l : Int))) && (cond (bif (decide ((u.ii 0 0) = 0)) then false else true) true (((o49_2 (m82 m o y).1 (m82 m o y).2 l u 0 0).isSome) && ((ok102 (m82 m o y).1 (m82 m o y).2) && (cond ((o49_2 (m82 m o y).1 (m82 m o y).2 l u 0 0).getD default).1 ((decide (0 ≤ Z.wrap ((↑l : Int) - 1) ∧ Z.wrap ((↑l : Int) - 1) < (↑l : Int))) && true) true))))))))))
noncomputable def q49 (r : Int × Int) : SV × List Blk × List Blk := (.tup [V Z r.1, V Z r.2], [], [])
noncomputable def g49 : GF := fun vs bs => match vs, bs with
  | [.ro [W Z, W Z] m o, V Z y, .ro [W Z] l u], [] => some (rs 0 (q49 (m49 m o y l u)) [n49 m o y l u])
  | _, _ => none
noncomputable def c49 : Ctr := genC [.ro [W Z, W Z], .k, .ro [W Z]] g49
theorem k49 : CtrOk Tryd.prog c49 49 := cx (tc k52 (tc k81 (tc k82 tn))) mix_ok 8 (fn := Tryd.f49) (c := (Tryd.f49.body.getD .skip)) (grs := []) (rh := .k) Tryd.func49 rfl (by kernel_rfl) (lam_of rfl (lc z49_0 (lc z49_2 ln))) fun vs bs q h hn => by
  unfold g49 at h
  split at h <;> cases h
  rename_i m o y l u
  have hn := n1 hn
  exact ⟨_, rfl, ca (fun R => (cnd (n81 m o y)
 (cnd (bif (decide ((m81 m o y) = 0)) then false else true)
 (R (.tup [V Z 0, V Z (m81 m o y)]) [] [])
 (cnd (bif (decide ((↑l : Int) = (↑m : Int))) then false else true)
 (R (.tup [V Z 0, V Z 10]) [] [])
 (cnd (decide (l = l))
 (cnd ((o49_0 m o y l u (↑l : Int) u 0 0 0).isSome)
 (cnd ((o49_0 m o y l u (↑l : Int) u 0 0 0).getD default).1
 (R (.tup [V Z ((o49_0 m o y l u (↑l : Int) u 0 0 0).getD default).2.1.1, V Z ((o49_0 m o y l u (↑l : Int) u 0 0 0).getD default).2.1.2]) [] [])
 (cnd (decide ((0 : Int) ≤ (0 : Int) ∧ (0 : Int) < (↑l : Int)))
 (cnd (bif (decide ((u.ii 0 0) = 0)) then false else true)
 (R (.tup [V Z 0, V Z 22]) [] [])
 (cnd ((o49_2 (m82 m o y).1 (m82 m o y).2 l u 0 0).isSome)
 (cnd (ok102 (m82 m o y).1 (m82 m o y).2)
 (cnd ((o49_2 (m82 m o y).1 (m82 m o y).2 l u 0 0).getD default).1
 (cnd (decide (0 ≤ Z.wrap ((↑l : Int) - 1) ∧ Z.wrap ((↑l : Int) - 1) < (↑l : Int)))
 (R (.tup [V Z (Z.wrap ((u.ii ((Z.wrap ((↑l : Int) - 1)).toNat) 0) + 1)), V Z 0]) [] [])
             False)
 (R (.tup [V Z ((o49_2 (m82 m o y).1 (m82 m o y).2 l u 0 0).getD default).2.2.1, V Z ((o49_2 (m82 m o y).1 (m82 m o y).2 l u 0 0).getD default).2.2.2]) [] []))
           False)
          False))
        False))
      False)
     False)))
  False)) (fun R => by kernel_rfl) (cn (al hn) (co (fun h0 => lf (cT h0 rfl) rfl) (fun h0 => co (fun h1 => lf (cF h0 (cT h1 rfl)) rfl) (fun h1 => cn (decide_eq_true rfl) (cn (al (cf h1 (cf h0 (ar hn)))) (co (fun h2 => lf (cF h0 (cF h1 (cT h2 rfl))) rfl) (fun h2 => cn (al (cf h2 (ar (cf h1 (cf h0 (ar hn)))))) (co (fun h3 => lf (cF h0 (cF h1 (cF h2 (cT h3 rfl)))) rfl) (fun h3 => cn (al (cf h3 (ar (cf h2 (ar (cf h1 (cf h0 (ar hn)))))))) (cn (al (ar (cf h3 (ar (cf h2 (ar (cf h1 (cf h0 (ar hn))))))))) (co (fun h4 => cn (al (ct h4 (ar (ar (cf h3 (ar (cf h2 (ar (cf h1 (cf h0 (ar hn))))))))))) (lf (cF h0 (cF h1 (cF h2 (cF h3 (cT h4 rfl))))) rfl)) (fun h4 => lf (cF h0 (cF h1 (cF h2 (cF h3 (cF h4 rfl))))) rfl))))))))))))⟩
/-! ### shotline/shotlinelaw02.awake -/
noncomputable def m10  : Bool :=
  (bif (bif (bif (bif (bif (bif (bif (bif (bif (decide ((m21 m47.1 m47.2.1 2 m47.2.2.1 4 m47.2.2.2).2 = 0)) then (decide ((m21 m47.1 m47.2.1 2 m47.2.2.1 4 m47.2.2.2).1 = 1080)) else false) then (decide ((m48 m47.1 m47.2.1 2 m47.2.2.1 4 m47.2.2.2 701).2.2 = 0)) else false) then (bif (decide ((m48 m47.1 m47.2.1 2 m47.2.2.1 4 m47.2.2.2 701).1 = 1390)) then (bif (decide ((m48 m47.1 m47.2.1 2 m47.2.2.1 4 m47.2.2.2 701).2.1 = 1390)) then true else false) else false) else false) then (decide ((m23 m47.1 m47.2.1 2 m47.2.2.1 4 m47.2.2.2).2.2 = 0)) else false) then (bif (decide ((m23 m47.1 m47.2.1 2 m47.2.2.1 4 m47.2.2.2).1 = 1350)) then (bif (decide ((m23 m47.1 m47.2.1 2 m47.2.2.1 4 m47.2.2.2).2.1 = 1350)) then true else false) else false) else false) then (decide ((m49 4 m50 9 4 (datS [V Z 0, V Z 1, V Z 1, V Z 2] 1)).2 = 0)) else false) then (decide ((m49 4 m50 9 4 (datS [V Z 0, V Z 1, V Z 1, V Z 2] 1)).1 = 3)) else false) then (decide ((m51 m47.1 m47.2.1 2 m47.2.2.1 4 m47.2.2.2).2 = 0)) else false) then (decide ((m51 m47.1 m47.2.1 2 m47.2.2.1 4 m47.2.2.2).1 = (bt30649_0))) else false)
noncomputable def n10  : Bool :=
  ((n21 m47.1 m47.2.1 2 m47.2.2.1 4 m47.2.2.2) && ((n48 m47.1 m47.2.1 2 m47.2.2.1 4 m47.2.2.2 701) && ((n23 m47.1 m47.2.1 2 m47.2.2.1 4 m47.2.2.2) && ((n49 4 m50 9 4 (datS [V Z 0, V Z 1, V Z 1, V Z 2] 1)) && ((n51 m47.1 m47.2.1 2 m47.2.2.1 4 m47.2.2.2) && true)))))
noncomputable def q10 (r : Bool) : SV × List Blk × List Blk := (.bool r, [], [])
noncomputable def g10 : GF := fun vs bs => match vs, bs with
  | [], [] => some (rs 0 (q10 (m10)) [n10 ])
  | _, _ => none
noncomputable def c10 : Ctr := genC [] g10
theorem k10 : CtrOk Tryd.prog c10 10 := cx (tc k21 (tc k23 (tc k47 (tc k48 (tc k49 (tc k50 (tc k51 tn))))))) mix_ok 8 (fn := Tryd.f10) (c := (Tryd.f10.body.getD .skip)) (grs := []) (rh := .k) Tryd.func10 rfl (by kernel_rfl) noLam fun vs bs q h hn => by
  unfold g10 at h
  split at h <;> cases h
  have hn := n1 hn
  exact ⟨_, rfl, ca (fun R => (cnd (n21 m47.1 m47.2.1 2 m47.2.2.1 4 m47.2.2.2)
 (cnd (n48 m47.1 m47.2.1 2 m47.2.2.1 4 m47.2.2.2 701)
 (cnd (n23 m47.1 m47.2.1 2 m47.2.2.1 4 m47.2.2.2)
 (cnd (n49 4 m50 9 4 (datS [V Z 0, V Z 1, V Z 1, V Z 2] 1))
 (cnd (n51 m47.1 m47.2.1 2 m47.2.2.1 4 m47.2.2.2)
 (R (.bool (bif (bif (bif (bif (bif (bif (bif (bif (bif (decide ((m21 m47.1 m47.2.1 2 m47.2.2.1 4 m47.2.2.2).2 = 0)) then (decide ((m21 m47.1 m47.2.1 2 m47.2.2.1 4 m47.2.2.2).1 = 1080)) else false) then (decide ((m48 m47.1 m47.2.1 2 m47.2.2.1 4 m47.2.2.2 701).2.2 = 0)) else false) then (bif (decide ((m48 m47.1 m47.2.1 2 m47.2.2.1 4 m47.2.2.2 701).1 = 1390)) then (bif (decide ((m48 m47.1 m47.2.1 2 m47.2.2.1 4 m47.2.2.2 701).2.1 = 1390)) then true else false) else false) else false) then (decide ((m23 m47.1 m47.2.1 2 m47.2.2.1 4 m47.2.2.2).2.2 = 0)) else false) then (bif (decide ((m23 m47.1 m47.2.1 2 m47.2.2.1 4 m47.2.2.2).1 = 1350)) then (bif (decide ((m23 m47.1 m47.2.1 2 m47.2.2.1 4 m47.2.2.2).2.1 = 1350)) then true else false) else false) else false) then (decide ((m49 4 m50 9 4 (datS [V Z 0, V Z 1, V Z 1, V Z 2] 1)).2 = 0)) else false) then (decide ((m49 4 m50 9 4 (datS [V Z 0, V Z 1, V Z 1, V Z 2] 1)).1 = 3)) else false) then (decide ((m51 m47.1 m47.2.1 2 m47.2.2.1 4 m47.2.2.2).2 = 0)) else false) then (decide ((m51 m47.1 m47.2.1 2 m47.2.2.1 4 m47.2.2.2).1 = (bt30649_0))) else false)) [] [])
      False)
     False)
    False)
   False)
  False)) (fun R => by kernel_rfl) (cn (al hn) (cn (al (ar hn)) (cn (al (ar (ar hn))) (cn (al (ar (ar (ar hn)))) (cn (al (ar (ar (ar (ar hn))))) (lf rfl rfl))))))⟩
/-! ### shotline/shotlineref02.Distance -/
noncomputable def l34_2 (i : Nat) (l : Dat) (j : Nat) (m : Dat) (v : Nat) (n : Dat) (o : Nat) (t : Dat) (p : Nat) (u : Dat) (C w x : Int) : Nat → Int → Int → Int → Option (Int × Int)
  | 0, _, _, _ => none
  | f + 1, y, z, A => (cond (decide (y < (↑v : Int))) (cond (decide (0 ≤ y ∧ y < ↑v)) (cond (n70 i l j m (n.ii y.toNat 0)) (cond (n56 (m70 i l j m (n.ii y.toNat 0)).1 (m70 i l j m (n.ii y.toNat 0)).2) (l34_2 i l j m v n o t p u C w x f (Z.wrap (y + 1)) (imax z (m56 (m70 i l j m (n.ii y.toNat 0)).1 (m70 i l j m (n.ii y.toNat 0)).2).1) (imax A (m56 (m70 i l j m (n.ii y.toNat 0)).1 (m70 i l j m (n.ii y.toNat 0)).2).2)) none) none) none) (some (z, A)))
noncomputable abbrev o34_2 (i : Nat) (l : Dat) (j : Nat) (m : Dat) (v : Nat) (n : Dat) (o : Nat) (t : Dat) (p : Nat) (u : Dat) (C w x y z A : Int) : Option (Int × Int) := l34_2 i l j m v n o t p u C w x (i + j + v + y.toNat + o + p + C.toNat + w.toNat + x.toNat + z.toNat + A.toNat + 8) y z A
noncomputable def e34_2 (i : Nat) (l : Dat) (j : Nat) (m : Dat) (v : Nat) (n : Dat) (o : Nat) (t : Dat) (p : Nat) (u : Dat) (C w x : Int) (r : Int × Int) (K : XR) : Prop := K (XE.exit 2) [.ro [W Z, W Z] i l, .ro [W Z, W Z] j m, .ptr 0 0, .ptr 1 0, .agg [.ro [W Z, W Z] o t, .ro [W Z, W Z] p u], V Z C] [.cells 26 [V Z w, V Z x], .cells 26 [V Z r.1, V Z r.2]]
noncomputable def g34_2 : LSum := fun s k => match czv 0 51 [0, 1, 4, 5, 7, 8, 14, 15] 2 [] s with
  | some ([.ro [W Z, W Z] i l, .ro [W Z, W Z] j m, .ptr 0 0, .ptr 1 0, .ro [W Z, W Z] v n, V Z y, .agg [.ro [W Z, W Z] o t, .ro [W Z, W Z] p u], V Z C], [.cells 26 [V Z w, V Z x], .cells 26 [V Z z, V Z A]]) => needs [(o34_2 i l j m v n o t p u C w x y z A).isSome] (e34_2 i l j m v n o t p u C w x ((o34_2 i l j m v n o t p u C w x y z A).getD default) fun e vs bs => inBlk 2 k e (mkSt 0 51 [0, 1, 4, 5, 14, 15] vs 2 bs))
  | _ => False
theorem z34_2 : LOk Tryd.prog g34_2 (.block 2 (bodyAt (Tryd.f34.body.getD .skip) 2)) := by
  refine lb (ι := Nat × Dat × Nat × Dat × Nat × Dat × Int × Nat × Dat × Nat × Dat × Int × Int × Int × Int × Int) (fuel := 8) (na := 0) (nt := 51) (nx := 2) (Lh := [0, 1, 4, 5, 7, 8, 14, 15]) (Le := [0, 1, 4, 5, 14, 15]) (gl := []) (tc k56 (tc k70 tn)) mix_ok noLam rfl (fun f (i, l, j, m, v, n, y, o, t, p, u, C, w, x, z, A) K => GG default (e34_2 i l j m v n o t p u C w x) K (l34_2 i l j m v n o t p u C w x f y z A)) (fun (i, l, j, m, v, n, y, o, t, p, u, C, w, x, z, A) => [.ro [W Z, W Z] i l, .ro [W Z, W Z] j m, .ptr 0 0, .ptr 1 0, .ro [W Z, W Z] v n, V Z y, .agg [.ro [W Z, W Z] o t, .ro [W Z, W Z] p u], V Z C]) (fun (i, l, j, m, v, n, y, o, t, p, u, C, w, x, z, A) => [.cells 26 [V Z w, V Z x], .cells 26 [V Z z, V Z A]]) (fun (_, _, _, _, _, _, _, _, _, _, _, _, _, _, _, _) K => gg_none) ?_ ?_
  · rintro f ⟨i, l, j, m, v, n, y, o, t, p, u, C, w, x, z, A⟩ K hG
    refine ro (fun R => (cnd (decide (y < (↑v : Int)))
 (cnd (decide (0 ≤ y ∧ y < ↑v))
 (cnd (n70 i l j m (n.ii y.toNat 0))
 (cnd (n56 (m70 i l j m (n.ii y.toNat 0)).1 (m70 i l j m (n.ii y.toNat 0)).2)
 (R (XE.normal) [.ro [W Z, W Z] i l, .ro [W Z, W Z] j m, .ptr 0 0, .ptr 1 0, .ro [W Z, W Z] v n, V Z (Z.wrap (y + 1)), .agg [.ro [W Z, W Z] o t, .ro [W Z, W Z] p u], V Z C] [.cells 26 [V Z w, V Z x], .cells 26 [V Z (imax z (m56 (m70 i l j m (n.ii y.toNat 0)).1 (m70 i l j m (n.ii y.toNat 0)).2).1), V Z (imax A (m56 (m70 i l j m (n.ii y.toNat 0)).1 (m70 i l j m (n.ii y.toNat 0)).2).2)]])
     False)
    False)
   False)
 (R (XE.exit 2) [.ro [W Z, W Z] i l, .ro [W Z, W Z] j m, .ptr 0 0, .ptr 1 0, .agg [.ro [W Z, W Z] o t, .ro [W Z, W Z] p u], V Z C] [.cells 26 [V Z w, V Z x], .cells 26 [V Z z, V Z A]]))) (fun R => by kernel_rfl) ?_
    exact ch hG (fun h0 => cg h0 fun h1 => cg h1 fun h2 => cg h2 fun h3 => ⟨(_, _, _, _, _, _, _, _, _, _, _, _, _, _, _, _), rfl, rfl, h3⟩) (fun h0 => h0.2)
  · intro s k h
    unfold g34_2 at h
    split at h <;> try exact h.elim
    rename_i e1
    rw [needs_iff] at h
    exact ⟨_, e1, _, (_, _, _, _, _, _, _, _, _, _, _, _, _, _, _, _), rfl, rfl, h.1 _ (List.mem_singleton.2 rfl), h.2⟩
noncomputable def m34 (a : Nat) (b : Dat) (d : Nat) (g : Dat) : Int × Int :=
  (((o34_2 a b d g d g a b d g 1 0 0 0 ((o34_2 a b d g a b a b d g 0 0 0 0 0 0).getD default).1 ((o34_2 a b d g a b a b d g 0 0 0 0 0 0).getD default).2).getD default).1, ((o34_2 a b d g d g a b d g 1 0 0 0 ((o34_2 a b d g a b a b d g 0 0 0 0 0 0).getD default).1 ((o34_2 a b d g a b a b d g 0 0 0 0 0 0).getD default).2).getD default).2)
noncomputable def n34 (a : Nat) (b : Dat) (d : Nat) (g : Dat) : Bool :=
  (((o34_2 a b d g a b a b d g 0 0 0 0 0 0).isSome) && (((o34_2 a b d g d g a b d g 1 0 0 0 ((o34_2 a b d g a b a b d g 0 0 0 0 0 0).getD default).1 ((o34_2 a b d g a b a b d g 0 0 0 0 0 0).getD default).2).isSome) && true))
noncomputable def q34 (r : Int × Int) : SV × List Blk × List Blk := (.agg [V Z r.1, V Z r.2], [], [])
noncomputable def g34 : GF := fun vs bs => match vs, bs with
  | [.ro [W Z, W Z] a b, .ro [W Z, W Z] d g], [] => some (rs 0 (q34 (m34 a b d g)) [n34 a b d g])
  | _, _ => none
noncomputable def c34 : Ctr := genC [.ro [W Z, W Z], .ro [W Z, W Z]] g34
theorem k34 : CtrOk Tryd.prog c34 34 := cx (tc k56 (tc k70 tn)) mix_ok 8 (fn := Tryd.f34) (c := (Tryd.f34.body.getD .skip)) (grs := []) (rh := .k) Tryd.func34 rfl (by kernel_rfl) (lam_of rfl (lc z34_2 ln)) fun vs bs q h hn => by
  unfold g34 at h
  split at h <;> cases h
  rename_i a b d g
  have hn := n1 hn
  exact ⟨_, rfl, ca (fun R => (cnd ((o34_2 a b d g a b a b d g 0 0 0 0 0 0).isSome)
 (cnd ((o34_2 a b d g d g a b d g 1 0 0 0 ((o34_2 a b d g a b a b d g 0 0 0 0 0 0).getD default).1 ((o34_2 a b d g a b a b d g 0 0 0 0 0 0).getD default).2).isSome)
 (R (.agg [V Z ((o34_2 a b d g d g a b d g 1 0 0 0 ((o34_2 a b d g a b a b d g 0 0 0 0 0 0).getD default).1 ((o34_2 a b d g a b a b d g 0 0 0 0 0 0).getD default).2).getD default).1, V Z ((o34_2 a b d g d g a b d g 1 0 0 0 ((o34_2 a b d g a b a b d g 0 0 0 0 0 0).getD default).1 ((o34_2 a b d g a b a b d g 0 0 0 0 0 0).getD default).2).getD default).2]) [] [])
   False)
  False)) (fun R => by kernel_rfl) (cn (al hn) (cn (al (ar hn)) (lf rfl rfl)))⟩
/-! ### shotline/shotlinelaw02.ProfileDistances -/
theorem x5 (a : Nat) (b : Dat) (d : Nat) (e : Dat) (g : Int) (R : SV → List Blk → List Blk → Prop) : exec Tryd.prog [(10, c10), (11, c11), (13, c13), (14, c14), (16, c16), (31, c31), (32, c32), (33, c33), (34, c34)] (fun _ => none) 8 (Tryd.f5.body.getD .skip) (initS Tryd.f5.ntmps [.ro [W Z, W Z] a b, .ro [W Z, W Z] d e, V Z g] 0 (memOf [])) (retK Tryd.prog Tryd.f5.results.toList (outK 0 (List.range 0) [] (.k) fun v U N => R v U N)) =
 (cnd (n10)
 (cnd (bif m10 then false else true)
 (R (.bool false) [] [])
 (cnd (bif (bif (m11 a b) then false else true) then true else (bif (m11 d e) then false else true))
 (R (.bool true) [] [])
 (cnd (n13 a b)
 (cnd (n13 d e)
 (cnd (n31 (m13 a b).1 (m13 a b).2 (m13 d e).1 (m13 d e).2)
 (cnd (n13 a b)
 (cnd (n13 d e)
 (cnd (n32 (m13 a b).1 (m13 a b).2 (m13 d e).1 (m13 d e).2 g)
 (cnd (n14 a b)
 (cnd (decide ((m14 a b) = 0))
 (cnd (n14 d e)
 (cnd (bif (decide ((m14 d e) = 0)) then (bif (m16 g 0 30000) then false else true) else false)
 (cnd (bif (bif (decide ((m14 d e) = 0)) then false else true) then true else (n33 a b d e))
 (cnd (bif (decide ((m14 d e) = 0)) then (m33 a b d e) else false)
 (cnd (bif (bif (bif (decide ((m31 (m13 a b).1 (m13 a b).2 (m13 d e).1 (m13 d e).2).2.2 = 13)) then false else true) then true else (bif (bif (decide ((m31 (m13 a b).1 (m13 a b).2 (m13 d e).1 (m13 d e).2).1 = 0)) then (bif (decide ((m31 (m13 a b).1 (m13 a b).2 (m13 d e).1 (m13 d e).2).2.1 = 0)) then true else false) else false) then false else true)) then true else (bif (bif (decide ((m32 (m13 a b).1 (m13 a b).2 (m13 d e).1 (m13 d e).2 g).2 = 2)) then false else true) then true else (m32 (m13 a b).1 (m13 a b).2 (m13 d e).1 (m13 d e).2 g).1))
 (R (.bool false) [] [])
 (R (.bool true) [] []))
 (cnd (bif (bif (bif (decide ((m14 d e) = 0)) then false else true) then (bif (bif (decide ((m31 (m13 a b).1 (m13 a b).2 (m13 d e).1 (m13 d e).2).2.2 = (m14 d e))) then false else true) then true else (bif (bif (decide ((m31 (m13 a b).1 (m13 a b).2 (m13 d e).1 (m13 d e).2).1 = 0)) then (bif (decide ((m31 (m13 a b).1 (m13 a b).2 (m13 d e).1 (m13 d e).2).2.1 = 0)) then true else false) else false) then false else true)) else false) then true else (bif (bif (decide ((m32 (m13 a b).1 (m13 a b).2 (m13 d e).1 (m13 d e).2 g).2 = 2)) then false else true) then true else (m32 (m13 a b).1 (m13 a b).2 (m13 d e).1 (m13 d e).2 g).1))
 (R (.bool false) [] [])
 (cnd (bif (decide ((m14 d e) = 0)) then false else true)
 (R (.bool true) [] [])
 (cnd (bif (bif (bif (bif (decide ((m31 (m13 a b).1 (m13 a b).2 (m13 d e).1 (m13 d e).2).2.2 = 0)) then false else true) then false else true) then false else true) then true else (n34 a b d e))
 (cnd (bif (bif (bif (decide ((m31 (m13 a b).1 (m13 a b).2 (m13 d e).1 (m13 d e).2).2.2 = 0)) then false else true) then true else (bif (bif (decide ((m31 (m13 a b).1 (m13 a b).2 (m13 d e).1 (m13 d e).2).1 = (m34 a b d e).1)) then (bif (decide ((m31 (m13 a b).1 (m13 a b).2 (m13 d e).1 (m13 d e).2).2.1 = (m34 a b d e).2)) then true else false) else false) then false else true)) then true else false)
 (R (.bool false) [] [])
 (cnd (n13 d e)
 (cnd (n13 a b)
 (cnd (n31 (m13 d e).1 (m13 d e).2 (m13 a b).1 (m13 a b).2)
 (R (.bool (bif (decide ((m31 (m13 d e).1 (m13 d e).2 (m13 a b).1 (m13 a b).2).2.2 = 0)) then (bif (decide ((m31 (m13 d e).1 (m13 d e).2 (m13 a b).1 (m13 a b).2).1 = (m31 (m13 a b).1 (m13 a b).2 (m13 d e).1 (m13 d e).2).1)) then (bif (decide ((m31 (m13 d e).1 (m13 d e).2 (m13 a b).1 (m13 a b).2).2.1 = (m31 (m13 a b).1 (m13 a b).2 (m13 d e).1 (m13 d e).2).2.1)) then true else false) else false) else false)) [] [])
                       False)
                      False)
                     False))
                   False))))
               False)
 (cnd (bif (bif (decide ((m14 d e) = 0)) then false else true) then true else (n33 a b d e))
 (cnd (bif (decide ((m14 d e) = 0)) then (m33 a b d e) else false)
 (cnd (decide ((m14 d e) = 0))
 (cnd (bif (bif (bif (decide ((m31 (m13 a b).1 (m13 a b).2 (m13 d e).1 (m13 d e).2).2.2 = 13)) then false else true) then true else (bif (bif (decide ((m31 (m13 a b).1 (m13 a b).2 (m13 d e).1 (m13 d e).2).1 = 0)) then (bif (decide ((m31 (m13 a b).1 (m13 a b).2 (m13 d e).1 (m13 d e).2).2.1 = 0)) then true else false) else false) then false else true)) then true else (bif (bif (decide ((m32 (m13 a b).1 (m13 a b).2 (m13 d e).1 (m13 d e).2 g).2 = 13)) then false else true) then true else (m32 (m13 a b).1 (m13 a b).2 (m13 d e).1 (m13 d e).2 g).1))
 (R (.bool false) [] [])
 (R (.bool true) [] []))
 (cnd (bif (bif (bif (decide ((m31 (m13 a b).1 (m13 a b).2 (m13 d e).1 (m13 d e).2).2.2 = 13)) then false else true) then true else (bif (bif (decide ((m31 (m13 a b).1 (m13 a b).2 (m13 d e).1 (m13 d e).2).1 = 0)) then (bif (decide ((m31 (m13 a b).1 (m13 a b).2 (m13 d e).1 (m13 d e).2).2.1 = 0)) then true else false) else false) then false else true)) then true else (bif (bif (decide ((m14 d e) = 0)) then false else true) then (bif (bif (decide ((m32 (m13 a b).1 (m13 a b).2 (m13 d e).1 (m13 d e).2 g).2 = (m14 d e))) then false else true) then true else (m32 (m13 a b).1 (m13 a b).2 (m13 d e).1 (m13 d e).2 g).1) else false))
 (R (.bool false) [] [])
 (R (.bool true) [] [])))
 (cnd (bif (bif (bif (decide ((m14 d e) = 0)) then false else true) then (bif (bif (decide ((m31 (m13 a b).1 (m13 a b).2 (m13 d e).1 (m13 d e).2).2.2 = (m14 d e))) then false else true) then true else (bif (bif (decide ((m31 (m13 a b).1 (m13 a b).2 (m13 d e).1 (m13 d e).2).1 = 0)) then (bif (decide ((m31 (m13 a b).1 (m13 a b).2 (m13 d e).1 (m13 d e).2).2.1 = 0)) then true else false) else false) then false else true)) else false) then true else (bif (bif (decide ((m14 d e) = 0)) then false else true) then (bif (bif (decide ((m32 (m13 a b).1 (m13 a b).2 (m13 d e).1 (m13 d e).2 g).2 = (m14 d e))) then false else true) then true else (m32 (m13 a b).1 (m13 a b).2 (m13 d e).1 (m13 d e).2 g).1) else false))
 (R (.bool false) [] [])
 (cnd (bif (decide ((m14 d e) = 0)) then false else true)
 (R (.bool true) [] [])
 (cnd (bif (bif (bif (bif (decide ((m31 (m13 a b).1 (m13 a b).2 (m13 d e).1 (m13 d e).2).2.2 = 0)) then false else true) then false else true) then false else true) then true else (n34 a b d e))
 (cnd (bif (bif (bif (decide ((m31 (m13 a b).1 (m13 a b).2 (m13 d e).1 (m13 d e).2).2.2 = 0)) then false else true) then true else (bif (bif (decide ((m31 (m13 a b).1 (m13 a b).2 (m13 d e).1 (m13 d e).2).1 = (m34 a b d e).1)) then (bif (decide ((m31 (m13 a b).1 (m13 a b).2 (m13 d e).1 (m13 d e).2).2.1 = (m34 a b d e).2)) then true else false) else false) then false else true)) then true else (bif (decide ((m14 d e) = 0)) then (bif (bif (decide ((m32 (m13 a b).1 (m13 a b).2 (m13 d e).1 (m13 d e).2 g).2 = 0)) then false else true) then true else (bif (decide ((m32 (m13 a b).1 (m13 a b).2 (m13 d e).1 (m13 d e).2 g).1 = (decide ((m31 (m13 a b).1 (m13 a b).2 (m13 d e).1 (m13 d e).2).2.1 ≤ g)))) then false else true)) else false))
 (R (.bool false) [] [])
 (cnd (n13 d e)
 (cnd (n13 a b)
 (cnd (n31 (m13 d e).1 (m13 d e).2 (m13 a b).1 (m13 a b).2)
 (R (.bool (bif (decide ((m31 (m13 d e).1 (m13 d e).2 (m13 a b).1 (m13 a b).2).2.2 = 0)) then (bif (decide ((m31 (m13 d e).1 (m13 d e).2 (m13 a b).1 (m13 a b).2).1 = (m31 (m13 a b).1 (m13 a b).2 (m13 d e).1 (m13 d e).2).1)) then (bif (decide ((m31 (m13 d e).1 (m13 d e).2 (m13 a b).1 (m13 a b).2).2.1 = (m31 (m13 a b).1 (m13 a b).2 (m13 d e).1 (m13 d e).2).2.1)) then true else false) else false) else false)) [] [])
                       False)
                      False)
                     False))
                   False))))
               False))
             False)
 (cnd (bif (decide ((m14 a b) = 0)) then (bif (m16 g 0 30000) then false else true) else false)
 (cnd (bif (bif (decide ((m14 a b) = 0)) then false else true) then true else (n33 a b d e))
 (cnd (bif (decide ((m14 a b) = 0)) then (m33 a b d e) else false)
 (cnd (bif (bif (bif (decide ((m31 (m13 a b).1 (m13 a b).2 (m13 d e).1 (m13 d e).2).2.2 = 13)) then false else true) then true else (bif (bif (decide ((m31 (m13 a b).1 (m13 a b).2 (m13 d e).1 (m13 d e).2).1 = 0)) then (bif (decide ((m31 (m13 a b).1 (m13 a b).2 (m13 d e).1 (m13 d e).2).2.1 = 0)) then true else false) else false) then false else true)) then true else (bif (bif (decide ((m32 (m13 a b).1 (m13 a b).2 (m13 d e).1 (m13 d e).2 g).2 = 2)) then false else true) then true else (m32 (m13 a b).1 (m13 a b).2 (m13 d e).1 (m13 d e).2 g).1))
 (R (.bool false) [] [])
 (R (.bool true) [] []))
 (cnd (bif (bif (bif (decide ((m14 a b) = 0)) then false else true) then (bif (bif (decide ((m31 (m13 a b).1 (m13 a b).2 (m13 d e).1 (m13 d e).2).2.2 = (m14 a b))) then false else true) then true else (bif (bif (decide ((m31 (m13 a b).1 (m13 a b).2 (m13 d e).1 (m13 d e).2).1 = 0)) then (bif (decide ((m31 (m13 a b).1 (m13 a b).2 (m13 d e).1 (m13 d e).2).2.1 = 0)) then true else false) else false) then false else true)) else false) then true else (bif (bif (decide ((m32 (m13 a b).1 (m13 a b).2 (m13 d e).1 (m13 d e).2 g).2 = 2)) then false else true) then true else (m32 (m13 a b).1 (m13 a b).2 (m13 d e).1 (m13 d e).2 g).1))
 (R (.bool false) [] [])
 (cnd (bif (decide ((m14 a b) = 0)) then false else true)
 (R (.bool true) [] [])
 (cnd (bif (bif (bif (bif (decide ((m31 (m13 a b).1 (m13 a b).2 (m13 d e).1 (m13 d e).2).2.2 = 0)) then false else true) then false else true) then false else true) then true else (n34 a b d e))
 (cnd (bif (bif (bif (decide ((m31 (m13 a b).1 (m13 a b).2 (m13 d e).1 (m13 d e).2).2.2 = 0)) then false else true) then true else (bif (bif (decide ((m31 (m13 a b).1 (m13 a b).2 (m13 d e).1 (m13 d e).2).1 = (m34 a b d e).1)) then (bif (decide ((m31 (m13 a b).1 (m13 a b).2 (m13 d e).1 (m13 d e).2).2.1 = (m34 a b d e).2)) then true else false) else false) then false else true)) then true else false)
 (R (.bool false) [] [])
 (cnd (n13 d e)
 (cnd (n13 a b)
 (cnd (n31 (m13 d e).1 (m13 d e).2 (m13 a b).1 (m13 a b).2)
 (R (.bool (bif (decide ((m31 (m13 d e).1 (m13 d e).2 (m13 a b).1 (m13 a b).2).2.2 = 0)) then (bif (decide ((m31 (m13 d e).1 (m13 d e).2 (m13 a b).1 (m13 a b).2).1 = (m31 (m13 a b).1 (m13 a b).2 (m13 d e).1 (m13 d e).2).1)) then (bif (decide ((m31 (m13 d e).1 (m13 d e).2 (m13 a b).1 (m13 a b).2).2.1 = (m31 (m13 a b).1 (m13 a b).2 (m13 d e).1 (m13 d e).2).2.1)) then true else false) else false) else false)) [] [])
                      False)
                     False)
                    False))
                  False))))
              False)
 (cnd (bif (bif (decide ((m14 a b) = 0)) then false else true) then true else (n33 a b d e))
 (cnd (bif (decide ((m14 a b) = 0)) then (m33 a b d e) else false)
 (cnd (decide ((m14 a b) = 0))
 (cnd (bif (bif (bif (decide ((m31 (m13 a b).1 (m13 a b).2 (m13 d e).1 (m13 d e).2).2.2 = 13)) then false else true) then true else (bif (bif (decide ((m31 (m13 a b).1 (m13 a b).2 (m13 d e).1 (m13 d e).2).1 = 0)) then (bif (decide ((m31 (m13 a b).1 (m13 a b).2 (m13 d e).1 (m13 d e).2).2.1 = 0)) then true else false) else false) then false else true)) then true else (bif (bif (decide ((m32 (m13 a b).1 (m13 a b).2 (m13 d e).1 (m13 d e).2 g).2 = 13)) then false else true) then true else (m32 (m13 a b).1 (m13 a b).2 (m13 d e).1 (m13 d e).2 g).1))
 (R (.bool false) [] [])
 (R (.bool true) [] []))
 (cnd (bif (bif (bif (decide ((m31 (m13 a b).1 (m13 a b).2 (m13 d e).1 (m13 d e).2).2.2 = 13)) then false else true) then true else (bif (bif (decide ((m31 (m13 a b).1 (m13 a b).2 (m13 d e).1 (m13 d e).2).1 = 0)) then (bif (decide ((m31 (m13 a b).1 (m13 a b).2 (m13 d e).1 (m13 d e).2).2.1 = 0)) then true else false) else false) then false else true)) then true else (bif (bif (decide ((m14 a b) = 0)) then false else true) then (bif (bif (decide ((m32 (m13 a b).1 (m13 a b).2 (m13 d e).1 (m13 d e).2 g).2 = (m14 a b))) then false else true) then true else (m32 (m13 a b).1 (m13 a b).2 (m13 d e).1 (m13 d e).2 g).1) else false))
 (R (.bool false) [] [])
 (R (.bool true) [] [])))
 (cnd (bif (bif (bif (decide ((m14 a b) = 0)) then false else true) then (bif (bif (decide ((m31 (m13 a b).1 (m13 a b).2 (m13 d e).1 (m13 d e).2).2.2 = (m14 a b))) then false else true) then true else (bif (bif (decide ((m31 (m13 a b).1 (m13 a b).2 (m13 d e).1 (m13 d e).2).1 = 0)) then (bif (decide ((m31 (m13 a b).1 (m13 a b).2 (m13 d e).1 (m13 d e).2).2.1 = 0)) then true else false) else false) then false else true)) else false) then true else (bif (bif (decide ((m14 a b) = 0)) then false else true) then (bif (bif (decide ((m32 (m13 a b).1 (m13 a b).2 (m13 d e).1 (m13 d e).2 g).2 = (m14 a b))) then false else true) then true else (m32 (m13 a b).1 (m13 a b).2 (m13 d e).1 (m13 d e).2 g).1) else false))
 (R (.bool false) [] [])
 (cnd (bif (decide ((m14 a b) = 0)) then false else true)
 (R (.bool true) [] [])
 (cnd (bif (bif (bif (bif (decide ((m31 (m13 a b).1 (m13 a b).2 (m13 d e).1 (m13 d e).2).2.2 = 0)) then false else true) then false else true) then false else true) then true else (n34 a b d e))
 (cnd (bif (bif (bif (decide ((m31 (m13 a b).1 (m13 a b).2 (m13 d e).1 (m13 d e).2).2.2 = 0)) then false else true) then true else (bif (bif (decide ((m31 (m13 a b).1 (m13 a b).2 (m13 d e).1 (m13 d e).2).1 = (m34 a b d e).1)) then (bif (decide ((m31 (m13 a b).1 (m13 a b).2 (m13 d e).1 (m13 d e).2).2.1 = (m34 a b d e).2)) then true else false) else false) then false else true)) then true else (bif (decide ((m14 a b) = 0)) then (bif (bif (decide ((m32 (m13 a b).1 (m13 a b).2 (m13 d e).1 (m13 d e).2 g).2 = 0)) then false else true) then true else (bif (decide ((m32 (m13 a b).1 (m13 a b).2 (m13 d e).1 (m13 d e).2 g).1 = (decide ((m31 (m13 a b).1 (m13 a b).2 (m13 d e).1 (m13 d e).2).2.1 ≤ g)))) then false else true)) else false))
 (R (.bool false) [] [])
 (cnd (n13 d e)
 (cnd (n13 a b)
 (cnd (n31 (m13 d e).1 (m13 d e).2 (m13 a b).1 (m13 a b).2)
 (R (.bool (bif (decide ((m31 (m13 d e).1 (m13 d e).2 (m13 a b).1 (m13 a b).2).2.2 = 0)) then (bif (decide ((m31 (m13 d e).1 (m13 d e).2 (m13 a b).1 (m13 a b).2).1 = (m31 (m13 a b).1 (m13 a b).2 (m13 d e).1 (m13 d e).2).1)) then (bif (decide ((m31 (m13 d e).1 (m13 d e).2 (m13 a b).1 (m13 a b).2).2.1 = (m31 (m13 a b).1 (m13 a b).2 (m13 d e).1 (m13 d e).2).2.1)) then true else false) else false) else false)) [] [])
                      False)
                     False)
                    False))
                  False))))
              False)))
           False)
          False)
         False)
        False)
       False)
      False)
     False)))
  False) := by kernel_rfl
noncomputable def m5 (a : Nat) (b : Dat) (d : Nat) (e : Dat) (g : Int) : Bool :=
  (cond (bif m10 then false else true) false (cond (bif (bif (m11 a b) then false else true) then true else (bif (m11 d e) then false else true)) true (cond (decide ((m14 a b) = 0)) (cond (bif (decide ((m14 d e) = 0)) then (bif (m16 g 0 30000) then false else true) else false) (cond (bif (decide ((m14 d e) = 0)) then (m33 a b d e) else false) (cond (bif (bif (bif (decide ((m31 (m13 a b).1 (m13 a b).2 (m13 d e).1 (m13 d e).2).2.2 = 13)) then false else true) then true else (bif (bif (decide ((m31 (m13 a b).1 (m13 a b).2 (m13 d e).1 (m13 d e).2).1 = 0)) then (bif (decide ((m31 (m13 a b).1 (m13 a b).2 (m13 d e).1 (m13 d e).2).2.1 = 0)) then true else false) else false) then false else true)) then true else (bif (bif (decide ((m32 (m13 a b).1 (m13 a b).2 (m13 d e).1 (m13 d e).2 g).2 = 2)) then false else true) then true else (m32 (m13 a b).1 (m13 a b).2 (m13 d e).1 (m13 d e).2 g).1)) false true) (cond (bif (bif (bif (decide ((m14 d e) = 0)) then false else true) then (bif (bif (decide ((m31 (m13 a b).1 (m13 a b).2 (m13 d e).1 (m13 d e).2).2.2 = (m14 d e))) then false else true) then true else (bif (bif (decide ((m31 (m13 a b).1 (m13 a b).2 (m13 d e).1 (m13 d e).2).1 = 0)) then (bif (decide ((m31 (m13 a b).1 (m13 a b).2 (m13 d e).1 (m13 d e).2).2.1 = 0)) then true else false) else false) then false else true)) else false) then true else (bif (bif (decide ((m32 (m13 a b).1 (m13 a b).2 (m13 d e).1 (m13 d e).2 g).2 = 2)) then false else true) then true else (m32 (m13 a b).1 (m13 a b).2 (m13 d e).1 (m13 d e).2 g).1)) false (cond (bif (decide ((m14 d e) = 0)) then false else true) true (cond (bif (bif (bif (decide ((m31 (m13 a b).1 (m13 a b).2 (m13 d e).1 (m13 d e).2).2.2 = 0)) then false else true) then true else (bif (bif (decide ((m31 (m13 a b).1 (m13 a b).2 (m13 d e).1 (m13 d e).2).1 = (m34 a b d e).1)) then (bif (decide ((m31 (m13 a b).1 (m13 a b).2 (m13 d e).1 (m13 d e).2).2.1 = (m34 a b d e).2)) then true else false) else false) then false else true)) then true else false) false (bif (decide ((m31 (m13 d e).1 (m13 d e).2 (m13 a b).1 (m13 a b).2).2.2 = 0)) then (bif (decide ((m31 (m13 d e).1 (m13 d e).2 (m13 a b).1 (m13 a b).2).1 = (m31 (m13 a b).1 (m13 a b).2 (m13 d e).1 (m13 d e).2).1)) then (bif (decide ((m31 (m13 d e).1 (m13 d e).2 (m13 a b).1 (m13 a b).2).2.1 = (m31 (m13 a b).1 (m13 a b).2 (m13 d e).1 (m13 d e).2).2.1)) then true else false) else false) else false))))) (cond (bif (decide ((m14 d e) = 0)) then (m33 a b d e) else false) (cond (decide ((m14 d e) = 0)) (cond (bif (bif (bif (decide ((m31 (m13 a b).1 (m13 a b).2 (m13 d e).1 (m13 d e).2).2.2 = 13)) then false else true) then true else (bif (bif (decide ((m31 (m13 a b).1 (m13 a b).2 (m13 d e).1 (m13 d e).2).1 = 0)) then (bif (decide ((m31 (m13 a b).1 (m13 a b).2 (m13 d e).1 (m13 d e).2).2.1 = 0)) then true else false) else false) then false else true)) then true else (bif (bif (decide ((m32 (m13 a b).1 (m13 a b).2 (m13 d e).1 (m13 d e).2 g).2 = 13)) then false else true) then true else (m32 (m13 a b).1 (m13 a b).2 (m13 d e).1 (m13 d e).2 g).1)) false true) (cond (bif (bif (bif (decide ((m31 (m13 a b).1 (m13 a b).2 (m13 d e).1 (m13 d e).2).2.2 = 13)) then false else true) then true else (bif (bif (decide ((m31 (m13 a b).1 (m13 a b).2 (m13 d e).1 (m13 d e).2).1 = 0)) then (bif (decide ((m31 (m13 a b).1 (m13 a b).2 (m13 d e).1 (m13 d e).2).2.1 = 0)) then true else false) else false) then false else true)) then true else (bif (bif (decide ((m14 d e) = 0)) then false else true) then (bif (bif (decide ((m32 (m13 a b).1 (m13 a b).2 (m13 d e).1 (m13 d e).2 g).2 = (m14 d e))) then false else true) then true else (m32 (m13 a b).1 (m13 a b).2 (m13 d e).1 (m13 d e).2 g).1) else false)) false true)) (cond (bif (bif (bif (decide ((m14 d e) = 0)) then false else true) then (bif (bif (decide ((m31 (m13 a b).1 (m13 a b).2 (m13 d e).1 (m13 d e).2).2.2 = (m14 d e))) then false else true) then true else (bif (bif (decide ((m31 (m13 a b).1 (m13 a b).2 (m13 d e).1 (m13 d e).2).1 = 0)) then (bif (decide ((m31 (m13 a b).1 (m13 a b).2 (m13 d e).1 (m13 d e).2).2.1 = 0)) then true else false) else false) then false else true)) else false) then true else (bif (bif (decide ((m14 d e) = 0)) then false else true) then (bif (bif (decide ((m32 (m13 a b).1 (m13 a b).2 (m13 d e).1 (m13 d e).2 g).2 = (m14 d e))) then false else true) then true else (m32 (m13 a b).1 (m13 a b).2 (m13 d e).1 (m13 d e).2 g).1) else false)) false (cond (bif (decide ((m14 d e) = 0)) then false else true) true (cond (bif (bif (bif (decide ((m31 (m13 a b).1 (m13 a b).2 (m13 d e).1 (m13 d e).2).2.2 = 0)) then false else true) then true else (bif (bif (decide ((m31 (m13 a b).1 (m13 a b).2 (m13 d e).1 (m13 d e).2).1 = (m34 a b d e).1)) then (bif (decide ((m31 (m13 a b).1 (m13 a b).2 (m13 d e).1 (m13 d e).2).2.1 = (m34 a b d e).2)) then true else false) else false) then false else true)) then true else (bif (decide ((m14 d e) = 0)) then (bif (bif (decide ((m32 (m13 a b).1 (m13 a b).2 (m13 d e).1 (m13 d e).2 g).2 = 0)) then false else true) then true else (bif (decide ((m32 (m13 a b).1 (m13 a b).2 (m13 d e).1 (m13 d e).2 g).1 = (decide ((m31 (m13 a b).1 (m13 a b).2 (m13 d e).1 (m13 d e).2).2.1 ≤ g)))) then false else true)) else false)) false (bif (decide ((m31 (m13 d e).1 (m13 d e).2 (m13 a b).1 (m13 a b).2).2.2 = 0)) then (bif (decide ((m31 (m13 d e).1 (m13 d e).2 (m13 a b).1 (m13 a b).2).1 = (m31 (m13 a b).1 (m13 a b).2 (m13 d e).1 (m13 d e).2).1)) then (bif (decide ((m31 (m13 d e).1 (m13 d e).2 (m13 a b).1 (m13 a b).2).2.1 = (m31 (m13 a b).1 (m13 a b).2 (m13 d e).1 (m13 d e).2).2.1)) then true else false) else false) else false)))))) (cond (bif (decide ((m14 a b) = 0)) then (bif (m16 g 0 30000) then false else true) else false) (cond (bif (decide ((m14 a b) = 0)) then (m33 a b d e) else false) (cond (bif (bif (bif (decide ((m31 (m13 a b).1 (m13 a b).2 (m13 d e).1 (m13 d e).2).2.2 = 13)) then false else true) then true else (bif (bif (decide ((m31 (m13 a b).1 (m13 a b).2 (m13 d e).1 (m13 d e).2).1 = 0)) then (bif (decide ((m31 (m13 a b).1 (m13 a b).2 (m13 d e).1 (m13 d e).2).2.1 = 0)) then true else false) else false) then false else true)) then true else (bif (bif (decide ((m32 (m13 a b).1 (m13 a b).2 (m13 d e).1 (m13 d e).2 g).2 = 2)) then false else true) then true else (m32 (m13 a b).1 (m13 a b).2 (m13 d e).1 (m13 d e).2 g).1)) false true) (cond (bif (bif (bif (decide ((m14 a b) = 0)) then false else true) then (bif (bif (decide ((m31 (m13 a b).1 (m13 a b).2 (m13 d e).1 (m13 d e).2).2.2 = (m14 a b))) then false else true) then true else (bif (bif (decide ((m31 (m13 a b).1 (m13 a b).2 (m13 d e).1 (m13 d e).2).1 = 0)) then (bif (decide ((m31 (m13 a b).1 (m13 a b).2 (m13 d e).1 (m13 d e).2).2.1 = 0)) then true else false) else false) then false else true)) else false) then true else (bif (bif (decide ((m32 (m13 a b).1 (m13 a b).2 (m13 d e).1 (m13 d e).2 g).2 = 2)) then false else true) then true else (m32 (m13 a b).1 (m13 a b).2 (m13 d e).1 (m13 d e).2 g).1)) false (cond (bif (decide ((m14 a b) = 0)) then false else true) true (cond (bif (bif (bif (decide ((m31 (m13 a b).1 (m13 a b).2 (m13 d e).1 (m13 d e).2).2.2 = 0)) then false else true) then true else (bif (bif (decide ((m31 (m13 a b).1 (m13 a b).2 (m13 d e).1 (m13 d e).2).1 = (m34 a b d e).1)) then (bif (decide ((m31 (m13 a b).1 (m13 a b).2 (m13 d e).1 (m13 d e).2).2.1 = (m34 a b d e).2)) then true else false) else false) then false else true)) then true else false) false (bif (decide ((m31 (m13 d e).1 (m13 d e).2 (m13 a b).1 (m13 a b).2).2.2 = 0)) then (bif (decide ((m31 (m13 d e).1 (m13 d e).2 (m13 a b).1 (m13 a b).2).1 = (m31 (m13 a b).1 (m13 a b).2 (m13 d e).1 (m13 d e).2).1)) then (bif (decide ((m31 (m13 d e).1 (m13 d e).2 (m13 a b).1 (m13 a b).2).2.1 = (m31 (m13 a b).1 (m13 a b).2 (m13 d e).1 (m13 d e).2).2.1)) then true else false) else false) else false))))) (cond (bif (decide ((m14 a b) = 0)) then (m33 a b d e) else false) (cond (decide ((m14 a b) = 0)) (cond (bif (bif (bif (decide ((m31 (m13 a b).1 (m13 a b).2 (m13 d e).1 (m13 d e).2).2.2 = 13)) then false else true) then true else (bif (bif (decide ((m31 (m13 a b).1 (m13 a b).2 (m13 d e).1 (m13 d e).2).1 = 0)) then (bif (decide ((m31 (m13 a b).1 (m13 a b).2 (m13 d e).1 (m13 d e).2).2.1 = 0)) then true else false) else false) then false else true)) then true else (bif (bif (decide ((m32 (m13 a b).1 (m13 a b).2 (m13 d e).1 (m13 d e).2 g).2 = 13)) then false else true) then true else (m32 (m13 a b).1 (m13 a b).2 (m13 d e).1 (m13 d e).2 g).1)) false true) (cond (bif (bif (bif (decide ((m31 (m13 a b).1 (m13 a b).2 (m13 d e).1 (m13 d e).2).2.2 = 13)) then false else true) then true else (bif (bif (decide ((m31 (m13 a b).1 (m13 a b).2 (m13 d e).1 (m13 d e).2).1 = 0)) then (bif (decide ((m31 (m13 a b).1 (m13 a b).2 (m13 d e).1 (m13 d e).2).2.1 = 0)) then true else false) else false) then false else true)) then true else (bif (bif (decide ((m14 a b) = 0)) then false else true) then (bif (bif (decide ((m32 (m13 a b).1 (m13 a b).2 (m13 d e).1 (m13 d e).2 g).2 = (m14 a b))) then false else true) then true else (m32 (m13 a b).1 (m13 a b).2 (m13 d e).1 (m13 d e).2 g).1) else false)) false true)) (cond (bif (bif (bif (decide ((m14 a b) = 0)) then false else true) then (bif (bif (decide ((m31 (m13 a b).1 (m13 a b).2 (m13 d e).1 (m13 d e).2).2.2 = (m14 a b))) then false else true) then true else (bif (bif (decide ((m31 (m13 a b).1 (m13 a b).2 (m13 d e).1 (m13 d e).2).1 = 0)) then (bif (decide ((m31 (m13 a b).1 (m13 a b).2 (m13 d e).1 (m13 d e).2).2.1 = 0)) then true else false) else false) then false else true)) else false) then true else (bif (bif (decide ((m14 a b) = 0)) then false else true) then (bif (bif (decide ((m32 (m13 a b).1 (m13 a b).2 (m13 d e).1 (m13 d e).2 g).2 = (m14 a b))) then false else true) then true else (m32 (m13 a b).1 (m13 a b).2 (m13 d e).1 (m13 d e).2 g).1) else false)) false (cond (bif (decide ((m14 a b) = 0)) then false else true) true (cond (bif (bif (bif (decide ((m31 (m13 a b).1 (m13 a b).2 (m13 d e).1 (m13 d e).2).2.2 = 0)) then false else true) then true else (bif (bif (decide ((m31 (m13 a b).1 (m13 a b).2 (m13 d e).1 (m13 d e).2).1 = (m34 a b d e).1)) then (bif (decide ((m31 (m13 a b).1 (m13 a b).2 (m13 d e).1 (m13 d e).2).2.1 = (m34 a b d e).2)) then true else false) else false) then false else true)) then true else (bif (decide ((m14 a b) = 0)) then (bif (bif (decide ((m32 (m13 a b).1 (m13 a b).2 (m13 d e).1 (m13 d e).2 g).2 = 0)) then false else true) then true else (bif (decide ((m32 (m13 a b).1 (m13 a b).2 (m13 d e).1 (m13 d e).2 g).1 = (decide ((m31 (m13 a b).1 (m13 a b).2 (m13 d e).1 (m13 d e).2).2.1 ≤ g)))) then false else true)) else false)) false (bif (decide ((m31 (m13 d e).1 (m13 d e).2 (m13 a b).1 (m13 a b).2).2.2 = 0)) then (bif (decide ((m31 (m13 d e).1 (m13 d e).2 (m13 a b).1 (m13 a b).2).1 = (m31 (m13 a b).1 (m13 a b).2 (m13 d e).1 (m13 d e).2).1)) then (bif (decide ((m31 (m13 d e).1 (m13 d e).2 (m13 a b).1 (m13 a b).2).2.1 = (m31 (m13 a b).1 (m13 a b).2 (m13 d e).1 (m13 d e).2).2.1)) then true else false) else false) else false)))))))))
noncomputable def n5 (a : Nat) (b : Dat) (d : Nat) (e : Dat) (g : Int) : Bool :=
  ((n10) && (cond (bif m10 then false else true) true (cond (bif (bif (m11 a b) then false else true) then true else (bif (m11 d e) then false else true)) true ((n13 a b) && ((n13 d e) && ((n31 (m13 a b).1 (m13 a b).2 (m13 d e).1 (m13 d e).2) && ((n13 a b) && ((n13 d e) && ((n32 (m13 a b).1 (m13 a b).2 (m13 d e).1 (m13 d e).2 g) && ((n14 a b) && (cond (decide ((m14 a b) = 0)) ((n14 d e) && (cond (bif (decide ((m14 d e) = 0)) then (bif (m16 g 0 30000) then false else true) else false) ((bif (bif (decide ((m14 d e) = 0)) then false else true) then true else (n33 a b d e)) && (cond (bif (decide ((m14 d e) = 0)) then (m33 a b d e) else false) true (cond (bif (bif (bif (decide ((m14 d e) = 0)) then false else true) then (bif (bif (decide ((m31 (m13 a b).1 (m13 a b).2 (m13 d e).1 (m13 d e).2).2.2 = (m14 d e))) then false else true) then true else (bif (bif (decide ((m31 (m13 a b).1 (m13 a b).2 (m13 d e).1 (m13 d e).2).1 = 0)) then (bif (decide ((m31 (m13 a b).1 (m13 a b).2 (m13 d e).1 (m13 d e).2).2.1 = 0)) then true else false) else false) then false else true)) else false) then true else (bif (bif (decide ((m32 (m13 a b).1 (m13 a b).2 (m13 d e).1 (m13 d e).2 g).2 = 2)) then false else true) then true else (m32 (m13 a b).1 (m13 a b).2 (m13 d e).1 (m13 d e).2 g).1)) true (cond (bif (decide ((m14 d e) = 0)) then false else true) true ((bif (bif (bif (bif (decide ((m31 (m13 a b).1 (m13 a b).2 (m13 d e).1 (m13 d e).2).2.2 = 0)) then false else true) then false else true) then false else true) then true else (n34 a b d e)) && (cond (bif (bif (bif (decide ((m31 (m13 a b).1 (m13 a b).2 (m13 d e).1 (m13 d e).2).2.2 = 0)) then false else true) then true else (bif (bif (decide ((m31 (m13 a b).1 (m13 a b).2 (m13 d e).1 (m13 d e).2).1 = (m34 a b d e).1)) then (bif (decide ((m31 (m13 a b).1 (m13 a b).2 (m13 d e).1 (m13 d e).2).2.1 = (m34 a b d e).2)) then true else false) else false) then false else true)) then true else false) true ((n13 d e) && ((n13 a b) && ((n31 (m13 d e).1 (m13 d e).2 (m13 a b).1 (m13 a b).2) && true))))))))) ((bif (bif (decide ((m14 d e) = 0)) then false else true) then true else (n33 a b d e)) && (cond (bif (decide ((m14 d e) = 0)) then (m33 a b d e) else false) true (cond (bif (bif (bif (decide ((m14 d e) = 0)) then false else true) then (bif (bif (decide ((m31 (m13 a b).1 (m13 a b).2 (m13 d e).1 (m13 d e).2).2.2 = (m14 d e))) then false else true) then true else (bif (bif (decide ((m31 (m13 a b).1 (m13 a b).2 (m13 d e).1 (m13 d e).2).1 = 0)) then (bif (decide ((m31 (m13 a b).1 (m13 a b).2 (m13 d e).1 (m13 d e).2).2.1 = 0)) then true else false) else false) then false else true)) else false) then true else (bif (bif (decide ((m14 d e) = 0)) then false else true) then (bif (bif (decide ((m32 (m13 a b).1 (m13 a b).2 (m13 d e).1 (m13 d e).2 g).2 = (m14 d e))) then false else true) then true else (m32 (m13 a b).1 (m13 a b).2 (m13 d e).1 (m13 d e).2 g).1) else false)) true (cond (bif (decide ((m14 d e) = 0)) then false else true) true ((bif (bif (bif (bif (decide ((m31 (m13 a b).1 (m13 a b).2 (m13 d e).1 (m13 d e).2).2.2 = 0)) then false else true) then false else true) then false else true) then true else (n34 a b d e)) && (cond (bif (bif (bif (decide ((m31 (m13 a b).1 (m13 a b).2 (m13 d e).1 (m13 d e).2).2.2 = 0)) then false else true) then true else (bif (bif (decide ((m31 (m13 a b).1 (m13 a b).2 (m13 d e).1 (m13 d e).2).1 = (m34 a b d e).1)) then (bif (decide ((m31 (m13 a b).1 (m13 a b).2 (m13 d e).1 (m13 d e).2).2.1 = (m34 a b d e).2)) then true else false) else false) then false else true)) then true else (bif (decide ((m14 d e) = 0)) then (bif (bif (decide ((m32 (m13 a b).1 (m13 a b).2 (m13 d e).1 (m13 d e).2 g).2 = 0)) then false else true) then true else (bif (decide ((m32 (m13 a b).1 (m13 a b).2 (m13 d e).1 (m13 d e).2 g).1 = (decide ((m31 (m13 a b).1 (m13 a b).2 (m13 d e).1 (m13 d e).2).2.1 ≤ g)))) then false else true)) else false)) true ((n13 d e) && ((n13 a b) && ((n31 (m13 d e).1 (m13 d e).2 (m13 a b).1 (m13 a b).2) && true))))))))))) (cond (bif (decide ((m14 a b) = 0)) then (bif (m16 g 0 30000) then false else true) else false) ((bif (bif (decide ((m14 a b) = 0)) then false else true) then true else (n33 a b d e)) && (cond (bif (decide ((m14 a b) = 0)) then (m33 a b d e) else false) true (cond (bif (bif (bif (decide ((m14 a b) = 0)) then false else true) then (bif (bif (decide ((m31 (m13 a b).1 (m13 a b).2 (m13 d e).1 (m13 d e).2).2.2 = (m14 a b))) then false else true) then true else (bif (bif (decide ((m31 (m13 a b).1 (m13 a b).2 (m13 d e).1 (m13 d e).2).1 = 0)) then (bif (decide ((m31 (m13 a b).1 (m13 a b).2 (m13 d e).1 (m13 d e).2).2.1 = 0)) then true else false) else false) then false else true)) else false) then true else (bif (bif (decide ((m32 (m13 a b).1 (m13 a b).2 (m13 d e).1 (m13 d e).2 g).2 = 2)) then false else true) then true else (m32 (m13 a b).1 (m13 a b).2 (m13 d e).1 (m13 d e).2 g).1)) true (cond (bif (decide ((m14 a b) = 0)) then false else true) true ((bif (bif (bif (bif (decide ((m31 (m13 a b).1 (m13 a b).2 (m13 d e).1 (m13 d e).2).2.2 = 0)) then false else true) then false else true) then false else true) then true else (n34 a b d e)) && (cond (bif (bif (bif (decide ((m31 (m13 a b).1 (m13 a b).2 (m13 d e).1 (m13 d e).2).2.2 = 0)) then false else true) then true else (bif (bif (decide ((m31 (m13 a b).1 (m13 a b).2 (m13 d e).1 (m13 d e).2).1 = (m34 a b d e).1)) then (bif (decide ((m31 (m13 a b).1 (m13 a b).2 (m13 d e).1 (m13 d e).2).2.1 = (m34 a b d e).2)) then true else false) else false) then false else true)) then true else false) true ((n13 d e) && ((n13 a b) && ((n31 (m13 d e).1 (m13 d e).2 (m13 a b).1 (m13 a b).2) && true))))))))) ((bif (bif (decide ((m14 a b) = 0)) then false else true) then true else (n33 a b d e)) && (cond (bif (decide ((m14 a b) = 0)) then (m33 a b d e) else false) true (cond (bif (bif (bif (decide ((m14 a b) = 0)) then false else true) then (bif (bif (decide ((m31 (m13 a b).1 (m13 a b).2 (m13 d e).1 (m13 d e).2).2.2 = (m14 a b))) then false else true) then true else (bif (bif (decide ((m31 (m13 a b).1 (m13 a b).2 (m13 d e).1 (m13 d e).2).1 = 0)) then (bif (decide ((m31 (m13 a b).1 (m13 a b).2 (m13 d e).1 (m13 d e).2).2.1 = 0)) then true else false) else false) then false else true)) else false) then true else (bif (bif (decide ((m14 a b) = 0)) then false else true) then (bif (bif (decide ((m32 (m13 a b).1 (m13 a b).2 (m13 d e).1 (m13 d e).2 g).2 = (m14 a b))) then false else true) then true else (m32 (m13 a b).1 (m13 a b).2 (m13 d e).1 (m13 d e).2 g).1) else false)) true (cond (bif (decide ((m14 a b) = 0)) then false else true) true ((bif (bif (bif (bif (decide ((m31 (m13 a b).1 (m13 a b).2 (m13 d e).1 (m13 d e).2).2.2 = 0)) then false else true) then false else true) then false else true) then true else (n34 a b d e)) && (cond (bif (bif (bif (decide ((m31 (m13 a b).1 (m13 a b).2 (m13 d e).1 (m13 d e).2).2.2 = 0)) then false else true) then true else (bif (bif (decide ((m31 (m13 a b).1 (m13 a b).2 (m13 d e).1 (m13 d e).2).1 = (m34 a b d e).1)) then (bif (decide ((m31 (m13 a b).1 (m13 a b).2 (m13 d e).1 (m13 d e).2).2.1 = (m34 a b d e).2)) then true else false) else false) then false else true)) then true else (bif (decide ((m14 a b) = 0)) then (bif (bif (decide ((m32 (m13 a b).1 (m13 a b).2 (m13 d e).1 (m13 d e).2 g).2 = 0)) then false else true) then true else (bif (decide ((m32 (m13 a b).1 (m13 a b).2 (m13 d e).1 (m13 d e).2 g).1 = (decide ((m31 (m13 a b).1 (m13 a b).2 (m13 d e).1 (m13 d e).2).2.1 ≤ g)))) then false else true)) else false)) true ((n13 d e) && ((n13 a b) && ((n31 (m13 d e).1 (m13 d e).2 (m13 a b).1 (m13 a b).2) && true)))))))))))))))))))))
noncomputable def q5 (r : Bool) : SV × List Blk × List Blk := (.bool r, [], [])
noncomputable def g5 : GF := fun vs bs => match vs, bs with
  | [.ro [W Z, W Z] a b, .ro [W Z, W Z] d e, V Z g], [] => some (rs 0 (q5 (m5 a b d e g)) [n5 a b d e g])
  | _, _ => none
noncomputable def c5 : Ctr := genC [.ro [W Z, W Z], .ro [W Z, W Z], .k] g5
theorem p5 (a : Nat) (b : Dat) (d : Nat) (e : Dat) (g : Int) (hn : n5 a b d e g = true) : exec Tryd.prog [(10, c10), (11, c11), (13, c13), (14, c14), (16, c16), (31, c31), (32, c32), (33, c33), (34, c34)] (fun _ => none) 8 (Tryd.f5.body.getD .skip) (initS Tryd.f5.ntmps [.ro [W Z, W Z] a b, .ro [W Z, W Z] d e, V Z g] 0 (memOf [])) (retK Tryd.prog Tryd.f5.results.toList (outK 0 (List.range 0) [] (.k) fun v U N => (v, U, N) = (q5 (m5 a b d e g)))) :=
  propOf (x5 a b d e g _) (cn (al hn) (co (fun h0 => lf (cT h0 rfl) rfl) (fun h0 => co (fun h1 => lf (cF h0 (cT h1 rfl)) rfl) (fun h1 => cn (al (cf h1 (cf h0 (ar hn)))) (cn (al (ar (cf h1 (cf h0 (ar hn))))) (cn (al (ar (ar (cf h1 (cf h0 (ar hn)))))) (cn (al (ar (ar (ar (cf h1 (cf h0 (ar hn))))))) (cn (al (ar (ar (ar (ar (cf h1 (cf h0 (ar hn)))))))) (cn (al (ar (ar (ar (ar (ar (cf h1 (cf h0 (ar hn))))))))) (cn (al (ar (ar (ar (ar (ar (ar (cf h1 (cf h0 (ar hn)))))))))) (co (fun h2 => cn (al (ct h2 (ar (ar (ar (ar (ar (ar (ar (cf h1 (cf h0 (ar hn)))))))))))) (co (fun h3 => cn (al (ct h3 (ar (ct h2 (ar (ar (ar (ar (ar (ar (ar (cf h1 (cf h0 (ar hn)))))))))))))) (co (fun h4 => co (fun h5 => lf (cF h0 (cF h1 (cT h2 (cT h3 (cT h4 (cT h5 rfl)))))) rfl) (fun h5 => lf (cF h0 (cF h1 (cT h2 (cT h3 (cT h4 (cF h5 rfl)))))) rfl)) (fun h4 => co (fun h5 => lf (cF h0 (cF h1 (cT h2 (cT h3 (cF h4 (cT h5 rfl)))))) rfl) (fun h5 => co (fun h6 => lf (cF h0 (cF h1 (cT h2 (cT h3 (cF h4 (cF h5 (cT h6 rfl))))))) rfl) (fun h6 => cn (al (cf h6 (cf h5 (cf h4 (ar (ct h3 (ar (ct h2 (ar (ar (ar (ar (ar (ar (ar (cf h1 (cf h0 (ar hn)))))))))))))))))) (co (fun h7 => lf (cF h0 (cF h1 (cT h2 (cT h3 (cF h4 (cF h5 (cF h6 (cT h7 rfl)))))))) rfl) (fun h7 => cn (al (cf h7 (ar (cf h6 (cf h5 (cf h4 (ar (ct h3 (ar (ct h2 (ar (ar (ar (ar (ar (ar (ar (cf h1 (cf h0 (ar hn)))))))))))))))))))) (cn (al (ar (cf h7 (ar (cf h6 (cf h5 (cf h4 (ar (ct h3 (ar (ct h2 (ar (ar (ar (ar (ar (ar (ar (cf h1 (cf h0 (ar hn))))))))))))))))))))) (cn (al (ar (ar (cf h7 (ar (cf h6 (cf h5 (cf h4 (ar (ct h3 (ar (ct h2 (ar (ar (ar (ar (ar (ar (ar (cf h1 (cf h0 (ar hn)))))))))))))))))))))) (lf (cF h0 (cF h1 (cT h2 (cT h3 (cF h4 (cF h5 (cF h6 (cF h7 rfl)))))))) rfl)))))))))) (fun h3 => cn (al (cf h3 (ar (ct h2 (ar (ar (ar (ar (ar (ar (ar (cf h1 (cf h0 (ar hn)))))))))))))) (co (fun h4 => co (fun h5 => co (fun h6 => lf (cF h0 (cF h1 (cT h2 (cF h3 (cT h4 (cT h5 (cT h6 rfl))))))) rfl) (fun h6 => lf (cF h0 (cF h1 (cT h2 (cF h3 (cT h4 (cT h5 (cF h6 rfl))))))) rfl)) (fun h5 => co (fun h6 => lf (cF h0 (cF h1 (cT h2 (cF h3 (cT h4 (cF h5 (cT h6 rfl))))))) rfl) (fun h6 => lf (cF h0 (cF h1 (cT h2 (cF h3 (cT h4 (cF h5 (cF h6 rfl))))))) rfl))) (fun h4 => co (fun h5 => lf (cF h0 (cF h1 (cT h2 (cF h3 (cF h4 (cT h5 rfl)))))) rfl) (fun h5 => co (fun h6 => lf (cF h0 (cF h1 (cT h2 (cF h3 (cF h4 (cF h5 (cT h6 rfl))))))) rfl) (fun h6 => cn (al (cf h6 (cf h5 (cf h4 (ar (cf h3 (ar (ct h2 (ar (ar (ar (ar (ar (ar (ar (cf h1 (cf h0 (ar hn)))))))))))))))))) (co (fun h7 => lf (cF h0 (cF h1 (cT h2 (cF h3 (cF h4 (cF h5 (cF h6 (cT h7 rfl)))))))) rfl) (fun h7 => cn (al (cf h7 (ar (cf h6 (cf h5 (cf h4 (ar (cf h3 (ar (ct h2 (ar (ar (ar (ar (ar (ar (ar (cf h1 (cf h0 (ar hn)))))))))))))))))))) (cn (al (ar (cf h7 (ar (cf h6 (cf h5 (cf h4 (ar (cf h3 (ar (ct h2 (ar (ar (ar (ar (ar (ar (ar (cf h1 (cf h0 (ar hn))))))))))))))))))))) (cn (al (ar (ar (cf h7 (ar (cf h6 (cf h5 (cf h4 (ar (cf h3 (ar (ct h2 (ar (ar (ar (ar (ar (ar (ar (cf h1 (cf h0 (ar hn)))))))))))))))))))))) (lf (cF h0 (cF h1 (cT h2 (cF h3 (cF h4 (cF h5 (cF h6 (cF h7 rfl)))))))) rfl)))))))))))) (fun h2 => co (fun h3 => cn (al (ct h3 (cf h2 (ar (ar (ar (ar (ar (ar (ar (cf h1 (cf h0 (ar hn))))))))))))) (co (fun h4 => co (fun h5 => lf (cF h0 (cF h1 (cF h2 (cT h3 (cT h4 (cT h5 rfl)))))) rfl) (fun h5 => lf (cF h0 (cF h1 (cF h2 (cT h3 (cT h4 (cF h5 rfl)))))) rfl)) (fun h4 => co (fun h5 => lf (cF h0 (cF h1 (cF h2 (cT h3 (cF h4 (cT h5 rfl)))))) rfl) (fun h5 => co (fun h6 => lf (cF h0 (cF h1 (cF h2 (cT h3 (cF h4 (cF h5 (cT h6 rfl))))))) rfl) (fun h6 => cn (al (cf h6 (cf h5 (cf h4 (ar (ct h3 (cf h2 (ar (ar (ar (ar (ar (ar (ar (cf h1 (cf h0 (ar hn))))))))))))))))) (co (fun h7 => lf (cF h0 (cF h1 (cF h2 (cT h3 (cF h4 (cF h5 (cF h6 (cT h7 rfl)))))))) rfl) (fun h7 => cn (al (cf h7 (ar (cf h6 (cf h5 (cf h4 (ar (ct h3 (cf h2 (ar (ar (ar (ar (ar (ar (ar (cf h1 (cf h0 (ar hn))))))))))))))))))) (cn (al (ar (cf h7 (ar (cf h6 (cf h5 (cf h4 (ar (ct h3 (cf h2 (ar (ar (ar (ar (ar (ar (ar (cf h1 (cf h0 (ar hn)))))))))))))))))))) (cn (al (ar (ar (cf h7 (ar (cf h6 (cf h5 (cf h4 (ar (ct h3 (cf h2 (ar (ar (ar (ar (ar (ar (ar (cf h1 (cf h0 (ar hn))))))))))))))))))))) (lf (cF h0 (cF h1 (cF h2 (cT h3 (cF h4 (cF h5 (cF h6 (cF h7 rfl)))))))) rfl)))))))))) (fun h3 => cn (al (cf h3 (cf h2 (ar (ar (ar (ar (ar (ar (ar (cf h1 (cf h0 (ar hn))))))))))))) (co (fun h4 => co (fun h5 => co (fun h6 => lf (cF h0 (cF h1 (cF h2 (cF h3 (cT h4 (cT h5 (cT h6 rfl))))))) rfl) (fun h6 => lf (cF h0 (cF h1 (cF h2 (cF h3 (cT h4 (cT h5 (cF h6 rfl))))))) rfl)) (fun h5 => co (fun h6 => lf (cF h0 (cF h1 (cF h2 (cF h3 (cT h4 (cF h5 (cT h6 rfl))))))) rfl) (fun h6 => lf (cF h0 (cF h1 (cF h2 (cF h3 (cT h4 (cF h5 (cF h6 rfl))))))) rfl))) (fun h4 => co (fun h5 => lf (cF h0 (cF h1 (cF h2 (cF h3 (cF h4 (cT h5 rfl)))))) rfl) (fun h5 => co (fun h6 => lf (cF h0 (cF h1 (cF h2 (cF h3 (cF h4 (cF h5 (cT h6 rfl))))))) rfl) (fun h6 => cn (al (cf h6 (cf h5 (cf h4 (ar (cf h3 (cf h2 (ar (ar (ar (ar (ar (ar (ar (cf h1 (cf h0 (ar hn))))))))))))))))) (co (fun h7 => lf (cF h0 (cF h1 (cF h2 (cF h3 (cF h4 (cF h5 (cF h6 (cT h7 rfl)))))))) rfl) (fun h7 => cn (al (cf h7 (ar (cf h6 (cf h5 (cf h4 (ar (cf h3 (cf h2 (ar (ar (ar (ar (ar (ar (ar (cf h1 (cf h0 (ar hn))))))))))))))))))) (cn (al (ar (cf h7 (ar (cf h6 (cf h5 (cf h4 (ar (cf h3 (cf h2 (ar (ar (ar (ar (ar (ar (ar (cf h1 (cf h0 (ar hn)))))))))))))))))))) (cn (al (ar (ar (cf h7 (ar (cf h6 (cf h5 (cf h4 (ar (cf h3 (cf h2 (ar (ar (ar (ar (ar (ar (ar (cf h1 (cf h0 (ar hn))))))))))))))))))))) (lf (cF h0 (cF h1 (cF h2 (cF h3 (cF h4 (cF h5 (cF h6 (cF h7 rfl)))))))) rfl))))))))))))))))))))))
theorem k5 : CtrOk Tryd.prog c5 5 := cx (tc k10 (tc k11 (tc k13 (tc k14 (tc k16 (tc k31 (tc k32 (tc k33 (tc k34 tn))))))))) mix_ok 8 (fn := Tryd.f5) (c := (Tryd.f5.body.getD .skip)) (grs := []) (rh := .k) Tryd.func5 rfl (by kernel_rfl) noLam fun vs bs q h hn => by
  unfold g5 at h
  split at h <;> cases h
  exact ⟨_, rfl, p5 _ _ _ _ _ (hn _ (List.mem_singleton.2 rfl))⟩
end Go.Proofs.YtchhhoamnagbfaaDoor
