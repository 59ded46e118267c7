/-
  Contracts of functions: models, equations by the kernel, contracts. Conditions: none.
-/
import Derived.Test.YtlaogoojkfjgoaaSyY
import Derived.Test.YtlaogoojkfjgoaaBase
import Derived.Test.YtlaogoojkfjgoaaS1
import Derived.Test.YtlaogoojkfjgoaaS2
import Derived.Test.YtlaogoojkfjgoaaS3
import Derived.Test.YtlaogoojkfjgoaaS4
import Derived.KernelRfl
namespace Go.Proofs.Ytlaogoojkfjgoaa
open Go Go.Sy
set_option linter.unusedVariables false
set_option maxRecDepth 100000
set_option maxHeartbeats 2000000
attribute [local irreducible] Go.IntKind.wrap Int.tdiv Int.tmod Int.fdiv
/-! ### shotline/shotlinelaw08.SiteNoShorter -/
/-! #### loop 0 -/
noncomputable def l6_0 (t1_0 : Nat) (t1_1 : Dat) (b0_0 : Nat) (b0_1 : Dat) (b0_2 : Nat) (b0_3 : Dat) : Nat → Int → Int → Option (Bool × (Bool × Int) × (Int))
  | 0, _, _ => none
  | f + 1, t5, t6 => (cond ((decide (t6 < ((↑t1_0 : Int))))) (cond ((decide (0 ≤ t6 ∧ t6 < (↑t1_0 : Int)))) (cond ((bif (m29 (t1_1.ii t6.toNat 0) 0 (IntKind.i64.wrap (((↑b0_0 : Int)) - 1))) then false else true)) (some (true, (true, t5), default)) (cond ((decide ((0 : Int) < t6))) (cond ((decide (0 ≤ IntKind.i64.wrap (t6 - 1) ∧ IntKind.i64.wrap (t6 - 1) < (↑t1_0 : Int)))) (cond ((decide ((0 : Int) ≤ t1_1.ii (IntKind.i64.wrap (t6 - (1 : Int))).toNat (0 : Nat) ∧ t1_1.ii (IntKind.i64.wrap (t6 - (1 : Int))).toNat (0 : Nat) < (↑b0_2 : Int)))) (cond ((decide (0 ≤ t6 ∧ t6 < (↑t1_0 : Int)))) (cond ((decide ((0 : Int) ≤ t1_1.ii t6.toNat (0 : Nat) ∧ t1_1.ii t6.toNat (0 : Nat) < (↑(b0_3.sn (t1_1.ii (IntKind.i64.wrap (t6 - (1 : Int))).toNat (0 : Nat)).toNat (0 : Nat)) : Int)))) (cond ((decide (((b0_3.sub ((t1_1.ii ((IntKind.i64.wrap (t6 - 1)).toNat) 0).toNat) 0).ii ((t1_1.ii t6.toNat 0).toNat) 0) < 0))) (some (true, (true, t5), default)) (l6_0 t1_0 t1_1 b0_0 b0_1 b0_2 b0_3 f (IntKind.i64.wrap (t5 + ((b0_3.sub ((t1_1.ii ((IntKind.i64.wrap (t6 - 1)).toNat) 0).toNat) 0).ii ((t1_1.ii t6.toNat 0).toNat) 0))) (IntKind.i64.wrap (t6 + 1)))) none) none) none) none) (l6_0 t1_0 t1_1 b0_0 b0_1 b0_2 b0_3 f t5 (IntKind.i64.wrap (t6 + 1))))) none) (some (false, default, t5)))
noncomputable abbrev o6_0 (t1_0 : Nat) (t1_1 : Dat) (b0_0 : Nat) (b0_1 : Dat) (b0_2 : Nat) (b0_3 : Dat) (t5 : Int) (t6 : Int) : Option (Bool × (Bool × Int) × (Int)) := l6_0 t1_0 t1_1 b0_0 b0_1 b0_2 b0_3 (t1_0 + t5.toNat + t6.toNat + b0_0 + b0_2 + 8) t5 t6
noncomputable def e6_0 (t1_0 : Nat) (t1_1 : Dat) (b0_0 : Nat) (b0_1 : Dat) (b0_2 : Nat) (b0_3 : Dat) (r : Bool × (Bool × Int) × (Int)) (K : XR) : Prop := cnd r.1 (K (XE.ret) [.ro [.int .i64] t1_0 t1_1, .ptr 0 0, .bool r.2.1.1, .int .i64 r.2.1.2] [.cells 43 [.ro [.str] b0_0 b0_1, .ro [.sl [.int .i64]] b0_2 b0_3]]) (K (XE.exit 0) [.ro [.int .i64] t1_0 t1_1, .ptr 0 0, .any, .int .i64 r.2.2] [.cells 43 [.ro [.str] b0_0 b0_1, .ro [.sl [.int .i64]] b0_2 b0_3]])
noncomputable def g6_0 : LSum := fun s k => match czv 0 92 [1, 2, 5, 6] 1 [] s with
  | some ([.ro [.int .i64] t1_0 t1_1, .ptr 0 0, .int .i64 t5, .int .i64 t6], [.cells 43 [.ro [.str] b0_0 b0_1, .ro [.sl [.int .i64]] b0_2 b0_3]]) => needs [(o6_0 t1_0 t1_1 b0_0 b0_1 b0_2 b0_3 t5 t6).isSome] (e6_0 t1_0 t1_1 b0_0 b0_1 b0_2 b0_3 ((o6_0 t1_0 t1_1 b0_0 b0_1 b0_2 b0_3 t5 t6).getD default) fun e vs bs => inBlk 0 k e (mkSt 0 92 [1, 2, 4, 5] vs 1 bs))
  | _ => False
theorem y6_0 (t1_0 : Nat) (t1_1 : Dat) (t5 : Int) (t6 : Int) (b0_0 : Nat) (b0_1 : Dat) (b0_2 : Nat) (b0_3 : Dat) (R : XR) : exec Try.prog [(17, c17), (24, c24), (25, c25), (26, c26), (27, c27), (29, c29)] (fun _ => none) 8 (unloop (bodyAt (Try.f6.body.getD .skip) 0)) (mkSt 0 92 [1, 2, 5, 6] [.ro [.int .i64] t1_0 t1_1, .ptr 0 0, .int .i64 t5, .int .i64 t6] 1 [.cells 43 [.ro [.str] b0_0 b0_1, .ro [.sl [.int .i64]] b0_2 b0_3]]) (canonK 0 92 [1, 2, 5, 6] [1, 2, 4, 5] 1 [] R) =
  (cnd ((decide (t6 < ((↑t1_0 : Int)))))
  (cnd ((decide (0 ≤ t6 ∧ t6 < (↑t1_0 : Int))))
   (cnd ((bif (m29 (t1_1.ii t6.toNat 0) 0 (IntKind.i64.wrap (((↑b0_0 : Int)) - 1))) then false else true))
    (R (XE.ret) [.ro [.int .i64] t1_0 t1_1, .ptr 0 0, .bool true, .int .i64 t5] [.cells 43 [.ro [.str] b0_0 b0_1, .ro [.sl [.int .i64]] b0_2 b0_3]])
    (cnd ((decide ((0 : Int) < t6)))
     (cnd ((decide (0 ≤ IntKind.i64.wrap (t6 - 1) ∧ IntKind.i64.wrap (t6 - 1) < (↑t1_0 : Int))))
      (cnd ((decide ((0 : Int) ≤ t1_1.ii (IntKind.i64.wrap (t6 - (1 : Int))).toNat (0 : Nat) ∧ t1_1.ii (IntKind.i64.wrap (t6 - (1 : Int))).toNat (0 : Nat) < (↑b0_2 : Int))))
       (cnd ((decide (0 ≤ t6 ∧ t6 < (↑t1_0 : Int))))
        (cnd ((decide ((0 : Int) ≤ t1_1.ii t6.toNat (0 : Nat) ∧ t1_1.ii t6.toNat (0 : Nat) < (↑(b0_3.sn (t1_1.ii (IntKind.i64.wrap (t6 - (1 : Int))).toNat (0 : Nat)).toNat (0 : Nat)) : Int))))
         (cnd ((decide (((b0_3.sub ((t1_1.ii ((IntKind.i64.wrap (t6 - 1)).toNat) 0).toNat) 0).ii ((t1_1.ii t6.toNat 0).toNat) 0) < 0)))
          (R (XE.ret) [.ro [.int .i64] t1_0 t1_1, .ptr 0 0, .bool true, .int .i64 t5] [.cells 43 [.ro [.str] b0_0 b0_1, .ro [.sl [.int .i64]] b0_2 b0_3]])
          (R (XE.normal) [.ro [.int .i64] t1_0 t1_1, .ptr 0 0, .int .i64 (IntKind.i64.wrap (t5 + ((b0_3.sub ((t1_1.ii ((IntKind.i64.wrap (t6 - 1)).toNat) 0).toNat) 0).ii ((t1_1.ii t6.toNat 0).toNat) 0))), .int .i64 (IntKind.i64.wrap (t6 + 1))] [.cells 43 [.ro [.str] b0_0 b0_1, .ro [.sl [.int .i64]] b0_2 b0_3]]))
         False)
        False)
       False)
      False)
     (R (XE.normal) [.ro [.int .i64] t1_0 t1_1, .ptr 0 0, .int .i64 t5, .int .i64 (IntKind.i64.wrap (t6 + 1))] [.cells 43 [.ro [.str] b0_0 b0_1, .ro [.sl [.int .i64]] b0_2 b0_3]])))
   False)
  (R (XE.exit 0) [.ro [.int .i64] t1_0 t1_1, .ptr 0 0, .any, .int .i64 t5] [.cells 43 [.ro [.str] b0_0 b0_1, .ro [.sl [.int .i64]] b0_2 b0_3]])) := by kernel_rfl
theorem z6_0 : LOk Try.prog g6_0 (.block 0 (bodyAt (Try.f6.body.getD .skip) 0)) := by
  refine loop_blk (ι := Nat × Dat × Int × Int × Nat × Dat × Nat × Dat) (L := [(17, c17), (24, c24), (25, c25), (26, c26), (27, c27), (29, c29)]) (Λ := (fun _ => none)) (fuel := 8) (na := 0) (nt := 92) (nx := 1) (Lh := [1, 2, 5, 6]) (Le := [1, 2, 4, 5]) (gl := []) (tabOk_cons k17 (tabOk_cons k24 (tabOk_cons k25 (tabOk_cons k26 (tabOk_cons k27 (tabOk_cons k29 tabOk_nil)))))) mix_ok noLam rfl (fun f x K => GG default (e6_0 x.1 x.2.1 x.2.2.2.2.1 x.2.2.2.2.2.1 x.2.2.2.2.2.2.1 x.2.2.2.2.2.2.2) K (l6_0 x.1 x.2.1 x.2.2.2.2.1 x.2.2.2.2.2.1 x.2.2.2.2.2.2.1 x.2.2.2.2.2.2.2 f x.2.2.1 x.2.2.2.1)) (fun x => [.ro [.int .i64] x.1 x.2.1, .ptr 0 0, .int .i64 x.2.2.1, .int .i64 x.2.2.2.1]) (fun x => [.cells 43 [.ro [.str] x.2.2.2.2.1 x.2.2.2.2.2.1, .ro [.sl [.int .i64]] x.2.2.2.2.2.2.1 x.2.2.2.2.2.2.2]]) (fun x K => gg_none) ?_ ?_
  · rintro f ⟨t1_0, t1_1, t5, t6, b0_0, b0_1, b0_2, b0_3⟩ K hG
    have hG : GG default (e6_0 t1_0 t1_1 b0_0 b0_1 b0_2 b0_3) K (cond ((decide (t6 < ((↑t1_0 : Int))))) (cond ((decide (0 ≤ t6 ∧ t6 < (↑t1_0 : Int)))) (cond ((bif (m29 (t1_1.ii t6.toNat 0) 0 (IntKind.i64.wrap (((↑b0_0 : Int)) - 1))) then false else true)) (some (true, (true, t5), default)) (cond ((decide ((0 : Int) < t6))) (cond ((decide (0 ≤ IntKind.i64.wrap (t6 - 1) ∧ IntKind.i64.wrap (t6 - 1) < (↑t1_0 : Int)))) (cond ((decide ((0 : Int) ≤ t1_1.ii (IntKind.i64.wrap (t6 - (1 : Int))).toNat (0 : Nat) ∧ t1_1.ii (IntKind.i64.wrap (t6 - (1 : Int))).toNat (0 : Nat) < (↑b0_2 : Int)))) (cond ((decide (0 ≤ t6 ∧ t6 < (↑t1_0 : Int)))) (cond ((decide ((0 : Int) ≤ t1_1.ii t6.toNat (0 : Nat) ∧ t1_1.ii t6.toNat (0 : Nat) < (↑(b0_3.sn (t1_1.ii (IntKind.i64.wrap (t6 - (1 : Int))).toNat (0 : Nat)).toNat (0 : Nat)) : Int)))) (cond ((decide (((b0_3.sub ((t1_1.ii ((IntKind.i64.wrap (t6 - 1)).toNat) 0).toNat) 0).ii ((t1_1.ii t6.toNat 0).toNat) 0) < 0))) (some (true, (true, t5), default)) (l6_0 t1_0 t1_1 b0_0 b0_1 b0_2 b0_3 f (IntKind.i64.wrap (t5 + ((b0_3.sub ((t1_1.ii ((IntKind.i64.wrap (t6 - 1)).toNat) 0).toNat) 0).ii ((t1_1.ii t6.toNat 0).toNat) 0))) (IntKind.i64.wrap (t6 + 1)))) none) none) none) none) (l6_0 t1_0 t1_1 b0_0 b0_1 b0_2 b0_3 f t5 (IntKind.i64.wrap (t6 + 1))))) none) (some (false, default, t5))) := hG
    refine propOf (y6_0 t1_0 t1_1 t5 t6 b0_0 b0_1 b0_2 b0_3 _) ?_
    exact cnd_gg2 hG (fun h0 => cnd_gg h0 fun h1 => cnd_gg2 h1 (fun h2 => h2.2) (fun h2 => cnd_gg2 h2 (fun h3 => cnd_gg h3 fun h4 => cnd_gg h4 fun h5 => cnd_gg h5 fun h6 => cnd_gg h6 fun h7 => cnd_gg2 h7 (fun h8 => h8.2) (fun h8 => ⟨(t1_0, t1_1, (IntKind.i64.wrap (t5 + ((b0_3.sub ((t1_1.ii ((IntKind.i64.wrap (t6 - 1)).toNat) 0).toNat) 0).ii ((t1_1.ii t6.toNat 0).toNat) 0))), (IntKind.i64.wrap (t6 + 1)), b0_0, b0_1, b0_2, b0_3), rfl, rfl, h8⟩)) (fun h3 => ⟨(t1_0, t1_1, t5, (IntKind.i64.wrap (t6 + 1)), b0_0, b0_1, b0_2, b0_3), rfl, rfl, h3⟩))) (fun h0 => h0.2)
  · intro s k h
    unfold g6_0 at h
    split at h <;> try exact h.elim
    rename_i e1
    rw [needs_iff] at h
    exact ⟨_, e1, _, (_, _, _, _, _, _, _, _), rfl, rfl, h.1 _ (List.mem_singleton.2 rfl), h.2⟩
theorem x6 (na0_0 : Nat) (da0_0 : Dat) (na0_1 : Nat) (da0_1 : Dat) (na1 : Nat) (da1 : Dat) (R : SV → List Blk → List Blk → Prop) : exec Try.prog [(17, c17), (24, c24), (25, c25), (26, c26), (27, c27), (29, c29)] (lamOf [(0, g6_0)]) 8 (Try.f6.body.getD .skip) (initS Try.f6.ntmps [.agg [.ro [.str] na0_0 da0_0, .ro [.sl [.int .i64]] na0_1 da0_1], .ro [.int .i64] na1 da1] 0 (memOf [])) (retK Try.prog Try.f6.results.toList (outK 0 (List.range 0) [] (.k) fun v U N => R v U N)) =
  (cnd (n17)
  (cnd ((bif m17 then false else true))
   (R (.bool false) [] [])
   (cnd ((n24 na0_0 da0_0 na0_1 da0_1))
    (cnd ((bif (bif (bif (bif (m24 na0_0 da0_0 na0_1 da0_1) then false else true) then false else true) then false else true) then true else (n27 na0_0 da0_0 na0_1 da0_1)))
     (cnd ((bif (bif (bif (bif (m24 na0_0 da0_0 na0_1 da0_1) then false else true) then true else (bif (decide ((m27 na0_0 da0_0 na0_1 da0_1) = 0)) then false else true)) then true else (decide (((↑na1 : Int)) = 0))) then true else (decide (8 < ((↑na1 : Int))))))
      (R (.bool true) [] [])
      (cnd (((o6_0 na1 da1 na0_0 da0_0 na0_1 da0_1 0 0).isSome))
       (cnd ((((o6_0 na1 da1 na0_0 da0_0 na0_1 da0_1 0 0).getD default).fst))
        (R (.bool (((o6_0 na1 da1 na0_0 da0_0 na0_1 da0_1 0 0).getD default).snd.fst.fst)) [] [])
        (cnd ((n26 na0_0 da0_0 na0_1 da0_1))
         (cnd ((decide ((0 : Int) ≤ (0 : Int) ∧ (0 : Int) < (↑na1 : Int))))
          (cnd ((decide (0 ≤ IntKind.i64.wrap ((↑na1 : Int) - 1) ∧ IntKind.i64.wrap ((↑na1 : Int) - 1) < (↑na1 : Int))))
           (cnd ((n25 ((m26 na0_0 da0_0 na0_1 da0_1).fst) ((m26 na0_0 da0_0 na0_1 da0_1).snd.fst) ((m26 na0_0 da0_0 na0_1 da0_1).snd.snd.fst) ((m26 na0_0 da0_0 na0_1 da0_1).snd.snd.snd) (da1.ii 0 0) (da1.ii ((IntKind.i64.wrap (((↑na1 : Int)) - 1)).toNat) 0)))
            (R (.bool (bif (decide (((m25 ((m26 na0_0 da0_0 na0_1 da0_1).fst) ((m26 na0_0 da0_0 na0_1 da0_1).snd.fst) ((m26 na0_0 da0_0 na0_1 da0_1).snd.snd.fst) ((m26 na0_0 da0_0 na0_1 da0_1).snd.snd.snd) (da1.ii 0 0) (da1.ii ((IntKind.i64.wrap (((↑na1 : Int)) - 1)).toNat) 0)).snd.snd.snd) = 0)) then (decide (((m25 ((m26 na0_0 da0_0 na0_1 da0_1).fst) ((m26 na0_0 da0_0 na0_1 da0_1).snd.fst) ((m26 na0_0 da0_0 na0_1 da0_1).snd.snd.fst) ((m26 na0_0 da0_0 na0_1 da0_1).snd.snd.snd) (da1.ii 0 0) (da1.ii ((IntKind.i64.wrap (((↑na1 : Int)) - 1)).toNat) 0)).snd.snd.fst) ≤ (((o6_0 na1 da1 na0_0 da0_0 na0_1 da0_1 0 0).getD default).snd.snd))) else false)) [] [])
            False)
           False)
          False)
         False))
       False))
     False)
    False))
  False) := by kernel_rfl
noncomputable def m6 (na0_0 : Nat) (da0_0 : Dat) (na0_1 : Nat) (da0_1 : Dat) (na1 : Nat) (da1 : Dat) : Bool :=
  (cond ((bif m17 then false else true)) false (cond ((bif (bif (bif (bif (m24 na0_0 da0_0 na0_1 da0_1) then false else true) then true else (bif (decide ((m27 na0_0 da0_0 na0_1 da0_1) = 0)) then false else true)) then true else (decide (((↑na1 : Int)) = 0))) then true else (decide (8 < ((↑na1 : Int)))))) true (cond ((((o6_0 na1 da1 na0_0 da0_0 na0_1 da0_1 0 0).getD default).fst)) (((o6_0 na1 da1 na0_0 da0_0 na0_1 da0_1 0 0).getD default).snd.fst.fst) (bif (decide (((m25 ((m26 na0_0 da0_0 na0_1 da0_1).fst) ((m26 na0_0 da0_0 na0_1 da0_1).snd.fst) ((m26 na0_0 da0_0 na0_1 da0_1).snd.snd.fst) ((m26 na0_0 da0_0 na0_1 da0_1).snd.snd.snd) (da1.ii 0 0) (da1.ii ((IntKind.i64.wrap (((↑na1 : Int)) - 1)).toNat) 0)).snd.snd.snd) = 0)) then (decide (((m25 ((m26 na0_0 da0_0 na0_1 da0_1).fst) ((m26 na0_0 da0_0 na0_1 da0_1).snd.fst) ((m26 na0_0 da0_0 na0_1 da0_1).snd.snd.fst) ((m26 na0_0 da0_0 na0_1 da0_1).snd.snd.snd) (da1.ii 0 0) (da1.ii ((IntKind.i64.wrap (((↑na1 : Int)) - 1)).toNat) 0)).snd.snd.fst) ≤ (((o6_0 na1 da1 na0_0 da0_0 na0_1 da0_1 0 0).getD default).snd.snd))) else false))))
noncomputable def n6 (na0_0 : Nat) (da0_0 : Dat) (na0_1 : Nat) (da0_1 : Dat) (na1 : Nat) (da1 : Dat) : Bool :=
  ((n17) && (cond ((bif m17 then false else true)) true (((n24 na0_0 da0_0 na0_1 da0_1)) && (((bif (bif (bif (bif (m24 na0_0 da0_0 na0_1 da0_1) then false else true) then false else true) then false else true) then true else (n27 na0_0 da0_0 na0_1 da0_1))) && (cond ((bif (bif (bif (bif (m24 na0_0 da0_0 na0_1 da0_1) then false else true) then true else (bif (decide ((m27 na0_0 da0_0 na0_1 da0_1) = 0)) then false else true)) then true else (decide (((↑na1 : Int)) = 0))) then true else (decide (8 < ((↑na1 : Int)))))) true ((((o6_0 na1 da1 na0_0 da0_0 na0_1 da0_1 0 0).isSome)) && (cond ((((o6_0 na1 da1 na0_0 da0_0 na0_1 da0_1 0 0).getD default).fst)) true (((n26 na0_0 da0_0 na0_1 da0_1)) && (((decide ((0 : Int) ≤ (0 : Int) ∧ (0 : Int) < (↑na1 : Int)))) && (((decide (0 ≤ IntKind.i64.wrap ((↑na1 : Int) - 1) ∧ IntKind.i64.wrap ((↑na1 : Int) - 1) < (↑na1 : Int)))) && (((n25 ((m26 na0_0 da0_0 na0_1 da0_1).fst) ((m26 na0_0 da0_0 na0_1 da0_1).snd.fst) ((m26 na0_0 da0_0 na0_1 da0_1).snd.snd.fst) ((m26 na0_0 da0_0 na0_1 da0_1).snd.snd.snd) (da1.ii 0 0) (da1.ii ((IntKind.i64.wrap (((↑na1 : Int)) - 1)).toNat) 0))) && true)))))))))))
noncomputable def q6 (r : Bool) : SV × List Blk × List Blk := (.bool r, [], [])
noncomputable def g6 : List SV → List Blk → Option OpRes := fun vs bs => match vs, bs with
  | [.agg [.ro [.str] na0_0 da0_0, .ro [.sl [.int .i64]] na0_1 da0_1], .ro [.int .i64] na1 da1], [] => some (resOf 0 (q6 (m6 na0_0 da0_0 na0_1 da0_1 na1 da1)) [n6 na0_0 da0_0 na0_1 da0_1 na1 da1])
  | _, _ => none
noncomputable def c6 : Ctr := genC [.a [.ro [.str], .ro [.sl [.int .i64]]], .ro [.int .i64]] g6
theorem p6 (na0_0 : Nat) (da0_0 : Dat) (na0_1 : Nat) (da0_1 : Dat) (na1 : Nat) (da1 : Dat) (hn : n6 na0_0 da0_0 na0_1 da0_1 na1 da1 = true) : exec Try.prog [(17, c17), (24, c24), (25, c25), (26, c26), (27, c27), (29, c29)] (lamOf [(0, g6_0)]) 8 (Try.f6.body.getD .skip) (initS Try.f6.ntmps [.agg [.ro [.str] na0_0 da0_0, .ro [.sl [.int .i64]] na0_1 da0_1], .ro [.int .i64] na1 da1] 0 (memOf [])) (retK Try.prog Try.f6.results.toList (outK 0 (List.range 0) [] (.k) fun v U N => (v, U, N) = (q6 (m6 na0_0 da0_0 na0_1 da0_1 na1 da1)))) :=
  propOf (x6 na0_0 da0_0 na0_1 da0_1 na1 da1 _) (cnd_need (and_l hn) (cnd_of (fun h0 => leaf_of (l := false) (condT h0 rfl) rfl) (fun h0 => cnd_need (and_l (cond_f h0 (and_r hn))) (cnd_need (and_l (and_r (cond_f h0 (and_r hn)))) (cnd_of (fun h1 => leaf_of (l := true) (condF h0 (condT h1 rfl)) rfl) (fun h1 => cnd_need (and_l (cond_f h1 (and_r (and_r (cond_f h0 (and_r hn)))))) (cnd_of (fun h2 => leaf_of (l := (((o6_0 na1 da1 na0_0 da0_0 na0_1 da0_1 0 0).getD default).snd.fst.fst)) (condF h0 (condF h1 (condT h2 rfl))) rfl) (fun h2 => cnd_need (and_l (cond_f h2 (and_r (cond_f h1 (and_r (and_r (cond_f h0 (and_r hn)))))))) (cnd_need (and_l (and_r (cond_f h2 (and_r (cond_f h1 (and_r (and_r (cond_f h0 (and_r hn))))))))) (cnd_need (and_l (and_r (and_r (cond_f h2 (and_r (cond_f h1 (and_r (and_r (cond_f h0 (and_r hn)))))))))) (cnd_need (and_l (and_r (and_r (and_r (cond_f h2 (and_r (cond_f h1 (and_r (and_r (cond_f h0 (and_r hn))))))))))) (leaf_of (l := (bif (decide (((m25 ((m26 na0_0 da0_0 na0_1 da0_1).fst) ((m26 na0_0 da0_0 na0_1 da0_1).snd.fst) ((m26 na0_0 da0_0 na0_1 da0_1).snd.snd.fst) ((m26 na0_0 da0_0 na0_1 da0_1).snd.snd.snd) (da1.ii 0 0) (da1.ii ((IntKind.i64.wrap (((↑na1 : Int)) - 1)).toNat) 0)).snd.snd.snd) = 0)) then (decide (((m25 ((m26 na0_0 da0_0 na0_1 da0_1).fst) ((m26 na0_0 da0_0 na0_1 da0_1).snd.fst) ((m26 na0_0 da0_0 na0_1 da0_1).snd.snd.fst) ((m26 na0_0 da0_0 na0_1 da0_1).snd.snd.snd) (da1.ii 0 0) (da1.ii ((IntKind.i64.wrap (((↑na1 : Int)) - 1)).toNat) 0)).snd.snd.fst) ≤ (((o6_0 na1 da1 na0_0 da0_0 na0_1 da0_1 0 0).getD default).snd.snd))) else false)) (condF h0 (condF h1 (condF h2 rfl))) rfl))))))))))))
theorem k6 : CtrOk Try.prog c6 6 := ctr_of (tabOk_cons k17 (tabOk_cons k24 (tabOk_cons k25 (tabOk_cons k26 (tabOk_cons k27 (tabOk_cons k29 tabOk_nil)))))) mix_ok 8 (fn := Try.f6) (c := (Try.f6.body.getD .skip)) (grs := []) (rh := .k) (Λ := (lamOf [(0, g6_0)])) Try.func6 rfl (by kernel_rfl) (lam_of rfl (lams_cons z6_0 lams_nil)) fun vs bs q h hn => by
  unfold g6 at h
  split at h <;> cases h
  exact ⟨_, rfl, p6 _ _ _ _ _ _ (hn _ (List.mem_singleton.2 rfl))⟩
end Go.Proofs.Ytlaogoojkfjgoaa
