/-
  Contracts of functions: models, equations by the kernel, contracts. Conditions: none.
-/
import Derived.Test.YtlaogoojkfjgoaaSyY
import Derived.Test.YtlaogoojkfjgoaaBase
import Derived.Test.YtlaogoojkfjgoaaC1
import Derived.Test.YtlaogoojkfjgoaaC2
import Derived.Test.YtlaogoojkfjgoaaC3
import Derived.KernelRfl
namespace Go.Proofs.Ytlaogoojkfjgoaa
open Go Go.Sy
set_option linter.unusedVariables false
set_option maxRecDepth 100000
set_option maxHeartbeats 2000000
attribute [local irreducible] Go.IntKind.wrap Int.tdiv Int.tmod Int.fdiv
/-! ### shotline/site.times -/
/-! #### loop 1 -/
noncomputable def l111_1 (t44_0 : Nat) (t44_1 : Dat) (t45 : Int) (b0_0 : Nat) (b0_1 : Dat) (b0_2 : Nat) (b0_3 : Dat) (b1_0 : Int) (b1_2 : Dat) (b1_3 : Nat) (b1_4 : Dat) : Nat → Nat → Int → Int → Dat → Option (Bool × (Int × Nat × Nat × Dat) × (Nat × Nat × Dat))
  | 0, _, _, _, _ => none
  | f + 1, t7, t8, t46, b2_1 => (cond ((decide (t46 < t45))) (cond ((decide (0 ≤ t46 ∧ t46 < (↑t44_0 : Int)))) (cond ((bif (m85 b0_0 b0_1 b0_2 b0_3 (t44_1.ii t46.toNat 0)) then false else true)) (some (true, (6, t7, t7, b2_1), default)) (cond ((decide (0 ≤ t46 ∧ t46 < (↑b1_3 : Int)))) (cond ((bif (m96 (b1_4.ii t46.toNat 0) 0 10000) then false else true)) (some (true, (2, t7, t7, b2_1), default)) (cond ((decide ((0 : Int) < t46))) (cond ((decide (0 ≤ IntKind.i64.wrap (t46 - 1) ∧ IntKind.i64.wrap (t46 - 1) < (↑t44_0 : Int)))) (cond ((decide ((0 : Int) ≤ b1_2.ii (IntKind.i64.wrap (t46 - (1 : Int))).toNat (0 : Nat) ∧ b1_2.ii (IntKind.i64.wrap (t46 - (1 : Int))).toNat (0 : Nat) < (↑b0_2 : Int)))) (cond ((decide ((0 : Int) ≤ t44_1.ii t46.toNat (0 : Nat) ∧ t44_1.ii t46.toNat (0 : Nat) < (↑(b0_3.sn (b1_2.ii (IntKind.i64.wrap (t46 - (1 : Int))).toNat (0 : Nat)).toNat (0 : Nat)) : Int)))) (cond ((decide (((b0_3.sub ((b1_2.ii ((IntKind.i64.wrap (t46 - 1)).toNat) 0).toNat) 0).ii ((t44_1.ii t46.toNat 0).toNat) 0) < 0))) (some (true, (14, t7, t7, b2_1), default)) (cond ((decide (0 ≤ t46 ∧ t46 < (↑b1_3 : Int)))) (cond ((decide ((t7 + 1) ≤ 1073741824))) (cond ((decide (0 ≤ t46 ∧ t46 < (↑b1_3 : Int)))) (l111_1 t44_0 t44_1 t45 b0_0 b0_1 b0_2 b0_3 b1_0 b1_2 b1_3 b1_4 f (t7 + 1) (IntKind.i64.wrap ((IntKind.i64.wrap (t8 + ((b0_3.sub ((b1_2.ii ((IntKind.i64.wrap (t46 - 1)).toNat) 0).toNat) 0).ii ((t44_1.ii t46.toNat 0).toNat) 0))) + (b1_4.ii t46.toNat 0))) (IntKind.i64.wrap (t46 + 1)) (b2_1.app t7 (datS [SV.int IntKind.i64 (IntKind.i64.wrap (t8 + ((b0_3.sub ((b1_2.ii ((IntKind.i64.wrap (t46 - 1)).toNat) 0).toNat) 0).ii ((t44_1.ii t46.toNat 0).toNat) 0))), SV.int IntKind.i64 (IntKind.i64.wrap ((IntKind.i64.wrap (t8 + ((b0_3.sub ((b1_2.ii ((IntKind.i64.wrap (t46 - 1)).toNat) 0).toNat) 0).ii ((t44_1.ii t46.toNat 0).toNat) 0))) + (b1_4.ii t46.toNat 0)))] 2))) none) none) none)) none) none) none) (cond ((decide (0 ≤ t46 ∧ t46 < (↑b1_3 : Int)))) (cond ((decide ((t7 + 1) ≤ 1073741824))) (cond ((decide (0 ≤ t46 ∧ t46 < (↑b1_3 : Int)))) (l111_1 t44_0 t44_1 t45 b0_0 b0_1 b0_2 b0_3 b1_0 b1_2 b1_3 b1_4 f (t7 + 1) (IntKind.i64.wrap (t8 + (b1_4.ii t46.toNat 0))) (IntKind.i64.wrap (t46 + 1)) (b2_1.app t7 (datS [SV.int IntKind.i64 t8, SV.int IntKind.i64 (IntKind.i64.wrap (t8 + (b1_4.ii t46.toNat 0)))] 2))) none) none) none))) none)) none) (some (false, default, (t7, t7, b2_1))))
noncomputable abbrev o111_1 (t44_0 : Nat) (t44_1 : Dat) (t45 : Int) (b0_0 : Nat) (b0_1 : Dat) (b0_2 : Nat) (b0_3 : Dat) (b1_0 : Int) (b1_2 : Dat) (b1_3 : Nat) (b1_4 : Dat) (t7 : Nat) (t8 : Int) (t46 : Int) (b2_1 : Dat) : Option (Bool × (Int × Nat × Nat × Dat) × (Nat × Nat × Dat)) := l111_1 t44_0 t44_1 t45 b0_0 b0_1 b0_2 b0_3 b1_0 b1_2 b1_3 b1_4 (t7 + t8.toNat + t44_0 + t45.toNat + t46.toNat + b0_0 + b0_2 + b1_0.toNat + b1_3 + 8) t7 t8 t46 b2_1
noncomputable def e111_1 (t44_0 : Nat) (t44_1 : Dat) (t45 : Int) (b0_0 : Nat) (b0_1 : Dat) (b0_2 : Nat) (b0_3 : Dat) (b1_0 : Int) (b1_2 : Dat) (b1_3 : Nat) (b1_4 : Dat) (r : Bool × (Int × Nat × Nat × Dat) × (Nat × Nat × Dat)) (K : XR) : Prop := cnd r.1 (K (XE.ret) [.nsl, .int .i64 r.2.1.1, .gr 2 2 r.2.1.2.1] [.cells 43 [.ro [.str] b0_0 b0_1, .ro [.sl [.int .i64]] b0_2 b0_3], .cells 77 [.int .i64 b1_0, .ro [.int .i64] t44_0 b1_2, .ro [.int .i64] b1_3 b1_4], .row 44 [.int .i64, .int .i64] r.2.1.2.2.1 r.2.1.2.2.2]) (K (XE.exit 1) [.any, .any, .gr 2 2 r.2.2.1] [.cells 43 [.ro [.str] b0_0 b0_1, .ro [.sl [.int .i64]] b0_2 b0_3], .cells 77 [.int .i64 b1_0, .ro [.int .i64] t44_0 b1_2, .ro [.int .i64] b1_3 b1_4], .row 44 [.int .i64, .int .i64] r.2.2.2.1 r.2.2.2.2])
noncomputable def g111_1 : LSum := fun s k => match czv 0 105 [2, 3, 7, 8, 44, 45, 46] 3 [⟨true, 7, 0, 2, 44, [.int .i64, .int .i64]⟩] s with
  | some ([.ptr 0 0, .ptr 1 0, .gr 2 2 t7, .int .i64 t8, .ro [.int .i64] t44_0 t44_1, .int .i64 t45, .int .i64 t46], [.cells 43 [.ro [.str] b0_0 b0_1, .ro [.sl [.int .i64]] b0_2 b0_3], .cells 77 [.int .i64 b1_0, .ro [.int .i64] b1_1 b1_2, .ro [.int .i64] b1_3 b1_4], .row 44 [.int .i64, .int .i64] b2_0 b2_1]) => needs [decide (t44_0 = b1_1), decide (t7 = b2_0), (o111_1 t44_0 t44_1 t45 b0_0 b0_1 b0_2 b0_3 b1_0 b1_2 b1_3 b1_4 t7 t8 t46 b2_1).isSome] (e111_1 t44_0 t44_1 t45 b0_0 b0_1 b0_2 b0_3 b1_0 b1_2 b1_3 b1_4 ((o111_1 t44_0 t44_1 t45 b0_0 b0_1 b0_2 b0_3 b1_0 b1_2 b1_3 b1_4 t7 t8 t46 b2_1).getD default) fun e vs bs => inBlk 1 k e (mkSt 0 105 [4, 5, 7] vs 3 bs))
  | _ => False
theorem y111_1 (t7 : Nat) (t8 : Int) (t44_0 : Nat) (t44_1 : Dat) (t45 : Int) (t46 : Int) (b0_0 : Nat) (b0_1 : Dat) (b0_2 : Nat) (b0_3 : Dat) (b1_0 : Int) (b1_2 : Dat) (b1_3 : Nat) (b1_4 : Dat) (b2_1 : Dat) (R : XR) : exec Try.prog [(28, c28), (80, c80), (85, c85), (96, c96)] (fun _ => none) 8 (unloop (bodyAt (Try.f111.body.getD .skip) 1)) (mkSt 0 105 [2, 3, 7, 8, 44, 45, 46] [.ptr 0 0, .ptr 1 0, .gr 2 2 t7, .int .i64 t8, .ro [.int .i64] t44_0 t44_1, .int .i64 t45, .int .i64 t46] 3 [.cells 43 [.ro [.str] b0_0 b0_1, .ro [.sl [.int .i64]] b0_2 b0_3], .cells 77 [.int .i64 b1_0, .ro [.int .i64] t44_0 b1_2, .ro [.int .i64] b1_3 b1_4], .row 44 [.int .i64, .int .i64] t7 b2_1]) (canonK 0 105 [2, 3, 7, 8, 44, 45, 46] [4, 5, 7] 3 [⟨true, 7, 0, 2, 44, [.int .i64, .int .i64]⟩] R) =
  (cnd ((decide (t46 < t45)))
  (cnd ((decide (0 ≤ t46 ∧ t46 < (↑t44_0 : Int))))
   (cnd ((bif (m85 b0_0 b0_1 b0_2 b0_3 (t44_1.ii t46.toNat 0)) then false else true))
    (R (XE.ret) [.nsl, .int .i64 6, .gr 2 2 t7] [.cells 43 [.ro [.str] b0_0 b0_1, .ro [.sl [.int .i64]] b0_2 b0_3], .cells 77 [.int .i64 b1_0, .ro [.int .i64] t44_0 b1_2, .ro [.int .i64] b1_3 b1_4], .row 44 [.int .i64, .int .i64] t7 b2_1])
    (cnd ((decide (0 ≤ t46 ∧ t46 < (↑b1_3 : Int))))
     (cnd ((bif (m96 (b1_4.ii t46.toNat 0) 0 10000) then false else true))
      (R (XE.ret) [.nsl, .int .i64 2, .gr 2 2 t7] [.cells 43 [.ro [.str] b0_0 b0_1, .ro [.sl [.int .i64]] b0_2 b0_3], .cells 77 [.int .i64 b1_0, .ro [.int .i64] t44_0 b1_2, .ro [.int .i64] b1_3 b1_4], .row 44 [.int .i64, .int .i64] t7 b2_1])
      (cnd ((decide ((0 : Int) < t46)))
       (cnd ((decide (0 ≤ IntKind.i64.wrap (t46 - 1) ∧ IntKind.i64.wrap (t46 - 1) < (↑t44_0 : Int))))
        (cnd ((decide ((0 : Int) ≤ b1_2.ii (IntKind.i64.wrap (t46 - (1 : Int))).toNat (0 : Nat) ∧ b1_2.ii (IntKind.i64.wrap (t46 - (1 : Int))).toNat (0 : Nat) < (↑b0_2 : Int))))
         (cnd ((decide ((0 : Int) ≤ t44_1.ii t46.toNat (0 : Nat) ∧ t44_1.ii t46.toNat (0 : Nat) < (↑(b0_3.sn (b1_2.ii (IntKind.i64.wrap (t46 - (1 : Int))).toNat (0 : Nat)).toNat (0 : Nat)) : Int))))
          (cnd ((decide (((b0_3.sub ((b1_2.ii ((IntKind.i64.wrap (t46 - 1)).toNat) 0).toNat) 0).ii ((t44_1.ii t46.toNat 0).toNat) 0) < 0)))
           (R (XE.ret) [.nsl, .int .i64 14, .gr 2 2 t7] [.cells 43 [.ro [.str] b0_0 b0_1, .ro [.sl [.int .i64]] b0_2 b0_3], .cells 77 [.int .i64 b1_0, .ro [.int .i64] t44_0 b1_2, .ro [.int .i64] b1_3 b1_4], .row 44 [.int .i64, .int .i64] t7 b2_1])
           (cnd ((decide (0 ≤ t46 ∧ t46 < (↑b1_3 : Int))))
            (cnd ((decide (t7 ≤ t7)))
             (cnd ((decide ((t7 + 1) ≤ 1073741824)))
              (cnd ((decide (0 ≤ t46 ∧ t46 < (↑b1_3 : Int))))
               (R (XE.normal) [.ptr 0 0, .ptr 1 0, .gr 2 2 (t7 + 1), .int .i64 (IntKind.i64.wrap ((IntKind.i64.wrap (t8 + ((b0_3.sub ((b1_2.ii ((IntKind.i64.wrap (t46 - 1)).toNat) 0).toNat) 0).ii ((t44_1.ii t46.toNat 0).toNat) 0))) + (b1_4.ii t46.toNat 0))), .ro [.int .i64] t44_0 t44_1, .int .i64 t45, .int .i64 (IntKind.i64.wrap (t46 + 1))] [.cells 43 [.ro [.str] b0_0 b0_1, .ro [.sl [.int .i64]] b0_2 b0_3], .cells 77 [.int .i64 b1_0, .ro [.int .i64] t44_0 b1_2, .ro [.int .i64] b1_3 b1_4], .row 44 [.int .i64, .int .i64] (t7 + 1) (b2_1.app t7 (datS [SV.int IntKind.i64 (IntKind.i64.wrap (t8 + ((b0_3.sub ((b1_2.ii ((IntKind.i64.wrap (t46 - 1)).toNat) 0).toNat) 0).ii ((t44_1.ii t46.toNat 0).toNat) 0))), SV.int IntKind.i64 (IntKind.i64.wrap ((IntKind.i64.wrap (t8 + ((b0_3.sub ((b1_2.ii ((IntKind.i64.wrap (t46 - 1)).toNat) 0).toNat) 0).ii ((t44_1.ii t46.toNat 0).toNat) 0))) + (b1_4.ii t46.toNat 0)))] 2))])
               False)
              False)
             False)
            False))
          False)
         False)
        False)
       (cnd ((decide (0 ≤ t46 ∧ t46 < (↑b1_3 : Int))))
        (cnd ((decide (t7 ≤ t7)))
         (cnd ((decide ((t7 + 1) ≤ 1073741824)))
          (cnd ((decide (0 ≤ t46 ∧ t46 < (↑b1_3 : Int))))
           (R (XE.normal) [.ptr 0 0, .ptr 1 0, .gr 2 2 (t7 + 1), .int .i64 (IntKind.i64.wrap (t8 + (b1_4.ii t46.toNat 0))), .ro [.int .i64] t44_0 t44_1, .int .i64 t45, .int .i64 (IntKind.i64.wrap (t46 + 1))] [.cells 43 [.ro [.str] b0_0 b0_1, .ro [.sl [.int .i64]] b0_2 b0_3], .cells 77 [.int .i64 b1_0, .ro [.int .i64] t44_0 b1_2, .ro [.int .i64] b1_3 b1_4], .row 44 [.int .i64, .int .i64] (t7 + 1) (b2_1.app t7 (datS [SV.int IntKind.i64 t8, SV.int IntKind.i64 (IntKind.i64.wrap (t8 + (b1_4.ii t46.toNat 0)))] 2))])
           False)
          False)
         False)
        False)))
     False))
   False)
  (R (XE.exit 1) [.any, .any, .gr 2 2 t7] [.cells 43 [.ro [.str] b0_0 b0_1, .ro [.sl [.int .i64]] b0_2 b0_3], .cells 77 [.int .i64 b1_0, .ro [.int .i64] t44_0 b1_2, .ro [.int .i64] b1_3 b1_4], .row 44 [.int .i64, .int .i64] t7 b2_1])) := by kernel_rfl
theorem z111_1 : LOk Try.prog g111_1 (.block 1 (bodyAt (Try.f111.body.getD .skip) 1)) := by
  refine loop_blk (ι := Nat × Int × Nat × Dat × Int × Int × Nat × Dat × Nat × Dat × Int × Dat × Nat × Dat × Dat) (L := [(28, c28), (80, c80), (85, c85), (96, c96)]) (Λ := (fun _ => none)) (fuel := 8) (na := 0) (nt := 105) (nx := 3) (Lh := [2, 3, 7, 8, 44, 45, 46]) (Le := [4, 5, 7]) (gl := [⟨true, 7, 0, 2, 44, [.int .i64, .int .i64]⟩]) (tabOk_cons k28 (tabOk_cons k80 (tabOk_cons k85 (tabOk_cons k96 tabOk_nil)))) mix_ok noLam rfl (fun f x K => GG default (e111_1 x.2.2.1 x.2.2.2.1 x.2.2.2.2.1 x.2.2.2.2.2.2.1 x.2.2.2.2.2.2.2.1 x.2.2.2.2.2.2.2.2.1 x.2.2.2.2.2.2.2.2.2.1 x.2.2.2.2.2.2.2.2.2.2.1 x.2.2.2.2.2.2.2.2.2.2.2.1 x.2.2.2.2.2.2.2.2.2.2.2.2.1 x.2.2.2.2.2.2.2.2.2.2.2.2.2.1) K (l111_1 x.2.2.1 x.2.2.2.1 x.2.2.2.2.1 x.2.2.2.2.2.2.1 x.2.2.2.2.2.2.2.1 x.2.2.2.2.2.2.2.2.1 x.2.2.2.2.2.2.2.2.2.1 x.2.2.2.2.2.2.2.2.2.2.1 x.2.2.2.2.2.2.2.2.2.2.2.1 x.2.2.2.2.2.2.2.2.2.2.2.2.1 x.2.2.2.2.2.2.2.2.2.2.2.2.2.1 f x.1 x.2.1 x.2.2.2.2.2.1 x.2.2.2.2.2.2.2.2.2.2.2.2.2.2)) (fun x => [.ptr 0 0, .ptr 1 0, .gr 2 2 x.1, .int .i64 x.2.1, .ro [.int .i64] x.2.2.1 x.2.2.2.1, .int .i64 x.2.2.2.2.1, .int .i64 x.2.2.2.2.2.1]) (fun x => [.cells 43 [.ro [.str] x.2.2.2.2.2.2.1 x.2.2.2.2.2.2.2.1, .ro [.sl [.int .i64]] x.2.2.2.2.2.2.2.2.1 x.2.2.2.2.2.2.2.2.2.1], .cells 77 [.int .i64 x.2.2.2.2.2.2.2.2.2.2.1, .ro [.int .i64] x.2.2.1 x.2.2.2.2.2.2.2.2.2.2.2.1, .ro [.int .i64] x.2.2.2.2.2.2.2.2.2.2.2.2.1 x.2.2.2.2.2.2.2.2.2.2.2.2.2.1], .row 44 [.int .i64, .int .i64] x.1 x.2.2.2.2.2.2.2.2.2.2.2.2.2.2]) (fun x K => gg_none) ?_ ?_
  · rintro f ⟨t7, t8, t44_0, t44_1, t45, t46, b0_0, b0_1, b0_2, b0_3, b1_0, b1_2, b1_3, b1_4, b2_1⟩ K hG
    have hG : GG default (e111_1 t44_0 t44_1 t45 b0_0 b0_1 b0_2 b0_3 b1_0 b1_2 b1_3 b1_4) K (cond ((decide (t46 < t45))) (cond ((decide (0 ≤ t46 ∧ t46 < (↑t44_0 : Int)))) (cond ((bif (m85 b0_0 b0_1 b0_2 b0_3 (t44_1.ii t46.toNat 0)) then false else true)) (some (true, (6, t7, t7, b2_1), default)) (cond ((decide (0 ≤ t46 ∧ t46 < (↑b1_3 : Int)))) (cond ((bif (m96 (b1_4.ii t46.toNat 0) 0 10000) then false else true)) (some (true, (2, t7, t7, b2_1), default)) (cond ((decide ((0 : Int) < t46))) (cond ((decide (0 ≤ IntKind.i64.wrap (t46 - 1) ∧ IntKind.i64.wrap (t46 - 1) < (↑t44_0 : Int)))) (cond ((decide ((0 : Int) ≤ b1_2.ii (IntKind.i64.wrap (t46 - (1 : Int))).toNat (0 : Nat) ∧ b1_2.ii (IntKind.i64.wrap (t46 - (1 : Int))).toNat (0 : Nat) < (↑b0_2 : Int)))) (cond ((decide ((0 : Int) ≤ t44_1.ii t46.toNat (0 : Nat) ∧ t44_1.ii t46.toNat (0 : Nat) < (↑(b0_3.sn (b1_2.ii (IntKind.i64.wrap (t46 - (1 : Int))).toNat (0 : Nat)).toNat (0 : Nat)) : Int)))) (cond ((decide (((b0_3.sub ((b1_2.ii ((IntKind.i64.wrap (t46 - 1)).toNat) 0).toNat) 0).ii ((t44_1.ii t46.toNat 0).toNat) 0) < 0))) (some (true, (14, t7, t7, b2_1), default)) (cond ((decide (0 ≤ t46 ∧ t46 < (↑b1_3 : Int)))) (cond ((decide ((t7 + 1) ≤ 1073741824))) (cond ((decide (0 ≤ t46 ∧ t46 < (↑b1_3 : Int)))) (l111_1 t44_0 t44_1 t45 b0_0 b0_1 b0_2 b0_3 b1_0 b1_2 b1_3 b1_4 f (t7 + 1) (IntKind.i64.wrap ((IntKind.i64.wrap (t8 + ((b0_3.sub ((b1_2.ii ((IntKind.i64.wrap (t46 - 1)).toNat) 0).toNat) 0).ii ((t44_1.ii t46.toNat 0).toNat) 0))) + (b1_4.ii t46.toNat 0))) (IntKind.i64.wrap (t46 + 1)) (b2_1.app t7 (datS [SV.int IntKind.i64 (IntKind.i64.wrap (t8 + ((b0_3.sub ((b1_2.ii ((IntKind.i64.wrap (t46 - 1)).toNat) 0).toNat) 0).ii ((t44_1.ii t46.toNat 0).toNat) 0))), SV.int IntKind.i64 (IntKind.i64.wrap ((IntKind.i64.wrap (t8 + ((b0_3.sub ((b1_2.ii ((IntKind.i64.wrap (t46 - 1)).toNat) 0).toNat) 0).ii ((t44_1.ii t46.toNat 0).toNat) 0))) + (b1_4.ii t46.toNat 0)))] 2))) none) none) none)) none) none) none) (cond ((decide (0 ≤ t46 ∧ t46 < (↑b1_3 : Int)))) (cond ((decide ((t7 + 1) ≤ 1073741824))) (cond ((decide (0 ≤ t46 ∧ t46 < (↑b1_3 : Int)))) (l111_1 t44_0 t44_1 t45 b0_0 b0_1 b0_2 b0_3 b1_0 b1_2 b1_3 b1_4 f (t7 + 1) (IntKind.i64.wrap (t8 + (b1_4.ii t46.toNat 0))) (IntKind.i64.wrap (t46 + 1)) (b2_1.app t7 (datS [SV.int IntKind.i64 t8, SV.int IntKind.i64 (IntKind.i64.wrap (t8 + (b1_4.ii t46.toNat 0)))] 2))) none) none) none))) none)) none) (some (false, default, (t7, t7, b2_1)))) := hG
    refine propOf (y111_1 t7 t8 t44_0 t44_1 t45 t46 b0_0 b0_1 b0_2 b0_3 b1_0 b1_2 b1_3 b1_4 b2_1 _) ?_
    exact cnd_gg2 hG (fun h0 => cnd_gg h0 fun h1 => cnd_gg2 h1 (fun h2 => h2.2) (fun h2 => cnd_gg h2 fun h3 => cnd_gg2 h3 (fun h4 => h4.2) (fun h4 => cnd_gg2 h4 (fun h5 => cnd_gg h5 fun h6 => cnd_gg h6 fun h7 => cnd_gg h7 fun h8 => cnd_gg2 h8 (fun h9 => h9.2) (fun h9 => cnd_gg h9 fun h10 => cnd_need (decide_eq_true (Nat.le_refl _)) (cnd_gg h10 fun h11 => cnd_gg h11 fun h12 => ⟨((t7 + 1), (IntKind.i64.wrap ((IntKind.i64.wrap (t8 + ((b0_3.sub ((b1_2.ii ((IntKind.i64.wrap (t46 - 1)).toNat) 0).toNat) 0).ii ((t44_1.ii t46.toNat 0).toNat) 0))) + (b1_4.ii t46.toNat 0))), t44_0, t44_1, t45, (IntKind.i64.wrap (t46 + 1)), b0_0, b0_1, b0_2, b0_3, b1_0, b1_2, b1_3, b1_4, (b2_1.app t7 (datS [SV.int IntKind.i64 (IntKind.i64.wrap (t8 + ((b0_3.sub ((b1_2.ii ((IntKind.i64.wrap (t46 - 1)).toNat) 0).toNat) 0).ii ((t44_1.ii t46.toNat 0).toNat) 0))), SV.int IntKind.i64 (IntKind.i64.wrap ((IntKind.i64.wrap (t8 + ((b0_3.sub ((b1_2.ii ((IntKind.i64.wrap (t46 - 1)).toNat) 0).toNat) 0).ii ((t44_1.ii t46.toNat 0).toNat) 0))) + (b1_4.ii t46.toNat 0)))] 2))), rfl, rfl, h12⟩))) (fun h5 => cnd_gg h5 fun h6 => cnd_need (decide_eq_true (Nat.le_refl _)) (cnd_gg h6 fun h7 => cnd_gg h7 fun h8 => ⟨((t7 + 1), (IntKind.i64.wrap (t8 + (b1_4.ii t46.toNat 0))), t44_0, t44_1, t45, (IntKind.i64.wrap (t46 + 1)), b0_0, b0_1, b0_2, b0_3, b1_0, b1_2, b1_3, b1_4, (b2_1.app t7 (datS [SV.int IntKind.i64 t8, SV.int IntKind.i64 (IntKind.i64.wrap (t8 + (b1_4.ii t46.toNat 0)))] 2))), rfl, rfl, h8⟩))))) (fun h0 => h0.2)
  · intro s k h
    unfold g111_1 at h
    split at h <;> try exact h.elim
    rename_i e1
    rw [needs_iff] at h
    have hq := h.1
    simp only [List.mem_cons, forall_eq_or_imp, decide_eq_true_eq, List.not_mem_nil, false_imp_iff, implies_true, and_true] at hq
    obtain ⟨rfl, rfl, hq⟩ := hq
    exact ⟨_, e1, _, (_, _, _, _, _, _, _, _, _, _, _, _, _, _, _), rfl, rfl, hq, h.2⟩
theorem x111 (na0_0 : Nat) (da0_0 : Dat) (na0_1 : Nat) (da0_1 : Dat) (a1_0 : Int) (na1_1 : Nat) (da1_1 : Dat) (na1_2 : Nat) (da1_2 : Dat) (R : SV → List Blk → List Blk → Prop) : exec Try.prog [(28, c28), (80, c80), (85, c85), (96, c96)] (lamOf [(1, g111_1)]) 8 (Try.f111.body.getD .skip) (initS Try.f111.ntmps [.agg [.ro [.str] na0_0 da0_0, .ro [.sl [.int .i64]] na0_1 da0_1], .agg [.int .i64 a1_0, .ro [.int .i64] na1_1 da1_1, .ro [.int .i64] na1_2 da1_2]] 0 (memOf [])) (retK Try.prog Try.f111.results.toList (outK 0 (List.range 0) [] (.t [.ro [.int .i64, .int .i64], .k]) fun v U N => R v U N)) =
  (cnd ((n28 na0_0 da0_0 na0_1 da0_1))
  (cnd ((bif (decide ((m28 na0_0 da0_0 na0_1 da0_1) = 0)) then false else true))
   (R (.tup [.ro [.int .i64, .int .i64] 0 noDat, .int .i64 (m28 na0_0 da0_0 na0_1 da0_1)]) [] [])
   (cnd ((bif (decide (((↑na1_1 : Int)) = 0)) then true else (bif (decide (((↑na1_2 : Int)) = ((↑na1_1 : Int)))) then false else true)))
    (R (.tup [.ro [.int .i64, .int .i64] 0 noDat, .int .i64 10]) [] [])
    (cnd ((decide (12 < ((↑na1_1 : Int)))))
     (R (.tup [.ro [.int .i64, .int .i64] 0 noDat, .int .i64 8]) [] [])
     (cnd ((bif (m80 a1_0) then false else true))
      (R (.tup [.ro [.int .i64, .int .i64] 0 noDat, .int .i64 2]) [] [])
      (cnd ((decide (na1_1 = na1_1)))
       (cnd (((o111_1 na1_1 da1_1 ((↑na1_1 : Int)) na0_0 da0_0 na0_1 da0_1 a1_0 da1_1 na1_2 da1_2 0 a1_0 0 noDat).isSome))
        (cnd ((((o111_1 na1_1 da1_1 ((↑na1_1 : Int)) na0_0 da0_0 na0_1 da0_1 a1_0 da1_1 na1_2 da1_2 0 a1_0 0 noDat).getD default).fst))
         (R (.tup [.ro [.int .i64, .int .i64] 0 noDat, .int .i64 (((o111_1 na1_1 da1_1 ((↑na1_1 : Int)) na0_0 da0_0 na0_1 da0_1 a1_0 da1_1 na1_2 da1_2 0 a1_0 0 noDat).getD default).snd.fst.fst)]) [] [])
         (cnd ((decide ((0 + (((o111_1 na1_1 da1_1 ((↑na1_1 : Int)) na0_0 da0_0 na0_1 da0_1 a1_0 da1_1 na1_2 da1_2 0 a1_0 0 noDat).getD default).snd.snd.fst)) ≤ (((o111_1 na1_1 da1_1 ((↑na1_1 : Int)) na0_0 da0_0 na0_1 da0_1 a1_0 da1_1 na1_2 da1_2 0 a1_0 0 noDat).getD default).snd.snd.snd.fst))))
          (R (.tup [.ro [.int .i64, .int .i64] (((o111_1 na1_1 da1_1 ((↑na1_1 : Int)) na0_0 da0_0 na0_1 da0_1 a1_0 da1_1 na1_2 da1_2 0 a1_0 0 noDat).getD default).snd.snd.fst) (((o111_1 na1_1 da1_1 ((↑na1_1 : Int)) na0_0 da0_0 na0_1 da0_1 a1_0 da1_1 na1_2 da1_2 0 a1_0 0 noDat).getD default).snd.snd.snd.snd), .int .i64 0]) [] [])
          False))
        False)
       False)))))
  False) := by kernel_rfl
noncomputable def m111 (na0_0 : Nat) (da0_0 : Dat) (na0_1 : Nat) (da0_1 : Dat) (a1_0 : Int) (na1_1 : Nat) (da1_1 : Dat) (na1_2 : Nat) (da1_2 : Dat) : Nat × Dat × Int :=
  (cond ((bif (decide ((m28 na0_0 da0_0 na0_1 da0_1) = 0)) then false else true)) (0, noDat, (m28 na0_0 da0_0 na0_1 da0_1)) (cond ((bif (decide (((↑na1_1 : Int)) = 0)) then true else (bif (decide (((↑na1_2 : Int)) = ((↑na1_1 : Int)))) then false else true))) (0, noDat, 10) (cond ((decide (12 < ((↑na1_1 : Int))))) (0, noDat, 8) (cond ((bif (m80 a1_0) then false else true)) (0, noDat, 2) (cond ((((o111_1 na1_1 da1_1 ((↑na1_1 : Int)) na0_0 da0_0 na0_1 da0_1 a1_0 da1_1 na1_2 da1_2 0 a1_0 0 noDat).getD default).fst)) (0, noDat, (((o111_1 na1_1 da1_1 ((↑na1_1 : Int)) na0_0 da0_0 na0_1 da0_1 a1_0 da1_1 na1_2 da1_2 0 a1_0 0 noDat).getD default).snd.fst.fst)) ((((o111_1 na1_1 da1_1 ((↑na1_1 : Int)) na0_0 da0_0 na0_1 da0_1 a1_0 da1_1 na1_2 da1_2 0 a1_0 0 noDat).getD default).snd.snd.fst), (((o111_1 na1_1 da1_1 ((↑na1_1 : Int)) na0_0 da0_0 na0_1 da0_1 a1_0 da1_1 na1_2 da1_2 0 a1_0 0 noDat).getD default).snd.snd.snd.snd), 0))))))
noncomputable def n111 (na0_0 : Nat) (da0_0 : Dat) (na0_1 : Nat) (da0_1 : Dat) (a1_0 : Int) (na1_1 : Nat) (da1_1 : Dat) (na1_2 : Nat) (da1_2 : Dat) : Bool :=
  (((n28 na0_0 da0_0 na0_1 da0_1)) && (cond ((bif (decide ((m28 na0_0 da0_0 na0_1 da0_1) = 0)) then false else true)) true (cond ((bif (decide (((↑na1_1 : Int)) = 0)) then true else (bif (decide (((↑na1_2 : Int)) = ((↑na1_1 : Int)))) then false else true))) true (cond ((decide (12 < ((↑na1_1 : Int))))) true (cond ((bif (m80 a1_0) then false else true)) true ((((o111_1 na1_1 da1_1 ((↑na1_1 : Int)) na0_0 da0_0 na0_1 da0_1 a1_0 da1_1 na1_2 da1_2 0 a1_0 0 noDat).isSome)) && (cond ((((o111_1 na1_1 da1_1 ((↑na1_1 : Int)) na0_0 da0_0 na0_1 da0_1 a1_0 da1_1 na1_2 da1_2 0 a1_0 0 noDat).getD default).fst)) true (((decide ((0 + (((o111_1 na1_1 da1_1 ((↑na1_1 : Int)) na0_0 da0_0 na0_1 da0_1 a1_0 da1_1 na1_2 da1_2 0 a1_0 0 noDat).getD default).snd.snd.fst)) ≤ (((o111_1 na1_1 da1_1 ((↑na1_1 : Int)) na0_0 da0_0 na0_1 da0_1 a1_0 da1_1 na1_2 da1_2 0 a1_0 0 noDat).getD default).snd.snd.snd.fst)))) && true))))))))
noncomputable def q111 (r : Nat × Dat × Int) : SV × List Blk × List Blk := (.tup [.ro [.int .i64, .int .i64] r.1 r.2.1, .int .i64 r.2.2], [], [])
noncomputable def g111 : List SV → List Blk → Option OpRes := fun vs bs => match vs, bs with
  | [.agg [.ro [.str] na0_0 da0_0, .ro [.sl [.int .i64]] na0_1 da0_1], .agg [.int .i64 a1_0, .ro [.int .i64] na1_1 da1_1, .ro [.int .i64] na1_2 da1_2]], [] => some (resOf 0 (q111 (m111 na0_0 da0_0 na0_1 da0_1 a1_0 na1_1 da1_1 na1_2 da1_2)) [n111 na0_0 da0_0 na0_1 da0_1 a1_0 na1_1 da1_1 na1_2 da1_2])
  | _, _ => none
noncomputable def c111 : Ctr := genC [.a [.ro [.str], .ro [.sl [.int .i64]]], .a [.k, .ro [.int .i64], .ro [.int .i64]]] g111
theorem p111 (na0_0 : Nat) (da0_0 : Dat) (na0_1 : Nat) (da0_1 : Dat) (a1_0 : Int) (na1_1 : Nat) (da1_1 : Dat) (na1_2 : Nat) (da1_2 : Dat) (hn : n111 na0_0 da0_0 na0_1 da0_1 a1_0 na1_1 da1_1 na1_2 da1_2 = true) : exec Try.prog [(28, c28), (80, c80), (85, c85), (96, c96)] (lamOf [(1, g111_1)]) 8 (Try.f111.body.getD .skip) (initS Try.f111.ntmps [.agg [.ro [.str] na0_0 da0_0, .ro [.sl [.int .i64]] na0_1 da0_1], .agg [.int .i64 a1_0, .ro [.int .i64] na1_1 da1_1, .ro [.int .i64] na1_2 da1_2]] 0 (memOf [])) (retK Try.prog Try.f111.results.toList (outK 0 (List.range 0) [] (.t [.ro [.int .i64, .int .i64], .k]) fun v U N => (v, U, N) = (q111 (m111 na0_0 da0_0 na0_1 da0_1 a1_0 na1_1 da1_1 na1_2 da1_2)))) :=
  propOf (x111 na0_0 da0_0 na0_1 da0_1 a1_0 na1_1 da1_1 na1_2 da1_2 _) (cnd_need (and_l hn) (cnd_of (fun h0 => leaf_of (l := (0, noDat, (m28 na0_0 da0_0 na0_1 da0_1))) (condT h0 rfl) rfl) (fun h0 => cnd_of (fun h1 => leaf_of (l := (0, noDat, 10)) (condF h0 (condT h1 rfl)) rfl) (fun h1 => cnd_of (fun h2 => leaf_of (l := (0, noDat, 8)) (condF h0 (condF h1 (condT h2 rfl))) rfl) (fun h2 => cnd_of (fun h3 => leaf_of (l := (0, noDat, 2)) (condF h0 (condF h1 (condF h2 (condT h3 rfl)))) rfl) (fun h3 => cnd_need (decide_eq_true rfl) (cnd_need (and_l (cond_f h3 (cond_f h2 (cond_f h1 (cond_f h0 (and_r hn)))))) (cnd_of (fun h4 => leaf_of (l := (0, noDat, (((o111_1 na1_1 da1_1 ((↑na1_1 : Int)) na0_0 da0_0 na0_1 da0_1 a1_0 da1_1 na1_2 da1_2 0 a1_0 0 noDat).getD default).snd.fst.fst))) (condF h0 (condF h1 (condF h2 (condF h3 (condT h4 rfl))))) rfl) (fun h4 => cnd_need (and_l (cond_f h4 (and_r (cond_f h3 (cond_f h2 (cond_f h1 (cond_f h0 (and_r hn)))))))) (leaf_of (l := ((((o111_1 na1_1 da1_1 ((↑na1_1 : Int)) na0_0 da0_0 na0_1 da0_1 a1_0 da1_1 na1_2 da1_2 0 a1_0 0 noDat).getD default).snd.snd.fst), (((o111_1 na1_1 da1_1 ((↑na1_1 : Int)) na0_0 da0_0 na0_1 da0_1 a1_0 da1_1 na1_2 da1_2 0 a1_0 0 noDat).getD default).snd.snd.snd.snd), 0)) (condF h0 (condF h1 (condF h2 (condF h3 (condF h4 rfl))))) rfl))))))))))
theorem k111 : CtrOk Try.prog c111 111 := ctr_of (tabOk_cons k28 (tabOk_cons k80 (tabOk_cons k85 (tabOk_cons k96 tabOk_nil)))) mix_ok 8 (fn := Try.f111) (c := (Try.f111.body.getD .skip)) (grs := []) (rh := .t [.ro [.int .i64, .int .i64], .k]) (Λ := (lamOf [(1, g111_1)])) Try.func111 rfl (by kernel_rfl) (lam_of rfl (lams_cons z111_1 lams_nil)) fun vs bs q h hn => by
  unfold g111 at h
  split at h <;> cases h
  exact ⟨_, rfl, p111 _ _ _ _ _ _ _ _ _ (hn _ (List.mem_singleton.2 rfl))⟩
/-! ### shotline/shotlinelaw08.flat -/
/-! #### loop 0 -/
noncomputable def l24_0 (b0_0 : Nat) (b0_1 : Dat) (b0_2 : Nat) (b0_3 : Dat) : Nat → Int → Option (Bool × (Bool) × (Unit))
  | 0, _ => none
  | f + 1, t3 => (cond ((decide (t3 < ((↑b0_0 : Int))))) (cond ((decide (0 ≤ t3 ∧ t3 < (↑b0_0 : Int)))) (cond ((decide ((20 : Int) < ((↑((b0_1.ss t3.toNat 0).size) : Int))))) (some (true, false, default)) (l24_0 b0_0 b0_1 b0_2 b0_3 f (IntKind.i64.wrap (t3 + 1)))) none) (some (false, default, ())))
noncomputable abbrev o24_0 (b0_0 : Nat) (b0_1 : Dat) (b0_2 : Nat) (b0_3 : Dat) (t3 : Int) : Option (Bool × (Bool) × (Unit)) := l24_0 b0_0 b0_1 b0_2 b0_3 (t3.toNat + b0_0 + b0_2 + 8) t3
noncomputable def e24_0 (b0_0 : Nat) (b0_1 : Dat) (b0_2 : Nat) (b0_3 : Dat) (r : Bool × (Bool) × (Unit)) (K : XR) : Prop := cnd r.1 (K (XE.ret) [.ptr 0 0, .bool r.2.1] [.cells 43 [.ro [.str] b0_0 b0_1, .ro [.sl [.int .i64]] b0_2 b0_3]]) (K (XE.exit 0) [.ptr 0 0, .any] [.cells 43 [.ro [.str] b0_0 b0_1, .ro [.sl [.int .i64]] b0_2 b0_3]])
noncomputable def g24_0 : LSum := fun s k => match czv 0 55 [1, 3] 1 [] s with
  | some ([.ptr 0 0, .int .i64 t3], [.cells 43 [.ro [.str] b0_0 b0_1, .ro [.sl [.int .i64]] b0_2 b0_3]]) => needs [(o24_0 b0_0 b0_1 b0_2 b0_3 t3).isSome] (e24_0 b0_0 b0_1 b0_2 b0_3 ((o24_0 b0_0 b0_1 b0_2 b0_3 t3).getD default) fun e vs bs => inBlk 0 k e (mkSt 0 55 [1, 2] vs 1 bs))
  | _ => False
theorem y24_0 (t3 : Int) (b0_0 : Nat) (b0_1 : Dat) (b0_2 : Nat) (b0_3 : Dat) (R : XR) : exec Try.prog [] (fun _ => none) 8 (unloop (bodyAt (Try.f24.body.getD .skip) 0)) (mkSt 0 55 [1, 3] [.ptr 0 0, .int .i64 t3] 1 [.cells 43 [.ro [.str] b0_0 b0_1, .ro [.sl [.int .i64]] b0_2 b0_3]]) (canonK 0 55 [1, 3] [1, 2] 1 [] R) =
  (cnd ((decide (t3 < ((↑b0_0 : Int)))))
  (cnd ((decide (0 ≤ t3 ∧ t3 < (↑b0_0 : Int))))
   (cnd ((decide ((20 : Int) < ((↑((b0_1.ss t3.toNat 0).size) : Int)))))
    (R (XE.ret) [.ptr 0 0, .bool false] [.cells 43 [.ro [.str] b0_0 b0_1, .ro [.sl [.int .i64]] b0_2 b0_3]])
    (R (XE.normal) [.ptr 0 0, .int .i64 (IntKind.i64.wrap (t3 + 1))] [.cells 43 [.ro [.str] b0_0 b0_1, .ro [.sl [.int .i64]] b0_2 b0_3]]))
   False)
  (R (XE.exit 0) [.ptr 0 0, .any] [.cells 43 [.ro [.str] b0_0 b0_1, .ro [.sl [.int .i64]] b0_2 b0_3]])) := by kernel_rfl
theorem z24_0 : LOk Try.prog g24_0 (.block 0 (bodyAt (Try.f24.body.getD .skip) 0)) := by
  refine loop_blk (ι := Int × Nat × Dat × Nat × Dat) (L := []) (Λ := (fun _ => none)) (fuel := 8) (na := 0) (nt := 55) (nx := 1) (Lh := [1, 3]) (Le := [1, 2]) (gl := []) tabOk_nil mix_ok noLam rfl (fun f x K => GG default (e24_0 x.2.1 x.2.2.1 x.2.2.2.1 x.2.2.2.2) K (l24_0 x.2.1 x.2.2.1 x.2.2.2.1 x.2.2.2.2 f x.1)) (fun x => [.ptr 0 0, .int .i64 x.1]) (fun x => [.cells 43 [.ro [.str] x.2.1 x.2.2.1, .ro [.sl [.int .i64]] x.2.2.2.1 x.2.2.2.2]]) (fun x K => gg_none) ?_ ?_
  · rintro f ⟨t3, b0_0, b0_1, b0_2, b0_3⟩ K hG
    have hG : GG default (e24_0 b0_0 b0_1 b0_2 b0_3) K (cond ((decide (t3 < ((↑b0_0 : Int))))) (cond ((decide (0 ≤ t3 ∧ t3 < (↑b0_0 : Int)))) (cond ((decide ((20 : Int) < ((↑((b0_1.ss t3.toNat 0).size) : Int))))) (some (true, false, default)) (l24_0 b0_0 b0_1 b0_2 b0_3 f (IntKind.i64.wrap (t3 + 1)))) none) (some (false, default, ()))) := hG
    refine propOf (y24_0 t3 b0_0 b0_1 b0_2 b0_3 _) ?_
    exact cnd_gg2 hG (fun h0 => cnd_gg h0 fun h1 => cnd_gg2 h1 (fun h2 => h2.2) (fun h2 => ⟨((IntKind.i64.wrap (t3 + 1)), b0_0, b0_1, b0_2, b0_3), rfl, rfl, h2⟩)) (fun h0 => h0.2)
  · intro s k h
    unfold g24_0 at h
    split at h <;> try exact h.elim
    rename_i e1
    rw [needs_iff] at h
    exact ⟨_, e1, _, (_, _, _, _, _), rfl, rfl, h.1 _ (List.mem_singleton.2 rfl), h.2⟩
/-! #### loop 2 -/
noncomputable def l24_2 (b0_0 : Nat) (b0_1 : Dat) (b0_2 : Nat) (b0_3 : Dat) : Nat → Int → Option (Bool × (Bool) × (Unit))
  | 0, _ => none
  | f + 1, t4 => (cond ((decide (t4 < ((↑b0_2 : Int))))) (cond ((decide (0 ≤ t4 ∧ t4 < (↑b0_2 : Int)))) (cond ((decide (14 < ((↑(b0_3.sn t4.toNat 0) : Int))))) (some (true, false, default)) (l24_2 b0_0 b0_1 b0_2 b0_3 f (IntKind.i64.wrap (t4 + 1)))) none) (some (false, default, ())))
noncomputable abbrev o24_2 (b0_0 : Nat) (b0_1 : Dat) (b0_2 : Nat) (b0_3 : Dat) (t4 : Int) : Option (Bool × (Bool) × (Unit)) := l24_2 b0_0 b0_1 b0_2 b0_3 (t4.toNat + b0_0 + b0_2 + 8) t4
noncomputable def e24_2 (b0_0 : Nat) (b0_1 : Dat) (b0_2 : Nat) (b0_3 : Dat) (r : Bool × (Bool) × (Unit)) (K : XR) : Prop := cnd r.1 (K (XE.ret) [.bool r.2.1] [.cells 43 [.ro [.str] b0_0 b0_1, .ro [.sl [.int .i64]] b0_2 b0_3]]) (K (XE.exit 2) [.any] [.cells 43 [.ro [.str] b0_0 b0_1, .ro [.sl [.int .i64]] b0_2 b0_3]])
noncomputable def g24_2 : LSum := fun s k => match czv 0 55 [1, 4] 1 [] s with
  | some ([.ptr 0 0, .int .i64 t4], [.cells 43 [.ro [.str] b0_0 b0_1, .ro [.sl [.int .i64]] b0_2 b0_3]]) => needs [(o24_2 b0_0 b0_1 b0_2 b0_3 t4).isSome] (e24_2 b0_0 b0_1 b0_2 b0_3 ((o24_2 b0_0 b0_1 b0_2 b0_3 t4).getD default) fun e vs bs => inBlk 2 k e (mkSt 0 55 [2] vs 1 bs))
  | _ => False
theorem y24_2 (t4 : Int) (b0_0 : Nat) (b0_1 : Dat) (b0_2 : Nat) (b0_3 : Dat) (R : XR) : exec Try.prog [] (lamOf [(0, g24_0)]) 8 (unloop (bodyAt (Try.f24.body.getD .skip) 2)) (mkSt 0 55 [1, 4] [.ptr 0 0, .int .i64 t4] 1 [.cells 43 [.ro [.str] b0_0 b0_1, .ro [.sl [.int .i64]] b0_2 b0_3]]) (canonK 0 55 [1, 4] [2] 1 [] R) =
  (cnd ((decide (t4 < ((↑b0_2 : Int)))))
  (cnd ((decide (0 ≤ t4 ∧ t4 < (↑b0_2 : Int))))
   (cnd ((decide (14 < ((↑(b0_3.sn t4.toNat 0) : Int)))))
    (R (XE.ret) [.bool false] [.cells 43 [.ro [.str] b0_0 b0_1, .ro [.sl [.int .i64]] b0_2 b0_3]])
    (R (XE.normal) [.ptr 0 0, .int .i64 (IntKind.i64.wrap (t4 + 1))] [.cells 43 [.ro [.str] b0_0 b0_1, .ro [.sl [.int .i64]] b0_2 b0_3]]))
   False)
  (R (XE.exit 2) [.any] [.cells 43 [.ro [.str] b0_0 b0_1, .ro [.sl [.int .i64]] b0_2 b0_3]])) := by kernel_rfl
theorem z24_2 : LOk Try.prog g24_2 (.block 2 (bodyAt (Try.f24.body.getD .skip) 2)) := by
  refine loop_blk (ι := Int × Nat × Dat × Nat × Dat) (L := []) (Λ := (lamOf [(0, g24_0)])) (fuel := 8) (na := 0) (nt := 55) (nx := 1) (Lh := [1, 4]) (Le := [2]) (gl := []) tabOk_nil mix_ok (lam_of rfl (lams_cons z24_0 lams_nil)) rfl (fun f x K => GG default (e24_2 x.2.1 x.2.2.1 x.2.2.2.1 x.2.2.2.2) K (l24_2 x.2.1 x.2.2.1 x.2.2.2.1 x.2.2.2.2 f x.1)) (fun x => [.ptr 0 0, .int .i64 x.1]) (fun x => [.cells 43 [.ro [.str] x.2.1 x.2.2.1, .ro [.sl [.int .i64]] x.2.2.2.1 x.2.2.2.2]]) (fun x K => gg_none) ?_ ?_
  · rintro f ⟨t4, b0_0, b0_1, b0_2, b0_3⟩ K hG
    have hG : GG default (e24_2 b0_0 b0_1 b0_2 b0_3) K (cond ((decide (t4 < ((↑b0_2 : Int))))) (cond ((decide (0 ≤ t4 ∧ t4 < (↑b0_2 : Int)))) (cond ((decide (14 < ((↑(b0_3.sn t4.toNat 0) : Int))))) (some (true, false, default)) (l24_2 b0_0 b0_1 b0_2 b0_3 f (IntKind.i64.wrap (t4 + 1)))) none) (some (false, default, ()))) := hG
    refine propOf (y24_2 t4 b0_0 b0_1 b0_2 b0_3 _) ?_
    exact cnd_gg2 hG (fun h0 => cnd_gg h0 fun h1 => cnd_gg2 h1 (fun h2 => h2.2) (fun h2 => ⟨((IntKind.i64.wrap (t4 + 1)), b0_0, b0_1, b0_2, b0_3), rfl, rfl, h2⟩)) (fun h0 => h0.2)
  · intro s k h
    unfold g24_2 at h
    split at h <;> try exact h.elim
    rename_i e1
    rw [needs_iff] at h
    exact ⟨_, e1, _, (_, _, _, _, _), rfl, rfl, h.1 _ (List.mem_singleton.2 rfl), h.2⟩
theorem x24 (na0_0 : Nat) (da0_0 : Dat) (na0_1 : Nat) (da0_1 : Dat) (R : SV → List Blk → List Blk → Prop) : exec Try.prog [] (lamOf [(0, g24_0), (2, g24_2)]) 8 (Try.f24.body.getD .skip) (initS Try.f24.ntmps [.agg [.ro [.str] na0_0 da0_0, .ro [.sl [.int .i64]] na0_1 da0_1]] 0 (memOf [])) (retK Try.prog Try.f24.results.toList (outK 0 (List.range 0) [] (.k) fun v U N => R v U N)) =
  (cnd ((bif (bif (bif (decide (6 < ((↑na0_0 : Int)))) then (decide (((↑na0_0 : Int)) ≤ 12)) else false) then true else (decide (14 < ((↑na0_0 : Int))))) then true else (decide (14 < ((↑na0_1 : Int))))))
  (R (.bool false) [] [])
  (cnd (((o24_0 na0_0 da0_0 na0_1 da0_1 0).isSome))
   (cnd ((((o24_0 na0_0 da0_0 na0_1 da0_1 0).getD default).fst))
    (R (.bool (((o24_0 na0_0 da0_0 na0_1 da0_1 0).getD default).snd.fst)) [] [])
    (cnd (((o24_2 na0_0 da0_0 na0_1 da0_1 0).isSome))
     (cnd ((((o24_2 na0_0 da0_0 na0_1 da0_1 0).getD default).fst))
      (R (.bool (((o24_2 na0_0 da0_0 na0_1 da0_1 0).getD default).snd.fst)) [] [])
      (R (.bool true) [] []))
     False))
   False)) := by kernel_rfl
noncomputable def m24 (na0_0 : Nat) (da0_0 : Dat) (na0_1 : Nat) (da0_1 : Dat) : Bool :=
  (cond ((bif (bif (bif (decide (6 < ((↑na0_0 : Int)))) then (decide (((↑na0_0 : Int)) ≤ 12)) else false) then true else (decide (14 < ((↑na0_0 : Int))))) then true else (decide (14 < ((↑na0_1 : Int)))))) false (cond ((((o24_0 na0_0 da0_0 na0_1 da0_1 0).getD default).fst)) (((o24_0 na0_0 da0_0 na0_1 da0_1 0).getD default).snd.fst) (cond ((((o24_2 na0_0 da0_0 na0_1 da0_1 0).getD default).fst)) (((o24_2 na0_0 da0_0 na0_1 da0_1 0).getD default).snd.fst) true)))
noncomputable def n24 (na0_0 : Nat) (da0_0 : Dat) (na0_1 : Nat) (da0_1 : Dat) : Bool :=
  (cond ((bif (bif (bif (decide (6 < ((↑na0_0 : Int)))) then (decide (((↑na0_0 : Int)) ≤ 12)) else false) then true else (decide (14 < ((↑na0_0 : Int))))) then true else (decide (14 < ((↑na0_1 : Int)))))) true ((((o24_0 na0_0 da0_0 na0_1 da0_1 0).isSome)) && (cond ((((o24_0 na0_0 da0_0 na0_1 da0_1 0).getD default).fst)) true ((((o24_2 na0_0 da0_0 na0_1 da0_1 0).isSome)) && true))))
noncomputable def q24 (r : Bool) : SV × List Blk × List Blk := (.bool r, [], [])
noncomputable def g24 : List SV → List Blk → Option OpRes := fun vs bs => match vs, bs with
  | [.agg [.ro [.str] na0_0 da0_0, .ro [.sl [.int .i64]] na0_1 da0_1]], [] => some (resOf 0 (q24 (m24 na0_0 da0_0 na0_1 da0_1)) [n24 na0_0 da0_0 na0_1 da0_1])
  | _, _ => none
noncomputable def c24 : Ctr := genC [.a [.ro [.str], .ro [.sl [.int .i64]]]] g24
theorem p24 (na0_0 : Nat) (da0_0 : Dat) (na0_1 : Nat) (da0_1 : Dat) (hn : n24 na0_0 da0_0 na0_1 da0_1 = true) : exec Try.prog [] (lamOf [(0, g24_0), (2, g24_2)]) 8 (Try.f24.body.getD .skip) (initS Try.f24.ntmps [.agg [.ro [.str] na0_0 da0_0, .ro [.sl [.int .i64]] na0_1 da0_1]] 0 (memOf [])) (retK Try.prog Try.f24.results.toList (outK 0 (List.range 0) [] (.k) fun v U N => (v, U, N) = (q24 (m24 na0_0 da0_0 na0_1 da0_1)))) :=
  propOf (x24 na0_0 da0_0 na0_1 da0_1 _) (cnd_of (fun h0 => leaf_of (l := false) (condT h0 rfl) rfl) (fun h0 => cnd_need (and_l (cond_f h0 hn)) (cnd_of (fun h1 => leaf_of (l := (((o24_0 na0_0 da0_0 na0_1 da0_1 0).getD default).snd.fst)) (condF h0 (condT h1 rfl)) rfl) (fun h1 => cnd_need (and_l (cond_f h1 (and_r (cond_f h0 hn)))) (cnd_of (fun h2 => leaf_of (l := (((o24_2 na0_0 da0_0 na0_1 da0_1 0).getD default).snd.fst)) (condF h0 (condF h1 (condT h2 rfl))) rfl) (fun h2 => leaf_of (l := true) (condF h0 (condF h1 (condF h2 rfl))) rfl))))))
theorem k24 : CtrOk Try.prog c24 24 := ctr_of tabOk_nil mix_ok 8 (fn := Try.f24) (c := (Try.f24.body.getD .skip)) (grs := []) (rh := .k) (Λ := (lamOf [(0, g24_0), (2, g24_2)])) Try.func24 rfl (by kernel_rfl) (lam_of rfl (lams_cons z24_0 (lams_cons z24_2 lams_nil))) fun vs bs q h hn => by
  unfold g24 at h
  split at h <;> cases h
  exact ⟨_, rfl, p24 _ _ _ _ (hn _ (List.mem_singleton.2 rfl))⟩
/-! ### shotline/shotlineref08.Least -/
/-! #### loop 0 -/
noncomputable def l30_0 (t1 : Int) (t2 : Int) (t7 : Int) (t8 : Nat) (b0_0 : Nat) (b0_1 : Dat) (b0_2 : Nat) (b0_3 : Dat) : Nat → Int → Dat → Option (Dat)
  | 0, _, _ => none
  | f + 1, t9, b1_1 => (cond ((decide (t9 < t7))) (cond ((decide (0 ≤ t9 ∧ t9 < (↑t8 : Int)))) (cond ((decide (t9.toNat < t8))) (l30_0 t1 t2 t7 t8 b0_0 b0_1 b0_2 b0_3 f (IntKind.i64.wrap (t9 + 1)) (b1_1.upd t9.toNat 0 [SV.int IntKind.i64 (-1)])) none) none) (some b1_1))
noncomputable abbrev o30_0 (t1 : Int) (t2 : Int) (t7 : Int) (t8 : Nat) (b0_0 : Nat) (b0_1 : Dat) (b0_2 : Nat) (b0_3 : Dat) (t9 : Int) (b1_1 : Dat) : Option (Dat) := l30_0 t1 t2 t7 t8 b0_0 b0_1 b0_2 b0_3 (t1.toNat + t2.toNat + t7.toNat + t8 + t9.toNat + b0_0 + b0_2 + 8) t9 b1_1
noncomputable def e30_0 (t1 : Int) (t2 : Int) (t7 : Int) (t8 : Nat) (b0_0 : Nat) (b0_1 : Dat) (b0_2 : Nat) (b0_3 : Dat) (r : Dat) (K : XR) : Prop := K (XE.exit 0) [.int .i64 t1, .int .i64 t2, .ptr 0 0, .int .i64 t7, .own 1 1 t8] [.cells 43 [.ro [.str] b0_0 b0_1, .ro [.sl [.int .i64]] b0_2 b0_3], .row 3 [.int .i64] t8 r]
noncomputable def g30_0 : LSum := fun s k => match czv 0 95 [1, 2, 3, 7, 8, 9] 2 [] s with
  | some ([.int .i64 t1, .int .i64 t2, .ptr 0 0, .int .i64 t7, .own 1 1 t8, .int .i64 t9], [.cells 43 [.ro [.str] b0_0 b0_1, .ro [.sl [.int .i64]] b0_2 b0_3], .row 3 [.int .i64] b1_0 b1_1]) => needs [decide (t8 = b1_0), (o30_0 t1 t2 t7 t8 b0_0 b0_1 b0_2 b0_3 t9 b1_1).isSome] (e30_0 t1 t2 t7 t8 b0_0 b0_1 b0_2 b0_3 ((o30_0 t1 t2 t7 t8 b0_0 b0_1 b0_2 b0_3 t9 b1_1).getD default) fun e vs bs => inBlk 0 k e (mkSt 0 95 [1, 2, 3, 7, 8] vs 2 bs))
  | _ => False
theorem y30_0 (t1 : Int) (t2 : Int) (t7 : Int) (t8 : Nat) (t9 : Int) (b0_0 : Nat) (b0_1 : Dat) (b0_2 : Nat) (b0_3 : Dat) (b1_1 : Dat) (R : XR) : exec Try.prog [] (fun _ => none) 8 (unloop (bodyAt (Try.f30.body.getD .skip) 0)) (mkSt 0 95 [1, 2, 3, 7, 8, 9] [.int .i64 t1, .int .i64 t2, .ptr 0 0, .int .i64 t7, .own 1 1 t8, .int .i64 t9] 2 [.cells 43 [.ro [.str] b0_0 b0_1, .ro [.sl [.int .i64]] b0_2 b0_3], .row 3 [.int .i64] t8 b1_1]) (canonK 0 95 [1, 2, 3, 7, 8, 9] [1, 2, 3, 7, 8] 2 [] R) =
  (cnd ((decide (t9 < t7)))
  (cnd ((decide (0 ≤ t9 ∧ t9 < (↑t8 : Int))))
   (cnd ((decide (t9.toNat < t8)))
    (R (XE.normal) [.int .i64 t1, .int .i64 t2, .ptr 0 0, .int .i64 t7, .own 1 1 t8, .int .i64 (IntKind.i64.wrap (t9 + 1))] [.cells 43 [.ro [.str] b0_0 b0_1, .ro [.sl [.int .i64]] b0_2 b0_3], .row 3 [.int .i64] t8 (b1_1.upd t9.toNat 0 [SV.int IntKind.i64 (-1)])])
    False)
   False)
  (R (XE.exit 0) [.int .i64 t1, .int .i64 t2, .ptr 0 0, .int .i64 t7, .own 1 1 t8] [.cells 43 [.ro [.str] b0_0 b0_1, .ro [.sl [.int .i64]] b0_2 b0_3], .row 3 [.int .i64] t8 b1_1])) := by kernel_rfl
theorem z30_0 : LOk Try.prog g30_0 (.block 0 (bodyAt (Try.f30.body.getD .skip) 0)) := by
  refine loop_blk (ι := Int × Int × Int × Nat × Int × Nat × Dat × Nat × Dat × Dat) (L := []) (Λ := (fun _ => none)) (fuel := 8) (na := 0) (nt := 95) (nx := 2) (Lh := [1, 2, 3, 7, 8, 9]) (Le := [1, 2, 3, 7, 8]) (gl := []) tabOk_nil mix_ok noLam rfl (fun f x K => GG default (e30_0 x.1 x.2.1 x.2.2.1 x.2.2.2.1 x.2.2.2.2.2.1 x.2.2.2.2.2.2.1 x.2.2.2.2.2.2.2.1 x.2.2.2.2.2.2.2.2.1) K (l30_0 x.1 x.2.1 x.2.2.1 x.2.2.2.1 x.2.2.2.2.2.1 x.2.2.2.2.2.2.1 x.2.2.2.2.2.2.2.1 x.2.2.2.2.2.2.2.2.1 f x.2.2.2.2.1 x.2.2.2.2.2.2.2.2.2)) (fun x => [.int .i64 x.1, .int .i64 x.2.1, .ptr 0 0, .int .i64 x.2.2.1, .own 1 1 x.2.2.2.1, .int .i64 x.2.2.2.2.1]) (fun x => [.cells 43 [.ro [.str] x.2.2.2.2.2.1 x.2.2.2.2.2.2.1, .ro [.sl [.int .i64]] x.2.2.2.2.2.2.2.1 x.2.2.2.2.2.2.2.2.1], .row 3 [.int .i64] x.2.2.2.1 x.2.2.2.2.2.2.2.2.2]) (fun x K => gg_none) ?_ ?_
  · rintro f ⟨t1, t2, t7, t8, t9, b0_0, b0_1, b0_2, b0_3, b1_1⟩ K hG
    have hG : GG default (e30_0 t1 t2 t7 t8 b0_0 b0_1 b0_2 b0_3) K (cond ((decide (t9 < t7))) (cond ((decide (0 ≤ t9 ∧ t9 < (↑t8 : Int)))) (cond ((decide (t9.toNat < t8))) (l30_0 t1 t2 t7 t8 b0_0 b0_1 b0_2 b0_3 f (IntKind.i64.wrap (t9 + 1)) (b1_1.upd t9.toNat 0 [SV.int IntKind.i64 (-1)])) none) none) (some b1_1)) := hG
    refine propOf (y30_0 t1 t2 t7 t8 t9 b0_0 b0_1 b0_2 b0_3 b1_1 _) ?_
    exact cnd_gg2 hG (fun h0 => cnd_gg h0 fun h1 => cnd_gg h1 fun h2 => ⟨(t1, t2, t7, t8, (IntKind.i64.wrap (t9 + 1)), b0_0, b0_1, b0_2, b0_3, (b1_1.upd t9.toNat 0 [SV.int IntKind.i64 (-1)])), rfl, rfl, h2⟩) (fun h0 => h0.2)
  · intro s k h
    unfold g30_0 at h
    split at h <;> try exact h.elim
    rename_i e1
    rw [needs_iff] at h
    have hq := h.1
    simp only [List.mem_cons, forall_eq_or_imp, decide_eq_true_eq, List.not_mem_nil, false_imp_iff, implies_true, and_true] at hq
    obtain ⟨rfl, hq⟩ := hq
    exact ⟨_, e1, _, (_, _, _, _, _, _, _, _, _, _), rfl, rfl, hq, h.2⟩
/-! #### loop 6 -/
noncomputable def l30_6 (t2 : Int) (t7 : Int) (t8 : Nat) (t10 : Int) (t11 : Int) (b0_0 : Nat) (b0_1 : Dat) (b0_2 : Nat) (b0_3 : Dat) (b1_0 : Nat) : Nat → Int → Dat → Option (Dat)
  | 0, _, _ => none
  | f + 1, t12, b1_1 => (cond ((decide (t12 < t7))) (cond ((decide (0 ≤ t11 ∧ t11 < (↑t8 : Int)))) (cond ((decide (t11.toNat < b1_0))) (cond ((bif (bif (bif (decide ((b1_1.ii t11.toNat 0) < 0)) then false else true) then false else true) then true else (decide (0 ≤ t11 ∧ t11 < (↑b0_2 : Int))))) (cond ((bif (bif (bif (decide ((b1_1.ii t11.toNat 0) < 0)) then false else true) then false else true) then true else (decide (0 ≤ t12 ∧ t12 < (↑(b0_3.sn t11.toNat 0) : Int))))) (cond ((bif (decide ((b1_1.ii t11.toNat 0) < 0)) then true else (decide (((b0_3.sub t11.toNat 0).ii t12.toNat 0) < 0)))) (l30_6 t2 t7 t8 t10 t11 b0_0 b0_1 b0_2 b0_3 b1_0 f (IntKind.i64.wrap (t12 + 1)) b1_1) (cond ((decide (0 ≤ t11 ∧ t11 < (↑t8 : Int)))) (cond ((decide (t11.toNat < b1_0))) (cond ((decide (0 ≤ t11 ∧ t11 < (↑b0_2 : Int)))) (cond ((decide (0 ≤ t12 ∧ t12 < (↑(b0_3.sn t11.toNat 0) : Int)))) (cond ((decide (0 ≤ t12 ∧ t12 < (↑t8 : Int)))) (cond ((decide (t12.toNat < b1_0))) (cond ((bif (bif (bif (decide ((b1_1.ii t12.toNat 0) < 0)) then false else true) then false else true) then true else (decide (0 ≤ t12 ∧ t12 < (↑t8 : Int))))) (cond ((bif (bif (bif (decide ((b1_1.ii t12.toNat 0) < 0)) then false else true) then false else true) then true else (decide (t12.toNat < b1_0)))) (cond ((bif (decide ((b1_1.ii t12.toNat 0) < 0)) then true else (decide ((IntKind.i64.wrap ((b1_1.ii t11.toNat 0) + ((b0_3.sub t11.toNat 0).ii t12.toNat 0))) < (b1_1.ii t12.toNat 0))))) (cond ((decide (0 ≤ t12 ∧ t12 < (↑t8 : Int)))) (cond ((decide (t12.toNat < b1_0))) (l30_6 t2 t7 t8 t10 t11 b0_0 b0_1 b0_2 b0_3 b1_0 f (IntKind.i64.wrap (t12 + 1)) (b1_1.upd t12.toNat 0 [SV.int IntKind.i64 (IntKind.i64.wrap ((b1_1.ii t11.toNat 0) + ((b0_3.sub t11.toNat 0).ii t12.toNat 0)))])) none) none) (l30_6 t2 t7 t8 t10 t11 b0_0 b0_1 b0_2 b0_3 b1_0 f (IntKind.i64.wrap (t12 + 1)) b1_1)) none) none) none) none) none) none) none) none)) none) none) none) none) (some b1_1))
noncomputable abbrev o30_6 (t2 : Int) (t7 : Int) (t8 : Nat) (t10 : Int) (t11 : Int) (b0_0 : Nat) (b0_1 : Dat) (b0_2 : Nat) (b0_3 : Dat) (b1_0 : Nat) (t12 : Int) (b1_1 : Dat) : Option (Dat) := l30_6 t2 t7 t8 t10 t11 b0_0 b0_1 b0_2 b0_3 b1_0 (t2.toNat + t7.toNat + t8 + t10.toNat + t11.toNat + t12.toNat + b0_0 + b0_2 + b1_0 + 8) t12 b1_1
noncomputable def e30_6 (t2 : Int) (t7 : Int) (t8 : Nat) (t10 : Int) (t11 : Int) (b0_0 : Nat) (b0_1 : Dat) (b0_2 : Nat) (b0_3 : Dat) (b1_0 : Nat) (r : Dat) (K : XR) : Prop := K (XE.exit 6) [.int .i64 t2, .ptr 0 0, .int .i64 t7, .own 1 1 t8, .int .i64 t10, .int .i64 t11] [.cells 43 [.ro [.str] b0_0 b0_1, .ro [.sl [.int .i64]] b0_2 b0_3], .row 3 [.int .i64] b1_0 r]
noncomputable def g30_6 : LSum := fun s k => match czv 0 95 [2, 3, 7, 8, 10, 11, 12] 2 [] s with
  | some ([.int .i64 t2, .ptr 0 0, .int .i64 t7, .own 1 1 t8, .int .i64 t10, .int .i64 t11, .int .i64 t12], [.cells 43 [.ro [.str] b0_0 b0_1, .ro [.sl [.int .i64]] b0_2 b0_3], .row 3 [.int .i64] b1_0 b1_1]) => needs [(o30_6 t2 t7 t8 t10 t11 b0_0 b0_1 b0_2 b0_3 b1_0 t12 b1_1).isSome] (e30_6 t2 t7 t8 t10 t11 b0_0 b0_1 b0_2 b0_3 b1_0 ((o30_6 t2 t7 t8 t10 t11 b0_0 b0_1 b0_2 b0_3 b1_0 t12 b1_1).getD default) fun e vs bs => inBlk 6 k e (mkSt 0 95 [2, 3, 7, 8, 10, 11] vs 2 bs))
  | _ => False
theorem y30_6 (t2 : Int) (t7 : Int) (t8 : Nat) (t10 : Int) (t11 : Int) (t12 : Int) (b0_0 : Nat) (b0_1 : Dat) (b0_2 : Nat) (b0_3 : Dat) (b1_0 : Nat) (b1_1 : Dat) (R : XR) : exec Try.prog [] (lamOf [(0, g30_0)]) 8 (unloop (bodyAt (Try.f30.body.getD .skip) 6)) (mkSt 0 95 [2, 3, 7, 8, 10, 11, 12] [.int .i64 t2, .ptr 0 0, .int .i64 t7, .own 1 1 t8, .int .i64 t10, .int .i64 t11, .int .i64 t12] 2 [.cells 43 [.ro [.str] b0_0 b0_1, .ro [.sl [.int .i64]] b0_2 b0_3], .row 3 [.int .i64] b1_0 b1_1]) (canonK 0 95 [2, 3, 7, 8, 10, 11, 12] [2, 3, 7, 8, 10, 11] 2 [] R) =
  (cnd ((decide (t12 < t7)))
  (cnd ((decide (0 ≤ t11 ∧ t11 < (↑t8 : Int))))
   (cnd ((decide (t11.toNat < b1_0)))
    (cnd ((bif (bif (bif (decide ((b1_1.ii t11.toNat 0) < 0)) then false else true) then false else true) then true else (decide (0 ≤ t11 ∧ t11 < (↑b0_2 : Int)))))
     (cnd ((bif (bif (bif (decide ((b1_1.ii t11.toNat 0) < 0)) then false else true) then false else true) then true else (decide (0 ≤ t12 ∧ t12 < (↑(b0_3.sn t11.toNat 0) : Int)))))
      (cnd ((bif (decide ((b1_1.ii t11.toNat 0) < 0)) then true else (decide (((b0_3.sub t11.toNat 0).ii t12.toNat 0) < 0))))
       (R (XE.normal) [.int .i64 t2, .ptr 0 0, .int .i64 t7, .own 1 1 t8, .int .i64 t10, .int .i64 t11, .int .i64 (IntKind.i64.wrap (t12 + 1))] [.cells 43 [.ro [.str] b0_0 b0_1, .ro [.sl [.int .i64]] b0_2 b0_3], .row 3 [.int .i64] b1_0 b1_1])
       (cnd ((decide (0 ≤ t11 ∧ t11 < (↑t8 : Int))))
        (cnd ((decide (t11.toNat < b1_0)))
         (cnd ((decide (0 ≤ t11 ∧ t11 < (↑b0_2 : Int))))
          (cnd ((decide (0 ≤ t12 ∧ t12 < (↑(b0_3.sn t11.toNat 0) : Int))))
           (cnd ((decide (0 ≤ t12 ∧ t12 < (↑t8 : Int))))
            (cnd ((decide (t12.toNat < b1_0)))
             (cnd ((bif (bif (bif (decide ((b1_1.ii t12.toNat 0) < 0)) then false else true) then false else true) then true else (decide (0 ≤ t12 ∧ t12 < (↑t8 : Int)))))
              (cnd ((bif (bif (bif (decide ((b1_1.ii t12.toNat 0) < 0)) then false else true) then false else true) then true else (decide (t12.toNat < b1_0))))
               (cnd ((bif (decide ((b1_1.ii t12.toNat 0) < 0)) then true else (decide ((IntKind.i64.wrap ((b1_1.ii t11.toNat 0) + ((b0_3.sub t11.toNat 0).ii t12.toNat 0))) < (b1_1.ii t12.toNat 0)))))
                (cnd ((decide (0 ≤ t12 ∧ t12 < (↑t8 : Int))))
                 (cnd ((decide (t12.toNat < b1_0)))
                  (R (XE.normal) [.int .i64 t2, .ptr 0 0, .int .i64 t7, .own 1 1 t8, .int .i64 t10, .int .i64 t11, .int .i64 (IntKind.i64.wrap (t12 + 1))] [.cells 43 [.ro [.str] b0_0 b0_1, .ro [.sl [.int .i64]] b0_2 b0_3], .row 3 [.int .i64] b1_0 (b1_1.upd t12.toNat 0 [SV.int IntKind.i64 (IntKind.i64.wrap ((b1_1.ii t11.toNat 0) + ((b0_3.sub t11.toNat 0).ii t12.toNat 0)))])])
                  False)
                 False)
                (R (XE.normal) [.int .i64 t2, .ptr 0 0, .int .i64 t7, .own 1 1 t8, .int .i64 t10, .int .i64 t11, .int .i64 (IntKind.i64.wrap (t12 + 1))] [.cells 43 [.ro [.str] b0_0 b0_1, .ro [.sl [.int .i64]] b0_2 b0_3], .row 3 [.int .i64] b1_0 b1_1]))
               False)
              False)
             False)
            False)
           False)
          False)
         False)
        False))
      False)
     False)
    False)
   False)
  (R (XE.exit 6) [.int .i64 t2, .ptr 0 0, .int .i64 t7, .own 1 1 t8, .int .i64 t10, .int .i64 t11] [.cells 43 [.ro [.str] b0_0 b0_1, .ro [.sl [.int .i64]] b0_2 b0_3], .row 3 [.int .i64] b1_0 b1_1])) := by kernel_rfl
theorem z30_6 : LOk Try.prog g30_6 (.block 6 (bodyAt (Try.f30.body.getD .skip) 6)) := by
  refine loop_blk (ι := Int × Int × Nat × Int × Int × Int × Nat × Dat × Nat × Dat × Nat × Dat) (L := []) (Λ := (lamOf [(0, g30_0)])) (fuel := 8) (na := 0) (nt := 95) (nx := 2) (Lh := [2, 3, 7, 8, 10, 11, 12]) (Le := [2, 3, 7, 8, 10, 11]) (gl := []) tabOk_nil mix_ok (lam_of rfl (lams_cons z30_0 lams_nil)) rfl (fun f x K => GG default (e30_6 x.1 x.2.1 x.2.2.1 x.2.2.2.1 x.2.2.2.2.1 x.2.2.2.2.2.2.1 x.2.2.2.2.2.2.2.1 x.2.2.2.2.2.2.2.2.1 x.2.2.2.2.2.2.2.2.2.1 x.2.2.2.2.2.2.2.2.2.2.1) K (l30_6 x.1 x.2.1 x.2.2.1 x.2.2.2.1 x.2.2.2.2.1 x.2.2.2.2.2.2.1 x.2.2.2.2.2.2.2.1 x.2.2.2.2.2.2.2.2.1 x.2.2.2.2.2.2.2.2.2.1 x.2.2.2.2.2.2.2.2.2.2.1 f x.2.2.2.2.2.1 x.2.2.2.2.2.2.2.2.2.2.2)) (fun x => [.int .i64 x.1, .ptr 0 0, .int .i64 x.2.1, .own 1 1 x.2.2.1, .int .i64 x.2.2.2.1, .int .i64 x.2.2.2.2.1, .int .i64 x.2.2.2.2.2.1]) (fun x => [.cells 43 [.ro [.str] x.2.2.2.2.2.2.1 x.2.2.2.2.2.2.2.1, .ro [.sl [.int .i64]] x.2.2.2.2.2.2.2.2.1 x.2.2.2.2.2.2.2.2.2.1], .row 3 [.int .i64] x.2.2.2.2.2.2.2.2.2.2.1 x.2.2.2.2.2.2.2.2.2.2.2]) (fun x K => gg_none) ?_ ?_
  · rintro f ⟨t2, t7, t8, t10, t11, t12, b0_0, b0_1, b0_2, b0_3, b1_0, b1_1⟩ K hG
    have hG : GG default (e30_6 t2 t7 t8 t10 t11 b0_0 b0_1 b0_2 b0_3 b1_0) K (cond ((decide (t12 < t7))) (cond ((decide (0 ≤ t11 ∧ t11 < (↑t8 : Int)))) (cond ((decide (t11.toNat < b1_0))) (cond ((bif (bif (bif (decide ((b1_1.ii t11.toNat 0) < 0)) then false else true) then false else true) then true else (decide (0 ≤ t11 ∧ t11 < (↑b0_2 : Int))))) (cond ((bif (bif (bif (decide ((b1_1.ii t11.toNat 0) < 0)) then false else true) then false else true) then true else (decide (0 ≤ t12 ∧ t12 < (↑(b0_3.sn t11.toNat 0) : Int))))) (cond ((bif (decide ((b1_1.ii t11.toNat 0) < 0)) then true else (decide (((b0_3.sub t11.toNat 0).ii t12.toNat 0) < 0)))) (l30_6 t2 t7 t8 t10 t11 b0_0 b0_1 b0_2 b0_3 b1_0 f (IntKind.i64.wrap (t12 + 1)) b1_1) (cond ((decide (0 ≤ t11 ∧ t11 < (↑t8 : Int)))) (cond ((decide (t11.toNat < b1_0))) (cond ((decide (0 ≤ t11 ∧ t11 < (↑b0_2 : Int)))) (cond ((decide (0 ≤ t12 ∧ t12 < (↑(b0_3.sn t11.toNat 0) : Int)))) (cond ((decide (0 ≤ t12 ∧ t12 < (↑t8 : Int)))) (cond ((decide (t12.toNat < b1_0))) (cond ((bif (bif (bif (decide ((b1_1.ii t12.toNat 0) < 0)) then false else true) then false else true) then true else (decide (0 ≤ t12 ∧ t12 < (↑t8 : Int))))) (cond ((bif (bif (bif (decide ((b1_1.ii t12.toNat 0) < 0)) then false else true) then false else true) then true else (decide (t12.toNat < b1_0)))) (cond ((bif (decide ((b1_1.ii t12.toNat 0) < 0)) then true else (decide ((IntKind.i64.wrap ((b1_1.ii t11.toNat 0) + ((b0_3.sub t11.toNat 0).ii t12.toNat 0))) < (b1_1.ii t12.toNat 0))))) (cond ((decide (0 ≤ t12 ∧ t12 < (↑t8 : Int)))) (cond ((decide (t12.toNat < b1_0))) (l30_6 t2 t7 t8 t10 t11 b0_0 b0_1 b0_2 b0_3 b1_0 f (IntKind.i64.wrap (t12 + 1)) (b1_1.upd t12.toNat 0 [SV.int IntKind.i64 (IntKind.i64.wrap ((b1_1.ii t11.toNat 0) + ((b0_3.sub t11.toNat 0).ii t12.toNat 0)))])) none) none) (l30_6 t2 t7 t8 t10 t11 b0_0 b0_1 b0_2 b0_3 b1_0 f (IntKind.i64.wrap (t12 + 1)) b1_1)) none) none) none) none) none) none) none) none)) none) none) none) none) (some b1_1)) := hG
    refine propOf (y30_6 t2 t7 t8 t10 t11 t12 b0_0 b0_1 b0_2 b0_3 b1_0 b1_1 _) ?_
    exact cnd_gg2 hG (fun h0 => cnd_gg h0 fun h1 => cnd_gg h1 fun h2 => cnd_gg h2 fun h3 => cnd_gg h3 fun h4 => cnd_gg2 h4 (fun h5 => ⟨(t2, t7, t8, t10, t11, (IntKind.i64.wrap (t12 + 1)), b0_0, b0_1, b0_2, b0_3, b1_0, b1_1), rfl, rfl, h5⟩) (fun h5 => cnd_gg h5 fun h6 => cnd_gg h6 fun h7 => cnd_gg h7 fun h8 => cnd_gg h8 fun h9 => cnd_gg h9 fun h10 => cnd_gg h10 fun h11 => cnd_gg h11 fun h12 => cnd_gg h12 fun h13 => cnd_gg2 h13 (fun h14 => cnd_gg h14 fun h15 => cnd_gg h15 fun h16 => ⟨(t2, t7, t8, t10, t11, (IntKind.i64.wrap (t12 + 1)), b0_0, b0_1, b0_2, b0_3, b1_0, (b1_1.upd t12.toNat 0 [SV.int IntKind.i64 (IntKind.i64.wrap ((b1_1.ii t11.toNat 0) + ((b0_3.sub t11.toNat 0).ii t12.toNat 0)))])), rfl, rfl, h16⟩) (fun h14 => ⟨(t2, t7, t8, t10, t11, (IntKind.i64.wrap (t12 + 1)), b0_0, b0_1, b0_2, b0_3, b1_0, b1_1), rfl, rfl, h14⟩))) (fun h0 => h0.2)
  · intro s k h
    unfold g30_6 at h
    split at h <;> try exact h.elim
    rename_i e1
    rw [needs_iff] at h
    exact ⟨_, e1, _, (_, _, _, _, _, _, _, _, _, _, _, _), rfl, rfl, h.1 _ (List.mem_singleton.2 rfl), h.2⟩
/-! #### loop 4 -/
noncomputable def l30_4 (t2 : Int) (t7 : Int) (t8 : Nat) (t10 : Int) (b0_0 : Nat) (b0_1 : Dat) (b0_2 : Nat) (b0_3 : Dat) (b1_0 : Nat) : Nat → Int → Dat → Option (Dat)
  | 0, _, _ => none
  | f + 1, t11, b1_1 => (cond ((decide (t11 < t7))) (cond (((o30_6 t2 t7 t8 t10 t11 b0_0 b0_1 b0_2 b0_3 b1_0 0 b1_1).isSome)) (l30_4 t2 t7 t8 t10 b0_0 b0_1 b0_2 b0_3 b1_0 f (IntKind.i64.wrap (t11 + 1)) ((o30_6 t2 t7 t8 t10 t11 b0_0 b0_1 b0_2 b0_3 b1_0 0 b1_1).getD default)) none) (some b1_1))
noncomputable abbrev o30_4 (t2 : Int) (t7 : Int) (t8 : Nat) (t10 : Int) (b0_0 : Nat) (b0_1 : Dat) (b0_2 : Nat) (b0_3 : Dat) (b1_0 : Nat) (t11 : Int) (b1_1 : Dat) : Option (Dat) := l30_4 t2 t7 t8 t10 b0_0 b0_1 b0_2 b0_3 b1_0 (t2.toNat + t7.toNat + t8 + t10.toNat + t11.toNat + b0_0 + b0_2 + b1_0 + 8) t11 b1_1
noncomputable def e30_4 (t2 : Int) (t7 : Int) (t8 : Nat) (t10 : Int) (b0_0 : Nat) (b0_1 : Dat) (b0_2 : Nat) (b0_3 : Dat) (b1_0 : Nat) (r : Dat) (K : XR) : Prop := K (XE.exit 4) [.int .i64 t2, .ptr 0 0, .int .i64 t7, .own 1 1 t8, .int .i64 t10] [.cells 43 [.ro [.str] b0_0 b0_1, .ro [.sl [.int .i64]] b0_2 b0_3], .row 3 [.int .i64] b1_0 r]
noncomputable def g30_4 : LSum := fun s k => match czv 0 95 [2, 3, 7, 8, 10, 11] 2 [] s with
  | some ([.int .i64 t2, .ptr 0 0, .int .i64 t7, .own 1 1 t8, .int .i64 t10, .int .i64 t11], [.cells 43 [.ro [.str] b0_0 b0_1, .ro [.sl [.int .i64]] b0_2 b0_3], .row 3 [.int .i64] b1_0 b1_1]) => needs [(o30_4 t2 t7 t8 t10 b0_0 b0_1 b0_2 b0_3 b1_0 t11 b1_1).isSome] (e30_4 t2 t7 t8 t10 b0_0 b0_1 b0_2 b0_3 b1_0 ((o30_4 t2 t7 t8 t10 b0_0 b0_1 b0_2 b0_3 b1_0 t11 b1_1).getD default) fun e vs bs => inBlk 4 k e (mkSt 0 95 [2, 3, 7, 8, 10] vs 2 bs))
  | _ => False
theorem y30_4 (t2 : Int) (t7 : Int) (t8 : Nat) (t10 : Int) (t11 : Int) (b0_0 : Nat) (b0_1 : Dat) (b0_2 : Nat) (b0_3 : Dat) (b1_0 : Nat) (b1_1 : Dat) (R : XR) : exec Try.prog [] (lamOf [(0, g30_0), (6, g30_6)]) 8 (unloop (bodyAt (Try.f30.body.getD .skip) 4)) (mkSt 0 95 [2, 3, 7, 8, 10, 11] [.int .i64 t2, .ptr 0 0, .int .i64 t7, .own 1 1 t8, .int .i64 t10, .int .i64 t11] 2 [.cells 43 [.ro [.str] b0_0 b0_1, .ro [.sl [.int .i64]] b0_2 b0_3], .row 3 [.int .i64] b1_0 b1_1]) (canonK 0 95 [2, 3, 7, 8, 10, 11] [2, 3, 7, 8, 10] 2 [] R) =
  (cnd ((decide (t11 < t7)))
  (cnd (((o30_6 t2 t7 t8 t10 t11 b0_0 b0_1 b0_2 b0_3 b1_0 0 b1_1).isSome))
   (R (XE.normal) [.int .i64 t2, .ptr 0 0, .int .i64 t7, .own 1 1 t8, .int .i64 t10, .int .i64 (IntKind.i64.wrap (t11 + 1))] [.cells 43 [.ro [.str] b0_0 b0_1, .ro [.sl [.int .i64]] b0_2 b0_3], .row 3 [.int .i64] b1_0 ((o30_6 t2 t7 t8 t10 t11 b0_0 b0_1 b0_2 b0_3 b1_0 0 b1_1).getD default)])
   False)
  (R (XE.exit 4) [.int .i64 t2, .ptr 0 0, .int .i64 t7, .own 1 1 t8, .int .i64 t10] [.cells 43 [.ro [.str] b0_0 b0_1, .ro [.sl [.int .i64]] b0_2 b0_3], .row 3 [.int .i64] b1_0 b1_1])) := by kernel_rfl
theorem z30_4 : LOk Try.prog g30_4 (.block 4 (bodyAt (Try.f30.body.getD .skip) 4)) := by
  refine loop_blk (ι := Int × Int × Nat × Int × Int × Nat × Dat × Nat × Dat × Nat × Dat) (L := []) (Λ := (lamOf [(0, g30_0), (6, g30_6)])) (fuel := 8) (na := 0) (nt := 95) (nx := 2) (Lh := [2, 3, 7, 8, 10, 11]) (Le := [2, 3, 7, 8, 10]) (gl := []) tabOk_nil mix_ok (lam_of rfl (lams_cons z30_0 (lams_cons z30_6 lams_nil))) rfl (fun f x K => GG default (e30_4 x.1 x.2.1 x.2.2.1 x.2.2.2.1 x.2.2.2.2.2.1 x.2.2.2.2.2.2.1 x.2.2.2.2.2.2.2.1 x.2.2.2.2.2.2.2.2.1 x.2.2.2.2.2.2.2.2.2.1) K (l30_4 x.1 x.2.1 x.2.2.1 x.2.2.2.1 x.2.2.2.2.2.1 x.2.2.2.2.2.2.1 x.2.2.2.2.2.2.2.1 x.2.2.2.2.2.2.2.2.1 x.2.2.2.2.2.2.2.2.2.1 f x.2.2.2.2.1 x.2.2.2.2.2.2.2.2.2.2)) (fun x => [.int .i64 x.1, .ptr 0 0, .int .i64 x.2.1, .own 1 1 x.2.2.1, .int .i64 x.2.2.2.1, .int .i64 x.2.2.2.2.1]) (fun x => [.cells 43 [.ro [.str] x.2.2.2.2.2.1 x.2.2.2.2.2.2.1, .ro [.sl [.int .i64]] x.2.2.2.2.2.2.2.1 x.2.2.2.2.2.2.2.2.1], .row 3 [.int .i64] x.2.2.2.2.2.2.2.2.2.1 x.2.2.2.2.2.2.2.2.2.2]) (fun x K => gg_none) ?_ ?_
  · rintro f ⟨t2, t7, t8, t10, t11, b0_0, b0_1, b0_2, b0_3, b1_0, b1_1⟩ K hG
    have hG : GG default (e30_4 t2 t7 t8 t10 b0_0 b0_1 b0_2 b0_3 b1_0) K (cond ((decide (t11 < t7))) (cond (((o30_6 t2 t7 t8 t10 t11 b0_0 b0_1 b0_2 b0_3 b1_0 0 b1_1).isSome)) (l30_4 t2 t7 t8 t10 b0_0 b0_1 b0_2 b0_3 b1_0 f (IntKind.i64.wrap (t11 + 1)) ((o30_6 t2 t7 t8 t10 t11 b0_0 b0_1 b0_2 b0_3 b1_0 0 b1_1).getD default)) none) (some b1_1)) := hG
    refine propOf (y30_4 t2 t7 t8 t10 t11 b0_0 b0_1 b0_2 b0_3 b1_0 b1_1 _) ?_
    exact cnd_gg2 hG (fun h0 => cnd_gg h0 fun h1 => ⟨(t2, t7, t8, t10, (IntKind.i64.wrap (t11 + 1)), b0_0, b0_1, b0_2, b0_3, b1_0, ((o30_6 t2 t7 t8 t10 t11 b0_0 b0_1 b0_2 b0_3 b1_0 0 b1_1).getD default)), rfl, rfl, h1⟩) (fun h0 => h0.2)
  · intro s k h
    unfold g30_4 at h
    split at h <;> try exact h.elim
    rename_i e1
    rw [needs_iff] at h
    exact ⟨_, e1, _, (_, _, _, _, _, _, _, _, _, _, _), rfl, rfl, h.1 _ (List.mem_singleton.2 rfl), h.2⟩
/-! #### loop 2 -/
noncomputable def l30_2 (t2 : Int) (t7 : Int) (t8 : Nat) (b0_0 : Nat) (b0_1 : Dat) (b0_2 : Nat) (b0_3 : Dat) : Nat → Int → Dat → Option (Dat)
  | 0, _, _ => none
  | f + 1, t10, b1_1 => (cond ((decide (t10 < t7))) (cond (((o30_4 t2 t7 t8 t10 b0_0 b0_1 b0_2 b0_3 t8 0 b1_1).isSome)) (l30_2 t2 t7 t8 b0_0 b0_1 b0_2 b0_3 f (IntKind.i64.wrap (t10 + 1)) ((o30_4 t2 t7 t8 t10 b0_0 b0_1 b0_2 b0_3 t8 0 b1_1).getD default)) none) (some b1_1))
noncomputable abbrev o30_2 (t2 : Int) (t7 : Int) (t8 : Nat) (b0_0 : Nat) (b0_1 : Dat) (b0_2 : Nat) (b0_3 : Dat) (t10 : Int) (b1_1 : Dat) : Option (Dat) := l30_2 t2 t7 t8 b0_0 b0_1 b0_2 b0_3 (t2.toNat + t7.toNat + t8 + t10.toNat + b0_0 + b0_2 + 8) t10 b1_1
noncomputable def e30_2 (t2 : Int) (t7 : Int) (t8 : Nat) (b0_0 : Nat) (b0_1 : Dat) (b0_2 : Nat) (b0_3 : Dat) (r : Dat) (K : XR) : Prop := K (XE.exit 2) [.int .i64 t2, .own 1 1 t8] [.cells 43 [.ro [.str] b0_0 b0_1, .ro [.sl [.int .i64]] b0_2 b0_3], .row 3 [.int .i64] t8 r]
noncomputable def g30_2 : LSum := fun s k => match czv 0 95 [2, 3, 7, 8, 10] 2 [] s with
  | some ([.int .i64 t2, .ptr 0 0, .int .i64 t7, .own 1 1 t8, .int .i64 t10], [.cells 43 [.ro [.str] b0_0 b0_1, .ro [.sl [.int .i64]] b0_2 b0_3], .row 3 [.int .i64] b1_0 b1_1]) => needs [decide (t8 = b1_0), (o30_2 t2 t7 t8 b0_0 b0_1 b0_2 b0_3 t10 b1_1).isSome] (e30_2 t2 t7 t8 b0_0 b0_1 b0_2 b0_3 ((o30_2 t2 t7 t8 b0_0 b0_1 b0_2 b0_3 t10 b1_1).getD default) fun e vs bs => inBlk 2 k e (mkSt 0 95 [2, 8] vs 2 bs))
  | _ => False
theorem y30_2 (t2 : Int) (t7 : Int) (t8 : Nat) (t10 : Int) (b0_0 : Nat) (b0_1 : Dat) (b0_2 : Nat) (b0_3 : Dat) (b1_1 : Dat) (R : XR) : exec Try.prog [] (lamOf [(0, g30_0), (6, g30_6), (4, g30_4)]) 8 (unloop (bodyAt (Try.f30.body.getD .skip) 2)) (mkSt 0 95 [2, 3, 7, 8, 10] [.int .i64 t2, .ptr 0 0, .int .i64 t7, .own 1 1 t8, .int .i64 t10] 2 [.cells 43 [.ro [.str] b0_0 b0_1, .ro [.sl [.int .i64]] b0_2 b0_3], .row 3 [.int .i64] t8 b1_1]) (canonK 0 95 [2, 3, 7, 8, 10] [2, 8] 2 [] R) =
  (cnd ((decide (t10 < t7)))
  (cnd (((o30_4 t2 t7 t8 t10 b0_0 b0_1 b0_2 b0_3 t8 0 b1_1).isSome))
   (R (XE.normal) [.int .i64 t2, .ptr 0 0, .int .i64 t7, .own 1 1 t8, .int .i64 (IntKind.i64.wrap (t10 + 1))] [.cells 43 [.ro [.str] b0_0 b0_1, .ro [.sl [.int .i64]] b0_2 b0_3], .row 3 [.int .i64] t8 ((o30_4 t2 t7 t8 t10 b0_0 b0_1 b0_2 b0_3 t8 0 b1_1).getD default)])
   False)
  (R (XE.exit 2) [.int .i64 t2, .own 1 1 t8] [.cells 43 [.ro [.str] b0_0 b0_1, .ro [.sl [.int .i64]] b0_2 b0_3], .row 3 [.int .i64] t8 b1_1])) := by kernel_rfl
theorem z30_2 : LOk Try.prog g30_2 (.block 2 (bodyAt (Try.f30.body.getD .skip) 2)) := by
  refine loop_blk (ι := Int × Int × Nat × Int × Nat × Dat × Nat × Dat × Dat) (L := []) (Λ := (lamOf [(0, g30_0), (6, g30_6), (4, g30_4)])) (fuel := 8) (na := 0) (nt := 95) (nx := 2) (Lh := [2, 3, 7, 8, 10]) (Le := [2, 8]) (gl := []) tabOk_nil mix_ok (lam_of rfl (lams_cons z30_0 (lams_cons z30_6 (lams_cons z30_4 lams_nil)))) rfl (fun f x K => GG default (e30_2 x.1 x.2.1 x.2.2.1 x.2.2.2.2.1 x.2.2.2.2.2.1 x.2.2.2.2.2.2.1 x.2.2.2.2.2.2.2.1) K (l30_2 x.1 x.2.1 x.2.2.1 x.2.2.2.2.1 x.2.2.2.2.2.1 x.2.2.2.2.2.2.1 x.2.2.2.2.2.2.2.1 f x.2.2.2.1 x.2.2.2.2.2.2.2.2)) (fun x => [.int .i64 x.1, .ptr 0 0, .int .i64 x.2.1, .own 1 1 x.2.2.1, .int .i64 x.2.2.2.1]) (fun x => [.cells 43 [.ro [.str] x.2.2.2.2.1 x.2.2.2.2.2.1, .ro [.sl [.int .i64]] x.2.2.2.2.2.2.1 x.2.2.2.2.2.2.2.1], .row 3 [.int .i64] x.2.2.1 x.2.2.2.2.2.2.2.2]) (fun x K => gg_none) ?_ ?_
  · rintro f ⟨t2, t7, t8, t10, b0_0, b0_1, b0_2, b0_3, b1_1⟩ K hG
    have hG : GG default (e30_2 t2 t7 t8 b0_0 b0_1 b0_2 b0_3) K (cond ((decide (t10 < t7))) (cond (((o30_4 t2 t7 t8 t10 b0_0 b0_1 b0_2 b0_3 t8 0 b1_1).isSome)) (l30_2 t2 t7 t8 b0_0 b0_1 b0_2 b0_3 f (IntKind.i64.wrap (t10 + 1)) ((o30_4 t2 t7 t8 t10 b0_0 b0_1 b0_2 b0_3 t8 0 b1_1).getD default)) none) (some b1_1)) := hG
    refine propOf (y30_2 t2 t7 t8 t10 b0_0 b0_1 b0_2 b0_3 b1_1 _) ?_
    exact cnd_gg2 hG (fun h0 => cnd_gg h0 fun h1 => ⟨(t2, t7, t8, (IntKind.i64.wrap (t10 + 1)), b0_0, b0_1, b0_2, b0_3, ((o30_4 t2 t7 t8 t10 b0_0 b0_1 b0_2 b0_3 t8 0 b1_1).getD default)), rfl, rfl, h1⟩) (fun h0 => h0.2)
  · intro s k h
    unfold g30_2 at h
    split at h <;> try exact h.elim
    rename_i e1
    rw [needs_iff] at h
    have hq := h.1
    simp only [List.mem_cons, forall_eq_or_imp, decide_eq_true_eq, List.not_mem_nil, false_imp_iff, implies_true, and_true] at hq
    obtain ⟨rfl, hq⟩ := hq
    exact ⟨_, e1, _, (_, _, _, _, _, _, _, _, _), rfl, rfl, hq, h.2⟩
theorem x30 (na0_0 : Nat) (da0_0 : Dat) (na0_1 : Nat) (da0_1 : Dat) (a1 : Int) (a2 : Int) (R : SV → List Blk → List Blk → Prop) : exec Try.prog [] (lamOf [(0, g30_0), (6, g30_6), (4, g30_4), (2, g30_2)]) 8 (Try.f30.body.getD .skip) (initS Try.f30.ntmps [.agg [.ro [.str] na0_0 da0_0, .ro [.sl [.int .i64]] na0_1 da0_1], .int .i64 a1, .int .i64 a2] 0 (memOf [])) (retK Try.prog Try.f30.results.toList (outK 0 (List.range 0) [] (.k) fun v U N => R v U N)) =
  (cnd ((decide (0 ≤ (↑na0_0 : Int) ∧ (↑na0_0 : Int) ≤ (↑na0_0 : Int) ∧ (↑na0_0 : Int) ≤ 1073741824)))
  (cnd ((decide ((((↑na0_0 : Int)).toNat) = (((↑na0_0 : Int)).toNat))))
   (cnd (((o30_0 a1 a2 ((↑na0_0 : Int)) (((↑na0_0 : Int)).toNat) na0_0 da0_0 na0_1 da0_1 0 (datC [SV.int IntKind.i64 0])).isSome))
    (cnd ((decide (0 ≤ a1 ∧ a1 < (↑(↑na0_0 : Int).toNat : Int))))
     (cnd ((decide (a1.toNat < (((↑na0_0 : Int)).toNat))))
      (cnd ((decide ((((↑na0_0 : Int)).toNat) = (((↑na0_0 : Int)).toNat))))
       (cnd (((o30_2 a2 ((↑na0_0 : Int)) (((↑na0_0 : Int)).toNat) na0_0 da0_0 na0_1 da0_1 0 (((o30_0 a1 a2 ((↑na0_0 : Int)) (((↑na0_0 : Int)).toNat) na0_0 da0_0 na0_1 da0_1 0 (datC [SV.int IntKind.i64 0])).getD default).upd a1.toNat 0 [SV.int IntKind.i64 0])).isSome))
        (cnd ((decide (0 ≤ a2 ∧ a2 < (↑(↑na0_0 : Int).toNat : Int))))
         (cnd ((decide (a2.toNat < (((↑na0_0 : Int)).toNat))))
          (R (.int .i64 (((o30_2 a2 ((↑na0_0 : Int)) (((↑na0_0 : Int)).toNat) na0_0 da0_0 na0_1 da0_1 0 (((o30_0 a1 a2 ((↑na0_0 : Int)) (((↑na0_0 : Int)).toNat) na0_0 da0_0 na0_1 da0_1 0 (datC [SV.int IntKind.i64 0])).getD default).upd a1.toNat 0 [SV.int IntKind.i64 0])).getD default).ii a2.toNat 0)) [] [])
          False)
         False)
        False)
       False)
      False)
     False)
    False)
   False)
  False) := by kernel_rfl
noncomputable def m30 (na0_0 : Nat) (da0_0 : Dat) (na0_1 : Nat) (da0_1 : Dat) (a1 : Int) (a2 : Int) : Int :=
  (((o30_2 a2 ((↑na0_0 : Int)) (((↑na0_0 : Int)).toNat) na0_0 da0_0 na0_1 da0_1 0 (((o30_0 a1 a2 ((↑na0_0 : Int)) (((↑na0_0 : Int)).toNat) na0_0 da0_0 na0_1 da0_1 0 (datC [SV.int IntKind.i64 0])).getD default).upd a1.toNat 0 [SV.int IntKind.i64 0])).getD default).ii a2.toNat 0)
noncomputable def n30 (na0_0 : Nat) (da0_0 : Dat) (na0_1 : Nat) (da0_1 : Dat) (a1 : Int) (a2 : Int) : Bool :=
  (((decide (0 ≤ (↑na0_0 : Int) ∧ (↑na0_0 : Int) ≤ (↑na0_0 : Int) ∧ (↑na0_0 : Int) ≤ 1073741824))) && ((((o30_0 a1 a2 ((↑na0_0 : Int)) (((↑na0_0 : Int)).toNat) na0_0 da0_0 na0_1 da0_1 0 (datC [SV.int IntKind.i64 0])).isSome)) && (((decide (0 ≤ a1 ∧ a1 < (↑(↑na0_0 : Int).toNat : Int)))) && (((decide (a1.toNat < (((↑na0_0 : Int)).toNat)))) && ((((o30_2 a2 ((↑na0_0 : Int)) (((↑na0_0 : Int)).toNat) na0_0 da0_0 na0_1 da0_1 0 (((o30_0 a1 a2 ((↑na0_0 : Int)) (((↑na0_0 : Int)).toNat) na0_0 da0_0 na0_1 da0_1 0 (datC [SV.int IntKind.i64 0])).getD default).upd a1.toNat 0 [SV.int IntKind.i64 0])).isSome)) && (((decide (0 ≤ a2 ∧ a2 < (↑(↑na0_0 : Int).toNat : Int)))) && (((decide (a2.toNat < (((↑na0_0 : Int)).toNat)))) && true)))))))
noncomputable def q30 (r : Int) : SV × List Blk × List Blk := (.int .i64 r, [], [])
noncomputable def g30 : List SV → List Blk → Option OpRes := fun vs bs => match vs, bs with
  | [.agg [.ro [.str] na0_0 da0_0, .ro [.sl [.int .i64]] na0_1 da0_1], .int .i64 a1, .int .i64 a2], [] => some (resOf 0 (q30 (m30 na0_0 da0_0 na0_1 da0_1 a1 a2)) [n30 na0_0 da0_0 na0_1 da0_1 a1 a2])
  | _, _ => none
noncomputable def c30 : Ctr := genC [.a [.ro [.str], .ro [.sl [.int .i64]]], .k, .k] g30
theorem p30 (na0_0 : Nat) (da0_0 : Dat) (na0_1 : Nat) (da0_1 : Dat) (a1 : Int) (a2 : Int) (hn : n30 na0_0 da0_0 na0_1 da0_1 a1 a2 = true) : exec Try.prog [] (lamOf [(0, g30_0), (6, g30_6), (4, g30_4), (2, g30_2)]) 8 (Try.f30.body.getD .skip) (initS Try.f30.ntmps [.agg [.ro [.str] na0_0 da0_0, .ro [.sl [.int .i64]] na0_1 da0_1], .int .i64 a1, .int .i64 a2] 0 (memOf [])) (retK Try.prog Try.f30.results.toList (outK 0 (List.range 0) [] (.k) fun v U N => (v, U, N) = (q30 (m30 na0_0 da0_0 na0_1 da0_1 a1 a2)))) :=
  propOf (x30 na0_0 da0_0 na0_1 da0_1 a1 a2 _) (cnd_need (and_l hn) (cnd_need (decide_eq_true rfl) (cnd_need (and_l (and_r hn)) (cnd_need (and_l (and_r (and_r hn))) (cnd_need (and_l (and_r (and_r (and_r hn)))) (cnd_need (decide_eq_true rfl) (cnd_need (and_l (and_r (and_r (and_r (and_r hn))))) (cnd_need (and_l (and_r (and_r (and_r (and_r (and_r hn)))))) (cnd_need (and_l (and_r (and_r (and_r (and_r (and_r (and_r hn))))))) (leaf_of (l := (((o30_2 a2 ((↑na0_0 : Int)) (((↑na0_0 : Int)).toNat) na0_0 da0_0 na0_1 da0_1 0 (((o30_0 a1 a2 ((↑na0_0 : Int)) (((↑na0_0 : Int)).toNat) na0_0 da0_0 na0_1 da0_1 0 (datC [SV.int IntKind.i64 0])).getD default).upd a1.toNat 0 [SV.int IntKind.i64 0])).getD default).ii a2.toNat 0)) rfl rfl))))))))))
theorem k30 : CtrOk Try.prog c30 30 := ctr_of tabOk_nil mix_ok 8 (fn := Try.f30) (c := (Try.f30.body.getD .skip)) (grs := []) (rh := .k) (Λ := (lamOf [(0, g30_0), (6, g30_6), (4, g30_4), (2, g30_2)])) Try.func30 rfl (by kernel_rfl) (lam_of rfl (lams_cons z30_0 (lams_cons z30_6 (lams_cons z30_4 (lams_cons z30_2 lams_nil))))) fun vs bs q h hn => by
  unfold g30 at h
  split at h <;> cases h
  exact ⟨_, rfl, p30 _ _ _ _ _ _ (hn _ (List.mem_singleton.2 rfl))⟩
/-! ### shotline/site.LevelAt -/
theorem x19 (a0_0 : Int) (na0_1 : Nat) (da0_1 : Dat) (a1 : Int) (R : SV → List Blk → List Blk → Prop) : exec Try.prog [(79, c79a), (79, c79b), (80, c80), (81, c81)] (fun _ => none) 8 (Try.f19.body.getD .skip) (initS Try.f19.ntmps [.agg [.int .i64 a0_0, .ro [.int .i64, .int .i64, .int .i64] na0_1 da0_1], .int .i64 a1] 0 (memOf [])) (retK Try.prog Try.f19.results.toList (outK 0 (List.range 0) [] (.k) fun v U N => R v U N)) =
  ((cnd ((n79a a0_0 na0_1 da0_1))
   (cnd ((bif (decide ((m79a a0_0 na0_1 da0_1) = 0)) then false else true))
    (R (.tup [.agg [.int .i64 0, .int .i64 0], .int .i64 (m79a a0_0 na0_1 da0_1)]) [] [])
    (cnd ((bif (m80 a1) then false else true))
     (R (.tup [.agg [.int .i64 0, .int .i64 0], .int .i64 2]) [] [])
     False))
   False) ∨
  (cnd ((n79b a0_0 na0_1 da0_1))
   (cnd ((bif (decide (((m79b a0_0 na0_1 da0_1).fst) = 0)) then false else true))
    (R (.tup [.agg [.int .i64 0, .int .i64 0], .int .i64 ((m79b a0_0 na0_1 da0_1).fst)]) [] [])
    (cnd ((bif (m80 a1) then false else true))
     (R (.tup [.agg [.int .i64 0, .int .i64 0], .int .i64 2]) [] [])
     (cnd ((n81 ((m79b a0_0 na0_1 da0_1).snd.fst) ((m79b a0_0 na0_1 da0_1).snd.snd.fst) ((m79b a0_0 na0_1 da0_1).snd.snd.snd.fst) ((m79b a0_0 na0_1 da0_1).snd.snd.snd.snd) a1))
      (R (.tup [.agg [.int .i64 ((m81 ((m79b a0_0 na0_1 da0_1).snd.fst) ((m79b a0_0 na0_1 da0_1).snd.snd.fst) ((m79b a0_0 na0_1 da0_1).snd.snd.snd.fst) ((m79b a0_0 na0_1 da0_1).snd.snd.snd.snd) a1).fst), .int .i64 ((m81 ((m79b a0_0 na0_1 da0_1).snd.fst) ((m79b a0_0 na0_1 da0_1).snd.snd.fst) ((m79b a0_0 na0_1 da0_1).snd.snd.snd.fst) ((m79b a0_0 na0_1 da0_1).snd.snd.snd.snd) a1).snd.fst)], .int .i64 0]) [] [])
      False)))
   False)) := by kernel_rfl
noncomputable def m19 (a0_0 : Int) (na0_1 : Nat) (da0_1 : Dat) (a1 : Int) : Int × Int × Int :=
  (cond ((n79a a0_0 na0_1 da0_1)) (cond ((bif (decide ((m79a a0_0 na0_1 da0_1) = 0)) then false else true)) (0, 0, (m79a a0_0 na0_1 da0_1)) (0, 0, 2)) (cond ((bif (decide (((m79b a0_0 na0_1 da0_1).fst) = 0)) then false else true)) (0, 0, ((m79b a0_0 na0_1 da0_1).fst)) (cond ((bif (m80 a1) then false else true)) (0, 0, 2) (((m81 ((m79b a0_0 na0_1 da0_1).snd.fst) ((m79b a0_0 na0_1 da0_1).snd.snd.fst) ((m79b a0_0 na0_1 da0_1).snd.snd.snd.fst) ((m79b a0_0 na0_1 da0_1).snd.snd.snd.snd) a1).fst), ((m81 ((m79b a0_0 na0_1 da0_1).snd.fst) ((m79b a0_0 na0_1 da0_1).snd.snd.fst) ((m79b a0_0 na0_1 da0_1).snd.snd.snd.fst) ((m79b a0_0 na0_1 da0_1).snd.snd.snd.snd) a1).snd.fst), 0))))
noncomputable def n19 (a0_0 : Int) (na0_1 : Nat) (da0_1 : Dat) (a1 : Int) : Bool :=
  (cond ((n79a a0_0 na0_1 da0_1)) (((n79a a0_0 na0_1 da0_1)) && (cond ((bif (decide ((m79a a0_0 na0_1 da0_1) = 0)) then false else true)) true (((bif (m80 a1) then false else true)) && true))) (((n79b a0_0 na0_1 da0_1)) && (cond ((bif (decide (((m79b a0_0 na0_1 da0_1).fst) = 0)) then false else true)) true (cond ((bif (m80 a1) then false else true)) true (((n81 ((m79b a0_0 na0_1 da0_1).snd.fst) ((m79b a0_0 na0_1 da0_1).snd.snd.fst) ((m79b a0_0 na0_1 da0_1).snd.snd.snd.fst) ((m79b a0_0 na0_1 da0_1).snd.snd.snd.snd) a1)) && true)))))
noncomputable def q19 (r : Int × Int × Int) : SV × List Blk × List Blk := (.tup [.agg [.int .i64 r.1, .int .i64 r.2.1], .int .i64 r.2.2], [], [])
noncomputable def g19 : List SV → List Blk → Option OpRes := fun vs bs => match vs, bs with
  | [.agg [.int .i64 a0_0, .ro [.int .i64, .int .i64, .int .i64] na0_1 da0_1], .int .i64 a1], [] => some (resOf 0 (q19 (m19 a0_0 na0_1 da0_1 a1)) [n19 a0_0 na0_1 da0_1 a1])
  | _, _ => none
noncomputable def c19 : Ctr := genC [.a [.k, .ro [.int .i64, .int .i64, .int .i64]], .k] g19
theorem p19 (a0_0 : Int) (na0_1 : Nat) (da0_1 : Dat) (a1 : Int) (hn : n19 a0_0 na0_1 da0_1 a1 = true) : exec Try.prog [(79, c79a), (79, c79b), (80, c80), (81, c81)] (fun _ => none) 8 (Try.f19.body.getD .skip) (initS Try.f19.ntmps [.agg [.int .i64 a0_0, .ro [.int .i64, .int .i64, .int .i64] na0_1 da0_1], .int .i64 a1] 0 (memOf [])) (retK Try.prog Try.f19.results.toList (outK 0 (List.range 0) [] (.k) fun v U N => (v, U, N) = (q19 (m19 a0_0 na0_1 da0_1 a1)))) :=
  propOf (x19 a0_0 na0_1 da0_1 a1 _) (or_of (b := (n79a a0_0 na0_1 da0_1)) (fun h0 => cnd_need (and_l (cond_t h0 hn)) (cnd_of (fun h1 => leaf_of (l := (0, 0, (m79a a0_0 na0_1 da0_1))) (condT h0 (condT h1 rfl)) rfl) (fun h1 => cnd_need (and_l (cond_f h1 (and_r (cond_t h0 hn)))) (leaf_of (l := (0, 0, 2)) (condT h0 (condF h1 rfl)) rfl)))) (fun h0 => cnd_need (and_l (cond_f h0 hn)) (cnd_of (fun h1 => leaf_of (l := (0, 0, ((m79b a0_0 na0_1 da0_1).fst))) (condF h0 (condT h1 rfl)) rfl) (fun h1 => cnd_of (fun h2 => leaf_of (l := (0, 0, 2)) (condF h0 (condF h1 (condT h2 rfl))) rfl) (fun h2 => cnd_need (and_l (cond_f h2 (cond_f h1 (and_r (cond_f h0 hn))))) (leaf_of (l := (((m81 ((m79b a0_0 na0_1 da0_1).snd.fst) ((m79b a0_0 na0_1 da0_1).snd.snd.fst) ((m79b a0_0 na0_1 da0_1).snd.snd.snd.fst) ((m79b a0_0 na0_1 da0_1).snd.snd.snd.snd) a1).fst), ((m81 ((m79b a0_0 na0_1 da0_1).snd.fst) ((m79b a0_0 na0_1 da0_1).snd.snd.fst) ((m79b a0_0 na0_1 da0_1).snd.snd.snd.fst) ((m79b a0_0 na0_1 da0_1).snd.snd.snd.snd) a1).snd.fst), 0)) (condF h0 (condF h1 (condF h2 rfl))) rfl))))))
theorem k19 : CtrOk Try.prog c19 19 := ctr_of (tabOk_cons k79a (tabOk_cons k79b (tabOk_cons k80 (tabOk_cons k81 tabOk_nil)))) mix_ok 8 (fn := Try.f19) (c := (Try.f19.body.getD .skip)) (grs := []) (rh := .k) (Λ := (fun _ => none)) Try.func19 rfl (by kernel_rfl) noLam fun vs bs q h hn => by
  unfold g19 at h
  split at h <;> cases h
  exact ⟨_, rfl, p19 _ _ _ _ (hn _ (List.mem_singleton.2 rfl))⟩
/-! ### shotline/shotlinebase.CopyTexts -/
theorem x88 (na0 : Nat) (da0 : Dat) (R : SV → List Blk → List Blk → Prop) : exec Try.prog [] (fun _ => none) 8 (Try.f88.body.getD .skip) (initS Try.f88.ntmps [.ro [.str] na0 da0] 0 (memOf [])) (retK Try.prog Try.f88.results.toList (outK 0 (List.range 0) [] (.ro [.str]) fun v U N => R v U N)) =
  (cnd ((decide ((0 + na0) ≤ 1073741824)))
  (cnd ((decide ((0 + (0 + na0)) ≤ (0 + na0))))
   (R (.ro [.str] (0 + na0) ((datS [] 1).app 0 da0)) [] [])
   False)
  False) := by kernel_rfl
noncomputable def m88 (na0 : Nat) (da0 : Dat) : Nat × Dat :=
  ((0 + na0), ((datS [] 1).app 0 da0))
noncomputable def n88 (na0 : Nat) (da0 : Dat) : Bool :=
  (((decide ((0 + na0) ≤ 1073741824))) && (((decide ((0 + (0 + na0)) ≤ (0 + na0)))) && true))
noncomputable def q88 (r : Nat × Dat) : SV × List Blk × List Blk := (.ro [.str] r.1 r.2, [], [])
noncomputable def g88 : List SV → List Blk → Option OpRes := fun vs bs => match vs, bs with
  | [.ro [.str] na0 da0], [] => some (resOf 0 (q88 (m88 na0 da0)) [n88 na0 da0])
  | _, _ => none
noncomputable def c88 : Ctr := genC [.ro [.str]] g88
theorem p88 (na0 : Nat) (da0 : Dat) (hn : n88 na0 da0 = true) : exec Try.prog [] (fun _ => none) 8 (Try.f88.body.getD .skip) (initS Try.f88.ntmps [.ro [.str] na0 da0] 0 (memOf [])) (retK Try.prog Try.f88.results.toList (outK 0 (List.range 0) [] (.ro [.str]) fun v U N => (v, U, N) = (q88 (m88 na0 da0)))) :=
  propOf (x88 na0 da0 _) (cnd_need (and_l hn) (cnd_need (and_l (and_r hn)) (leaf_of (l := ((0 + na0), ((datS [] 1).app 0 da0))) rfl rfl)))
theorem k88 : CtrOk Try.prog c88 88 := ctr_of tabOk_nil mix_ok 8 (fn := Try.f88) (c := (Try.f88.body.getD .skip)) (grs := []) (rh := .ro [.str]) (Λ := (fun _ => none)) Try.func88 rfl (by kernel_rfl) noLam fun vs bs q h hn => by
  unfold g88 at h
  split at h <;> cases h
  exact ⟨_, rfl, p88 _ _ (hn _ (List.mem_singleton.2 rfl))⟩
/-! ### shotline/shotlinebase.CopyLists -/
/-! #### loop 0 -/
noncomputable def l89_0 (t0_0 : Nat) (t0_1 : Dat) : Nat → Nat → Int → Dat → Option (Nat × Nat × Dat)
  | 0, _, _, _ => none
  | f + 1, t3, t4, b0_1 => (cond ((decide (t4 < ((↑t0_0 : Int))))) (cond ((decide (0 ≤ t4 ∧ t4 < (↑t0_0 : Int)))) (cond ((n50 (t0_1.sn t4.toNat 0) (t0_1.sub t4.toNat 0))) (cond ((decide ((t3 + 1) ≤ 1073741824))) (l89_0 t0_0 t0_1 f (t3 + 1) (IntKind.i64.wrap (t4 + 1)) (b0_1.app t3 (datS [SV.ro [Kd.int IntKind.i64] ((m50 (t0_1.sn t4.toNat 0) (t0_1.sub t4.toNat 0)).fst) ((m50 (t0_1.sn t4.toNat 0) (t0_1.sub t4.toNat 0)).snd)] 1))) none) none) none) (some (t3, t3, b0_1)))
noncomputable abbrev o89_0 (t0_0 : Nat) (t0_1 : Dat) (t3 : Nat) (t4 : Int) (b0_1 : Dat) : Option (Nat × Nat × Dat) := l89_0 t0_0 t0_1 (t0_0 + t3 + t4.toNat + 8) t3 t4 b0_1
noncomputable def e89_0 (t0_0 : Nat) (t0_1 : Dat) (r : Nat × Nat × Dat) (K : XR) : Prop := K (XE.exit 0) [.gr 0 1 r.1] [.row 46 [.sl [.int .i64]] r.2.1 r.2.2]
noncomputable def g89_0 : LSum := fun s k => match czv 0 20 [0, 3, 4] 1 [⟨true, 3, 0, 0, 46, [.sl [.int .i64]]⟩] s with
  | some ([.ro [.sl [.int .i64]] t0_0 t0_1, .gr 0 1 t3, .int .i64 t4], [.row 46 [.sl [.int .i64]] b0_0 b0_1]) => needs [decide (t3 = b0_0), (o89_0 t0_0 t0_1 t3 t4 b0_1).isSome] (e89_0 t0_0 t0_1 ((o89_0 t0_0 t0_1 t3 t4 b0_1).getD default) fun e vs bs => inBlk 0 k e (mkSt 0 20 [3] vs 1 bs))
  | _ => False
theorem y89_0 (t0_0 : Nat) (t0_1 : Dat) (t3 : Nat) (t4 : Int) (b0_1 : Dat) (R : XR) : exec Try.prog [(50, c50)] (fun _ => none) 8 (unloop (bodyAt (Try.f89.body.getD .skip) 0)) (mkSt 0 20 [0, 3, 4] [.ro [.sl [.int .i64]] t0_0 t0_1, .gr 0 1 t3, .int .i64 t4] 1 [.row 46 [.sl [.int .i64]] t3 b0_1]) (canonK 0 20 [0, 3, 4] [3] 1 [⟨true, 3, 0, 0, 46, [.sl [.int .i64]]⟩] R) =
  (cnd ((decide (t4 < ((↑t0_0 : Int)))))
  (cnd ((decide (0 ≤ t4 ∧ t4 < (↑t0_0 : Int))))
   (cnd ((n50 (t0_1.sn t4.toNat 0) (t0_1.sub t4.toNat 0)))
    (cnd ((decide (t3 ≤ t3)))
     (cnd ((decide ((t3 + 1) ≤ 1073741824)))
      (R (XE.normal) [.ro [.sl [.int .i64]] t0_0 t0_1, .gr 0 1 (t3 + 1), .int .i64 (IntKind.i64.wrap (t4 + 1))] [.row 46 [.sl [.int .i64]] (t3 + 1) (b0_1.app t3 (datS [SV.ro [Kd.int IntKind.i64] ((m50 (t0_1.sn t4.toNat 0) (t0_1.sub t4.toNat 0)).fst) ((m50 (t0_1.sn t4.toNat 0) (t0_1.sub t4.toNat 0)).snd)] 1))])
      False)
     False)
    False)
   False)
  (R (XE.exit 0) [.gr 0 1 t3] [.row 46 [.sl [.int .i64]] t3 b0_1])) := by kernel_rfl
theorem z89_0 : LOk Try.prog g89_0 (.block 0 (bodyAt (Try.f89.body.getD .skip) 0)) := by
  refine loop_blk (ι := Nat × Dat × Nat × Int × Dat) (L := [(50, c50)]) (Λ := (fun _ => none)) (fuel := 8) (na := 0) (nt := 20) (nx := 1) (Lh := [0, 3, 4]) (Le := [3]) (gl := [⟨true, 3, 0, 0, 46, [.sl [.int .i64]]⟩]) (tabOk_cons k50 tabOk_nil) mix_ok noLam rfl (fun f x K => GG default (e89_0 x.1 x.2.1) K (l89_0 x.1 x.2.1 f x.2.2.1 x.2.2.2.1 x.2.2.2.2)) (fun x => [.ro [.sl [.int .i64]] x.1 x.2.1, .gr 0 1 x.2.2.1, .int .i64 x.2.2.2.1]) (fun x => [.row 46 [.sl [.int .i64]] x.2.2.1 x.2.2.2.2]) (fun x K => gg_none) ?_ ?_
  · rintro f ⟨t0_0, t0_1, t3, t4, b0_1⟩ K hG
    have hG : GG default (e89_0 t0_0 t0_1) K (cond ((decide (t4 < ((↑t0_0 : Int))))) (cond ((decide (0 ≤ t4 ∧ t4 < (↑t0_0 : Int)))) (cond ((n50 (t0_1.sn t4.toNat 0) (t0_1.sub t4.toNat 0))) (cond ((decide ((t3 + 1) ≤ 1073741824))) (l89_0 t0_0 t0_1 f (t3 + 1) (IntKind.i64.wrap (t4 + 1)) (b0_1.app t3 (datS [SV.ro [Kd.int IntKind.i64] ((m50 (t0_1.sn t4.toNat 0) (t0_1.sub t4.toNat 0)).fst) ((m50 (t0_1.sn t4.toNat 0) (t0_1.sub t4.toNat 0)).snd)] 1))) none) none) none) (some (t3, t3, b0_1))) := hG
    refine propOf (y89_0 t0_0 t0_1 t3 t4 b0_1 _) ?_
    exact cnd_gg2 hG (fun h0 => cnd_gg h0 fun h1 => cnd_gg h1 fun h2 => cnd_need (decide_eq_true (Nat.le_refl _)) (cnd_gg h2 fun h3 => ⟨(t0_0, t0_1, (t3 + 1), (IntKind.i64.wrap (t4 + 1)), (b0_1.app t3 (datS [SV.ro [Kd.int IntKind.i64] ((m50 (t0_1.sn t4.toNat 0) (t0_1.sub t4.toNat 0)).fst) ((m50 (t0_1.sn t4.toNat 0) (t0_1.sub t4.toNat 0)).snd)] 1))), rfl, rfl, h3⟩)) (fun h0 => h0.2)
  · intro s k h
    unfold g89_0 at h
    split at h <;> try exact h.elim
    rename_i e1
    rw [needs_iff] at h
    have hq := h.1
    simp only [List.mem_cons, forall_eq_or_imp, decide_eq_true_eq, List.not_mem_nil, false_imp_iff, implies_true, and_true] at hq
    obtain ⟨rfl, hq⟩ := hq
    exact ⟨_, e1, _, (_, _, _, _, _), rfl, rfl, hq, h.2⟩
theorem x89 (na0 : Nat) (da0 : Dat) (R : SV → List Blk → List Blk → Prop) : exec Try.prog [(50, c50)] (lamOf [(0, g89_0)]) 8 (Try.f89.body.getD .skip) (initS Try.f89.ntmps [.ro [.sl [.int .i64]] na0 da0] 0 (memOf [])) (retK Try.prog Try.f89.results.toList (outK 0 (List.range 0) [] (.ro [.sl [.int .i64]]) fun v U N => R v U N)) =
  (cnd (((o89_0 na0 da0 0 0 noDat).isSome))
  (cnd ((decide ((0 + (((o89_0 na0 da0 0 0 noDat).getD default).fst)) ≤ (((o89_0 na0 da0 0 0 noDat).getD default).snd.fst))))
   (R (.ro [.sl [.int .i64]] (((o89_0 na0 da0 0 0 noDat).getD default).fst) (((o89_0 na0 da0 0 0 noDat).getD default).snd.snd)) [] [])
   False)
  False) := by kernel_rfl
noncomputable def m89 (na0 : Nat) (da0 : Dat) : Nat × Dat :=
  ((((o89_0 na0 da0 0 0 noDat).getD default).fst), (((o89_0 na0 da0 0 0 noDat).getD default).snd.snd))
noncomputable def n89 (na0 : Nat) (da0 : Dat) : Bool :=
  ((((o89_0 na0 da0 0 0 noDat).isSome)) && (((decide ((0 + (((o89_0 na0 da0 0 0 noDat).getD default).fst)) ≤ (((o89_0 na0 da0 0 0 noDat).getD default).snd.fst)))) && true))
noncomputable def q89 (r : Nat × Dat) : SV × List Blk × List Blk := (.ro [.sl [.int .i64]] r.1 r.2, [], [])
noncomputable def g89 : List SV → List Blk → Option OpRes := fun vs bs => match vs, bs with
  | [.ro [.sl [.int .i64]] na0 da0], [] => some (resOf 0 (q89 (m89 na0 da0)) [n89 na0 da0])
  | _, _ => none
noncomputable def c89 : Ctr := genC [.ro [.sl [.int .i64]]] g89
theorem p89 (na0 : Nat) (da0 : Dat) (hn : n89 na0 da0 = true) : exec Try.prog [(50, c50)] (lamOf [(0, g89_0)]) 8 (Try.f89.body.getD .skip) (initS Try.f89.ntmps [.ro [.sl [.int .i64]] na0 da0] 0 (memOf [])) (retK Try.prog Try.f89.results.toList (outK 0 (List.range 0) [] (.ro [.sl [.int .i64]]) fun v U N => (v, U, N) = (q89 (m89 na0 da0)))) :=
  propOf (x89 na0 da0 _) (cnd_need (and_l hn) (cnd_need (and_l (and_r hn)) (leaf_of (l := ((((o89_0 na0 da0 0 0 noDat).getD default).fst), (((o89_0 na0 da0 0 0 noDat).getD default).snd.snd))) rfl rfl)))
theorem k89 : CtrOk Try.prog c89 89 := ctr_of (tabOk_cons k50 tabOk_nil) mix_ok 8 (fn := Try.f89) (c := (Try.f89.body.getD .skip)) (grs := []) (rh := .ro [.sl [.int .i64]]) (Λ := (lamOf [(0, g89_0)])) Try.func89 rfl (by kernel_rfl) (lam_of rfl (lams_cons z89_0 lams_nil)) fun vs bs q h hn => by
  unfold g89 at h
  split at h <;> cases h
  exact ⟨_, rfl, p89 _ _ (hn _ (List.mem_singleton.2 rfl))⟩
/-! ### shotline/shotlinelaw08.chart -/
theorem x26 (na0_0 : Nat) (da0_0 : Dat) (na0_1 : Nat) (da0_1 : Dat) (R : SV → List Blk → List Blk → Prop) : exec Try.prog [(88, c88), (89, c89)] (fun _ => none) 8 (Try.f26.body.getD .skip) (initS Try.f26.ntmps [.agg [.ro [.str] na0_0 da0_0, .ro [.sl [.int .i64]] na0_1 da0_1]] 0 (memOf [])) (retK Try.prog Try.f26.results.toList (outK 0 (List.range 0) [] (.t [.ro [.str], .ro [.sl [.int .i64]]]) fun v U N => R v U N)) =
  (cnd ((n88 na0_0 da0_0))
  (cnd ((n89 na0_1 da0_1))
   (R (.agg [.ro [.str] ((m88 na0_0 da0_0).fst) ((m88 na0_0 da0_0).snd), .ro [.sl [.int .i64]] ((m89 na0_1 da0_1).fst) ((m89 na0_1 da0_1).snd)]) [] [])
   False)
  False) := by kernel_rfl
noncomputable def m26 (na0_0 : Nat) (da0_0 : Dat) (na0_1 : Nat) (da0_1 : Dat) : Nat × Dat × Nat × Dat :=
  (((m88 na0_0 da0_0).fst), ((m88 na0_0 da0_0).snd), ((m89 na0_1 da0_1).fst), ((m89 na0_1 da0_1).snd))
noncomputable def n26 (na0_0 : Nat) (da0_0 : Dat) (na0_1 : Nat) (da0_1 : Dat) : Bool :=
  (((n88 na0_0 da0_0)) && (((n89 na0_1 da0_1)) && true))
noncomputable def q26 (r : Nat × Dat × Nat × Dat) : SV × List Blk × List Blk := (.agg [.ro [.str] r.1 r.2.1, .ro [.sl [.int .i64]] r.2.2.1 r.2.2.2], [], [])
noncomputable def g26 : List SV → List Blk → Option OpRes := fun vs bs => match vs, bs with
  | [.agg [.ro [.str] na0_0 da0_0, .ro [.sl [.int .i64]] na0_1 da0_1]], [] => some (resOf 0 (q26 (m26 na0_0 da0_0 na0_1 da0_1)) [n26 na0_0 da0_0 na0_1 da0_1])
  | _, _ => none
noncomputable def c26 : Ctr := genC [.a [.ro [.str], .ro [.sl [.int .i64]]]] g26
theorem p26 (na0_0 : Nat) (da0_0 : Dat) (na0_1 : Nat) (da0_1 : Dat) (hn : n26 na0_0 da0_0 na0_1 da0_1 = true) : exec Try.prog [(88, c88), (89, c89)] (fun _ => none) 8 (Try.f26.body.getD .skip) (initS Try.f26.ntmps [.agg [.ro [.str] na0_0 da0_0, .ro [.sl [.int .i64]] na0_1 da0_1]] 0 (memOf [])) (retK Try.prog Try.f26.results.toList (outK 0 (List.range 0) [] (.t [.ro [.str], .ro [.sl [.int .i64]]]) fun v U N => (v, U, N) = (q26 (m26 na0_0 da0_0 na0_1 da0_1)))) :=
  propOf (x26 na0_0 da0_0 na0_1 da0_1 _) (cnd_need (and_l hn) (cnd_need (and_l (and_r hn)) (leaf_of (l := (((m88 na0_0 da0_0).fst), ((m88 na0_0 da0_0).snd), ((m89 na0_1 da0_1).fst), ((m89 na0_1 da0_1).snd))) rfl rfl)))
theorem k26 : CtrOk Try.prog c26 26 := ctr_of (tabOk_cons k88 (tabOk_cons k89 tabOk_nil)) mix_ok 8 (fn := Try.f26) (c := (Try.f26.body.getD .skip)) (grs := []) (rh := .t [.ro [.str], .ro [.sl [.int .i64]]]) (Λ := (fun _ => none)) Try.func26 rfl (by kernel_rfl) noLam fun vs bs q h hn => by
  unfold g26 at h
  split at h <;> cases h
  exact ⟨_, rfl, p26 _ _ _ _ (hn _ (List.mem_singleton.2 rfl))⟩
/-! ### shotline/shotlinebase.HasText -/
/-! #### loop 0 -/
noncomputable def l91_0 (t0_0 : Nat) (t0_1 : Dat) (t1 : ByteArray) : Nat → Int → Option (Bool × (Bool) × (Unit))
  | 0, _ => none
  | f + 1, t5 => (cond ((decide (t5 < ((↑t0_0 : Int))))) (cond ((decide (0 ≤ t5 ∧ t5 < (↑t0_0 : Int)))) (cond ((decide ((t0_1.ss t5.toNat 0) = t1))) (some (true, true, default)) (l91_0 t0_0 t0_1 t1 f (IntKind.i64.wrap (t5 + 1)))) none) (some (false, default, ())))
noncomputable abbrev o91_0 (t0_0 : Nat) (t0_1 : Dat) (t1 : ByteArray) (t5 : Int) : Option (Bool × (Bool) × (Unit)) := l91_0 t0_0 t0_1 t1 (t0_0 + t1.size + t5.toNat + 8) t5
noncomputable def e91_0 (t0_0 : Nat) (t0_1 : Dat) (t1 : ByteArray) (r : Bool × (Bool) × (Unit)) (K : XR) : Prop := cnd r.1 (K (XE.ret) [.bool r.2.1] []) (K (XE.exit 0) [.any] [])
noncomputable def g91_0 : LSum := fun s k => match czv 0 18 [0, 1, 5] 0 [] s with
  | some ([.ro [.str] t0_0 t0_1, .str t1, .int .i64 t5], []) => needs [(o91_0 t0_0 t0_1 t1 t5).isSome] (e91_0 t0_0 t0_1 t1 ((o91_0 t0_0 t0_1 t1 t5).getD default) fun e vs bs => inBlk 0 k e (mkSt 0 18 [4] vs 0 bs))
  | _ => False
theorem y91_0 (t0_0 : Nat) (t0_1 : Dat) (t1 : ByteArray) (t5 : Int) (R : XR) : exec Try.prog [] (fun _ => none) 8 (unloop (bodyAt (Try.f91.body.getD .skip) 0)) (mkSt 0 18 [0, 1, 5] [.ro [.str] t0_0 t0_1, .str t1, .int .i64 t5] 0 []) (canonK 0 18 [0, 1, 5] [4] 0 [] R) =
  (cnd ((decide (t5 < ((↑t0_0 : Int)))))
  (cnd ((decide (0 ≤ t5 ∧ t5 < (↑t0_0 : Int))))
   (cnd ((decide ((t0_1.ss t5.toNat 0) = t1)))
    (R (XE.ret) [.bool true] [])
    (R (XE.normal) [.ro [.str] t0_0 t0_1, .str t1, .int .i64 (IntKind.i64.wrap (t5 + 1))] []))
   False)
  (R (XE.exit 0) [.any] [])) := by kernel_rfl
theorem z91_0 : LOk Try.prog g91_0 (.block 0 (bodyAt (Try.f91.body.getD .skip) 0)) := by
  refine loop_blk (ι := Nat × Dat × ByteArray × Int) (L := []) (Λ := (fun _ => none)) (fuel := 8) (na := 0) (nt := 18) (nx := 0) (Lh := [0, 1, 5]) (Le := [4]) (gl := []) tabOk_nil mix_ok noLam rfl (fun f x K => GG default (e91_0 x.1 x.2.1 x.2.2.1) K (l91_0 x.1 x.2.1 x.2.2.1 f x.2.2.2)) (fun x => [.ro [.str] x.1 x.2.1, .str x.2.2.1, .int .i64 x.2.2.2]) (fun x => []) (fun x K => gg_none) ?_ ?_
  · rintro f ⟨t0_0, t0_1, t1, t5⟩ K hG
    have hG : GG default (e91_0 t0_0 t0_1 t1) K (cond ((decide (t5 < ((↑t0_0 : Int))))) (cond ((decide (0 ≤ t5 ∧ t5 < (↑t0_0 : Int)))) (cond ((decide ((t0_1.ss t5.toNat 0) = t1))) (some (true, true, default)) (l91_0 t0_0 t0_1 t1 f (IntKind.i64.wrap (t5 + 1)))) none) (some (false, default, ()))) := hG
    refine propOf (y91_0 t0_0 t0_1 t1 t5 _) ?_
    exact cnd_gg2 hG (fun h0 => cnd_gg h0 fun h1 => cnd_gg2 h1 (fun h2 => h2.2) (fun h2 => ⟨(t0_0, t0_1, t1, (IntKind.i64.wrap (t5 + 1))), rfl, rfl, h2⟩)) (fun h0 => h0.2)
  · intro s k h
    unfold g91_0 at h
    split at h <;> try exact h.elim
    rename_i e1
    rw [needs_iff] at h
    exact ⟨_, e1, _, (_, _, _, _), rfl, rfl, h.1 _ (List.mem_singleton.2 rfl), h.2⟩
theorem x91 (na0 : Nat) (da0 : Dat) (a1 : ByteArray) (R : SV → List Blk → List Blk → Prop) : exec Try.prog [] (lamOf [(0, g91_0)]) 8 (Try.f91.body.getD .skip) (initS Try.f91.ntmps [.ro [.str] na0 da0, .str a1] 0 (memOf [])) (retK Try.prog Try.f91.results.toList (outK 0 (List.range 0) [] (.k) fun v U N => R v U N)) =
  (cnd (((o91_0 na0 da0 a1 0).isSome))
  (cnd ((((o91_0 na0 da0 a1 0).getD default).fst))
   (R (.bool (((o91_0 na0 da0 a1 0).getD default).snd.fst)) [] [])
   (R (.bool false) [] []))
  False) := by kernel_rfl
noncomputable def m91 (na0 : Nat) (da0 : Dat) (a1 : ByteArray) : Bool :=
  (cond ((((o91_0 na0 da0 a1 0).getD default).fst)) (((o91_0 na0 da0 a1 0).getD default).snd.fst) false)
noncomputable def n91 (na0 : Nat) (da0 : Dat) (a1 : ByteArray) : Bool :=
  ((((o91_0 na0 da0 a1 0).isSome)) && true)
noncomputable def q91 (r : Bool) : SV × List Blk × List Blk := (.bool r, [], [])
noncomputable def g91 : List SV → List Blk → Option OpRes := fun vs bs => match vs, bs with
  | [.ro [.str] na0 da0, .str a1], [] => some (resOf 0 (q91 (m91 na0 da0 a1)) [n91 na0 da0 a1])
  | _, _ => none
noncomputable def c91 : Ctr := genC [.ro [.str], .k] g91
theorem p91 (na0 : Nat) (da0 : Dat) (a1 : ByteArray) (hn : n91 na0 da0 a1 = true) : exec Try.prog [] (lamOf [(0, g91_0)]) 8 (Try.f91.body.getD .skip) (initS Try.f91.ntmps [.ro [.str] na0 da0, .str a1] 0 (memOf [])) (retK Try.prog Try.f91.results.toList (outK 0 (List.range 0) [] (.k) fun v U N => (v, U, N) = (q91 (m91 na0 da0 a1)))) :=
  propOf (x91 na0 da0 a1 _) (cnd_need (and_l hn) (cnd_of (fun h0 => leaf_of (l := (((o91_0 na0 da0 a1 0).getD default).snd.fst)) (condT h0 rfl) rfl) (fun h0 => leaf_of (l := false) (condF h0 rfl) rfl)))
theorem k91 : CtrOk Try.prog c91 91 := ctr_of tabOk_nil mix_ok 8 (fn := Try.f91) (c := (Try.f91.body.getD .skip)) (grs := []) (rh := .k) (Λ := (lamOf [(0, g91_0)])) Try.func91 rfl (by kernel_rfl) (lam_of rfl (lams_cons z91_0 lams_nil)) fun vs bs q h hn => by
  unfold g91 at h
  split at h <;> cases h
  exact ⟨_, rfl, p91 _ _ _ (hn _ (List.mem_singleton.2 rfl))⟩
/-! ### shotline/shotlineref08.CheckChart -/
/-! #### loop 0 -/
noncomputable def l27_0 (t3 : Int) (b0_0 : Nat) (b0_1 : Dat) (b0_2 : Nat) (b0_3 : Dat) : Nat → Int → Option (Bool × (Int) × (Unit))
  | 0, _ => none
  | f + 1, t4 => (cond ((decide (t4 < t3))) (cond ((decide (0 ≤ t4 ∧ t4 < (↑b0_0 : Int)))) (cond ((n90 (b0_1.ss t4.toNat 0))) (cond ((bif (m90 (b0_1.ss t4.toNat 0)) then false else true)) (some (true, 4, default)) (cond ((decide ((0 : Int) ≤ (0 : Int) ∧ (0 : Int) ≤ t4 ∧ t4 ≤ (↑b0_0 : Int)))) (cond ((decide (0 ≤ t4 ∧ t4 < (↑b0_0 : Int)))) (cond ((n91 ((t4 - 0).toNat) b0_1 (b0_1.ss t4.toNat 0))) (cond ((m91 ((t4 - 0).toNat) b0_1 (b0_1.ss t4.toNat 0))) (some (true, 5, default)) (l27_0 t3 b0_0 b0_1 b0_2 b0_3 f (IntKind.i64.wrap (t4 + 1)))) none) none) none)) none) none) (some (false, default, ())))
noncomputable abbrev o27_0 (t3 : Int) (b0_0 : Nat) (b0_1 : Dat) (b0_2 : Nat) (b0_3 : Dat) (t4 : Int) : Option (Bool × (Int) × (Unit)) := l27_0 t3 b0_0 b0_1 b0_2 b0_3 (t3.toNat + t4.toNat + b0_0 + b0_2 + 8) t4
noncomputable def e27_0 (t3 : Int) (b0_0 : Nat) (b0_1 : Dat) (b0_2 : Nat) (b0_3 : Dat) (r : Bool × (Int) × (Unit)) (K : XR) : Prop := cnd r.1 (K (XE.ret) [.ptr 0 0, .int .i64 r.2.1, .int .i64 t3] [.cells 43 [.ro [.str] b0_0 b0_1, .ro [.sl [.int .i64]] b0_2 b0_3]]) (K (XE.exit 0) [.ptr 0 0, .any, .int .i64 t3] [.cells 43 [.ro [.str] b0_0 b0_1, .ro [.sl [.int .i64]] b0_2 b0_3]])
noncomputable def g27_0 : LSum := fun s k => match czv 0 87 [1, 3, 4] 1 [] s with
  | some ([.ptr 0 0, .int .i64 t3, .int .i64 t4], [.cells 43 [.ro [.str] b0_0 b0_1, .ro [.sl [.int .i64]] b0_2 b0_3]]) => needs [(o27_0 t3 b0_0 b0_1 b0_2 b0_3 t4).isSome] (e27_0 t3 b0_0 b0_1 b0_2 b0_3 ((o27_0 t3 b0_0 b0_1 b0_2 b0_3 t4).getD default) fun e vs bs => inBlk 0 k e (mkSt 0 87 [1, 2, 3] vs 1 bs))
  | _ => False
theorem y27_0 (t3 : Int) (t4 : Int) (b0_0 : Nat) (b0_1 : Dat) (b0_2 : Nat) (b0_3 : Dat) (R : XR) : exec Try.prog [(29, c29), (90, c90), (91, c91)] (fun _ => none) 8 (unloop (bodyAt (Try.f27.body.getD .skip) 0)) (mkSt 0 87 [1, 3, 4] [.ptr 0 0, .int .i64 t3, .int .i64 t4] 1 [.cells 43 [.ro [.str] b0_0 b0_1, .ro [.sl [.int .i64]] b0_2 b0_3]]) (canonK 0 87 [1, 3, 4] [1, 2, 3] 1 [] R) =
  (cnd ((decide (t4 < t3)))
  (cnd ((decide (0 ≤ t4 ∧ t4 < (↑b0_0 : Int))))
   (cnd ((n90 (b0_1.ss t4.toNat 0)))
    (cnd ((bif (m90 (b0_1.ss t4.toNat 0)) then false else true))
     (R (XE.ret) [.ptr 0 0, .int .i64 4, .int .i64 t3] [.cells 43 [.ro [.str] b0_0 b0_1, .ro [.sl [.int .i64]] b0_2 b0_3]])
     (cnd ((decide ((0 : Int) ≤ (0 : Int) ∧ (0 : Int) ≤ t4 ∧ t4 ≤ (↑b0_0 : Int))))
      (cnd ((decide (0 ≤ t4 ∧ t4 < (↑b0_0 : Int))))
       (cnd ((n91 ((t4 - 0).toNat) b0_1 (b0_1.ss t4.toNat 0)))
        (cnd ((m91 ((t4 - 0).toNat) b0_1 (b0_1.ss t4.toNat 0)))
         (R (XE.ret) [.ptr 0 0, .int .i64 5, .int .i64 t3] [.cells 43 [.ro [.str] b0_0 b0_1, .ro [.sl [.int .i64]] b0_2 b0_3]])
         (R (XE.normal) [.ptr 0 0, .int .i64 t3, .int .i64 (IntKind.i64.wrap (t4 + 1))] [.cells 43 [.ro [.str] b0_0 b0_1, .ro [.sl [.int .i64]] b0_2 b0_3]]))
        False)
       False)
      False))
    False)
   False)
  (R (XE.exit 0) [.ptr 0 0, .any, .int .i64 t3] [.cells 43 [.ro [.str] b0_0 b0_1, .ro [.sl [.int .i64]] b0_2 b0_3]])) := by kernel_rfl
theorem z27_0 : LOk Try.prog g27_0 (.block 0 (bodyAt (Try.f27.body.getD .skip) 0)) := by
  refine loop_blk (ι := Int × Int × Nat × Dat × Nat × Dat) (L := [(29, c29), (90, c90), (91, c91)]) (Λ := (fun _ => none)) (fuel := 8) (na := 0) (nt := 87) (nx := 1) (Lh := [1, 3, 4]) (Le := [1, 2, 3]) (gl := []) (tabOk_cons k29 (tabOk_cons k90 (tabOk_cons k91 tabOk_nil))) mix_ok noLam rfl (fun f x K => GG default (e27_0 x.1 x.2.2.1 x.2.2.2.1 x.2.2.2.2.1 x.2.2.2.2.2) K (l27_0 x.1 x.2.2.1 x.2.2.2.1 x.2.2.2.2.1 x.2.2.2.2.2 f x.2.1)) (fun x => [.ptr 0 0, .int .i64 x.1, .int .i64 x.2.1]) (fun x => [.cells 43 [.ro [.str] x.2.2.1 x.2.2.2.1, .ro [.sl [.int .i64]] x.2.2.2.2.1 x.2.2.2.2.2]]) (fun x K => gg_none) ?_ ?_
  · rintro f ⟨t3, t4, b0_0, b0_1, b0_2, b0_3⟩ K hG
    have hG : GG default (e27_0 t3 b0_0 b0_1 b0_2 b0_3) K (cond ((decide (t4 < t3))) (cond ((decide (0 ≤ t4 ∧ t4 < (↑b0_0 : Int)))) (cond ((n90 (b0_1.ss t4.toNat 0))) (cond ((bif (m90 (b0_1.ss t4.toNat 0)) then false else true)) (some (true, 4, default)) (cond ((decide ((0 : Int) ≤ (0 : Int) ∧ (0 : Int) ≤ t4 ∧ t4 ≤ (↑b0_0 : Int)))) (cond ((decide (0 ≤ t4 ∧ t4 < (↑b0_0 : Int)))) (cond ((n91 ((t4 - 0).toNat) b0_1 (b0_1.ss t4.toNat 0))) (cond ((m91 ((t4 - 0).toNat) b0_1 (b0_1.ss t4.toNat 0))) (some (true, 5, default)) (l27_0 t3 b0_0 b0_1 b0_2 b0_3 f (IntKind.i64.wrap (t4 + 1)))) none) none) none)) none) none) (some (false, default, ()))) := hG
    refine propOf (y27_0 t3 t4 b0_0 b0_1 b0_2 b0_3 _) ?_
    exact cnd_gg2 hG (fun h0 => cnd_gg h0 fun h1 => cnd_gg h1 fun h2 => cnd_gg2 h2 (fun h3 => h3.2) (fun h3 => cnd_gg h3 fun h4 => cnd_gg h4 fun h5 => cnd_gg h5 fun h6 => cnd_gg2 h6 (fun h7 => h7.2) (fun h7 => ⟨(t3, (IntKind.i64.wrap (t4 + 1)), b0_0, b0_1, b0_2, b0_3), rfl, rfl, h7⟩))) (fun h0 => h0.2)
  · intro s k h
    unfold g27_0 at h
    split at h <;> try exact h.elim
    rename_i e1
    rw [needs_iff] at h
    exact ⟨_, e1, _, (_, _, _, _, _, _), rfl, rfl, h.1 _ (List.mem_singleton.2 rfl), h.2⟩
/-! #### loop 2 -/
noncomputable def l27_2 (t3 : Int) (b0_0 : Nat) (b0_1 : Dat) (b0_2 : Nat) (b0_3 : Dat) : Nat → Int → Option (Bool × (Int) × (Unit))
  | 0, _ => none
  | f + 1, t5 => (cond ((decide (t5 < t3))) (cond ((decide (0 ≤ t5 ∧ t5 < (↑b0_2 : Int)))) (cond ((bif (decide (((↑(b0_3.sn t5.toNat 0) : Int)) = t3)) then false else true)) (some (true, 10, default)) (l27_2 t3 b0_0 b0_1 b0_2 b0_3 f (IntKind.i64.wrap (t5 + 1)))) none) (some (false, default, ())))
noncomputable abbrev o27_2 (t3 : Int) (b0_0 : Nat) (b0_1 : Dat) (b0_2 : Nat) (b0_3 : Dat) (t5 : Int) : Option (Bool × (Int) × (Unit)) := l27_2 t3 b0_0 b0_1 b0_2 b0_3 (t3.toNat + t5.toNat + b0_0 + b0_2 + 8) t5
noncomputable def e27_2 (t3 : Int) (b0_0 : Nat) (b0_1 : Dat) (b0_2 : Nat) (b0_3 : Dat) (r : Bool × (Int) × (Unit)) (K : XR) : Prop := cnd r.1 (K (XE.ret) [.ptr 0 0, .int .i64 r.2.1, .int .i64 t3] [.cells 43 [.ro [.str] b0_0 b0_1, .ro [.sl [.int .i64]] b0_2 b0_3]]) (K (XE.exit 2) [.ptr 0 0, .any, .int .i64 t3] [.cells 43 [.ro [.str] b0_0 b0_1, .ro [.sl [.int .i64]] b0_2 b0_3]])
noncomputable def g27_2 : LSum := fun s k => match czv 0 87 [1, 3, 5] 1 [] s with
  | some ([.ptr 0 0, .int .i64 t3, .int .i64 t5], [.cells 43 [.ro [.str] b0_0 b0_1, .ro [.sl [.int .i64]] b0_2 b0_3]]) => needs [(o27_2 t3 b0_0 b0_1 b0_2 b0_3 t5).isSome] (e27_2 t3 b0_0 b0_1 b0_2 b0_3 ((o27_2 t3 b0_0 b0_1 b0_2 b0_3 t5).getD default) fun e vs bs => inBlk 2 k e (mkSt 0 87 [1, 2, 3] vs 1 bs))
  | _ => False
theorem y27_2 (t3 : Int) (t5 : Int) (b0_0 : Nat) (b0_1 : Dat) (b0_2 : Nat) (b0_3 : Dat) (R : XR) : exec Try.prog [(29, c29), (90, c90), (91, c91)] (lamOf [(0, g27_0)]) 8 (unloop (bodyAt (Try.f27.body.getD .skip) 2)) (mkSt 0 87 [1, 3, 5] [.ptr 0 0, .int .i64 t3, .int .i64 t5] 1 [.cells 43 [.ro [.str] b0_0 b0_1, .ro [.sl [.int .i64]] b0_2 b0_3]]) (canonK 0 87 [1, 3, 5] [1, 2, 3] 1 [] R) =
  (cnd ((decide (t5 < t3)))
  (cnd ((decide (0 ≤ t5 ∧ t5 < (↑b0_2 : Int))))
   (cnd ((bif (decide (((↑(b0_3.sn t5.toNat 0) : Int)) = t3)) then false else true))
    (R (XE.ret) [.ptr 0 0, .int .i64 10, .int .i64 t3] [.cells 43 [.ro [.str] b0_0 b0_1, .ro [.sl [.int .i64]] b0_2 b0_3]])
    (R (XE.normal) [.ptr 0 0, .int .i64 t3, .int .i64 (IntKind.i64.wrap (t5 + 1))] [.cells 43 [.ro [.str] b0_0 b0_1, .ro [.sl [.int .i64]] b0_2 b0_3]]))
   False)
  (R (XE.exit 2) [.ptr 0 0, .any, .int .i64 t3] [.cells 43 [.ro [.str] b0_0 b0_1, .ro [.sl [.int .i64]] b0_2 b0_3]])) := by kernel_rfl
theorem z27_2 : LOk Try.prog g27_2 (.block 2 (bodyAt (Try.f27.body.getD .skip) 2)) := by
  refine loop_blk (ι := Int × Int × Nat × Dat × Nat × Dat) (L := [(29, c29), (90, c90), (91, c91)]) (Λ := (lamOf [(0, g27_0)])) (fuel := 8) (na := 0) (nt := 87) (nx := 1) (Lh := [1, 3, 5]) (Le := [1, 2, 3]) (gl := []) (tabOk_cons k29 (tabOk_cons k90 (tabOk_cons k91 tabOk_nil))) mix_ok (lam_of rfl (lams_cons z27_0 lams_nil)) rfl (fun f x K => GG default (e27_2 x.1 x.2.2.1 x.2.2.2.1 x.2.2.2.2.1 x.2.2.2.2.2) K (l27_2 x.1 x.2.2.1 x.2.2.2.1 x.2.2.2.2.1 x.2.2.2.2.2 f x.2.1)) (fun x => [.ptr 0 0, .int .i64 x.1, .int .i64 x.2.1]) (fun x => [.cells 43 [.ro [.str] x.2.2.1 x.2.2.2.1, .ro [.sl [.int .i64]] x.2.2.2.2.1 x.2.2.2.2.2]]) (fun x K => gg_none) ?_ ?_
  · rintro f ⟨t3, t5, b0_0, b0_1, b0_2, b0_3⟩ K hG
    have hG : GG default (e27_2 t3 b0_0 b0_1 b0_2 b0_3) K (cond ((decide (t5 < t3))) (cond ((decide (0 ≤ t5 ∧ t5 < (↑b0_2 : Int)))) (cond ((bif (decide (((↑(b0_3.sn t5.toNat 0) : Int)) = t3)) then false else true)) (some (true, 10, default)) (l27_2 t3 b0_0 b0_1 b0_2 b0_3 f (IntKind.i64.wrap (t5 + 1)))) none) (some (false, default, ()))) := hG
    refine propOf (y27_2 t3 t5 b0_0 b0_1 b0_2 b0_3 _) ?_
    exact cnd_gg2 hG (fun h0 => cnd_gg h0 fun h1 => cnd_gg2 h1 (fun h2 => h2.2) (fun h2 => ⟨(t3, (IntKind.i64.wrap (t5 + 1)), b0_0, b0_1, b0_2, b0_3), rfl, rfl, h2⟩)) (fun h0 => h0.2)
  · intro s k h
    unfold g27_2 at h
    split at h <;> try exact h.elim
    rename_i e1
    rw [needs_iff] at h
    exact ⟨_, e1, _, (_, _, _, _, _, _), rfl, rfl, h.1 _ (List.mem_singleton.2 rfl), h.2⟩
/-! #### loop 6 -/
noncomputable def l27_6 (t3 : Int) (t6 : Int) (b0_0 : Nat) (b0_1 : Dat) (b0_2 : Nat) (b0_3 : Dat) : Nat → Int → Option (Bool × (Int) × (Unit))
  | 0, _ => none
  | f + 1, t7 => (cond ((decide (t7 < t3))) (cond ((decide (0 ≤ t6 ∧ t6 < (↑b0_2 : Int)))) (cond ((decide (0 ≤ t7 ∧ t7 < (↑(b0_3.sn t6.toNat 0) : Int)))) (cond ((bif (m29 ((b0_3.sub t6.toNat 0).ii t7.toNat 0) (-1) 10000) then false else true)) (some (true, 2, default)) (cond ((bif (bif (decide (t6 = t7)) then false else true) then true else (decide (0 ≤ t6 ∧ t6 < (↑b0_2 : Int))))) (cond ((bif (bif (decide (t6 = t7)) then false else true) then true else (decide (0 ≤ t7 ∧ t7 < (↑(b0_3.sn t6.toNat 0) : Int))))) (cond ((bif (decide (t6 = t7)) then (bif (decide (((b0_3.sub t6.toNat 0).ii t7.toNat 0) = 0)) then false else true) else false)) (some (true, 3, default)) (l27_6 t3 t6 b0_0 b0_1 b0_2 b0_3 f (IntKind.i64.wrap (t7 + 1)))) none) none)) none) none) (some (false, default, ())))
noncomputable abbrev o27_6 (t3 : Int) (t6 : Int) (b0_0 : Nat) (b0_1 : Dat) (b0_2 : Nat) (b0_3 : Dat) (t7 : Int) : Option (Bool × (Int) × (Unit)) := l27_6 t3 t6 b0_0 b0_1 b0_2 b0_3 (t3.toNat + t6.toNat + t7.toNat + b0_0 + b0_2 + 8) t7
noncomputable def e27_6 (t3 : Int) (t6 : Int) (b0_0 : Nat) (b0_1 : Dat) (b0_2 : Nat) (b0_3 : Dat) (r : Bool × (Int) × (Unit)) (K : XR) : Prop := cnd r.1 (K (XE.ret) [.ptr 0 0, .int .i64 r.2.1, .int .i64 t3, .int .i64 t6] [.cells 43 [.ro [.str] b0_0 b0_1, .ro [.sl [.int .i64]] b0_2 b0_3]]) (K (XE.exit 6) [.ptr 0 0, .any, .int .i64 t3, .int .i64 t6] [.cells 43 [.ro [.str] b0_0 b0_1, .ro [.sl [.int .i64]] b0_2 b0_3]])
noncomputable def g27_6 : LSum := fun s k => match czv 0 87 [1, 3, 6, 7] 1 [] s with
  | some ([.ptr 0 0, .int .i64 t3, .int .i64 t6, .int .i64 t7], [.cells 43 [.ro [.str] b0_0 b0_1, .ro [.sl [.int .i64]] b0_2 b0_3]]) => needs [(o27_6 t3 t6 b0_0 b0_1 b0_2 b0_3 t7).isSome] (e27_6 t3 t6 b0_0 b0_1 b0_2 b0_3 ((o27_6 t3 t6 b0_0 b0_1 b0_2 b0_3 t7).getD default) fun e vs bs => inBlk 6 k e (mkSt 0 87 [1, 2, 3, 6] vs 1 bs))
  | _ => False
theorem y27_6 (t3 : Int) (t6 : Int) (t7 : Int) (b0_0 : Nat) (b0_1 : Dat) (b0_2 : Nat) (b0_3 : Dat) (R : XR) : exec Try.prog [(29, c29), (90, c90), (91, c91)] (lamOf [(0, g27_0), (2, g27_2)]) 8 (unloop (bodyAt (Try.f27.body.getD .skip) 6)) (mkSt 0 87 [1, 3, 6, 7] [.ptr 0 0, .int .i64 t3, .int .i64 t6, .int .i64 t7] 1 [.cells 43 [.ro [.str] b0_0 b0_1, .ro [.sl [.int .i64]] b0_2 b0_3]]) (canonK 0 87 [1, 3, 6, 7] [1, 2, 3, 6] 1 [] R) =
  (cnd ((decide (t7 < t3)))
  (cnd ((decide (0 ≤ t6 ∧ t6 < (↑b0_2 : Int))))
   (cnd ((decide (0 ≤ t7 ∧ t7 < (↑(b0_3.sn t6.toNat 0) : Int))))
    (cnd ((bif (m29 ((b0_3.sub t6.toNat 0).ii t7.toNat 0) (-1) 10000) then false else true))
     (R (XE.ret) [.ptr 0 0, .int .i64 2, .int .i64 t3, .int .i64 t6] [.cells 43 [.ro [.str] b0_0 b0_1, .ro [.sl [.int .i64]] b0_2 b0_3]])
     (cnd ((bif (bif (decide (t6 = t7)) then false else true) then true else (decide (0 ≤ t6 ∧ t6 < (↑b0_2 : Int)))))
      (cnd ((bif (bif (decide (t6 = t7)) then false else true) then true else (decide (0 ≤ t7 ∧ t7 < (↑(b0_3.sn t6.toNat 0) : Int)))))
       (cnd ((bif (decide (t6 = t7)) then (bif (decide (((b0_3.sub t6.toNat 0).ii t7.toNat 0) = 0)) then false else true) else false))
        (R (XE.ret) [.ptr 0 0, .int .i64 3, .int .i64 t3, .int .i64 t6] [.cells 43 [.ro [.str] b0_0 b0_1, .ro [.sl [.int .i64]] b0_2 b0_3]])
        (R (XE.normal) [.ptr 0 0, .int .i64 t3, .int .i64 t6, .int .i64 (IntKind.i64.wrap (t7 + 1))] [.cells 43 [.ro [.str] b0_0 b0_1, .ro [.sl [.int .i64]] b0_2 b0_3]]))
       False)
      False))
    False)
   False)
  (R (XE.exit 6) [.ptr 0 0, .any, .int .i64 t3, .int .i64 t6] [.cells 43 [.ro [.str] b0_0 b0_1, .ro [.sl [.int .i64]] b0_2 b0_3]])) := by kernel_rfl
theorem z27_6 : LOk Try.prog g27_6 (.block 6 (bodyAt (Try.f27.body.getD .skip) 6)) := by
  refine loop_blk (ι := Int × Int × Int × Nat × Dat × Nat × Dat) (L := [(29, c29), (90, c90), (91, c91)]) (Λ := (lamOf [(0, g27_0), (2, g27_2)])) (fuel := 8) (na := 0) (nt := 87) (nx := 1) (Lh := [1, 3, 6, 7]) (Le := [1, 2, 3, 6]) (gl := []) (tabOk_cons k29 (tabOk_cons k90 (tabOk_cons k91 tabOk_nil))) mix_ok (lam_of rfl (lams_cons z27_0 (lams_cons z27_2 lams_nil))) rfl (fun f x K => GG default (e27_6 x.1 x.2.1 x.2.2.2.1 x.2.2.2.2.1 x.2.2.2.2.2.1 x.2.2.2.2.2.2) K (l27_6 x.1 x.2.1 x.2.2.2.1 x.2.2.2.2.1 x.2.2.2.2.2.1 x.2.2.2.2.2.2 f x.2.2.1)) (fun x => [.ptr 0 0, .int .i64 x.1, .int .i64 x.2.1, .int .i64 x.2.2.1]) (fun x => [.cells 43 [.ro [.str] x.2.2.2.1 x.2.2.2.2.1, .ro [.sl [.int .i64]] x.2.2.2.2.2.1 x.2.2.2.2.2.2]]) (fun x K => gg_none) ?_ ?_
  · rintro f ⟨t3, t6, t7, b0_0, b0_1, b0_2, b0_3⟩ K hG
    have hG : GG default (e27_6 t3 t6 b0_0 b0_1 b0_2 b0_3) K (cond ((decide (t7 < t3))) (cond ((decide (0 ≤ t6 ∧ t6 < (↑b0_2 : Int)))) (cond ((decide (0 ≤ t7 ∧ t7 < (↑(b0_3.sn t6.toNat 0) : Int)))) (cond ((bif (m29 ((b0_3.sub t6.toNat 0).ii t7.toNat 0) (-1) 10000) then false else true)) (some (true, 2, default)) (cond ((bif (bif (decide (t6 = t7)) then false else true) then true else (decide (0 ≤ t6 ∧ t6 < (↑b0_2 : Int))))) (cond ((bif (bif (decide (t6 = t7)) then false else true) then true else (decide (0 ≤ t7 ∧ t7 < (↑(b0_3.sn t6.toNat 0) : Int))))) (cond ((bif (decide (t6 = t7)) then (bif (decide (((b0_3.sub t6.toNat 0).ii t7.toNat 0) = 0)) then false else true) else false)) (some (true, 3, default)) (l27_6 t3 t6 b0_0 b0_1 b0_2 b0_3 f (IntKind.i64.wrap (t7 + 1)))) none) none)) none) none) (some (false, default, ()))) := hG
    refine propOf (y27_6 t3 t6 t7 b0_0 b0_1 b0_2 b0_3 _) ?_
    exact cnd_gg2 hG (fun h0 => cnd_gg h0 fun h1 => cnd_gg h1 fun h2 => cnd_gg2 h2 (fun h3 => h3.2) (fun h3 => cnd_gg h3 fun h4 => cnd_gg h4 fun h5 => cnd_gg2 h5 (fun h6 => h6.2) (fun h6 => ⟨(t3, t6, (IntKind.i64.wrap (t7 + 1)), b0_0, b0_1, b0_2, b0_3), rfl, rfl, h6⟩))) (fun h0 => h0.2)
  · intro s k h
    unfold g27_6 at h
    split at h <;> try exact h.elim
    rename_i e1
    rw [needs_iff] at h
    exact ⟨_, e1, _, (_, _, _, _, _, _, _), rfl, rfl, h.1 _ (List.mem_singleton.2 rfl), h.2⟩
/-! #### loop 4 -/
noncomputable def l27_4 (t3 : Int) (b0_0 : Nat) (b0_1 : Dat) (b0_2 : Nat) (b0_3 : Dat) : Nat → Int → Option (Bool × (Int) × (Unit))
  | 0, _ => none
  | f + 1, t6 => (cond ((decide (t6 < t3))) (cond (((o27_6 t3 t6 b0_0 b0_1 b0_2 b0_3 0).isSome)) (cond ((((o27_6 t3 t6 b0_0 b0_1 b0_2 b0_3 0).getD default).fst)) (some (true, (((o27_6 t3 t6 b0_0 b0_1 b0_2 b0_3 0).getD default).snd.fst), default)) (l27_4 t3 b0_0 b0_1 b0_2 b0_3 f (IntKind.i64.wrap (t6 + 1)))) none) (some (false, default, ())))
noncomputable abbrev o27_4 (t3 : Int) (b0_0 : Nat) (b0_1 : Dat) (b0_2 : Nat) (b0_3 : Dat) (t6 : Int) : Option (Bool × (Int) × (Unit)) := l27_4 t3 b0_0 b0_1 b0_2 b0_3 (t3.toNat + t6.toNat + b0_0 + b0_2 + 8) t6
noncomputable def e27_4 (t3 : Int) (b0_0 : Nat) (b0_1 : Dat) (b0_2 : Nat) (b0_3 : Dat) (r : Bool × (Int) × (Unit)) (K : XR) : Prop := cnd r.1 (K (XE.ret) [.int .i64 r.2.1] [.cells 43 [.ro [.str] b0_0 b0_1, .ro [.sl [.int .i64]] b0_2 b0_3]]) (K (XE.exit 4) [.any] [.cells 43 [.ro [.str] b0_0 b0_1, .ro [.sl [.int .i64]] b0_2 b0_3]])
noncomputable def g27_4 : LSum := fun s k => match czv 0 87 [1, 3, 6] 1 [] s with
  | some ([.ptr 0 0, .int .i64 t3, .int .i64 t6], [.cells 43 [.ro [.str] b0_0 b0_1, .ro [.sl [.int .i64]] b0_2 b0_3]]) => needs [(o27_4 t3 b0_0 b0_1 b0_2 b0_3 t6).isSome] (e27_4 t3 b0_0 b0_1 b0_2 b0_3 ((o27_4 t3 b0_0 b0_1 b0_2 b0_3 t6).getD default) fun e vs bs => inBlk 4 k e (mkSt 0 87 [2] vs 1 bs))
  | _ => False
theorem y27_4 (t3 : Int) (t6 : Int) (b0_0 : Nat) (b0_1 : Dat) (b0_2 : Nat) (b0_3 : Dat) (R : XR) : exec Try.prog [(29, c29), (90, c90), (91, c91)] (lamOf [(0, g27_0), (2, g27_2), (6, g27_6)]) 8 (unloop (bodyAt (Try.f27.body.getD .skip) 4)) (mkSt 0 87 [1, 3, 6] [.ptr 0 0, .int .i64 t3, .int .i64 t6] 1 [.cells 43 [.ro [.str] b0_0 b0_1, .ro [.sl [.int .i64]] b0_2 b0_3]]) (canonK 0 87 [1, 3, 6] [2] 1 [] R) =
  (cnd ((decide (t6 < t3)))
  (cnd (((o27_6 t3 t6 b0_0 b0_1 b0_2 b0_3 0).isSome))
   (cnd ((((o27_6 t3 t6 b0_0 b0_1 b0_2 b0_3 0).getD default).fst))
    (R (XE.ret) [.int .i64 (((o27_6 t3 t6 b0_0 b0_1 b0_2 b0_3 0).getD default).snd.fst)] [.cells 43 [.ro [.str] b0_0 b0_1, .ro [.sl [.int .i64]] b0_2 b0_3]])
    (R (XE.normal) [.ptr 0 0, .int .i64 t3, .int .i64 (IntKind.i64.wrap (t6 + 1))] [.cells 43 [.ro [.str] b0_0 b0_1, .ro [.sl [.int .i64]] b0_2 b0_3]]))
   False)
  (R (XE.exit 4) [.any] [.cells 43 [.ro [.str] b0_0 b0_1, .ro [.sl [.int .i64]] b0_2 b0_3]])) := by kernel_rfl
theorem z27_4 : LOk Try.prog g27_4 (.block 4 (bodyAt (Try.f27.body.getD .skip) 4)) := by
  refine loop_blk (ι := Int × Int × Nat × Dat × Nat × Dat) (L := [(29, c29), (90, c90), (91, c91)]) (Λ := (lamOf [(0, g27_0), (2, g27_2), (6, g27_6)])) (fuel := 8) (na := 0) (nt := 87) (nx := 1) (Lh := [1, 3, 6]) (Le := [2]) (gl := []) (tabOk_cons k29 (tabOk_cons k90 (tabOk_cons k91 tabOk_nil))) mix_ok (lam_of rfl (lams_cons z27_0 (lams_cons z27_2 (lams_cons z27_6 lams_nil)))) rfl (fun f x K => GG default (e27_4 x.1 x.2.2.1 x.2.2.2.1 x.2.2.2.2.1 x.2.2.2.2.2) K (l27_4 x.1 x.2.2.1 x.2.2.2.1 x.2.2.2.2.1 x.2.2.2.2.2 f x.2.1)) (fun x => [.ptr 0 0, .int .i64 x.1, .int .i64 x.2.1]) (fun x => [.cells 43 [.ro [.str] x.2.2.1 x.2.2.2.1, .ro [.sl [.int .i64]] x.2.2.2.2.1 x.2.2.2.2.2]]) (fun x K => gg_none) ?_ ?_
  · rintro f ⟨t3, t6, b0_0, b0_1, b0_2, b0_3⟩ K hG
    have hG : GG default (e27_4 t3 b0_0 b0_1 b0_2 b0_3) K (cond ((decide (t6 < t3))) (cond (((o27_6 t3 t6 b0_0 b0_1 b0_2 b0_3 0).isSome)) (cond ((((o27_6 t3 t6 b0_0 b0_1 b0_2 b0_3 0).getD default).fst)) (some (true, (((o27_6 t3 t6 b0_0 b0_1 b0_2 b0_3 0).getD default).snd.fst), default)) (l27_4 t3 b0_0 b0_1 b0_2 b0_3 f (IntKind.i64.wrap (t6 + 1)))) none) (some (false, default, ()))) := hG
    refine propOf (y27_4 t3 t6 b0_0 b0_1 b0_2 b0_3 _) ?_
    exact cnd_gg2 hG (fun h0 => cnd_gg h0 fun h1 => cnd_gg2 h1 (fun h2 => h2.2) (fun h2 => ⟨(t3, (IntKind.i64.wrap (t6 + 1)), b0_0, b0_1, b0_2, b0_3), rfl, rfl, h2⟩)) (fun h0 => h0.2)
  · intro s k h
    unfold g27_4 at h
    split at h <;> try exact h.elim
    rename_i e1
    rw [needs_iff] at h
    exact ⟨_, e1, _, (_, _, _, _, _, _), rfl, rfl, h.1 _ (List.mem_singleton.2 rfl), h.2⟩
theorem x27 (na0_0 : Nat) (da0_0 : Dat) (na0_1 : Nat) (da0_1 : Dat) (R : SV → List Blk → List Blk → Prop) : exec Try.prog [(29, c29), (90, c90), (91, c91)] (lamOf [(0, g27_0), (2, g27_2), (6, g27_6), (4, g27_4)]) 8 (Try.f27.body.getD .skip) (initS Try.f27.ntmps [.agg [.ro [.str] na0_0 da0_0, .ro [.sl [.int .i64]] na0_1 da0_1]] 0 (memOf [])) (retK Try.prog Try.f27.results.toList (outK 0 (List.range 0) [] (.k) fun v U N => R v U N)) =
  (cnd ((decide (12 < ((↑na0_0 : Int)))))
  (R (.int .i64 8) [] [])
  (cnd (((o27_0 ((↑na0_0 : Int)) na0_0 da0_0 na0_1 da0_1 0).isSome))
   (cnd ((((o27_0 ((↑na0_0 : Int)) na0_0 da0_0 na0_1 da0_1 0).getD default).fst))
    (R (.int .i64 (((o27_0 ((↑na0_0 : Int)) na0_0 da0_0 na0_1 da0_1 0).getD default).snd.fst)) [] [])
    (cnd ((bif (decide (((↑na0_1 : Int)) = ((↑na0_0 : Int)))) then false else true))
     (R (.int .i64 10) [] [])
     (cnd (((o27_2 ((↑na0_0 : Int)) na0_0 da0_0 na0_1 da0_1 0).isSome))
      (cnd ((((o27_2 ((↑na0_0 : Int)) na0_0 da0_0 na0_1 da0_1 0).getD default).fst))
       (R (.int .i64 (((o27_2 ((↑na0_0 : Int)) na0_0 da0_0 na0_1 da0_1 0).getD default).snd.fst)) [] [])
       (cnd (((o27_4 ((↑na0_0 : Int)) na0_0 da0_0 na0_1 da0_1 0).isSome))
        (cnd ((((o27_4 ((↑na0_0 : Int)) na0_0 da0_0 na0_1 da0_1 0).getD default).fst))
         (R (.int .i64 (((o27_4 ((↑na0_0 : Int)) na0_0 da0_0 na0_1 da0_1 0).getD default).snd.fst)) [] [])
         (R (.int .i64 0) [] []))
        False))
      False)))
   False)) := by kernel_rfl
noncomputable def m27 (na0_0 : Nat) (da0_0 : Dat) (na0_1 : Nat) (da0_1 : Dat) : Int :=
  (cond ((decide (12 < ((↑na0_0 : Int))))) 8 (cond ((((o27_0 ((↑na0_0 : Int)) na0_0 da0_0 na0_1 da0_1 0).getD default).fst)) (((o27_0 ((↑na0_0 : Int)) na0_0 da0_0 na0_1 da0_1 0).getD default).snd.fst) (cond ((bif (decide (((↑na0_1 : Int)) = ((↑na0_0 : Int)))) then false else true)) 10 (cond ((((o27_2 ((↑na0_0 : Int)) na0_0 da0_0 na0_1 da0_1 0).getD default).fst)) (((o27_2 ((↑na0_0 : Int)) na0_0 da0_0 na0_1 da0_1 0).getD default).snd.fst) (cond ((((o27_4 ((↑na0_0 : Int)) na0_0 da0_0 na0_1 da0_1 0).getD default).fst)) (((o27_4 ((↑na0_0 : Int)) na0_0 da0_0 na0_1 da0_1 0).getD default).snd.fst) 0)))))
noncomputable def n27 (na0_0 : Nat) (da0_0 : Dat) (na0_1 : Nat) (da0_1 : Dat) : Bool :=
  (cond ((decide (12 < ((↑na0_0 : Int))))) true ((((o27_0 ((↑na0_0 : Int)) na0_0 da0_0 na0_1 da0_1 0).isSome)) && (cond ((((o27_0 ((↑na0_0 : Int)) na0_0 da0_0 na0_1 da0_1 0).getD default).fst)) true (cond ((bif (decide (((↑na0_1 : Int)) = ((↑na0_0 : Int)))) then false else true)) true ((((o27_2 ((↑na0_0 : Int)) na0_0 da0_0 na0_1 da0_1 0).isSome)) && (cond ((((o27_2 ((↑na0_0 : Int)) na0_0 da0_0 na0_1 da0_1 0).getD default).fst)) true ((((o27_4 ((↑na0_0 : Int)) na0_0 da0_0 na0_1 da0_1 0).isSome)) && true)))))))
noncomputable def q27 (r : Int) : SV × List Blk × List Blk := (.int .i64 r, [], [])
noncomputable def g27 : List SV → List Blk → Option OpRes := fun vs bs => match vs, bs with
  | [.agg [.ro [.str] na0_0 da0_0, .ro [.sl [.int .i64]] na0_1 da0_1]], [] => some (resOf 0 (q27 (m27 na0_0 da0_0 na0_1 da0_1)) [n27 na0_0 da0_0 na0_1 da0_1])
  | _, _ => none
noncomputable def c27 : Ctr := genC [.a [.ro [.str], .ro [.sl [.int .i64]]]] g27
theorem p27 (na0_0 : Nat) (da0_0 : Dat) (na0_1 : Nat) (da0_1 : Dat) (hn : n27 na0_0 da0_0 na0_1 da0_1 = true) : exec Try.prog [(29, c29), (90, c90), (91, c91)] (lamOf [(0, g27_0), (2, g27_2), (6, g27_6), (4, g27_4)]) 8 (Try.f27.body.getD .skip) (initS Try.f27.ntmps [.agg [.ro [.str] na0_0 da0_0, .ro [.sl [.int .i64]] na0_1 da0_1]] 0 (memOf [])) (retK Try.prog Try.f27.results.toList (outK 0 (List.range 0) [] (.k) fun v U N => (v, U, N) = (q27 (m27 na0_0 da0_0 na0_1 da0_1)))) :=
  propOf (x27 na0_0 da0_0 na0_1 da0_1 _) (cnd_of (fun h0 => leaf_of (l := 8) (condT h0 rfl) rfl) (fun h0 => cnd_need (and_l (cond_f h0 hn)) (cnd_of (fun h1 => leaf_of (l := (((o27_0 ((↑na0_0 : Int)) na0_0 da0_0 na0_1 da0_1 0).getD default).snd.fst)) (condF h0 (condT h1 rfl)) rfl) (fun h1 => cnd_of (fun h2 => leaf_of (l := 10) (condF h0 (condF h1 (condT h2 rfl))) rfl) (fun h2 => cnd_need (and_l (cond_f h2 (cond_f h1 (and_r (cond_f h0 hn))))) (cnd_of (fun h3 => leaf_of (l := (((o27_2 ((↑na0_0 : Int)) na0_0 da0_0 na0_1 da0_1 0).getD default).snd.fst)) (condF h0 (condF h1 (condF h2 (condT h3 rfl)))) rfl) (fun h3 => cnd_need (and_l (cond_f h3 (and_r (cond_f h2 (cond_f h1 (and_r (cond_f h0 hn))))))) (cnd_of (fun h4 => leaf_of (l := (((o27_4 ((↑na0_0 : Int)) na0_0 da0_0 na0_1 da0_1 0).getD default).snd.fst)) (condF h0 (condF h1 (condF h2 (condF h3 (condT h4 rfl))))) rfl) (fun h4 => leaf_of (l := 0) (condF h0 (condF h1 (condF h2 (condF h3 (condF h4 rfl))))) rfl)))))))))
theorem k27 : CtrOk Try.prog c27 27 := ctr_of (tabOk_cons k29 (tabOk_cons k90 (tabOk_cons k91 tabOk_nil))) mix_ok 8 (fn := Try.f27) (c := (Try.f27.body.getD .skip)) (grs := []) (rh := .k) (Λ := (lamOf [(0, g27_0), (2, g27_2), (6, g27_6), (4, g27_4)])) Try.func27 rfl (by kernel_rfl) (lam_of rfl (lams_cons z27_0 (lams_cons z27_2 (lams_cons z27_6 (lams_cons z27_4 lams_nil))))) fun vs bs q h hn => by
  unfold g27 at h
  split at h <;> cases h
  exact ⟨_, rfl, p27 _ _ _ _ (hn _ (List.mem_singleton.2 rfl))⟩
/-! ### shotline/shotlinebase.Has -/
/-! #### loop 0 -/
noncomputable def l97_0 (t0_0 : Nat) (t0_1 : Dat) (t1 : Int) : Nat → Int → Option (Bool × (Bool) × (Unit))
  | 0, _ => none
  | f + 1, t5 => (cond ((decide (t5 < ((↑t0_0 : Int))))) (cond ((decide (0 ≤ t5 ∧ t5 < (↑t0_0 : Int)))) (cond ((decide ((t0_1.ii t5.toNat 0) = t1))) (some (true, true, default)) (l97_0 t0_0 t0_1 t1 f (IntKind.i64.wrap (t5 + 1)))) none) (some (false, default, ())))
noncomputable abbrev o97_0 (t0_0 : Nat) (t0_1 : Dat) (t1 : Int) (t5 : Int) : Option (Bool × (Bool) × (Unit)) := l97_0 t0_0 t0_1 t1 (t0_0 + t1.toNat + t5.toNat + 8) t5
noncomputable def e97_0 (t0_0 : Nat) (t0_1 : Dat) (t1 : Int) (r : Bool × (Bool) × (Unit)) (K : XR) : Prop := cnd r.1 (K (XE.ret) [.bool r.2.1] []) (K (XE.exit 0) [.any] [])
noncomputable def g97_0 : LSum := fun s k => match czv 0 18 [0, 1, 5] 0 [] s with
  | some ([.ro [.int .i64] t0_0 t0_1, .int .i64 t1, .int .i64 t5], []) => needs [(o97_0 t0_0 t0_1 t1 t5).isSome] (e97_0 t0_0 t0_1 t1 ((o97_0 t0_0 t0_1 t1 t5).getD default) fun e vs bs => inBlk 0 k e (mkSt 0 18 [4] vs 0 bs))
  | _ => False
theorem y97_0 (t0_0 : Nat) (t0_1 : Dat) (t1 : Int) (t5 : Int) (R : XR) : exec Try.prog [] (fun _ => none) 8 (unloop (bodyAt (Try.f97.body.getD .skip) 0)) (mkSt 0 18 [0, 1, 5] [.ro [.int .i64] t0_0 t0_1, .int .i64 t1, .int .i64 t5] 0 []) (canonK 0 18 [0, 1, 5] [4] 0 [] R) =
  (cnd ((decide (t5 < ((↑t0_0 : Int)))))
  (cnd ((decide (0 ≤ t5 ∧ t5 < (↑t0_0 : Int))))
   (cnd ((decide ((t0_1.ii t5.toNat 0) = t1)))
    (R (XE.ret) [.bool true] [])
    (R (XE.normal) [.ro [.int .i64] t0_0 t0_1, .int .i64 t1, .int .i64 (IntKind.i64.wrap (t5 + 1))] []))
   False)
  (R (XE.exit 0) [.any] [])) := by kernel_rfl
theorem z97_0 : LOk Try.prog g97_0 (.block 0 (bodyAt (Try.f97.body.getD .skip) 0)) := by
  refine loop_blk (ι := Nat × Dat × Int × Int) (L := []) (Λ := (fun _ => none)) (fuel := 8) (na := 0) (nt := 18) (nx := 0) (Lh := [0, 1, 5]) (Le := [4]) (gl := []) tabOk_nil mix_ok noLam rfl (fun f x K => GG default (e97_0 x.1 x.2.1 x.2.2.1) K (l97_0 x.1 x.2.1 x.2.2.1 f x.2.2.2)) (fun x => [.ro [.int .i64] x.1 x.2.1, .int .i64 x.2.2.1, .int .i64 x.2.2.2]) (fun x => []) (fun x K => gg_none) ?_ ?_
  · rintro f ⟨t0_0, t0_1, t1, t5⟩ K hG
    have hG : GG default (e97_0 t0_0 t0_1 t1) K (cond ((decide (t5 < ((↑t0_0 : Int))))) (cond ((decide (0 ≤ t5 ∧ t5 < (↑t0_0 : Int)))) (cond ((decide ((t0_1.ii t5.toNat 0) = t1))) (some (true, true, default)) (l97_0 t0_0 t0_1 t1 f (IntKind.i64.wrap (t5 + 1)))) none) (some (false, default, ()))) := hG
    refine propOf (y97_0 t0_0 t0_1 t1 t5 _) ?_
    exact cnd_gg2 hG (fun h0 => cnd_gg h0 fun h1 => cnd_gg2 h1 (fun h2 => h2.2) (fun h2 => ⟨(t0_0, t0_1, t1, (IntKind.i64.wrap (t5 + 1))), rfl, rfl, h2⟩)) (fun h0 => h0.2)
  · intro s k h
    unfold g97_0 at h
    split at h <;> try exact h.elim
    rename_i e1
    rw [needs_iff] at h
    exact ⟨_, e1, _, (_, _, _, _), rfl, rfl, h.1 _ (List.mem_singleton.2 rfl), h.2⟩
theorem x97 (na0 : Nat) (da0 : Dat) (a1 : Int) (R : SV → List Blk → List Blk → Prop) : exec Try.prog [] (lamOf [(0, g97_0)]) 8 (Try.f97.body.getD .skip) (initS Try.f97.ntmps [.ro [.int .i64] na0 da0, .int .i64 a1] 0 (memOf [])) (retK Try.prog Try.f97.results.toList (outK 0 (List.range 0) [] (.k) fun v U N => R v U N)) =
  (cnd (((o97_0 na0 da0 a1 0).isSome))
  (cnd ((((o97_0 na0 da0 a1 0).getD default).fst))
   (R (.bool (((o97_0 na0 da0 a1 0).getD default).snd.fst)) [] [])
   (R (.bool false) [] []))
  False) := by kernel_rfl
noncomputable def m97 (na0 : Nat) (da0 : Dat) (a1 : Int) : Bool :=
  (cond ((((o97_0 na0 da0 a1 0).getD default).fst)) (((o97_0 na0 da0 a1 0).getD default).snd.fst) false)
noncomputable def n97 (na0 : Nat) (da0 : Dat) (a1 : Int) : Bool :=
  ((((o97_0 na0 da0 a1 0).isSome)) && true)
noncomputable def q97 (r : Bool) : SV × List Blk × List Blk := (.bool r, [], [])
noncomputable def g97 : List SV → List Blk → Option OpRes := fun vs bs => match vs, bs with
  | [.ro [.int .i64] na0 da0, .int .i64 a1], [] => some (resOf 0 (q97 (m97 na0 da0 a1)) [n97 na0 da0 a1])
  | _, _ => none
noncomputable def c97 : Ctr := genC [.ro [.int .i64], .k] g97
theorem p97 (na0 : Nat) (da0 : Dat) (a1 : Int) (hn : n97 na0 da0 a1 = true) : exec Try.prog [] (lamOf [(0, g97_0)]) 8 (Try.f97.body.getD .skip) (initS Try.f97.ntmps [.ro [.int .i64] na0 da0, .int .i64 a1] 0 (memOf [])) (retK Try.prog Try.f97.results.toList (outK 0 (List.range 0) [] (.k) fun v U N => (v, U, N) = (q97 (m97 na0 da0 a1)))) :=
  propOf (x97 na0 da0 a1 _) (cnd_need (and_l hn) (cnd_of (fun h0 => leaf_of (l := (((o97_0 na0 da0 a1 0).getD default).snd.fst)) (condT h0 rfl) rfl) (fun h0 => leaf_of (l := false) (condF h0 rfl) rfl)))
theorem k97 : CtrOk Try.prog c97 97 := ctr_of tabOk_nil mix_ok 8 (fn := Try.f97) (c := (Try.f97.body.getD .skip)) (grs := []) (rh := .k) (Λ := (lamOf [(0, g97_0)])) Try.func97 rfl (by kernel_rfl) (lam_of rfl (lams_cons z97_0 lams_nil)) fun vs bs q h hn => by
  unfold g97 at h
  split at h <;> cases h
  exact ⟨_, rfl, p97 _ _ _ (hn _ (List.mem_singleton.2 rfl))⟩
/-! ### shotline/shotlineref08.MinutesOf -/
/-! #### loop 0 -/
noncomputable def l31_0 (t1_0 : Nat) (t1_1 : Dat) (b0_0 : Nat) (b0_1 : Dat) (b0_2 : Nat) (b0_3 : Dat) : Nat → Int → Int → Option (Bool × (Int × Int) × (Int))
  | 0, _, _ => none
  | f + 1, t5, t6 => (cond ((decide (t6 < ((↑t1_0 : Int))))) (cond ((decide (0 ≤ t6 ∧ t6 < (↑t1_0 : Int)))) (cond ((bif (bif (bif (bif (m29 (t1_1.ii t6.toNat 0) 0 (IntKind.i64.wrap (((↑b0_0 : Int)) - 1))) then false else true) then false else true) then false else true) then true else (decide ((0 : Int) ≤ (0 : Int) ∧ (0 : Int) ≤ t6 ∧ t6 ≤ (↑t1_0 : Int))))) (cond ((bif (bif (bif (bif (m29 (t1_1.ii t6.toNat 0) 0 (IntKind.i64.wrap (((↑b0_0 : Int)) - 1))) then false else true) then false else true) then false else true) then true else (decide (0 ≤ t6 ∧ t6 < (↑t1_0 : Int))))) (cond ((bif (bif (bif (bif (m29 (t1_1.ii t6.toNat 0) 0 (IntKind.i64.wrap (((↑b0_0 : Int)) - 1))) then false else true) then false else true) then false else true) then true else (n97 ((t6 - 0).toNat) t1_1 (t1_1.ii t6.toNat 0)))) (cond ((bif (bif (m29 (t1_1.ii t6.toNat 0) 0 (IntKind.i64.wrap (((↑b0_0 : Int)) - 1))) then false else true) then true else (m97 ((t6 - 0).toNat) t1_1 (t1_1.ii t6.toNat 0)))) (some (true, ((-1), t5), default)) (cond ((decide ((0 : Int) < t6))) (cond ((decide (0 ≤ IntKind.i64.wrap (t6 - 1) ∧ IntKind.i64.wrap (t6 - 1) < (↑t1_0 : Int)))) (cond ((decide ((0 : Int) ≤ t1_1.ii (IntKind.i64.wrap (t6 - (1 : Int))).toNat (0 : Nat) ∧ t1_1.ii (IntKind.i64.wrap (t6 - (1 : Int))).toNat (0 : Nat) < (↑b0_2 : Int)))) (cond ((decide (0 ≤ t6 ∧ t6 < (↑t1_0 : Int)))) (cond ((decide ((0 : Int) ≤ t1_1.ii t6.toNat (0 : Nat) ∧ t1_1.ii t6.toNat (0 : Nat) < (↑(b0_3.sn (t1_1.ii (IntKind.i64.wrap (t6 - (1 : Int))).toNat (0 : Nat)).toNat (0 : Nat)) : Int)))) (cond ((decide (((b0_3.sub ((t1_1.ii ((IntKind.i64.wrap (t6 - 1)).toNat) 0).toNat) 0).ii ((t1_1.ii t6.toNat 0).toNat) 0) < 0))) (some (true, ((-1), t5), default)) (l31_0 t1_0 t1_1 b0_0 b0_1 b0_2 b0_3 f (IntKind.i64.wrap (t5 + ((b0_3.sub ((t1_1.ii ((IntKind.i64.wrap (t6 - 1)).toNat) 0).toNat) 0).ii ((t1_1.ii t6.toNat 0).toNat) 0))) (IntKind.i64.wrap (t6 + 1)))) none) none) none) none) (l31_0 t1_0 t1_1 b0_0 b0_1 b0_2 b0_3 f t5 (IntKind.i64.wrap (t6 + 1))))) none) none) none) none) (some (false, default, t5)))
noncomputable abbrev o31_0 (t1_0 : Nat) (t1_1 : Dat) (b0_0 : Nat) (b0_1 : Dat) (b0_2 : Nat) (b0_3 : Dat) (t5 : Int) (t6 : Int) : Option (Bool × (Int × Int) × (Int)) := l31_0 t1_0 t1_1 b0_0 b0_1 b0_2 b0_3 (t1_0 + t5.toNat + t6.toNat + b0_0 + b0_2 + 8) t5 t6
noncomputable def e31_0 (t1_0 : Nat) (t1_1 : Dat) (b0_0 : Nat) (b0_1 : Dat) (b0_2 : Nat) (b0_3 : Dat) (r : Bool × (Int × Int) × (Int)) (K : XR) : Prop := cnd r.1 (K (XE.ret) [.int .i64 r.2.1.1, .int .i64 r.2.1.2] [.cells 43 [.ro [.str] b0_0 b0_1, .ro [.sl [.int .i64]] b0_2 b0_3]]) (K (XE.exit 0) [.any, .int .i64 r.2.2] [.cells 43 [.ro [.str] b0_0 b0_1, .ro [.sl [.int .i64]] b0_2 b0_3]])
noncomputable def g31_0 : LSum := fun s k => match czv 0 57 [1, 2, 5, 6] 1 [] s with
  | some ([.ro [.int .i64] t1_0 t1_1, .ptr 0 0, .int .i64 t5, .int .i64 t6], [.cells 43 [.ro [.str] b0_0 b0_1, .ro [.sl [.int .i64]] b0_2 b0_3]]) => needs [(o31_0 t1_0 t1_1 b0_0 b0_1 b0_2 b0_3 t5 t6).isSome] (e31_0 t1_0 t1_1 b0_0 b0_1 b0_2 b0_3 ((o31_0 t1_0 t1_1 b0_0 b0_1 b0_2 b0_3 t5 t6).getD default) fun e vs bs => inBlk 0 k e (mkSt 0 57 [4, 5] vs 1 bs))
  | _ => False
theorem y31_0 (t1_0 : Nat) (t1_1 : Dat) (t5 : Int) (t6 : Int) (b0_0 : Nat) (b0_1 : Dat) (b0_2 : Nat) (b0_3 : Dat) (R : XR) : exec Try.prog [(29, c29), (97, c97)] (fun _ => none) 8 (unloop (bodyAt (Try.f31.body.getD .skip) 0)) (mkSt 0 57 [1, 2, 5, 6] [.ro [.int .i64] t1_0 t1_1, .ptr 0 0, .int .i64 t5, .int .i64 t6] 1 [.cells 43 [.ro [.str] b0_0 b0_1, .ro [.sl [.int .i64]] b0_2 b0_3]]) (canonK 0 57 [1, 2, 5, 6] [4, 5] 1 [] R) =
  (cnd ((decide (t6 < ((↑t1_0 : Int)))))
  (cnd ((decide (0 ≤ t6 ∧ t6 < (↑t1_0 : Int))))
   (cnd ((bif (bif (bif (bif (m29 (t1_1.ii t6.toNat 0) 0 (IntKind.i64.wrap (((↑b0_0 : Int)) - 1))) then false else true) then false else true) then false else true) then true else (decide ((0 : Int) ≤ (0 : Int) ∧ (0 : Int) ≤ t6 ∧ t6 ≤ (↑t1_0 : Int)))))
    (cnd ((bif (bif (bif (bif (m29 (t1_1.ii t6.toNat 0) 0 (IntKind.i64.wrap (((↑b0_0 : Int)) - 1))) then false else true) then false else true) then false else true) then true else (decide (0 ≤ t6 ∧ t6 < (↑t1_0 : Int)))))
     (cnd ((bif (bif (bif (bif (m29 (t1_1.ii t6.toNat 0) 0 (IntKind.i64.wrap (((↑b0_0 : Int)) - 1))) then false else true) then false else true) then false else true) then true else (n97 ((t6 - 0).toNat) t1_1 (t1_1.ii t6.toNat 0))))
      (cnd ((bif (bif (m29 (t1_1.ii t6.toNat 0) 0 (IntKind.i64.wrap (((↑b0_0 : Int)) - 1))) then false else true) then true else (m97 ((t6 - 0).toNat) t1_1 (t1_1.ii t6.toNat 0))))
       (R (XE.ret) [.int .i64 (-1), .int .i64 t5] [.cells 43 [.ro [.str] b0_0 b0_1, .ro [.sl [.int .i64]] b0_2 b0_3]])
       (cnd ((decide ((0 : Int) < t6)))
        (cnd ((decide (0 ≤ IntKind.i64.wrap (t6 - 1) ∧ IntKind.i64.wrap (t6 - 1) < (↑t1_0 : Int))))
         (cnd ((decide ((0 : Int) ≤ t1_1.ii (IntKind.i64.wrap (t6 - (1 : Int))).toNat (0 : Nat) ∧ t1_1.ii (IntKind.i64.wrap (t6 - (1 : Int))).toNat (0 : Nat) < (↑b0_2 : Int))))
          (cnd ((decide (0 ≤ t6 ∧ t6 < (↑t1_0 : Int))))
           (cnd ((decide ((0 : Int) ≤ t1_1.ii t6.toNat (0 : Nat) ∧ t1_1.ii t6.toNat (0 : Nat) < (↑(b0_3.sn (t1_1.ii (IntKind.i64.wrap (t6 - (1 : Int))).toNat (0 : Nat)).toNat (0 : Nat)) : Int))))
            (cnd ((decide (((b0_3.sub ((t1_1.ii ((IntKind.i64.wrap (t6 - 1)).toNat) 0).toNat) 0).ii ((t1_1.ii t6.toNat 0).toNat) 0) < 0)))
             (R (XE.ret) [.int .i64 (-1), .int .i64 t5] [.cells 43 [.ro [.str] b0_0 b0_1, .ro [.sl [.int .i64]] b0_2 b0_3]])
             (R (XE.normal) [.ro [.int .i64] t1_0 t1_1, .ptr 0 0, .int .i64 (IntKind.i64.wrap (t5 + ((b0_3.sub ((t1_1.ii ((IntKind.i64.wrap (t6 - 1)).toNat) 0).toNat) 0).ii ((t1_1.ii t6.toNat 0).toNat) 0))), .int .i64 (IntKind.i64.wrap (t6 + 1))] [.cells 43 [.ro [.str] b0_0 b0_1, .ro [.sl [.int .i64]] b0_2 b0_3]]))
            False)
           False)
          False)
         False)
        (R (XE.normal) [.ro [.int .i64] t1_0 t1_1, .ptr 0 0, .int .i64 t5, .int .i64 (IntKind.i64.wrap (t6 + 1))] [.cells 43 [.ro [.str] b0_0 b0_1, .ro [.sl [.int .i64]] b0_2 b0_3]])))
      False)
     False)
    False)
   False)
  (R (XE.exit 0) [.any, .int .i64 t5] [.cells 43 [.ro [.str] b0_0 b0_1, .ro [.sl [.int .i64]] b0_2 b0_3]])) := by kernel_rfl
theorem z31_0 : LOk Try.prog g31_0 (.block 0 (bodyAt (Try.f31.body.getD .skip) 0)) := by
  refine loop_blk (ι := Nat × Dat × Int × Int × Nat × Dat × Nat × Dat) (L := [(29, c29), (97, c97)]) (Λ := (fun _ => none)) (fuel := 8) (na := 0) (nt := 57) (nx := 1) (Lh := [1, 2, 5, 6]) (Le := [4, 5]) (gl := []) (tabOk_cons k29 (tabOk_cons k97 tabOk_nil)) mix_ok noLam rfl (fun f x K => GG default (e31_0 x.1 x.2.1 x.2.2.2.2.1 x.2.2.2.2.2.1 x.2.2.2.2.2.2.1 x.2.2.2.2.2.2.2) K (l31_0 x.1 x.2.1 x.2.2.2.2.1 x.2.2.2.2.2.1 x.2.2.2.2.2.2.1 x.2.2.2.2.2.2.2 f x.2.2.1 x.2.2.2.1)) (fun x => [.ro [.int .i64] x.1 x.2.1, .ptr 0 0, .int .i64 x.2.2.1, .int .i64 x.2.2.2.1]) (fun x => [.cells 43 [.ro [.str] x.2.2.2.2.1 x.2.2.2.2.2.1, .ro [.sl [.int .i64]] x.2.2.2.2.2.2.1 x.2.2.2.2.2.2.2]]) (fun x K => gg_none) ?_ ?_
  · rintro f ⟨t1_0, t1_1, t5, t6, b0_0, b0_1, b0_2, b0_3⟩ K hG
    have hG : GG default (e31_0 t1_0 t1_1 b0_0 b0_1 b0_2 b0_3) K (cond ((decide (t6 < ((↑t1_0 : Int))))) (cond ((decide (0 ≤ t6 ∧ t6 < (↑t1_0 : Int)))) (cond ((bif (bif (bif (bif (m29 (t1_1.ii t6.toNat 0) 0 (IntKind.i64.wrap (((↑b0_0 : Int)) - 1))) then false else true) then false else true) then false else true) then true else (decide ((0 : Int) ≤ (0 : Int) ∧ (0 : Int) ≤ t6 ∧ t6 ≤ (↑t1_0 : Int))))) (cond ((bif (bif (bif (bif (m29 (t1_1.ii t6.toNat 0) 0 (IntKind.i64.wrap (((↑b0_0 : Int)) - 1))) then false else true) then false else true) then false else true) then true else (decide (0 ≤ t6 ∧ t6 < (↑t1_0 : Int))))) (cond ((bif (bif (bif (bif (m29 (t1_1.ii t6.toNat 0) 0 (IntKind.i64.wrap (((↑b0_0 : Int)) - 1))) then false else true) then false else true) then false else true) then true else (n97 ((t6 - 0).toNat) t1_1 (t1_1.ii t6.toNat 0)))) (cond ((bif (bif (m29 (t1_1.ii t6.toNat 0) 0 (IntKind.i64.wrap (((↑b0_0 : Int)) - 1))) then false else true) then true else (m97 ((t6 - 0).toNat) t1_1 (t1_1.ii t6.toNat 0)))) (some (true, ((-1), t5), default)) (cond ((decide ((0 : Int) < t6))) (cond ((decide (0 ≤ IntKind.i64.wrap (t6 - 1) ∧ IntKind.i64.wrap (t6 - 1) < (↑t1_0 : Int)))) (cond ((decide ((0 : Int) ≤ t1_1.ii (IntKind.i64.wrap (t6 - (1 : Int))).toNat (0 : Nat) ∧ t1_1.ii (IntKind.i64.wrap (t6 - (1 : Int))).toNat (0 : Nat) < (↑b0_2 : Int)))) (cond ((decide (0 ≤ t6 ∧ t6 < (↑t1_0 : Int)))) (cond ((decide ((0 : Int) ≤ t1_1.ii t6.toNat (0 : Nat) ∧ t1_1.ii t6.toNat (0 : Nat) < (↑(b0_3.sn (t1_1.ii (IntKind.i64.wrap (t6 - (1 : Int))).toNat (0 : Nat)).toNat (0 : Nat)) : Int)))) (cond ((decide (((b0_3.sub ((t1_1.ii ((IntKind.i64.wrap (t6 - 1)).toNat) 0).toNat) 0).ii ((t1_1.ii t6.toNat 0).toNat) 0) < 0))) (some (true, ((-1), t5), default)) (l31_0 t1_0 t1_1 b0_0 b0_1 b0_2 b0_3 f (IntKind.i64.wrap (t5 + ((b0_3.sub ((t1_1.ii ((IntKind.i64.wrap (t6 - 1)).toNat) 0).toNat) 0).ii ((t1_1.ii t6.toNat 0).toNat) 0))) (IntKind.i64.wrap (t6 + 1)))) none) none) none) none) (l31_0 t1_0 t1_1 b0_0 b0_1 b0_2 b0_3 f t5 (IntKind.i64.wrap (t6 + 1))))) none) none) none) none) (some (false, default, t5))) := hG
    refine propOf (y31_0 t1_0 t1_1 t5 t6 b0_0 b0_1 b0_2 b0_3 _) ?_
    exact cnd_gg2 hG (fun h0 => cnd_gg h0 fun h1 => cnd_gg h1 fun h2 => cnd_gg h2 fun h3 => cnd_gg h3 fun h4 => cnd_gg2 h4 (fun h5 => h5.2) (fun h5 => cnd_gg2 h5 (fun h6 => cnd_gg h6 fun h7 => cnd_gg h7 fun h8 => cnd_gg h8 fun h9 => cnd_gg h9 fun h10 => cnd_gg2 h10 (fun h11 => h11.2) (fun h11 => ⟨(t1_0, t1_1, (IntKind.i64.wrap (t5 + ((b0_3.sub ((t1_1.ii ((IntKind.i64.wrap (t6 - 1)).toNat) 0).toNat) 0).ii ((t1_1.ii t6.toNat 0).toNat) 0))), (IntKind.i64.wrap (t6 + 1)), b0_0, b0_1, b0_2, b0_3), rfl, rfl, h11⟩)) (fun h6 => ⟨(t1_0, t1_1, t5, (IntKind.i64.wrap (t6 + 1)), b0_0, b0_1, b0_2, b0_3), rfl, rfl, h6⟩))) (fun h0 => h0.2)
  · intro s k h
    unfold g31_0 at h
    split at h <;> try exact h.elim
    rename_i e1
    rw [needs_iff] at h
    exact ⟨_, e1, _, (_, _, _, _, _, _, _, _), rfl, rfl, h.1 _ (List.mem_singleton.2 rfl), h.2⟩
theorem x31 (na0_0 : Nat) (da0_0 : Dat) (na0_1 : Nat) (da0_1 : Dat) (na1 : Nat) (da1 : Dat) (R : SV → List Blk → List Blk → Prop) : exec Try.prog [(29, c29), (97, c97)] (lamOf [(0, g31_0)]) 8 (Try.f31.body.getD .skip) (initS Try.f31.ntmps [.agg [.ro [.str] na0_0 da0_0, .ro [.sl [.int .i64]] na0_1 da0_1], .ro [.int .i64] na1 da1] 0 (memOf [])) (retK Try.prog Try.f31.results.toList (outK 0 (List.range 0) [] (.k) fun v U N => R v U N)) =
  (cnd (((o31_0 na1 da1 na0_0 da0_0 na0_1 da0_1 0 0).isSome))
  (cnd ((((o31_0 na1 da1 na0_0 da0_0 na0_1 da0_1 0 0).getD default).fst))
   (R (.int .i64 (((o31_0 na1 da1 na0_0 da0_0 na0_1 da0_1 0 0).getD default).snd.fst.fst)) [] [])
   (R (.int .i64 (((o31_0 na1 da1 na0_0 da0_0 na0_1 da0_1 0 0).getD default).snd.snd)) [] []))
  False) := by kernel_rfl
noncomputable def m31 (na0_0 : Nat) (da0_0 : Dat) (na0_1 : Nat) (da0_1 : Dat) (na1 : Nat) (da1 : Dat) : Int :=
  (cond ((((o31_0 na1 da1 na0_0 da0_0 na0_1 da0_1 0 0).getD default).fst)) (((o31_0 na1 da1 na0_0 da0_0 na0_1 da0_1 0 0).getD default).snd.fst.fst) (((o31_0 na1 da1 na0_0 da0_0 na0_1 da0_1 0 0).getD default).snd.snd))
noncomputable def n31 (na0_0 : Nat) (da0_0 : Dat) (na0_1 : Nat) (da0_1 : Dat) (na1 : Nat) (da1 : Dat) : Bool :=
  ((((o31_0 na1 da1 na0_0 da0_0 na0_1 da0_1 0 0).isSome)) && true)
noncomputable def q31 (r : Int) : SV × List Blk × List Blk := (.int .i64 r, [], [])
noncomputable def g31 : List SV → List Blk → Option OpRes := fun vs bs => match vs, bs with
  | [.agg [.ro [.str] na0_0 da0_0, .ro [.sl [.int .i64]] na0_1 da0_1], .ro [.int .i64] na1 da1], [] => some (resOf 0 (q31 (m31 na0_0 da0_0 na0_1 da0_1 na1 da1)) [n31 na0_0 da0_0 na0_1 da0_1 na1 da1])
  | _, _ => none
noncomputable def c31 : Ctr := genC [.a [.ro [.str], .ro [.sl [.int .i64]]], .ro [.int .i64]] g31
theorem p31 (na0_0 : Nat) (da0_0 : Dat) (na0_1 : Nat) (da0_1 : Dat) (na1 : Nat) (da1 : Dat) (hn : n31 na0_0 da0_0 na0_1 da0_1 na1 da1 = true) : exec Try.prog [(29, c29), (97, c97)] (lamOf [(0, g31_0)]) 8 (Try.f31.body.getD .skip) (initS Try.f31.ntmps [.agg [.ro [.str] na0_0 da0_0, .ro [.sl [.int .i64]] na0_1 da0_1], .ro [.int .i64] na1 da1] 0 (memOf [])) (retK Try.prog Try.f31.results.toList (outK 0 (List.range 0) [] (.k) fun v U N => (v, U, N) = (q31 (m31 na0_0 da0_0 na0_1 da0_1 na1 da1)))) :=
  propOf (x31 na0_0 da0_0 na0_1 da0_1 na1 da1 _) (cnd_need (and_l hn) (cnd_of (fun h0 => leaf_of (l := (((o31_0 na1 da1 na0_0 da0_0 na0_1 da0_1 0 0).getD default).snd.fst.fst)) (condT h0 rfl) rfl) (fun h0 => leaf_of (l := (((o31_0 na1 da1 na0_0 da0_0 na0_1 da0_1 0 0).getD default).snd.snd)) (condF h0 rfl) rfl)))
theorem k31 : CtrOk Try.prog c31 31 := ctr_of (tabOk_cons k29 (tabOk_cons k97 tabOk_nil)) mix_ok 8 (fn := Try.f31) (c := (Try.f31.body.getD .skip)) (grs := []) (rh := .k) (Λ := (lamOf [(0, g31_0)])) Try.func31 rfl (by kernel_rfl) (lam_of rfl (lams_cons z31_0 lams_nil)) fun vs bs q h hn => by
  unfold g31 at h
  split at h <;> cases h
  exact ⟨_, rfl, p31 _ _ _ _ _ _ (hn _ (List.mem_singleton.2 rfl))⟩
/-! ### (shotline/site.windows).few -/
theorem x106 (na0 : Nat) (ma0 : Nat) (da0 : Dat) (R : SV → List Blk → List Blk → Prop) : exec Try.prog [] (fun _ => none) 8 (Try.f106.body.getD .skip) (initS Try.f106.ntmps [.gr 0 2 na0] 1 (memOf [.row 28 [.int .i64, .int .i64] ma0 da0])) (retK Try.prog Try.f106.results.toList (outK 1 (List.range 1) [0] (.k) fun v U N => R v U N)) =
  (cnd ((decide ((60 : Int) < ((↑na0 : Int)))))
  (R (.tup [.nsl, .int .i64 8]) [.unk] [])
  (R (.tup [.gr 1 2 na0, .int .i64 0]) [.unk] [.row 28 [.int .i64, .int .i64] ma0 da0])) := by kernel_rfl
noncomputable def m106a (na0 : Nat) (ma0 : Nat) (da0 : Dat) : Int :=
  8
noncomputable def n106a (na0 : Nat) (ma0 : Nat) (da0 : Dat) : Bool :=
  (((decide ((60 : Int) < ((↑na0 : Int))))) && true)
noncomputable def q106a (r : Int) : SV × List Blk × List Blk := (.tup [.nsl, .int .i64 r], [.unk], [])
noncomputable def g106a : List SV → List Blk → Option OpRes := fun vs bs => match vs, bs with
  | [.gr 0 2 na0], [.row 28 [.int .i64, .int .i64] ma0 da0] => some (resOf 1 (q106a (m106a na0 ma0 da0)) [n106a na0 ma0 da0])
  | _, _ => none
noncomputable def c106a : Ctr := genC [.gr 28 [.int .i64, .int .i64]] g106a
theorem p106a (na0 : Nat) (ma0 : Nat) (da0 : Dat) (hn : n106a na0 ma0 da0 = true) : exec Try.prog [] (fun _ => none) 8 (Try.f106.body.getD .skip) (initS Try.f106.ntmps [.gr 0 2 na0] 1 (memOf [.row 28 [.int .i64, .int .i64] ma0 da0])) (retK Try.prog Try.f106.results.toList (outK 1 (List.range 1) [0] (.k) fun v U N => (v, U, N) = (q106a (m106a na0 ma0 da0)))) :=
  propOf (x106 na0 ma0 da0 _) (cnd_of (fun _ => leaf_of (l := 8) rfl rfl) (fun h0 => (Bool.false_ne_true (h0.symm.trans (and_l hn))).elim))
theorem k106a : CtrOk Try.prog c106a 106 := ctr_of tabOk_nil mix_ok 8 (fn := Try.f106) (c := (Try.f106.body.getD .skip)) (grs := [0]) (rh := .k) (Λ := (fun _ => none)) Try.func106 rfl (by kernel_rfl) noLam fun vs bs q h hn => by
  unfold g106a at h
  split at h <;> cases h
  exact ⟨_, rfl, p106a _ _ _ (hn _ (List.mem_singleton.2 rfl))⟩
noncomputable def m106b (na0 : Nat) (ma0 : Nat) (da0 : Dat) : Nat × Int × Nat × Dat :=
  (na0, 0, ma0, da0)
noncomputable def n106b (na0 : Nat) (ma0 : Nat) (da0 : Dat) : Bool :=
  (!((decide ((60 : Int) < ((↑na0 : Int))))) && true)
noncomputable def q106b (r : Nat × Int × Nat × Dat) : SV × List Blk × List Blk := (.tup [.gr 1 2 r.1, .int .i64 r.2.1], [.unk], [.row 28 [.int .i64, .int .i64] r.2.2.1 r.2.2.2])
noncomputable def g106b : List SV → List Blk → Option OpRes := fun vs bs => match vs, bs with
  | [.gr 0 2 na0], [.row 28 [.int .i64, .int .i64] ma0 da0] => some (resOf 1 (q106b (m106b na0 ma0 da0)) [n106b na0 ma0 da0])
  | _, _ => none
noncomputable def c106b : Ctr := genC [.gr 28 [.int .i64, .int .i64]] g106b
theorem p106b (na0 : Nat) (ma0 : Nat) (da0 : Dat) (hn : n106b na0 ma0 da0 = true) : exec Try.prog [] (fun _ => none) 8 (Try.f106.body.getD .skip) (initS Try.f106.ntmps [.gr 0 2 na0] 1 (memOf [.row 28 [.int .i64, .int .i64] ma0 da0])) (retK Try.prog Try.f106.results.toList (outK 1 (List.range 1) [0] (.k) fun v U N => (v, U, N) = (q106b (m106b na0 ma0 da0)))) :=
  propOf (x106 na0 ma0 da0 _) (cnd_of (fun h0 => (Bool.false_ne_true ((not_l hn).symm.trans h0)).elim) (fun _ => leaf_of (l := (na0, 0, ma0, da0)) rfl rfl))
theorem k106b : CtrOk Try.prog c106b 106 := ctr_of tabOk_nil mix_ok 8 (fn := Try.f106) (c := (Try.f106.body.getD .skip)) (grs := [0]) (rh := .k) (Λ := (fun _ => none)) Try.func106 rfl (by kernel_rfl) noLam fun vs bs q h hn => by
  unfold g106b at h
  split at h <;> cases h
  exact ⟨_, rfl, p106b _ _ _ (hn _ (List.mem_singleton.2 rfl))⟩
/-! ### shotline/site.RunTimes -/
theorem x51 (na0_0 : Nat) (da0_0 : Dat) (na0_1 : Nat) (da0_1 : Dat) (a1_0 : Int) (na1_1 : Nat) (da1_1 : Dat) (na1_2 : Nat) (da1_2 : Dat) (R : SV → List Blk → List Blk → Prop) : exec Try.prog [(111, c111)] (fun _ => none) 8 (Try.f51.body.getD .skip) (initS Try.f51.ntmps [.agg [.ro [.str] na0_0 da0_0, .ro [.sl [.int .i64]] na0_1 da0_1], .agg [.int .i64 a1_0, .ro [.int .i64] na1_1 da1_1, .ro [.int .i64] na1_2 da1_2]] 0 (memOf [])) (retK Try.prog Try.f51.results.toList (outK 0 (List.range 0) [] (.t [.ro [.int .i64, .int .i64], .k]) fun v U N => R v U N)) =
  (cnd ((n111 na0_0 da0_0 na0_1 da0_1 a1_0 na1_1 da1_1 na1_2 da1_2))
  (R (.tup [.ro [.int .i64, .int .i64] ((m111 na0_0 da0_0 na0_1 da0_1 a1_0 na1_1 da1_1 na1_2 da1_2).fst) ((m111 na0_0 da0_0 na0_1 da0_1 a1_0 na1_1 da1_1 na1_2 da1_2).snd.fst), .int .i64 ((m111 na0_0 da0_0 na0_1 da0_1 a1_0 na1_1 da1_1 na1_2 da1_2).snd.snd)]) [] [])
  False) := by kernel_rfl
noncomputable def m51 (na0_0 : Nat) (da0_0 : Dat) (na0_1 : Nat) (da0_1 : Dat) (a1_0 : Int) (na1_1 : Nat) (da1_1 : Dat) (na1_2 : Nat) (da1_2 : Dat) : Nat × Dat × Int :=
  (((m111 na0_0 da0_0 na0_1 da0_1 a1_0 na1_1 da1_1 na1_2 da1_2).fst), ((m111 na0_0 da0_0 na0_1 da0_1 a1_0 na1_1 da1_1 na1_2 da1_2).snd.fst), ((m111 na0_0 da0_0 na0_1 da0_1 a1_0 na1_1 da1_1 na1_2 da1_2).snd.snd))
noncomputable def n51 (na0_0 : Nat) (da0_0 : Dat) (na0_1 : Nat) (da0_1 : Dat) (a1_0 : Int) (na1_1 : Nat) (da1_1 : Dat) (na1_2 : Nat) (da1_2 : Dat) : Bool :=
  (((n111 na0_0 da0_0 na0_1 da0_1 a1_0 na1_1 da1_1 na1_2 da1_2)) && true)
noncomputable def q51 (r : Nat × Dat × Int) : SV × List Blk × List Blk := (.tup [.ro [.int .i64, .int .i64] r.1 r.2.1, .int .i64 r.2.2], [], [])
noncomputable def g51 : List SV → List Blk → Option OpRes := fun vs bs => match vs, bs with
  | [.agg [.ro [.str] na0_0 da0_0, .ro [.sl [.int .i64]] na0_1 da0_1], .agg [.int .i64 a1_0, .ro [.int .i64] na1_1 da1_1, .ro [.int .i64] na1_2 da1_2]], [] => some (resOf 0 (q51 (m51 na0_0 da0_0 na0_1 da0_1 a1_0 na1_1 da1_1 na1_2 da1_2)) [n51 na0_0 da0_0 na0_1 da0_1 a1_0 na1_1 da1_1 na1_2 da1_2])
  | _, _ => none
noncomputable def c51 : Ctr := genC [.a [.ro [.str], .ro [.sl [.int .i64]]], .a [.k, .ro [.int .i64], .ro [.int .i64]]] g51
theorem p51 (na0_0 : Nat) (da0_0 : Dat) (na0_1 : Nat) (da0_1 : Dat) (a1_0 : Int) (na1_1 : Nat) (da1_1 : Dat) (na1_2 : Nat) (da1_2 : Dat) (hn : n51 na0_0 da0_0 na0_1 da0_1 a1_0 na1_1 da1_1 na1_2 da1_2 = true) : exec Try.prog [(111, c111)] (fun _ => none) 8 (Try.f51.body.getD .skip) (initS Try.f51.ntmps [.agg [.ro [.str] na0_0 da0_0, .ro [.sl [.int .i64]] na0_1 da0_1], .agg [.int .i64 a1_0, .ro [.int .i64] na1_1 da1_1, .ro [.int .i64] na1_2 da1_2]] 0 (memOf [])) (retK Try.prog Try.f51.results.toList (outK 0 (List.range 0) [] (.t [.ro [.int .i64, .int .i64], .k]) fun v U N => (v, U, N) = (q51 (m51 na0_0 da0_0 na0_1 da0_1 a1_0 na1_1 da1_1 na1_2 da1_2)))) :=
  propOf (x51 na0_0 da0_0 na0_1 da0_1 a1_0 na1_1 da1_1 na1_2 da1_2 _) (cnd_need (and_l hn) (leaf_of (l := (((m111 na0_0 da0_0 na0_1 da0_1 a1_0 na1_1 da1_1 na1_2 da1_2).fst), ((m111 na0_0 da0_0 na0_1 da0_1 a1_0 na1_1 da1_1 na1_2 da1_2).snd.fst), ((m111 na0_0 da0_0 na0_1 da0_1 a1_0 na1_1 da1_1 na1_2 da1_2).snd.snd))) rfl rfl))
theorem k51 : CtrOk Try.prog c51 51 := ctr_of (tabOk_cons k111 tabOk_nil) mix_ok 8 (fn := Try.f51) (c := (Try.f51.body.getD .skip)) (grs := []) (rh := .t [.ro [.int .i64, .int .i64], .k]) (Λ := (fun _ => none)) Try.func51 rfl (by kernel_rfl) noLam fun vs bs q h hn => by
  unfold g51 at h
  split at h <;> cases h
  exact ⟨_, rfl, p51 _ _ _ _ _ _ _ _ _ (hn _ (List.mem_singleton.2 rfl))⟩
end Go.Proofs.Ytlaogoojkfjgoaa
