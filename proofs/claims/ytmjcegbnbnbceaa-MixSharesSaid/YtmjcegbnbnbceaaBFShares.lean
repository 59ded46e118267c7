/-
  The row of 'MixShares': from the law's contract to the row's form. Conditions: that the law's model is true, and its need.
-/
import Derived.Test.YtmjcegbnbnbceaaSyW
import Derived.Test.YtmjcegbnbnbceaaB1
import Derived.Test.YtmjcegbnbnbceaaB2
import Derived.Test.YtmjcegbnbnbceaaB3
import Derived.Test.YtmjcegbnbnbceaaBE1
import Derived.Test.YtmjcegbnbnbceaaBPMatches
import Derived.Test.YtmjcegbnbnbceaaRows
import Derived.WalkKit
import Derived.ProofKit
import Derived.OpenShut
import Derived.Lib.SmallJoins
namespace Go.Proofs.Ytmjcegbnbnbceaa
open Go Go.Sy Go.ChangeShapes Go.WideShapes Go.ChangeAt Go.RowKit Go.Joins Go.Deep
set_option linter.unusedVariables false
set_option maxRecDepth 100000
theorem ownKnobs3 : ownKnob Try.prog.godebug = none := by kernel_rfl
theorem walk3 (a0 a1 a2 n : Int) (hm : m3 a0 a1 a2 n = true) (hn : n3 a0 a1 a2 n = true) (w : World) :
    Calls Try.prog 3 #[.agg #[.int .i64 a0, .int .i64 a1, .int .i64 a2], .int .i64 n] w fun e w' => e = .returned (.bool true) ∧ Below w.heap.size w w' :=
  law_calls k3 (args := [.agg [.int .i64 a0, .int .i64 a1, .int .i64 a2], .int .i64 n]) (ns := [n3 a0 a1 a2 n]) (by kernel_rfl) hm (by simpa using hn)
    ⟨⟨_, rfl, rfl, rfl, rfl, trivial⟩, rfl, trivial⟩
theorem liftedShares (hall : ∀ a0 a1 a2 n : Int, (Lit.int .i64 a0).wf = true → (Lit.int .i64 a1).wf = true → (Lit.int .i64 a2).wf = true → (Lit.int .i64 n).wf = true → n3 a0 a1 a2 n = true ∧ m3 a0 a1 a2 n = true)
    (os : Os) (started : os.Started) (H : Type) (enc : TypeId × Value → H) :
    ReturnsInHanded {} Try.checked os 3 .any (Rows.mixSharesSpec.pre6 enc Try.prog Try.f3 Rows.mixSharesRow.domain false) (Rows.mixSharesSpec.post enc Try.prog Try.f3 false true false false) := by
  refine returnsInHanded_of_change (C := Try.checked) ownKnobs3 started (by kernel_rfl) Try.func3
    (ChangeSpec.witness6 (enc := enc) (C := Try.checked) false ⟨#[], #[.agg #[.int .i64 0, .int .i64 0, .int .i64 0], .int .i64 0], []⟩ 8 (by kernel_rfl) (by kernel_rfl) (by kernel_rfl) (by kernel_rfl)) ?_
  intro W base args ds gs before hval0 hW hcnd _
  have hval : ∀ (j : Nat) t v, Try.f3.params[j]? = some t → args[j]? = some v → Value.okWide Try.prog W .any base t v := hval0
  have hW' := hW
  obtain ⟨p, q, hA0, hV, rfl, hfz, hnd⟩ := hW
  have hA : DataW.TrodAll enc Try.prog W 0 (fun _ => true) true Try.f3.params.toList args.toList ds p := hA0
  rw [Try.params3] at hA hval
  obtain ⟨v0, vs0, d0, ds0, p0, q0, hargs, rfl, rfl, h0, r0⟩ := trodAll_cons hA
  obtain ⟨v1, vs1, d1, ds1, p1, q1, rfl, rfl, rfl, h1, r1⟩ := trodAll_cons r0
  obtain ⟨rfl, rfl, rfl⟩ := trodAll_nil r1
  obtain rfl : args = #[v0, v1] := by cases args; simp_all
  obtain ⟨rfl, rfl⟩ := trodVars_none hV
  obtain ⟨c0, c1, c2, y0, y1, y2, m, rfl, rfl, rfl, hy0, hy1, hy2⟩ := open_agg3 Try.underlying23 (by kernel_rfl) (by kernel_rfl) (hval 0 23 v0 rfl rfl) h0
  obtain ⟨a0, e0, rfl, w0⟩ := DataW.trod_int Try.underlying3 hy0
  obtain ⟨a1, e1, rfl, w1⟩ := DataW.trod_int Try.underlying3 hy1
  obtain ⟨a2, e2, rfl, w2⟩ := DataW.trod_int Try.underlying3 hy2
  simp at e0 e1 e2
  subst e0 e1 e2
  obtain ⟨n, rfl, rfl, rfl, w5⟩ := open_int Try.underlying3 (hval 1 3 v1 rfl rfl) h1
  clear hA0 hval0
  simp only [List.append_nil] at hW'
  obtain ⟨hn, hm⟩ := hall a0 a1 a2 n w0 w1 w2 w5
  refine (walk3 a0 a1 a2 n hm hn W).mono fun e W' ⟨he, hg⟩ => ?_
  subst he
  have fl : ∀ (sp : Nat → Bool) (n : Int), (Lit.int .i64 n).wf = true → ∃ k, DataW.trod enc Try.prog W' 0 sp true k 3 [.int .i64 n] = some (.lit (.int .i64 n), []) := fun sp n hw => ⟨1, trod_int_mk 0 Try.underlying3 hw⟩
  exact ⟨_, rfl, post_below (pa := []) (pv := []) hW' (fun _ _ _ => trodAll_cons_mk (shut_bool Try.underlying4 _) trodAll_mk0)
    (fun sp _ => trodAll_cons_mk (p := []) (shut_agg3 (y0 := (_, [])) (y1 := (_, [])) (y2 := (_, [])) Try.underlying23 (by kernel_rfl) (by kernel_rfl) (fl sp a0 w0) (fl sp a1 w1) (fl sp a2 w2)) (trodAll_cons_mk (shut_int Try.underlying3 w5) trodAll_mk0))
    (fun _ _ => rfl) rfl hg (ok_one (by kernel_rfl) rfl (okWide_bool_mk Try.underlying4 _))⟩
theorem overShares (hall : ∀ a0 a1 a2 n : Int, (Lit.int .i64 a0).wf = true → (Lit.int .i64 a1).wf = true → (Lit.int .i64 a2).wf = true → (Lit.int .i64 n).wf = true → n3 a0 a1 a2 n = true ∧ m3 a0 a1 a2 n = true) : Rows.MixSharesSaid :=
  OpenClaim.holds_of_wide 3 Try.f3 rfl rfl rfl rfl rfl rfl rfl ⟨rfl, rfl, rfl, rfl, rfl⟩ rfl rfl rfl rfl rfl (by kernel_rfl) Try.func3 (by kernel_rfl)
    (of_decide_eq_true (by kernel_rfl)) (by unfold Func.isWrapper; first | (rw [if_pos (by decide +kernel)]; kernel_rfl) | (rw [if_neg (by decide +kernel)]; exact ⟨rfl, rfl⟩))
    (fun os started H enc _ => liftedShares hall os started H enc)
#print axioms overShares
end Go.Proofs.Ytmjcegbnbnbceaa
