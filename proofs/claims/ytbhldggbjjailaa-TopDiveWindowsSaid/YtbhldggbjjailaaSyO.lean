/-
  A symbolic executor for the model's code, part O: a call as a whole; its end under names of its own. Conditions: none.
-/
import Derived.Test.YtbhldggbjjailaaSyN
namespace Go.Sy
set_option linter.unusedVariables false
set_option linter.unusedSimpArgs false
open Go.RowKit
section runs
variable {P : Program}

def initS (nt : Nat) (args : List SV) (nx : Nat) (mem : Nat → Blk) : SState :=
  { na := nx, nt := args.length + (nt - args.length), tm := fun i => match args[i]? with | some v => v.top | none => .any, nx := nx, mem := mem }
def retK (P : Program) (rs : List ResultVar) (R : SV → (Nat → Blk) → Prop) : Kont := fun e s => match e with
  | .exit _ => False
  | .normal => match resL P s rs with
    | some (vs, ns) => needs ns (R (resV vs) s.mem)
    | none => False
  | .ret => match resL P s rs with
    | some (vs, ns) => needs ns (R (resV vs) s.mem)
    | none => False

theorem calls_exec {L : Tab} (hL : TabOk P L) (hmix : P.follows .mixedOrders = true) {Λ : Lam} {fuel : Nat} {f : FuncId} {fn : Func} {c : Code} (hf : P.funcs[f]? = some fn) (hb : fn.body = some c) (hΛ : ∀ id b g, hasBlk c id b → Λ id = some g → LOk P g (.block id b))
    {M : List Nat} {ρ0 : Env} {nx0 : Nat} {mem0 : Nat → Blk} {args : List SV} {xs : List Value} {w : World} (hargs : SV.denL ρ0 args xs) (hM : MemDen w.heap.size M ρ0 mem0 w) (hfr : ∀ i, nx0 ≤ i → ρ0 i = none) {R : SV → (Nat → Blk) → Prop}
    (h : exec P L Λ fuel c (initS fn.ntmps args nx0 mem0) (retK P fn.results.toList R)) :
    Calls P f ⟨xs⟩ w fun e w' => ∃ v x ρ mem, e = .returned x ∧ v.den ρ x ∧ Ext ρ0 ρ ∧ (∀ i, i < nx0 → ρ i = ρ0 i) ∧ (∀ b o v, ρ.od b o = some v → ρ0.od b o = some v ∨ w.heap.size ≤ b) ∧ MemDen w.heap.size M ρ mem w' ∧ Kept w.heap.size M w w' ∧ R v mem := by
  have hlen := denL_length hargs
  refine calls_of_wp hf hb (exec_wp hL hmix c hΛ w.heap.size M ⟨w, ρ0, nx0⟩ _ _ ρ0 _ w _ ?_ h ?_)
  · refine ⟨rfl, ?_, fun i x hx => ?_, hfr, hM, Kept.refl _ _ _, Nat.le_refl _, Ext.refl _, hfr, fun _ _ => rfl, rfl, Nat.le_refl _, fun _ _ _ h => .inl h⟩
    · simp [initS, hlen]
    · simp only [initS]
      cases ha : args[i]? with
      | none => trivial
      | some v =>
        obtain ⟨y, hy, hd⟩ := denL_get hargs ha
        have hi : i < xs.length := (List.getElem?_eq_some_iff.1 hy).1
        simp only [Array.getElem?_append] at hx
        rw [if_pos (by simpa using hi)] at hx
        have hxy : x = y := by
          have : xs[i]? = some x := by simpa using hx
          rw [this] at hy; cases hy; rfl
        rw [hxy]
        exact slotDen_top hd
  · intro e s' ρ' a' w' hs hk
    have key : ∀ vs ns, resL P s' fn.results.toList = some (vs, ns) → needs ns (R (resV vs) s'.mem) → a'.defers = [] ∧ ∃ v, (results fn a'.tmps).run P w' = .ok v w' ∧ ∃ v_1 x ρ mem, Ending.returned v = .returned x ∧ v_1.den ρ x ∧ Ext ρ0 ρ ∧ (∀ i, i < nx0 → ρ i = ρ0 i) ∧ (∀ b o v, ρ.od b o = some v → ρ0.od b o = some v ∨ w.heap.size ≤ b) ∧ MemDen w.heap.size M ρ mem w' ∧ Kept w.heap.size M w w' ∧ R v_1 mem := by
      intro vs ns hr hn
      rw [needs_iff] at hn
      obtain ⟨x, hx, hd⟩ := results_run hs fn vs ns hr hn.1
      exact ⟨hs.defs, x, hx, _, x, ρ', _, rfl, hd, hs.ext, hs.argl, hs.odb, hs.mem, hs.kept, hn.2⟩
    cases e with
    | exit id => exact hk.elim
    | normal =>
      simp only [retK] at hk
      split at hk
      · exact key _ _ (by assumption) hk
      · exact hk.elim
    | ret =>
      simp only [retK] at hk
      split at hk
      · exact key _ _ (by assumption) hk
      · exact hk.elim
end runs
end Go.Sy
