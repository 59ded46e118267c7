/-
  A symbolic executor for the model's code: ranges over functions. Conditions: none.
-/
import Derived.Test.YtlaogoojkfjgoaaBSyV
import Derived.RangeFuncBox
namespace Go.Sy
set_option linter.unusedVariables false
set_option linter.unusedSimpArgs false
open Go.RowKit
section runs
variable {P : Program}
mutual
def SV.det : SV → Bool
  | .int _ _ => true
  | .bool _ => true
  | .str _ => true
  | .agg l => detL l
  | _ => false
def detL : List SV → Bool
  | [] => true
  | v :: l => v.det && detL l
end
mutual
def SV.toV : SV → Value
  | .int k n => .int k n
  | .bool b => .bool b
  | .str s => .string s
  | .agg l => .agg ⟨toVL l⟩
  | _ => undef
def toVL : List SV → List Value
  | [] => []
  | v :: l => v.toV :: toVL l
end
section
variable {B : Nat} {M : List Nat} {w0 : Base} {ρ : Env} {s : SState} {a : Act} {w w' : World}
end
theorem StDen.behind {B : Nat} {M : List Nat} {w0 wz : Base} {ρ ρ2 : Env} {na ns nt nx : Nat} {Lh Le : List Nat} {va vs : List SV} {bs bs' : List Blk} {a a2 : Act} {w w2 : World} (h : StDen B M w0 ρ (mkSt na nt Lh va nx bs) a w) (h2 : StDen B M wz ρ2 (mkSt ns nt Le vs nx bs') a2 w2)
    (hst : SV.renL (fun k => match Nat.blt k ns with | true => some k | false => none) va = some va) (hns : na ≤ ns) (hw : wz.w = w) (hρ : ∀ i, i < ns → wz.ρ i = ρ i) (hod : wz.ρ.od = ρ.od) (hn : wz.n = ns)
    {ob : Nat → Option Obj} (hob : ∀ b o, ob b = some o → wz.ob b = some o) (hds : ∀ d ∈ a.defers, ∀ D, d = { target := .collected D, args := #[] } → wz.ob D = some (.deferred (some []))) : StDen B M { w0 with ob := ob } ρ2 (mkSt na nt Lh va nx bs') a w2 := by
  have low : ∀ i, i < ns → ρ2 i = ρ i := fun i hi => (h2.argl i (by rw [hn]; exact hi)).trans (hρ i hi)
  have ode : OdExt ρ.od ρ2.od := by rw [← hod]; exact h2.ext.od
  have hna : w0.n = na := h.nab.symm
  refine ⟨⟨fun b o hb => h2.defs.ob b o (hob b o hb), fun d hd => ?_, h.defs.nd, h.defs.same_⟩, h.size, fun i x hx => ?_, h2.fresh, h2.mem, h.kept.trans (by rw [← hw]; exact h2.kept), h2.base, ⟨fun i m hm => ?_, fun b o v hv => ode b o v (h.ext.od b o v hv)⟩, h.argn, fun i hi => ?_, h.nab, h.nale, fun b o v hv => ?_⟩
  · obtain ⟨D, e, hB, k⟩ := h.defs.at_ d hd
    have := h2.defs.ob D _ (hds d hd D e)
    exact ⟨D, e, hB, this⟩
  · show slotDen ρ2 a (look Lh va i) x
    have hx' : slotDen ρ a (look Lh va i) x := h.tmp i x hx
    rcases look_get Lh va i with e | ⟨p, hp1, hp2⟩
    · rw [e]; trivial
    · obtain ⟨u, hu1, hu2⟩ := renL_get hst hp2
      rw [hp2] at hu1
      cases hu1
      refine slot_of (ren_nogd hu2) (ren_den (fun k k' hk m hm => ?_) hu2 (fun _ => ode) (ren_slot hu2 hx'))
      split at hk <;> cases hk
      rename_i hb
      rw [low k (by simpa using hb)]; exact hm
  · have hlt : i < na := by
      rcases Nat.lt_or_ge i na with h1 | h1
      · exact h1
      · rw [h.argn i (by rw [hna]; exact h1)] at hm; cases hm
    rw [low i (by omega)]
    exact h.ext.nm i m hm
  · have hi' : i < na := by rw [← hna]; exact hi
    rw [low i (by omega)]
    exact h.argl i hi
  · rcases h2.odb b o v hv with h1 | h1
    · rw [hod] at h1; exact h.odb b o v h1
    · exact .inr h1
end runs
end Go.Sy
