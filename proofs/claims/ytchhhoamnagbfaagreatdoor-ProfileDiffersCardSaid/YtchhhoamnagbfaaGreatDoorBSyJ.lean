/-
  A symbolic executor for the model's code, part J: regions, in the text's order and in any order. Conditions: none.
-/
import Derived.Test.YtchhhoamnagbfaaGreatDoorBSyI
namespace Go.Sy
set_option linter.unusedVariables false
set_option linter.unusedSimpArgs false
open Go.RowKit
section runs
variable {P : Program} {rd : Option Nat} {n : Nat}
theorem wpList_step {ops : Array Oper} {o : Oper} {rest : List Oper} {a : Act} {w : World} {Q : Exit → Act → World → Prop}
    (h : if Region.wanted o (yielded ops a.tmps) = true then o.wpIn (FW rd) n P a w (wpListIn (FW rd) n P ops Q rest) Q else wpListIn (FW rd) n P ops Q rest (a.put o.dst undef) w) : wpListIn (FW rd) n P ops Q (o :: rest) a w := by
  unfold wpListIn
  split
  · rename_i hw; rw [if_pos hw] at h; exact h
  · rename_i hw; rw [if_neg hw] at h; exact ⟨fun _ _ => trivial, h⟩
def SState.step (s : SState) (off : Nat) (r : SRes) : SState :=
  { s.put r.dst r.v with mem := OpRes.mem { v := .any, news := r.news, upds := r.upds } s.mem off, nx := s.nx + r.news.length }
theorem xStep_fits {Γ : Gam} {ops : Array Oper} {s : SState} {off : Nat} {o : Oper} {r : SRes} (h : xStep P Γ ops s off o = some r) : OpRes.fits { v := .any, news := r.news, upds := r.upds } s.mem off ∧ r.dst = o.dst := by
  unfold xStep at h
  split at h
  · split at h <;> try (cases h; done)
    split at h <;> cases h
    rename_i hf
    exact ⟨fitsB_ok (r := ⟨.any, _, _, []⟩) hf, rfl⟩
  · split at h <;> try (cases h; done)
    split at h <;> try (cases h; done)
    split at h <;> cases h
    exact ⟨⟨fun u hu => by simp at hu, fun u hu => by simp at hu⟩, rfl⟩
theorem step_na (s : SState) (off : Nat) (r : SRes) : (s.step off r).na = s.na := by simp only [SState.step, SState.put]; split <;> rfl
theorem StDen.step {B : Nat} {M : List Nat} {w0 : Base} {ρ ρ' : Env} {s : SState} {a : Act} {w w' : World} {r : SRes} {x : Value} (h : StDen B M w0 ρ s a w) (hf : OpRes.fits { v := .any, news := r.news, upds := r.upds } s.mem s.nx)
    (hp : SPost ρ ρ' s.nx r a w w' x) : StDen B M w0 ρ' (s.step s.nx r) (a.put r.dst x) w' := by
  have hT := h.tmDen.put hp.post.ext (v := r.v) (dst := r.dst) (x := x) hp.slot
  exact ⟨by rw [put_defs]; exact h.defs.step hp.post hf, hT.size, hT.tmp, fun i hi => by
      have hi' : s.nx + r.news.length ≤ i := hi
      rw [hp.post.old i (.inr hi')]
      exact h.fresh i (by omega), hp.post.memDen h.mem hf h.base, hp.post.kept h.mem hf h.kept h.base, by have := hp.post.size; have := h.base; omega, h.ext.trans hp.post.ext, h.argn, fun i hi => by
      rw [hp.post.old i (.inl (by have := h.nale; omega))]; exact h.argl i hi, (step_na s s.nx r).trans h.nab, by show w0.n ≤ s.nx + r.news.length; have := h.nale; omega, fun b o v hv => by
      rcases hp.post.odn b o v hv with h1 | ⟨_, h1⟩
      · exact h.odb b o v h1
      · exact .inr (by have := h.base; omega)⟩
def xSeq (P : Program) (Γ : Gam) (ops : Array Oper) : List Oper → SState → (SState → Prop) → Prop
  | [], s, k => k s
  | o :: l, s, k => match xStep P Γ ops s s.nx o with
    | some r => needs r.need (xSeq P Γ ops l (s.step s.nx r) k)
    | none => False
theorem xSeq_wp {Γ : Gam} (hΓ : GamOk P Γ) {B : Nat} {M : List Nat} {w0 : Base} {ops : Array Oper} {Q : Exit → Act → World → Prop} {k : SState → Prop} (hk : ∀ s ρ a w, StDen B M w0 ρ s a w → k s → Q .normal a w) :
    ∀ (l : List Oper) (s : SState) (ρ : Env) (a : Act) (w : World), StDen B M w0 ρ s a w → xSeq P Γ ops l s k → wpListIn (FW rd) n P ops Q l a w
  | [], s, ρ, a, w, h, hx => hk s ρ a w h hx
  | o :: l, s, ρ, a, w, h, hx => by
    simp only [xSeq] at hx
    split at hx <;> try exact hx.elim
    rename_i r hr
    rw [needs_iff] at hx
    obtain ⟨hn, hx⟩ := hx
    obtain ⟨hf, hd⟩ := xStep_fits hr
    apply wpList_step
    refine xStep_wp hΓ hr hn h.tmDen h.mem h.base (fun j _ => h.fresh _ (by omega)) fun x w' ρ' hp => ?_
    rw [← hd]
    exact xSeq_wp hΓ hk l _ ρ' _ w' (h.step hf hp) hx
theorem StDen.drew {B : Nat} {M : List Nat} {w0 : Base} {ρ : Env} {s : SState} {a : Act} {w : World} (h : StDen B M w0 ρ s a w) : StDen B M w0 ρ s a { w with drawn := w.drawn + 1 } :=
  ⟨h.defs.same rfl, h.size, h.tmp, h.fresh, ⟨fun i hi => ⟨fun m hm => let ⟨h2, h3, h4⟩ := h.mem.get hi hm; ⟨h2, Blk.den_same h3 rfl, h4⟩, (h.mem.at_ i hi).2⟩, h.mem.apart, h.mem.seal_, h.mem.free, h.mem.pv⟩, ⟨h.kept.os, h.kept.tape, h.kept.output, h.kept.size, h.kept.block⟩, h.base, h.ext, h.argn, h.argl, h.nab, h.nale, h.odb⟩
end runs
end Go.Sy
