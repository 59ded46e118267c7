/-
  A symbolic executor for the model's code: iterators, which call yield. Conditions: none.
-/
import Derived.Test.YtlaogoojkfjgoaaBSyRf
namespace Go.Sy
set_option linter.unusedVariables false
set_option linter.unusedSimpArgs false
open Go.RowKit
section runs
variable {P : Program}
structure YC (P : Program) where
  l : Nat
  N : Nat
  y : Nat → List SV
  od : Nat → Nat → Option Value
  J : Option Nat → List Nat → World → Prop
  det : ∀ k, k < N → detL (y k) = true
  ab : ∀ k X W1 W2, J k X W1 → Kept W1.heap.size X W1 W2 → ∀ Y : List Nat, (∀ b ∈ Y, W1.heap.size ≤ b ∧ b < W2.heap.size) → J k (Y ++ X) W2
  sl : ∀ k X W1, J k X W1 → (∀ b o v, od b o = some v → W1.cell? ⟨b, o, none⟩ = some v) ∧ ∀ b ∈ X, b < W1.heap.size ∧ ∀ o, od b o = none
  rd : ∀ k X W1, J (some k) X W1 → k < N → ∀ n, YieldAt Fence.wide n P l ⟨toVL (y k)⟩ W1 fun e W2 => ∃ r, e = .returned (.bool r) ∧ J (bif r then some (k + 1) else none) X W2 ∧ (∀ b ∈ X, W2.heap[b]? = W1.heap[b]?) ∧ W1.heap.size ≤ W2.heap.size
def baseY (s : SState) (ρ : Env) (w : World) : Base := ⟨w, ⟨fun i => if i < s.na then ρ i else none, ρ.od⟩, s.na, fun _ => none, some []⟩
def StJ (C : YC P) (k : Option Nat) (s : SState) (a : Act) (w : World) : Prop :=
  ∃ ρ X, StDen w.heap.size X (baseY s ρ w) ρ s a w ∧ C.J k X w ∧ ∀ b o v, ρ.od b o = some v → C.od b o = some v ∨ b ∈ X
section
variable {C : YC P} {k : Option Nat} {s s' : SState} {a a' : Act} {w w' : World}
theorem StJ.anew {ρ' : Env} {X : List Nat} {b0 : Base} (hJ : C.J k X w) (hdf : b0.df = some []) (hb : b0.w = w) (hod : ∀ b o v, b0.ρ.od b o = some v → C.od b o = some v ∨ b ∈ X) (h : StDen w.heap.size X b0 ρ' s' a' w') : StJ C k s' a' w' := by
  have hk := h.kept
  rw [hb] at hk
  have hdfs := h.defs.same_ [] hdf
  refine ⟨ρ', (List.range' w.heap.size (w'.heap.size - w.heap.size)) ++ X, ⟨⟨fun _ _ h => (by cases h), fun d hd => (by rw [hdfs] at hd; cases hd), h.defs.nd, fun d hd => (by cases hd; exact hdfs)⟩, h.size, h.tmp, h.fresh, ⟨fun i hi => ⟨fun m hm => ?_, (h.mem.at_ i hi).2⟩, h.mem.apart, h.mem.seal_, h.mem.free⟩, Kept.refl _ _ _, Nat.le_refl _, ⟨fun i m hm => ?_, fun _ _ _ h => h⟩, fun i hi => ?_, fun i hi => ?_, rfl, ?_, fun b o v hv => .inl hv⟩, ?_, fun b o v hv => ?_⟩
  · obtain ⟨g1, g2, g3⟩ := h.mem.get hi hm
    refine ⟨g1, g2, .inr (List.mem_append.2 ?_)⟩
    rcases g3 with g3 | g3
    · exact .inl (List.mem_range'_1.2 ⟨g3, by have := hk.size; omega⟩)
    · exact .inr g3
  · simp only [baseY] at hm
    split at hm
    · exact hm
    · cases hm
  · show (if i < s'.na then ρ' i else none) = none
    have hi' : s'.na ≤ i := hi
    rw [if_neg (by omega)]
  · show ρ' i = (if i < s'.na then ρ' i else none)
    have hi' : i < s'.na := hi
    rw [if_pos hi']
  · show s'.na ≤ s'.nx
    rw [h.nab]; exact h.nale
  · exact C.ab k X w w' hJ hk _ fun b hb => by
      have := List.mem_range'_1.1 hb
      have := hk.size
      omega
  · rcases h.odb b o v hv with h1 | h1
    · rcases hod b o v h1 with h2 | h2
      · exact .inl h2
      · exact .inr (List.mem_append.2 (.inr h2))
    · exact .inr (List.mem_append.2 (.inl (List.mem_range'_1.2 ⟨h1, by have := h.mem.od_lt hv; have := hk.size; omega⟩)))
theorem StJ.same (h : StJ C k s a w) (f : ∀ {B : Nat} {M : List Nat} {w0 : Base} {ρ : Env}, StDen B M w0 ρ s a w → ∃ ρ', StDen B M w0 ρ' s' a' w') : StJ C k s' a' w' := by
  obtain ⟨ρ, X, hS, hJ, ho⟩ := h
  obtain ⟨ρ', hS'⟩ := f hS
  exact StJ.anew hJ rfl rfl ho hS'
end
def knDrop : List (Nat × Bool) → Option Nat → List (Nat × Bool)
  | l, none => l
  | l, some d => l.filter fun p => !(Nat.beq p.1 d)
def skipS (s : SState) (dst : Option Nat) (t : Nat) (pol : Bool) : SState := s.put dst (.gd t pol (.bool true))
def KnOk (kn : List (Nat × Bool)) (a : Act) : Prop := ∀ p ∈ kn, a.tmps[p.1]? = some (.bool p.2)
theorem KnOk.drop {kn : List (Nat × Bool)} {a : Act} (h : KnOk kn a) (dst : Option Nat) (x : Value) : KnOk (knDrop kn dst) (a.put dst x) := by
  intro p hp
  cases dst with
  | none => exact h p hp
  | some d =>
    simp only [knDrop, List.mem_filter, Bool.not_eq_true'] at hp
    rw [put_get a (some d) x p.1 fun d' hd' e => by cases hd'; have := hp.2; rw [← e] at this; simp at this]
    exact h p hp.1
section
variable {C : YC P} {k : Option Nat} {s : SState} {a : Act} {w : World}
theorem StJ.put (h : StJ C k s a w) {dst : Option Nat} {v : SV} {x : Value} (hv : ∀ ρ : Env, v.den ρ x) (hg : ∀ t pol u, v ≠ .gd t pol u) : StJ C k (s.put dst v) (a.put dst x) w := by
  refine h.same (f := fun {B M w0 ρ} hS => ⟨ρ, ?_⟩)
  have hT := hS.tmDen.put (Ext.refl ρ) (dst := dst) (v := v) (x := x) fun d _ => slot_of hg (hv ρ)
  have hsame : (s.put dst v).na = s.na ∧ (s.put dst v).nx = s.nx ∧ (s.put dst v).mem = s.mem := by cases dst <;> exact ⟨rfl, rfl, rfl⟩
  exact ⟨by rw [put_defs, hsame.2.2]; exact hS.defs, hT.size, hT.tmp, by rw [hsame.2.1]; exact hS.fresh, by rw [hsame.2.2]; exact hS.mem, hS.kept, hS.base, hS.ext, hS.argn, hS.argl, by rw [hsame.1]; exact hS.nab, by rw [hsame.2.1]; exact hS.nale, hS.odb⟩
theorem StJ.skip (h : StJ C k s a w) {dst : Option Nat} {t : Nat} {pol : Bool} (ht : a.tmps[t]? = some (.bool (!pol))) : StJ C k (skipS s dst t pol) (a.put dst undef) w := by
  refine h.same (f := fun {B M w0 ρ} hS => ⟨ρ, ?_⟩)
  have hT := hS.tmDen.put (Ext.refl ρ) (dst := dst) (v := .gd t pol (.bool true)) (x := undef) fun d hd => .inr ⟨fun e => by
    subst hd
    by_cases hdt : d = t
    · subst hdt
      have := put_same e
      simp [undef] at this
    · rw [put_get a (some d) undef t (fun d' e' => by cases e'; exact hdt), ht] at e
      cases pol <;> simp at e, rfl⟩
  have hsame : (skipS s dst t pol).na = s.na ∧ (skipS s dst t pol).nx = s.nx ∧ (skipS s dst t pol).mem = s.mem := by cases dst <;> exact ⟨rfl, rfl, rfl⟩
  exact ⟨by rw [put_defs, hsame.2.2]; exact hS.defs, hT.size, hT.tmp, by rw [hsame.2.1]; exact hS.fresh, by rw [hsame.2.2]; exact hS.mem, hS.kept, hS.base, hS.ext, hS.argn, hS.argl, by rw [hsame.1]; exact hS.nab, by rw [hsame.2.1]; exact hS.nale, hS.odb⟩
end
theorem StJ.cz {C : YC P} {k : Option Nat} {s : SState} {a : Act} {w : World} (h : StJ C k s a w) {na nt nx : Nat} {L : List Nat} {gl : List GL} {r : List SV × List Blk} (hr : czv na nt L nx gl s = some r) : StJ C k (mkSt na nt L r.1 nx r.2) a w := h.same (fun hS => cz_ok hS hr)
end runs
end Go.Sy
