/-
  Contracts of functions: models, equations by the kernel, contracts. Conditions: none.
-/
import Derived.Test.YtchhhoamnagbfaaDoorC5
import Derived.KernelRfl
namespace Go.Proofs.YtchhhoamnagbfaaDoor
open Go Go.Sy
set_option linter.unusedVariables false
set_option linter.unusedSimpArgs false
set_option maxRecDepth 100000
set_option maxHeartbeats 2000000
/-! ### (*strings.Builder).copyCheck -/
theorem ccR : Go.Proofs.Lays.n240 Tryd.prog joinR_ren := { joinR with }
noncomputable def g107u : List SV → List Blk → Option OpRes := fun vs bs => match vs, bs with
  | [.ptr 0 0], [.cells 125 [.ptr 0 0, .gr 1 1 n], .row 5 [.int .u8] m d] => some (resOf 2 (.tup [], [], []) [])
  | _, _ => none
noncomputable def c107u : Ctr := genC [.s [.gr 5 [.int .u8]]] g107u
theorem k107u : CtrOk Tryd.prog c107u 107 := by
  refine ctr_gen ⟨Tryd.f107, Tryd.func107, rfl, by kernel_rfl⟩ fun vs bs q hq hn ρ1 M xs w hd hm hfr hMb => ?_
  unfold g107u at hq
  split at hq <;> cases hq
  rename_i n m d
  match xs, hd with
  | [x], ⟨hx, _⟩ =>
  obtain ⟨b, hb, rfl⟩ := hx
  obtain ⟨_, ⟨h0, c, hc, hl⟩, _⟩ := hm.get (i := 0) rfl hb
  have c0 : w.cell? ⟨b.blk, 0, none⟩ = some (.pointer (some ⟨b.blk, 0, none⟩)) := by
    rw [Lib.cell_of_heap hc]
    rcases c with ⟨l⟩
    cases l with
    | nil => exact hl.elim
    | cons y l =>
      obtain ⟨⟨b', hb', e⟩, _⟩ := hl
      rw [hb] at hb'; cases hb'
      rw [h0] at e
      simpa using e
  rw [h0]
  refine (Any.Builder_copyCheck_used ccR joinRX.toX72 b.blk w c0).mono ?_
  rintro e w' ⟨rfl, rfl⟩
  exact ⟨_, ρ1, rfl, post_val ⟨[], rfl, trivial⟩ (RowKit.Below.refl _ _)⟩
noncomputable def g107f : List SV → List Blk → Option OpRes := fun vs bs => match vs, bs with
  | [.ptr 0 0], [.cells 125 [.val (.pointer none), .gr 1 1 n], .row 5 [.int .u8] m d] => some (resOf 2 (.tup [], [.cells 125 [.ptr 0 0, .gr 1 1 n]], []) [])
  | _, _ => none
noncomputable def c107f : Ctr := genC [.c [.k, .gr 5 [.int .u8]]] g107f
theorem k107f : CtrOk Tryd.prog c107f 107 := by
  refine ctr_gen ⟨Tryd.f107, Tryd.func107, rfl, by kernel_rfl⟩ fun vs bs q hq hn ρ1 M xs w hd hm hfr hMb => ?_
  unfold g107f at hq
  split at hq <;> cases hq
  rename_i n m d
  match xs, hd with
  | [x], ⟨hx, _⟩ =>
  obtain ⟨b, hb, rfl⟩ := hx
  obtain ⟨hlt, ⟨h0, c, hc, hl⟩, _⟩ := hm.get (i := 0) rfl hb
  obtain ⟨y, rfl, hy⟩ : ∃ y, c = #[.pointer none, y] ∧ (SV.gr 1 1 n).den ρ1 y := by
    rcases c with ⟨l⟩
    match l, hl with
    | [x, y], ⟨e, h2, _⟩ => exact ⟨y, by rw [show x = .pointer none from e], h2⟩
  have c0 : w.cell? ⟨b.blk, 0, none⟩ = some (.pointer none) := by rw [Lib.cell_of_heap hc]; rfl
  have hsh : w.shape? b.blk = some (125, 2) := by simp [World.shape?, hc]
  have hfz : w.frozen? ⟨b.blk, 0, none⟩ = false := Lib.frozen_of_heap hc 0
  rw [h0]
  refine (Any.Builder_copyCheck_fresh ccR joinRX.toX72 b.blk w c0 hsh hfz).mono ?_
  rintro e w' ⟨rfl, rfl⟩
  have hc' : (w.setCell ⟨b.blk, 0, none⟩ (.pointer (some ⟨b.blk, 0, none⟩))).heap[b.blk]? = some (.cells #[.pointer (some ⟨b.blk, 0, none⟩), y] 125 (0, 0)) := by
    rw [heap_setCell_same w b.blk 0 _ _ _ hc]; rfl
  have hU : (resOf 2 ((.tup [] : SV), [Blk.cells 125 [.ptr 0 0, .gr 1 1 n]], []) []).upds = [(0, .cells 125 [.ptr 0 0, .gr 1 1 n])] := rfl
  refine ⟨_, ρ1, rfl, ⟨[], rfl, trivial⟩, Ext.refl _, fun _ _ => rfl, rfl, rfl, rfl, by simp, fun k hk hno => ?_, fun _ _ _ h => .inl h, fun u hu _ => ?_, fun j b hj => by simp [resOf] at hj, fun j j' b b' m m' hne hj => by simp [resOf] at hj⟩
  · exact RowKit.Below.heap_setCell w ⟨b.blk, 0, none⟩ _ k fun e => hno _ (by rw [hU]; exact List.mem_singleton.2 rfl) b hb e.symm
  · rw [hU] at hu
    obtain rfl := List.mem_singleton.1 hu
    refine ⟨fun m' hm' => ?_, fun hn => by rw [hb] at hn; cases hn⟩
    rw [hb] at hm'; cases hm'
    exact ⟨h0, _, hc', ⟨_, hb, by rw [h0]⟩, hy, trivial⟩
end Go.Proofs.YtchhhoamnagbfaaDoor
