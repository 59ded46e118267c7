/-
  Contracts of functions: models, equations by the kernel, contracts. Conditions: none.
-/
import Derived.Test.YtchhhoamnagbfaaDoorC9
import Derived.KernelRfl
namespace Go.Proofs.YtchhhoamnagbfaaDoor
open Go Go.Sy
set_option linter.unusedVariables false
set_option linter.unusedSimpArgs false
set_option maxRecDepth 100000
set_option maxHeartbeats 2000000
/-! ### (*strings.Builder).String -/
theorem bsR : Go.Proofs.Lays.n169 Tryd.prog joinR_ren := { joinR with }
/-- The bytes that a row holds. -/
def bytesOf (n : Nat) (d : Dat) : List UInt8 := (List.range n).map fun q => UInt8.ofNat (d.ii q 0).toNat
section
open Go.Shelf Go.RowKit
set_option maxHeartbeats 1000000 in
theorem string_calls {b g cap : Nat} {p : Value} {cur : Array Value} {l : List UInt8} {w : World} (h0 : l ≠ []) (hb : w.heap[b]? = some (.cells #[p, .slice (some ⟨g, 0, none⟩) l.length cap] 125 (0, 0))) (hg : w.heap[g]? = some (.cells cur 5 (0, 0))) (hnc : l.length ≤ cap) (hcm : cap ≤ maxLen) (hcs : cur.size = cap)
    (hl : ∀ j x, l[j]? = some x → w.cell? ⟨g, j, none⟩ = some (.int .u8 x.toNat)) :
    Calls Tryd.prog 90 #[.pointer (some ⟨b, 0, none⟩)] w fun e w' => e = .returned (.string ⟨l.toArray⟩) ∧ w' = w.drew.freeze ⟨g, 0, none⟩ l.length := by
  have hl0 : l.length ≠ 0 := by simpa using h0
  have c1 : w.drew.cell? ⟨b, 1, none⟩ = some (.slice (some ⟨g, 0, none⟩) l.length cap) := by
    have : w.drew.heap[b]? = some (.cells #[p, .slice (some ⟨g, 0, none⟩) l.length cap] 125 (0, 0)) := hb
    rw [Lib.cell_of_heap this]; rfl
  have hSD : (Builtin.unsafeSliceData_ #[123] 152 #[.slice (some ⟨g, 0, none⟩) l.length cap]).run Tryd.prog w.drew = .ok (.pointer (some ⟨g, 0, none⟩)) w.drew := Lib.run_unsafeSliceData_row _ _ _ _ _ _ (by omega)
  have hUS : (Builtin.unsafeString_ #[152, 3] 9 #[.pointer (some ⟨g, 0, none⟩), .int .i64 l.length]).run Tryd.prog w.drew = .ok (.string ⟨l.toArray⟩) (w.drew.freeze ⟨g, 0, none⟩ l.length) := by
    refine Lib.run_unsafeString_row w.drew 152 3 9 5 Tryd.underlying152 (by kernel_rfl) g cur.size (by have hg' : w.drew.heap[g]? = some (.cells cur 5 (0, 0)) := hg; simp [World.shape?, hg']) l h0 (by omega) (by unfold maxLen at hcm; omega) ?_
    exact fun j x hx => by rw [Addr.add_mid, Nat.zero_add]; exact hl j x hx
  have mixed := bsR.mixed
  have u1 := run_underlying Tryd.underlying125; have u2 := run_underlying Tryd.underlying122; have u3 := run_underlying Tryd.underlying123; have u4 := run_underlying Tryd.underlying152; have u5 := run_underlying Tryd.underlying3; have u6 := run_underlying Tryd.underlying9; have u7 := run_underlying Tryd.underlying5
  go_enter Tryd.func90, Tryd.ntmps90
  go_wp2
  go_region_o
  all_goals (go_wp2; go_ret; exact ⟨rfl, rfl⟩)
end
section
variable {w : World} {p : Addr} {n : Nat}
theorem freeze_other {k : Nat} (h : k ≠ p.block) : (w.drew.freeze p n).heap[k]? = w.heap[k]? := by
  unfold World.freeze
  split
  · rfl
  · show (w.heap.modify _ _)[k]? = _
    simp only [Array.getElem?_modify]
    rw [if_neg (fun e => h e.symm)]
theorem freeze_size : w.heap.size ≤ (w.drew.freeze p n).heap.size := by
  unfold World.freeze
  split
  · exact Nat.le_refl _
  · show _ ≤ (w.heap.modify _ _).size
    simp
theorem freeze_os : (w.drew.freeze p n).os = w.os := by unfold World.freeze; split <;> rfl
theorem freeze_tape : (w.drew.freeze p n).tape = w.tape := by unfold World.freeze; split <;> rfl
theorem freeze_out : (w.drew.freeze p n).output = w.output := by unfold World.freeze; split <;> rfl
end
noncomputable def m90 (n : Nat) (d : Dat) : ByteArray := ⟨(bytesOf n d).toArray⟩
noncomputable def n90 (n m : Nat) (d : Dat) : Bool := decide (0 < n) && (decide (n ≤ m) && (List.range n).all fun q => decide (0 ≤ d.ii q 0 ∧ d.ii q 0 ≤ 255))
noncomputable def q90 (n : Nat) (r : ByteArray) : SV × List Blk × List Blk := (.str r, [.cells 125 [.ptr 0 0, .gr 1 1 n], .unk], [])
noncomputable def g90 : List SV → List Blk → Option OpRes := fun vs bs => match vs, bs with
  | [.ptr 0 0], [.cells 125 [.ptr 0 0, .gr 1 1 n], .row 5 [.int .u8] m d] => some (resOf 2 (q90 n (m90 n d)) [n90 n m d])
  | _, _ => none
noncomputable def c90 : Ctr := genC [.s [.gr 5 [.int .u8]]] g90
theorem k90 : CtrOk Tryd.prog c90 90 := by
  refine ctr_gen ⟨Tryd.f90, Tryd.func90, rfl, by kernel_rfl⟩ fun vs bs q hq hn ρ1 M xs w hd hm hfr hMb => ?_
  unfold g90 at hq
  split at hq <;> cases hq
  rename_i n m d
  have hr := hn _ (List.mem_singleton.2 rfl)
  simp only [n90, Bool.and_eq_true, decide_eq_true_eq, List.all_eq_true, List.mem_range] at hr
  obtain ⟨hn0, hnm, hby⟩ := hr
  match xs, hd with
  | [x], ⟨hx, _⟩ =>
  obtain ⟨b, hb, rfl⟩ := hx
  obtain ⟨hlt, ⟨h0, c, hc, hl⟩, _⟩ := hm.get (i := 0) rfl hb
  obtain ⟨y0, y, rfl, ⟨b2, hb2, e0⟩, hy⟩ : ∃ y0 y, c = #[y0, y] ∧ (SV.ptr 0 0).den ρ1 y0 ∧ (SV.gr 1 1 n).den ρ1 y := by
    rcases c with ⟨l⟩
    match l, hl with
    | [x, y], ⟨h1, h2, _⟩ => exact ⟨x, y, rfl, h1, h2⟩
  rcases hy with ⟨e, _⟩ | ⟨g, hg, g0, hcap, rfl⟩
  · omega
  obtain ⟨hglt, ⟨_, hmc, ⟨cur, hcur, hcs, hcm⟩, hel⟩, _⟩ := hm.get (i := 1) rfl hg
  have hne : b.blk ≠ g.blk := hm.apart 0 1 b g (by decide) rfl rfl hb hg
  have hlen : (bytesOf n d).length = n := by simp [bytesOf]
  have hcell : ∀ j x, (bytesOf n d)[j]? = some x → w.cell? ⟨g.blk, j, none⟩ = some (.int .u8 x.toNat) := fun j x hj => by
    have hlt : j < n := by have := (List.getElem?_eq_some_iff.1 hj).1; omega
    obtain ⟨_, h⟩ := hel j (by omega)
    obtain ⟨y, hy, e⟩ := h 0 (.int .u8 (d.ii j 0)) rfl
    have e : y = .int .u8 (d.ii j 0) := e
    subst e
    simp only [g0, Nat.zero_add, Nat.add_zero, List.length_singleton, Nat.mul_one] at hy
    have hx : x = UInt8.ofNat (d.ii j 0).toNat := by
      simp [bytesOf, List.getElem?_range hlt] at hj
      exact hj.symm
    have hb := hby j hlt
    have : ((x.toNat : Nat) : Int) = d.ii j 0 := by
      rw [hx, UInt8.toNat_ofNat']
      omega
    rw [this]; exact hy
  rw [h0]
  have hc' : w.heap[b.blk]? = some (.cells #[y0, .slice (some ⟨g.blk, 0, none⟩) (bytesOf n d).length g.cap] 125 (0, 0)) := by rw [hlen]; exact hc
  refine (string_calls (l := bytesOf n d) (fun e => by rw [e] at hlen; simp at hlen; omega) hc' hcur (by omega) hcm (by simpa using hcs) hcell).mono ?_
  rintro e w' ⟨rfl, rfl⟩
  have hoth : ∀ k, k ≠ g.blk → (w.drew.freeze ⟨g.blk, 0, none⟩ (bytesOf n d).length).heap[k]? = w.heap[k]? := fun k hk => freeze_other hk
  have hU : (resOf 2 (q90 n (m90 n d)) [n90 n m d]).upds = [(0, .cells 125 [.ptr 0 0, .gr 1 1 n]), (1, .unk)] := rfl
  refine ⟨_, ρ1, rfl, rfl, Ext.refl _, fun _ _ => rfl, freeze_os, freeze_tape, freeze_out, freeze_size, fun k hk hno => hoth k fun e => hno (1, .unk) (by rw [hU]; simp) g hg e.symm, fun _ _ _ h => .inl h, fun u hu hk => ?_, fun j b hj => by simp [resOf, q90] at hj, fun j j' b b' m m' hne hj => by simp [resOf, q90] at hj⟩
  rw [hU] at hu
  simp only [List.mem_cons, List.not_mem_nil, or_false] at hu
  rcases hu with rfl | rfl
  · refine ⟨fun m' hm' => ?_, fun hn => by rw [hb] at hn; cases hn⟩
    rw [hb] at hm'; cases hm'
    exact ⟨h0, _, (hoth _ hne).trans hc, ⟨_, hb2, e0⟩, .inr ⟨g, hg, g0, hcap, rfl⟩, trivial⟩
  · cases hk
attribute [irreducible] m90
/-! ### shotline/profile.Print$1, both -/
noncomputable def c85 : Ctr := orC c85u c85f
theorem k85 : CtrOk Tryd.prog c85 85 := orC_ok k85u k85f
end Go.Proofs.YtchhhoamnagbfaaDoor
