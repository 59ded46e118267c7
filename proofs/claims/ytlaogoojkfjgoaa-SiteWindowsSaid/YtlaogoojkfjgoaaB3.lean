/-
  Contracts of functions: models, equations by the kernel, contracts. Conditions: none.
-/
import Derived.Test.YtlaogoojkfjgoaaB2
import Derived.KernelRfl
namespace Go.Proofs.Ytlaogoojkfjgoaa
open Go Go.Sy
set_option linter.unusedVariables false
set_option linter.unusedSimpArgs false
set_option maxRecDepth 100000
set_option maxHeartbeats 2000000
/-! ### slices.SortFunc at windows -/
noncomputable def arrW (n : Nat) (d : Dat) : Array Wn := Array.ofFn fun q : Fin n => if h : 0 ≤ d.ii q 0 ∧ d.ii q 0 ≤ 1000000000 then ⟨(d.ii q 0, d.ii q 1), h⟩ else default
theorem arrW_size (n : Nat) (d : Dat) : (arrW n d).size = n := by simp [arrW]
noncomputable def srtW (n : Nat) (d : Dat) : Array Wn := Go.Sort.pdq (Go.Proofs.ltOf cfW) (arrW n d) 0 n (Go.Lib.bitLen n) true true
noncomputable def datW (n : Nat) (d : Dat) : Dat := { d with ii := fun q c => cond (decide (q < n)) (cond (decide (c = 0)) (srtW n d)[q]!.1.1 (srtW n d)[q]!.1.2) (d.ii q c) }
noncomputable def m108r (na0 : Nat) (ma0 : Nat) (da0 : Dat) : Nat × Dat := (ma0, datW na0 da0)
noncomputable def n108r (na0 : Nat) (ma0 : Nat) (da0 : Dat) : Bool := decide (na0 ≤ ma0) && (decide (na0 ≤ 1000000) && (List.range na0).all fun q => decide (0 ≤ da0.ii q 0) && decide (da0.ii q 0 ≤ 1000000000))
noncomputable def q108r (r : Nat × Dat) : SV × List Blk × List Blk := (.tup [], [.row 28 [.int .i64, .int .i64] r.1 r.2], [])
noncomputable def g108r : List SV → List Blk → Option OpRes := fun vs bs => match vs, bs with
  | [.gr 0 2 na0, .fn 109 []], [.row 28 [.int .i64, .int .i64] ma0 da0] => some (resOf 1 (q108r (m108r na0 ma0 da0)) [n108r na0 ma0 da0])
  | _, _ => none
noncomputable def c108r : Ctr := genC [.gr 28 [.int .i64, .int .i64], .f []] g108r
theorem m108_0 (ma : Nat) (da : Dat) : m108c109 0 ma da = (ma, da) := by kernel_rfl
theorem n108_0 (ma : Nat) (da : Dat) : n108c109 0 ma da = true := by kernel_rfl
theorem datW_0 (d : Dat) : datW 0 d = d := by cases d; simp [datW]
theorem k108r : CtrOk Try.prog c108r 108 := by
  refine ctr_gen ⟨Try.f108, Try.func108, rfl, by kernel_rfl⟩ fun vs bs q hq hn ρ1 M xs w hd hm hfr hMb => ?_
  unfold g108r at hq
  split at hq <;> cases hq
  rename_i n ma da
  have hn' : n108r n ma da = true := hn _ (List.mem_singleton.2 rfl)
  simp only [n108r, Bool.and_eq_true, decide_eq_true_eq, List.all_eq_true, List.mem_range] at hn'
  obtain ⟨hnm, hnb, hlo⟩ := hn'
  match xs, hd with
  | [x, y], ⟨hx, hy, _⟩ =>
  rcases Nat.eq_zero_or_pos n with rfl | hpos
  · refine (calls_out (tabOk_cons k109 (tabOk_cons k137c109 (tabOk_cons k138 tabOk_nil))) mix_ok 8 (fn := Try.f108) (c := (Try.f108.body.getD .skip)) Try.func108 rfl noLam (ρ0 := ρ1) (args := [.gr 0 2 0, .fn 109 []]) (xs := [x, y]) ⟨hx, hy, trivial⟩ hm hfr hMb (fun q hq => List.mem_range.1 hq) (p108c109 0 ma da (n108_0 ma da))).mono ?_
    rintro e w' ⟨v, U, N, x', ρ', rfl, hv, hp⟩
    refine ⟨x', ρ', rfl, ?_⟩
    have hv' : (v, U, N) = q108r (m108r 0 ma da) := by
      rw [m108r, datW_0]; rw [m108_0] at hv; exact hv
    have eq1 : resOf [Blk.row 28 [Kd.int IntKind.i64, Kd.int IntKind.i64] ma da].length (v, U, N) [n108r 0 ma da] = resOf 1 (q108r (m108r 0 ma da)) [n108r 0 ma da] := by rw [hv']; rfl
    rw [← eq1]
    exact ⟨hp.val, hp.ext, hp.old, hp.os, hp.tape, hp.output, hp.size, hp.keep, hp.odn, hp.upd, hp.new, hp.newapart⟩
  · obtain ⟨ys, hy1, hy2⟩ := hy
    have : ys = [] := by cases ys with
      | nil => rfl
      | cons a l => exact hy2.elim
    subst this
    subst hy1
    obtain ⟨mm, h0, hoff, hcap, rfl⟩ : ∃ m, ρ1 0 = some m ∧ m.off = 0 ∧ n ≤ m.cap ∧ x = .slice (some ⟨m.blk, 0, none⟩) n m.cap := by
      rcases hx with ⟨h, _⟩ | h
      · omega
      · exact h
    obtain ⟨hlt, hrow, hin⟩ := hm.get (i := 0) rfl h0
    obtain ⟨_, hma, ⟨c, hc, hcs, hcl⟩, hel⟩ := hrow
    have cell : ∀ q j, q < ma → j < 2 → w.cell? ⟨mm.blk, q * 2 + j, none⟩ = some (.int .i64 (da.ii q j)) := fun q j hq hj => by
      obtain ⟨_, h2⟩ := hel q hq
      obtain ⟨v, hv, hd⟩ := h2 j (.int .i64 (da.ii q j)) (by
        rcases j with _ | _ | j
        · rfl
        · rfl
        · omega)
      rw [hoff] at hv
      have : v = .int .i64 (da.ii q j) := hd
      rw [this] at hv
      simpa using hv
    have cc : ∀ t, t < ma * 2 → c[t]? = some (.int .i64 (da.ii (t / 2) (t % 2))) := fun t ht => by
      have h := cell (t / 2) (t % 2) (by omega) (by omega)
      have e : t / 2 * 2 + t % 2 = t := by omega
      rw [e] at h
      simpa [World.cell?, hc] using h
    have arr : ∀ q, q < n → ((arrW n da)[q]!).1 = (da.ii q 0, da.ii q 1) := fun q hq => by
      have h2 := hlo q hq
      rw [getElem!_pos (arrW n da) q (by rw [arrW_size]; exact hq)]
      simp only [arrW, Array.getElem_ofFn]
      rw [dif_pos h2]
    have hH : Go.Sort.HoldsK encW 2 w mm.blk 0 (arrW n da) := fun t ht => by
      have ht' : t < (arrW n da).size * 2 := by simpa using ht
      have ht2 : t < n * 2 := by rw [arrW_size] at ht'; exact ht'
      rw [Go.Sort.get_flatK _ _ _ t ht', Nat.zero_add]
      refine ⟨?_, by simp [World.frozen?, hc]⟩
      have h := cc t (by omega)
      have h2 : w.cell? ⟨mm.blk, t, none⟩ = some (.int .i64 (da.ii (t / 2) (t % 2))) := by simpa [World.cell?, hc] using h
      rw [h2]
      have e := arr (t / 2) (by omega)
      rcases (by omega : t % 2 = 0 ∨ t % 2 = 1) with h3 | h3 <;> rw [h3] <;> simp [encW, e]
    have hS := sortF mm.blk mm.cap (arrW n da) w hH hlt (by rw [arrW_size]; omega)
    rw [arrW_size] at hS
    refine hS.mono ?_
    rintro e w' ⟨rfl, k, os, hw⟩
    refine ⟨_, ρ1, rfl, ?_⟩
    have hsz : (srtW n da).size = n := by
      have h := (Go.Sort.pdq_sorts (Go.Proofs.ltOf cfW) swoW (arrW n da) 0 n (Go.Lib.bitLen n) true true (Nat.zero_le _) (by rw [arrW_size]; exact Nat.le_refl _) (Or.inl rfl)).1.1
      rw [arrW_size] at h
      exact h
    have hw2 : w' = Go.Sort.grow (Go.Sort.putRow id (Go.Sort.ahead w k) mm.blk 0 (Go.Sort.flatK encW 2 (srtW n da))) os := hw
    generalize hF : Go.Sort.flatK encW 2 (srtW n da) = F at hw2
    have hFs : F.size = n * 2 := by rw [← hF]; simp [hsz]
    have hFg : ∀ t, t < n * 2 → F[t]! = .int .i64 ((datW n da).ii (t / 2) (t % 2)) := fun t ht => by
      rw [← hF, Go.Sort.get_flatK _ _ _ t (by rw [hsz]; exact ht)]
      have h1 : decide (t / 2 < n) = true := decide_eq_true (by omega)
      rcases (by omega : t % 2 = 0 ∨ t % 2 = 1) with h3 | h3 <;> rw [h3] <;> simp [encW, datW, h1]
    have old : ∀ b, b < w.heap.size → b ≠ mm.blk → w'.heap[b]? = w.heap[b]? := fun b hb hne => by
      rw [hw2, Go.Sort.heap_grow_old _ _ (by simpa [Go.Sort.putRow, Go.Sort.mapBlock, Go.Sort.ahead] using hb)]
      simp only [Go.Sort.putRow, Go.Sort.mapBlock, Go.Sort.ahead]
      rw [Array.getElem?_modify, if_neg (Ne.symm hne)]
    have new : w'.heap[mm.blk]? = some (.cells (Go.Sort.putCells id 0 F c) 28 (0, 0)) := by
      rw [hw2, Go.Sort.heap_grow_old _ _ (by simpa [Go.Sort.putRow, Go.Sort.mapBlock, Go.Sort.ahead] using hlt)]
      simp only [Go.Sort.putRow, Go.Sort.mapBlock, Go.Sort.ahead]
      rw [Array.getElem?_modify, if_pos rfl, hc]
      rfl
    have hcell : ∀ t, t < ma * 2 → (Go.Sort.putCells id 0 F c)[t]? = some (.int .i64 ((datW n da).ii (t / 2) (t % 2))) := fun t ht => by
      have h := cc t ht
      simp only [Go.Sort.putCells, Array.getElem?_mapIdx, h, Option.map_some, Nat.zero_le, true_and, Nat.zero_add, Nat.sub_zero, id]
      by_cases h1 : t < n * 2
      · rw [if_pos (by rw [hFs]; exact h1), hFg t h1]
      · rw [if_neg (by rw [hFs]; exact h1)]
        have h2 : decide (t / 2 < n) = false := decide_eq_false (by omega)
        simp [datW, h2]
    have hsize : w.heap.size ≤ w'.heap.size := by rw [hw2]; simp [Go.Sort.putRow, Go.Sort.mapBlock, Go.Sort.ahead]
    refine ⟨⟨[], rfl, trivial⟩, Ext.refl _, fun _ _ => rfl, by rw [hw2]; rfl, by rw [hw2]; rfl, by rw [hw2]; rfl, hsize, fun b hb hu => ?_, fun _ _ _ h => .inl h, fun u hu _ => ?_, fun j b hj => by simp [resOf, q108r] at hj, fun j j' b b' m m' hne hj => by simp [resOf, q108r] at hj⟩
    · exact old b hb (fun e => hu (0, _) (List.mem_singleton.2 rfl) mm h0 e.symm)
    · obtain rfl : u = (0, .row 28 [.int .i64, .int .i64] ma (datW n da)) := List.mem_singleton.1 hu
      refine ⟨fun m hm' => ?_, fun h => by rw [h0] at h; cases h⟩
      have : mm = m := by rw [h0] at hm'; exact Option.some.inj hm'
      subst this
      refine ⟨hoff, hma, ⟨_, new, by simpa [Go.Sort.putCells] using hcs, hcl⟩, fun q hq => ⟨rfl, fun j v hv => ?_⟩⟩
      have hj : j < 2 := by
        rcases j with _ | _ | j
        · omega
        · omega
        · simp [el, elFrom] at hv
      have hv2 : v = .int .i64 ((datW n da).ii q j) := by
        rcases j with _ | _ | j
        · exact (Option.some.inj hv).symm
        · exact (Option.some.inj hv).symm
        · omega
      subst hv2
      refine ⟨_, ?_, rfl⟩
      have hq' : q < ma := hq
      have h := hcell (q * 2 + j) (by omega)
      rw [show (q * 2 + j) / 2 = q by omega, show (q * 2 + j) % 2 = j by omega] at h
      rw [hoff, Nat.zero_add]
      simp only [World.cell?, new]
      exact h
end Go.Proofs.Ytlaogoojkfjgoaa
