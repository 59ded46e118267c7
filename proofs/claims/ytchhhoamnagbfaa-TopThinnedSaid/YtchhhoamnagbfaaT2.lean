/-
  Contracts of functions: models, equations by the kernel, contracts. Conditions: none.
-/
import Derived.Test.YtchhhoamnagbfaaT1
import Derived.KernelRfl
namespace Go.Proofs.Ytchhhoamnagbfaa
open Go Go.Sy
set_option linter.unusedVariables false
set_option linter.unusedSimpArgs false
set_option maxRecDepth 100000
set_option maxHeartbeats 2000000
/-! ### iterator 32 -/
noncomputable def al32 (t m : Dat) (i j : Nat) : Bool := m31 (t.sn 0 0) (t.sub 0 0) (i : Int) (j : Int) (m.ii 0 0)
noncomputable def L2_32 (t m : Dat) (j : Nat) : Nat → List (Nat × Nat)
  | 0 => []
  | i + 1 => L2_32 t m j i ++ cond (al32 t m i j) [(i, j)] []
noncomputable def L1_32 (t m : Dat) : Nat → List (Nat × Nat)
  | 0 => []
  | j + 1 => L1_32 t m j ++ L2_32 t m j j
noncomputable def all32 (t m : Dat) : List (Nat × Nat) := L1_32 t m (t.sn 0 0)
noncomputable def N32 (t m : Dat) : Nat := (all32 t m).length
def rowAt32 : Option (Nat × Nat) → Nat → Int
  | some p, 0 => p.1
  | some p, 1 => p.2
  | _, _ => 0
noncomputable def Y32 (t m : Dat) : Dat := { noDat with ii := fun k c => rowAt32 (all32 t m)[k]? c }
noncomputable def ok32 (t m : Dat) : Bool := decide (t.sn 0 0 ≤ 1000000) && (List.range (t.sn 0 0)).all fun j => (List.range j).all fun i => n31 (t.sn 0 0) (t.sub 0 0) (i : Int) (j : Int) (m.ii 0 0)
theorem pre2_32 (t m : Dat) (j : Nat) : ∀ {k k' : Nat}, k ≤ k' → L2_32 t m j k <+: L2_32 t m j k' := fun {k k'} h => by
  induction k' with
  | zero =>
    obtain rfl : k = 0 := by omega
    exact List.prefix_refl _
  | succ n ih =>
    rcases Nat.lt_or_ge k (n + 1) with h1 | h1
    · exact (ih (by omega)).trans (List.prefix_append _ _)
    · obtain rfl : k = n + 1 := by omega
      exact List.prefix_refl _
theorem pre1_32 (t m : Dat) : ∀ {k k' : Nat}, k ≤ k' → L1_32 t m k <+: L1_32 t m k' := fun {k k'} h => by
  induction k' with
  | zero =>
    obtain rfl : k = 0 := by omega
    exact List.prefix_refl _
  | succ n ih =>
    rcases Nat.lt_or_ge k (n + 1) with h1 | h1
    · exact (ih (by omega)).trans (List.prefix_append _ _)
    · obtain rfl : k = n + 1 := by omega
      exact List.prefix_refl _
theorem pre_all32 {t m : Dat} {i j : Nat} (hj : j < t.sn 0 0) (hi : i ≤ j) : L1_32 t m j ++ L2_32 t m j i <+: all32 t m :=
  ((List.prefix_append_right_inj _).2 (pre2_32 t m j hi)).trans (pre1_32 t m (k := j + 1) (k' := t.sn 0 0) hj)
theorem ok32_at {t m : Dat} (h : ok32 t m = true) {i j : Nat} (hi : i < j) (hj : j < t.sn 0 0) : n31 (t.sn 0 0) (t.sub 0 0) (i : Int) (j : Int) (m.ii 0 0) = true := by
  simp only [ok32, Bool.and_eq_true, List.all_eq_true, List.mem_range] at h
  exact h.2 j hj i hi
theorem loop2_32 {t m : Dat} {l j : Nat} (hj : j < t.sn 0 0) (h : ok32 t m = true) (hn : t.sn 0 0 ≤ 1000000) : ∀ (r i f : Nat), i + r = j → r < f →
    l32_2 t m (j : Int) (j : Int) l (N32 t m) (Y32 t m) f (L1_32 t m j ++ L2_32 t m j i).length (i : Int) = some (L1_32 t m j ++ L2_32 t m j j).length
  | 0, i, f, hk, hf => by
    obtain ⟨f, rfl⟩ : ∃ f', f = f' + 1 := ⟨f - 1, by omega⟩
    obtain rfl : i = j := by omega
    simp only [l32_2, cdn, cond_false]
  | r + 1, i, f, hk, hf => by
    obtain ⟨f, rfl⟩ : ∃ f', f = f' + 1 := ⟨f - 1, by omega⟩
    have hi : i < j := by omega
    have ih := loop2_32 (l := l) hj h hn r (i + 1) f (by omega) (by omega)
    have hp := pre_all32 (t := t) (m := m) (i := i + 1) hj hi
    have a := ok32_at h hi hj
    simp only [L2_32] at ih hp
    cases hB : al32 t m i j with
    | false =>
      rw [hB] at ih
      simp only [cond_false, List.append_nil] at ih
      unfold al32 at hB
      simp only [l32_2, cdl hi, a, hB, cond_true, cond_false, wrS hi (by omega)]
      exact ih
    | true =>
      rw [hB] at ih hp
      simp only [cond_true] at ih hp
      have hlen : (L1_32 t m j ++ (L2_32 t m j i ++ [(i, j)])).length = (L1_32 t m j ++ L2_32 t m j i).length + 1 := by simp; omega
      rw [hlen] at ih
      generalize hq : (L1_32 t m j ++ L2_32 t m j i).length = q at ih ⊢
      have hat : (all32 t m)[q]? = some (i, j) := by
        obtain ⟨z, hz⟩ := hp
        rw [← hz, ← hq]
        rw [show L1_32 t m j ++ (L2_32 t m j i ++ [(i, j)]) ++ z = (L1_32 t m j ++ L2_32 t m j i) ++ ([(i, j)] ++ z) by simp]
        rw [List.getElem?_append_right (Nat.le_refl _), Nat.sub_self]
        rfl
      have hqN : q < N32 t m := (List.getElem?_eq_some_iff.1 hat).1
      have hY0 : (Y32 t m).ii q 0 = (i : Int) := by show rowAt32 (all32 t m)[q]? 0 = _; rw [hat]; rfl
      have hY1 : (Y32 t m).ii q 1 = (j : Int) := by show rowAt32 (all32 t m)[q]? 1 = _; rw [hat]; rfl
      unfold al32 at hB
      simp only [l32_2, cdl hi, a, hB, hY0, hY1, decide_eq_true hqN, decide_true, cond_true, wrS hi (by omega)]
      exact ih
theorem loop0_32 {t m : Dat} {l : Nat} (h : ok32 t m = true) (hn : t.sn 0 0 ≤ 1000000) : ∀ (r j f : Nat), j + r = t.sn 0 0 → r < f →
    l32_0 t m l (N32 t m) (Y32 t m) f (L1_32 t m j).length (j : Int) = some (N32 t m)
  | 0, j, f, hk, hf => by
    obtain ⟨f, rfl⟩ : ∃ f', f = f' + 1 := ⟨f - 1, by omega⟩
    obtain rfl : j = t.sn 0 0 := by omega
    simp only [l32_0, cdn, cond_false]
    rfl
  | r + 1, j, f, hk, hf => by
    obtain ⟨f, rfl⟩ : ∃ f', f = f' + 1 := ⟨f - 1, by omega⟩
    have hj : j < t.sn 0 0 := by omega
    have ih := loop0_32 (l := l) h hn r (j + 1) f (by omega) (by omega)
    have h2 := loop2_32 (l := l) hj h hn j 0 ((j : Int).toNat + (j : Int).toNat + (0 : Int).toNat + 8) (by omega) (by omega)
    have e : L1_32 t m j ++ L2_32 t m j 0 = L1_32 t m j := by simp [L2_32]
    rw [e] at h2
    have h2' : o32_2 t m (j : Int) (j : Int) l (N32 t m) (Y32 t m) (L1_32 t m j).length 0 = some (L1_32 t m j ++ L2_32 t m j j).length := h2
    simp only [l32_0, cdl hj, cond_true, h2', Option.isSome_some, Option.getD_some, wrS hj (by omega)]
    exact ih
theorem loop1_32 {t m : Dat} {l : Nat} (h : ok32 t m = true) (hn : t.sn 0 0 ≤ 1000000) (F : Nat) (hF : t.sn 0 0 < F) : l32_0 t m l (N32 t m) (Y32 t m) F 0 1 = some (N32 t m) := by
  rcases Nat.eq_zero_or_pos (t.sn 0 0) with h0 | h0
  · obtain ⟨f, rfl⟩ : ∃ f', F = f' + 1 := ⟨F - 1, by omega⟩
    have e : N32 t m = 0 := by simp [N32, all32, h0, L1_32]
    have z : decide ((1 : Int) < ((t.sn 0 0 : Nat) : Int)) = false := decide_eq_false (by omega)
    rw [l32_0, z, cond_false, e]
  · have := loop0_32 (l := l) h hn (t.sn 0 0 - 1) 1 F (by omega) (by omega)
    have e : (L1_32 t m 1).length = 0 := by simp [L1_32, L2_32]
    rw [e] at this
    exact this
theorem iter32 (t m : Dat) (h : ok32 t m = true) : SIter Try.prog 32 [.rp [.sl [.int .i64, .int .i64]] t 0 0, .rp [.int .i64] m 0 0] [] (N32 t m) (fun k => [.int .i64 ((Y32 t m).ii k 0), .int .i64 ((Y32 t m).ii k 1)]) :=
  it32 t m (N32 t m) (Y32 t m) fun l => by
    have hn : t.sn 0 0 ≤ 1000000 := by
      simp only [ok32, Bool.and_eq_true, decide_eq_true_eq] at h
      exact h.1
    have h0 := loop1_32 (t := t) (m := m) (l := l) h hn ((1 : Int).toNat + 8 + t.sn 0 0) (by omega)
    have h0' : o32_0 t m l (N32 t m) (Y32 t m) 0 1 = some (N32 t m) := h0
    simp only [n32, h0', Option.isSome_some, Option.getD_some, decide_true, Bool.and_self]
/-! ### slices.Insert[[]int,int] -/
noncomputable def m18 (na0 : Nat) (ma0 : Nat) (da0 : Dat) (da2 : Dat) : Nat × Dat := (na0 + 1, da2.app 1 da0)
noncomputable def n18 (na0 : Nat) (ma0 : Nat) (da0 : Dat) (da2 : Dat) : Bool := decide (1 ≤ na0) && (decide (na0 ≤ ma0) && decide (na0 ≤ 1000000))
noncomputable def q18 (da2 : Dat) (r : Nat × Dat) : SV × List Blk × List Blk := (.gr 2 1 r.1, [.unk, .row 3 [.int .i64] 1 da2], [.row 3 [.int .i64] r.1 r.2])
noncomputable def g18 : List SV → List Blk → Option OpRes := fun vs bs => match vs, bs with
  | [.gr 0 1 na0, .int .i64 0, .own 1 1 1], [.row 3 [.int .i64] ma0 da0, .row 3 [.int .i64] 1 da2] => some (resOf 2 (q18 da2 (m18 na0 ma0 da0 da2)) [n18 na0 ma0 da0 da2])
  | _, _ => none
noncomputable def c18 : Ctr := genC [.gr 3 [.int .i64], .k, .k] g18
theorem setCells_row (b : Nat) (t : TypeId) : ∀ (vs : List Value) (o : Nat) (w : World) (c : Array Value), w.heap[b]? = some (.cells c t (0, 0)) → o + vs.length ≤ c.size →
    ∃ c', (w.setCells b o vs).heap[b]? = some (.cells c' t (0, 0)) ∧ c'.size = c.size ∧ (∀ k, c'[k]? = if o ≤ k ∧ k < o + vs.length then vs[k - o]? else c[k]?) ∧
      (∀ b', b' ≠ b → (w.setCells b o vs).heap[b']? = w.heap[b']?) ∧ (w.setCells b o vs).os = w.os ∧ (w.setCells b o vs).tape = w.tape ∧ (w.setCells b o vs).output = w.output ∧ (w.setCells b o vs).heap.size = w.heap.size
  | [], o, w, c, h, hl => ⟨c, h, rfl, fun k => by rw [if_neg (by simp)], fun _ _ => rfl, rfl, rfl, rfl, rfl⟩
  | v :: r, o, w, c, h, hl => by
    have hl' : o + 1 + r.length ≤ c.size := by simp at hl; omega
    have hh1 := heap_setCell_same w b o c t v h
    obtain ⟨c', gg1, gg2, gg3, gg4, gg5, gg6, gg7, gg8⟩ := setCells_row b t r (o + 1) (w.setCell ⟨b, o, none⟩ v) (c.setIfInBounds o v) hh1 (by simpa using hl')
    refine ⟨c', gg1, by simpa using gg2, fun k => ?_, fun b' hb => (gg4 b' hb).trans (RowKit.Below.heap_setCell w ⟨b, o, none⟩ v b' hb), ?_, ?_, ?_, ?_⟩
    · rw [gg3 k]
      by_cases hk : k = o
      · subst hk
        rw [if_neg (by omega), if_pos (by simp)]
        simp [Array.getElem?_setIfInBounds]
        omega
      · by_cases hh2 : o + 1 ≤ k ∧ k < o + 1 + r.length
        · rw [if_pos hh2, if_pos (by simp; omega)]
          rw [show k - o = (k - (o + 1)) + 1 by omega, List.getElem?_cons_succ]
        · rw [if_neg hh2, if_neg (by simp; omega)]
          simp [Array.getElem?_setIfInBounds, Ne.symm hk]
    · rw [World.setCells, gg5]; unfold World.setCell; split <;> rfl
    · rw [World.setCells, gg6]; unfold World.setCell; split <;> rfl
    · rw [World.setCells, gg7]; unfold World.setCell; split <;> rfl
    · rw [World.setCells, gg8]; simp
/-- The values of the first n of a row of integers. -/
def iv (d : Dat) (n : Nat) : List Value := (List.range n).map fun j => .int .i64 (d.ii j 0)
theorem iv_length (d : Dat) (n : Nat) : (iv d n).length = n := by simp [iv]
theorem iv_get (d : Dat) (n j : Nat) : (iv d n)[j]? = if j < n then some (.int .i64 (d.ii j 0)) else none := by
  simp only [iv, List.getElem?_map, List.getElem?_range]
  split <;> simp_all
theorem iv_one (d : Dat) (n : Nat) : ∀ v ∈ iv d n, v.oneCell' = true := fun v hv => by
  simp only [iv, List.mem_map] at hv
  obtain ⟨j, _, rfl⟩ := hv
  rfl
/-- A row of integers, cell by cell. -/
theorem row_cells {ρ : Env} {w : World} {m : Nm} {n : Nat} {d : Dat} (h : (Blk.row 3 [.int .i64] n d).den ρ w m) : m.off = 0 ∧ n ≤ m.cap ∧ ∃ c, w.heap[m.blk]? = some (.cells c 3 (0, 0)) ∧ c.size = m.cap ∧ m.cap ≤ maxLen ∧ ∀ j, j < n → c[j]? = some (.int .i64 (d.ii j 0)) := by
  obtain ⟨hh0, hh1, ⟨c, hc, hs, hl⟩, he⟩ := h
  refine ⟨hh0, hh1, c, hc, by simpa using hs, hl, fun j hj => ?_⟩
  obtain ⟨_, hh3⟩ := he j hj
  obtain ⟨v, hv, hd⟩ := hh3 0 (.int .i64 (d.ii j 0)) rfl
  have e : v = .int .i64 (d.ii j 0) := hd
  subst e
  rw [hh0] at hv
  simpa [World.cell?, hc] using hv
theorem cells_row {ρ : Env} {w : World} {m : Nm} {n : Nat} {d : Dat} (hh0 : m.off = 0) (hh1 : n ≤ m.cap) {c : Array Value} (hc : w.heap[m.blk]? = some (.cells c 3 (0, 0))) (hs : c.size = m.cap) (hl : m.cap ≤ maxLen) (he : ∀ j, j < n → c[j]? = some (.int .i64 (d.ii j 0))) : (Blk.row 3 [.int .i64] n d).den ρ w m := by
  refine ⟨hh0, hh1, ⟨c, hc, by simpa using hs, hl⟩, fun k hk => ⟨rfl, fun j v hj => ?_⟩⟩
  cases j with
  | zero =>
    obtain rfl : SV.int .i64 (d.ii k 0) = v := by simpa [el, elFrom, kdSV] using hj
    refine ⟨.int .i64 (d.ii k 0), ?_, rfl⟩
    rw [hh0]
    have := he k hk
    simpa [World.cell?, hc] using this
  | succ j => simp [el, elFrom] at hj
theorem ins_ii (dd2 d : Dat) (j : Nat) : (dd2.app 1 d).ii j 0 = if j = 0 then dd2.ii 0 0 else d.ii (j - 1) 0 := by
  show cond (Nat.blt j 1) (dd2.ii j 0) (d.ii (j - 1) 0) = _
  cases j with
  | zero => rfl
  | succ j => rw [blt_f (by omega), if_neg (by omega)]; rfl
theorem k18 : CtrOk Try.prog c18 18 := by
  refine ctr_gen ⟨Try.f18, Try.func18, rfl, by kernel_rfl⟩ fun vs bs q hq hn ρ1 M xs w hd hm hfr hMb => ?_
  unfold g18 at hq
  split at hq <;> cases hq
  rename_i n ma da dd2
  have hn' : n18 n ma da dd2 = true := hn _ (List.mem_singleton.2 rfl)
  simp only [n18, Bool.and_eq_true, decide_eq_true_eq] at hn'
  obtain ⟨hn1, hnm, hnb⟩ := hn'
  match xs, hd with
  | [x, y, z], ⟨hx, hy, hz, _⟩ =>
  obtain rfl : y = .int .i64 0 := hy
  obtain ⟨mm0, hh0, hoff, hcap, rfl⟩ : ∃ m, ρ1 0 = some m ∧ m.off = 0 ∧ n ≤ m.cap ∧ x = .slice (some ⟨m.blk, 0, none⟩) n m.cap := by
    rcases hx with ⟨h, _⟩ | h
    · omega
    · exact h
  obtain ⟨mm1, hh1, hoff1, hcap1, rfl⟩ := hz
  obtain ⟨hlt0, hrow0, hin0⟩ := hm.get (i := 0) rfl hh0
  obtain ⟨hlt1, hrow1, hin1⟩ := hm.get (i := 1) rfl hh1
  have hne : mm0.blk ≠ mm1.blk := hm.apart 0 1 mm0 mm1 (by decide) rfl rfl hh0 hh1
  obtain ⟨_, hma, cc0, hc0, hs0, hl0, he0⟩ := row_cells hrow0
  obtain ⟨_, _, cc1, hc1, hs1, hl1, he1⟩ := row_cells hrow1
  have hfree := hm.free 0 mm0 rfl hh0
  have ff2 : ρ1 2 = none := hfr 2 (by simp)
  have cel0 : ∀ j v, (iv da n)[j]? = some v → w.cell? ⟨mm0.blk, 0 + j, none⟩ = some v := fun j v hj => by
    rw [iv_get] at hj
    by_cases h : j < n
    · rw [if_pos h] at hj
      have := he0 j (by omega)
      rw [hj] at this
      simp [World.cell?, hc0, this]
    · rw [if_neg h] at hj; cases hj
  have cel1 : ∀ j v, [Value.int .i64 (dd2.ii 0 0)][j]? = some v → w.cell? ⟨mm1.blk, 0 + j, none⟩ = some v := fun j v hj => by
    cases j with
    | zero =>
      have := he1 0 (by omega)
      have hj' : Value.int .i64 (dd2.ii 0 0) = v := by simpa using hj
      rw [hj'] at this
      simp [World.cell?, hc1, this]
    | succ j => simp at hj
  have hm63 : maxLen ≤ 9223372036854775807 := by decide
  -- what both ways come to
  have fin : ∀ (B cap : Nat) (w' : World) (c' : Array Value), (B = mm0.blk ∨ w.heap.size ≤ B) → n + 1 ≤ cap → cap ≤ maxLen → B < w'.heap.size → w'.heap[B]? = some (.cells c' 3 (0, 0)) → c'.size = cap → (∀ j, j < n + 1 → c'[j]? = some (.int .i64 ((dd2.app 1 da).ii j 0))) →
      w'.os = w.os → w'.tape = w.tape → w'.output = w.output → w.heap.size ≤ w'.heap.size → (∀ b, b < w.heap.size → b ≠ mm0.blk → w'.heap[b]? = w.heap[b]?) →
      ∃ x ρ', Ending.returned (.slice (some ⟨B, 0, none⟩) (n + 1) cap) = .returned x ∧ OpPost ρ1 ρ' [Blk.row 3 [Kd.int .i64] ma da, Blk.row 3 [Kd.int .i64] 1 dd2].length (resOf 2 (q18 dd2 (m18 n ma da dd2)) [n18 n ma da dd2]) w w' x := by
    intro B cap w' c' hB hcap' hmax hBlt hh hsz hcs hos htp hout hsize hkeep
    refine ⟨_, ρ1.set 2 ⟨B, 0, cap⟩, rfl, .inr ⟨⟨B, 0, cap⟩, Env.set_same _ _ _, rfl, hcap', rfl⟩, Env.set_ext ff2, fun i hi => ?_, hos, htp, hout, hsize, fun b hb hu => ?_, fun _ _ _ h => .inl h, fun u hu huk => ?_, fun j b hj huk => ?_, fun j j' b b' m m' hjj hj hj' _ _ _ _ => ?_⟩
    · have hi : i ≠ 2 := by rcases hi with h | h <;> (simp [resOf, q18] at h; omega)
      simp [Env.set, hi]
    · exact hkeep b hb (fun e => hu (0, .unk) (List.mem_cons_self ..) mm0 hh0 e.symm)
    · have hu : u ∈ [(0, Blk.unk), (1, Blk.row 3 [Kd.int .i64] 1 dd2)] := hu
      rcases List.mem_cons.1 hu with rfl | hu
      · cases huk
      obtain rfl := List.mem_singleton.1 hu
      · refine ⟨fun m hmm => ?_, fun h => by rw [hh1] at h; cases h⟩
        obtain rfl : mm1 = m := Option.some.inj (hh1.symm.trans hmm)
        exact cells_row hoff1 (by omega) (by rw [hkeep _ hlt1 hne.symm]; exact hc1) hs1 hl1 (fun j hj => he1 j hj)
    · cases j with
      | succ j => simp [resOf, q18] at hj
      | zero =>
        simp [resOf, q18, m18] at hj
        subst hj
        refine ⟨fun m hmm => ?_, fun h => ?_⟩
        · have hmm' : (ρ1.set 2 ⟨B, 0, cap⟩) 2 = some m := hmm
          rw [Env.set_same] at hmm'
          obtain rfl := Option.some.inj hmm'
          refine ⟨hBlt, cells_row rfl hcap' hh hsz hmax hcs, fun o => ?_, ?_⟩
          · show ρ1.od B o = none
            rcases hB with rfl | hB
            · exact hfree o
            · cases ho : ρ1.od B o with
              | none => rfl
              | some v => have := hm.od_lt ho; omega
          · rcases hB with rfl | hB
            · exact .inr ⟨(0, .unk), List.mem_cons_self .., rfl, mm0, hh0, rfl⟩
            · exact .inl hB
        · have h' : (ρ1.set 2 ⟨B, 0, cap⟩) 2 = none := h
          rw [Env.set_same] at h'; cases h'
    · cases j <;> cases j' <;> simp [resOf, q18] at hj hj' hjj
  by_cases hroom : n + 1 ≤ mm0.cap
  · have hsp : ∀ j, j < n + 1 → (w.cell? ⟨mm0.blk, 0 + j, none⟩).isSome = true := fun j hj => by
      have hjs : j < cc0.size := by omega
      simp [World.cell?, hc0, hjs]
    have hC := Go.Proofs.Any2.slices_Insert_int_shift insR mm0.blk 0 n mm0.cap 0 mm1.blk 0 1 mm1.cap (iv da n) [.int .i64 (dd2.ii 0 0)] w hn1 (by decide) hroom (by omega) (Ne.symm hne) (iv_length _ _) rfl cel0 hsp
      (fun j _ => by simp [World.frozen?, hc0]) cel1 (iv_one _ _) (fun v hv => by simp at hv; subst hv; rfl) 3 3 cc1.size cc0.size (by simp [World.shape?, hc1]) (by simp [World.shape?, hc0]) (by omega) (by simp [World.frozen?, hc1]) (by simp [World.frozen?, hc1])
    refine Calls.mono hC ?_
    rintro e w' ⟨rfl, hw⟩
    obtain ⟨c', gg1, gg2, gg3, gg4, gg5, gg6, gg7, gg8⟩ := setCells_row mm0.blk 3 ((iv da n).drop 0) (0 + (0 + 1)) w.drew cc0 hc0 (by simp [iv_length]; omega)
    obtain ⟨c'', kk1, kk2, kk3, kk4, kk5, kk6, kk7, kk8⟩ := setCells_row mm0.blk 3 [.int .i64 (dd2.ii 0 0)] (0 + 0) (w.drew.setCells mm0.blk (0 + (0 + 1)) ((iv da n).drop 0)) c' gg1 (by simp; omega)
    rw [← hw] at kk1 kk4 kk5 kk6 kk7 kk8
    refine fin mm0.blk mm0.cap w' c'' (.inl rfl) hroom hl0 (by rw [kk8, gg8]; exact hlt0) kk1 (by rw [kk2, gg2, hs0]) (fun j hj => ?_) (kk5.trans gg5) (kk6.trans gg6) (kk7.trans gg7) (by rw [kk8, gg8]; exact Nat.le_refl _) (fun b hb hne' => (kk4 b hne').trans (gg4 b hne'))
    rw [kk3, gg3, ins_ii]
    by_cases h : j = 0
    · subst h; simp
    · rw [if_neg (by simp; omega), if_pos (by simp [iv_length]; omega), if_neg h]
      simp only [List.drop_zero, Nat.zero_add]
      rw [iv_get, if_pos (by omega)]
  · have hcapn : mm0.cap < n + 1 := by omega
    have hC := Go.Proofs.Any2.slices_Insert_int_grow insR mm0.blk 0 n mm0.cap 0 mm1.blk 0 1 mm1.cap (iv da n) [.int .i64 (dd2.ii 0 0)] w hn1 (by decide) hcap hcapn (by omega) (iv_length _ _) rfl cel0 cel1 (iv_one _ _) (fun v hv => by simp at hv; subst hv; rfl)
    refine Calls.mono hC ?_
    rintro e w' ⟨rfl, hw⟩
    have hge := grownCap_ge w (n + 1) mm0.cap 3
    have hmax := grownCap_le_maxLen w (n + 1) mm0.cap 3 (by unfold maxLen; omega)
    have ht : insR_ren.t 3 = 3 := rfl
    rw [ht] at hw ⊢
    generalize grownCap w (n + 1) mm0.cap 3 = cap at hge hmax hw ⊢
    generalize hA : ((iv da n).take 0).toArray ++ Builtin.zeroCells (Value.int .i64 0).cells (n + 1 - 0) ++ Builtin.zeroCells (Value.int .i64 0).cells (cap - (n + 1)) = A at hw
    have hAs : A.size = cap := by
      rw [← hA]
      simp [Builtin.zeroCells, Value.cells]
      omega
    have ha : (w.alloc (.cells A 3)).heap[w.heap.size]? = some (.cells A 3 (0, 0)) := World.alloc_heap_new w _
    obtain ⟨c', gg1, gg2, gg3, gg4, gg5, gg6, gg7, gg8⟩ := setCells_row w.heap.size 3 [.int .i64 (dd2.ii 0 0)] 0 (w.alloc (.cells A 3)).drew A ha (by simp; omega)
    obtain ⟨c'', kk1, kk2, kk3, kk4, kk5, kk6, kk7, kk8⟩ := setCells_row w.heap.size 3 ((iv da n).drop 0) (0 + 1) ((w.alloc (.cells A 3)).drew.setCells w.heap.size 0 [.int .i64 (dd2.ii 0 0)]).drew c' gg1 (by simp [iv_length]; omega)
    rw [← hw] at kk1 kk4 kk5 kk6 kk7 kk8
    have hsz : w'.heap.size = w.heap.size + 1 := by
      rw [kk8]
      show ((w.alloc (.cells A 3)).drew.setCells w.heap.size 0 [.int .i64 (dd2.ii 0 0)]).heap.size = _
      rw [gg8]
      show (w.alloc (.cells A 3)).heap.size = _
      simp
    refine fin w.heap.size cap w' c'' (.inr (Nat.le_refl _)) hge hmax (by omega) kk1 (by rw [kk2, gg2, hAs]) (fun j hj => ?_) (kk5.trans gg5) (kk6.trans gg6) (kk7.trans gg7) (by omega) (fun b hb hne' => ?_)
    · rw [kk3, gg3, ins_ii]
      by_cases h : j = 0
      · subst h; simp
      · rw [if_pos (by simp [iv_length]; omega), if_neg h]
        simp only [List.drop_zero, Nat.zero_add]
        rw [iv_get, if_pos (by omega)]
    · have hb' : b ≠ w.heap.size := by omega
      refine (kk4 b hb').trans ((gg4 b hb').trans ?_)
      exact heap_alloc_old w _ _ hb
end Go.Proofs.Ytchhhoamnagbfaa
