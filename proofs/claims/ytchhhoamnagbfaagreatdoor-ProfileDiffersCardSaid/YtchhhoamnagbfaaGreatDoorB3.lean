/-
  Contracts of functions: models, equations by the kernel, contracts. Conditions: none.
-/
import Derived.Test.YtchhhoamnagbfaaGreatDoorB2
import Derived.KernelRfl
namespace Go.Proofs.YtchhhoamnagbfaaGreatDoor
open Go Go.Sy
set_option linter.unusedVariables false
set_option linter.unusedSimpArgs false
set_option maxRecDepth 100000
set_option maxHeartbeats 2000000
/-! ### iterator 32 -/
noncomputable def al69 (t m : Dat) (i j : Nat) : Bool := m70 (t.sn 0 0) (t.sub 0 0) (i : Int) (j : Int) (m.ii 0 0)
noncomputable def L2_32 (t m : Dat) (j : Nat) : Nat → List (Nat × Nat)
  | 0 => []
  | i + 1 => L2_32 t m j i ++ cond (al69 t m i j) [(i, j)] []
noncomputable def L1_32 (t m : Dat) : Nat → List (Nat × Nat)
  | 0 => []
  | j + 1 => L1_32 t m j ++ L2_32 t m j j
noncomputable def all32 (t m : Dat) : List (Nat × Nat) := L1_32 t m (t.sn 0 0)
noncomputable def N69 (t m : Dat) : Nat := (all32 t m).length
def rowAt32 : Option (Nat × Nat) → Nat → Int
  | some p, 0 => p.1
  | some p, 1 => p.2
  | _, _ => 0
noncomputable def Y69 (t m : Dat) : Dat := { noDat with ii := fun k c => rowAt32 (all32 t m)[k]? c }
noncomputable def ok69 (t m : Dat) : Bool := decide (t.sn 0 0 ≤ 1000000) && (List.range (t.sn 0 0)).all fun j => (List.range j).all fun i => n70 (t.sn 0 0) (t.sub 0 0) (i : Int) (j : Int) (m.ii 0 0)
theorem pre2_32 (t m : Dat) (j : Nat) : ∀ {k k' : Nat}, k ≤ k' → L2_32 t m j k <+: L2_32 t m j k' := fun {k k'} h => by
  induction k' with
  | zero =>
    obtain rfl : k = 0 := by omega
    exact List.prefix_refl _
  | succ n ih =>
    rcases Nat.lt_or_ge k (n + 1) with h1 | h1
    · exact (ih (by omega)).trans (List.prefix_append _ _)
    · obtain rfl : k = n + 1 := by omega
      exact List.prefix_refl _
theorem pre1_32 (t m : Dat) : ∀ {k k' : Nat}, k ≤ k' → L1_32 t m k <+: L1_32 t m k' := fun {k k'} h => by
  induction k' with
  | zero =>
    obtain rfl : k = 0 := by omega
    exact List.prefix_refl _
  | succ n ih =>
    rcases Nat.lt_or_ge k (n + 1) with h1 | h1
    · exact (ih (by omega)).trans (List.prefix_append _ _)
    · obtain rfl : k = n + 1 := by omega
      exact List.prefix_refl _
theorem pre_all32 {t m : Dat} {i j : Nat} (hj : j < t.sn 0 0) (hi : i ≤ j) : L1_32 t m j ++ L2_32 t m j i <+: all32 t m :=
  ((List.prefix_append_right_inj _).2 (pre2_32 t m j hi)).trans (pre1_32 t m (k := j + 1) (k' := t.sn 0 0) hj)
theorem ok69_at {t m : Dat} (h : ok69 t m = true) {i j : Nat} (hi : i < j) (hj : j < t.sn 0 0) : n70 (t.sn 0 0) (t.sub 0 0) (i : Int) (j : Int) (m.ii 0 0) = true := by
  simp only [ok69, Bool.and_eq_true, List.all_eq_true, List.mem_range] at h
  exact h.2 j hj i hi
theorem loop2_32 {t m : Dat} {l j : Nat} (hj : j < t.sn 0 0) (h : ok69 t m = true) (hn : t.sn 0 0 ≤ 1000000) : ∀ (r i f : Nat), i + r = j → r < f →
    l69_2 t m (j : Int) (j : Int) l (N69 t m) (Y69 t m) f (L1_32 t m j ++ L2_32 t m j i).length (i : Int) = some (L1_32 t m j ++ L2_32 t m j j).length
  | 0, i, f, hk, hf => by
    obtain ⟨f, rfl⟩ : ∃ f', f = f' + 1 := ⟨f - 1, by omega⟩
    obtain rfl : i = j := by omega
    simp only [l69_2, cdn, cond_false]
  | r + 1, i, f, hk, hf => by
    obtain ⟨f, rfl⟩ : ∃ f', f = f' + 1 := ⟨f - 1, by omega⟩
    have hi : i < j := by omega
    have ih := loop2_32 (l := l) hj h hn r (i + 1) f (by omega) (by omega)
    have hp := pre_all32 (t := t) (m := m) (i := i + 1) hj hi
    have a := ok69_at h hi hj
    simp only [L2_32] at ih hp
    cases hB : al69 t m i j with
    | false =>
      rw [hB] at ih
      simp only [cond_false, List.append_nil] at ih
      unfold al69 at hB
      simp only [l69_2, cdl hi, a, hB, cond_true, cond_false, wrS hi (by omega)]
      exact ih
    | true =>
      rw [hB] at ih hp
      simp only [cond_true] at ih hp
      have hlen : (L1_32 t m j ++ (L2_32 t m j i ++ [(i, j)])).length = (L1_32 t m j ++ L2_32 t m j i).length + 1 := by simp; omega
      rw [hlen] at ih
      generalize hq : (L1_32 t m j ++ L2_32 t m j i).length = q at ih ⊢
      have hat : (all32 t m)[q]? = some (i, j) := by
        obtain ⟨z, hz⟩ := hp
        rw [← hz, ← hq]
        rw [show L1_32 t m j ++ (L2_32 t m j i ++ [(i, j)]) ++ z = (L1_32 t m j ++ L2_32 t m j i) ++ ([(i, j)] ++ z) by simp]
        rw [List.getElem?_append_right (Nat.le_refl _), Nat.sub_self]
        rfl
      have hqN : q < N69 t m := (List.getElem?_eq_some_iff.1 hat).1
      have hY0 : (Y69 t m).ii q 0 = (i : Int) := by show rowAt32 (all32 t m)[q]? 0 = _; rw [hat]; rfl
      have hY1 : (Y69 t m).ii q 1 = (j : Int) := by show rowAt32 (all32 t m)[q]? 1 = _; rw [hat]; rfl
      unfold al69 at hB
      simp only [l69_2, cdl hi, a, hB, hY0, hY1, decide_eq_true hqN, decide_true, cond_true, wrS hi (by omega)]
      exact ih
theorem loop0_32 {t m : Dat} {l : Nat} (h : ok69 t m = true) (hn : t.sn 0 0 ≤ 1000000) : ∀ (r j f : Nat), j + r = t.sn 0 0 → r < f →
    l69_0 t m l (N69 t m) (Y69 t m) f (L1_32 t m j).length (j : Int) = some (N69 t m)
  | 0, j, f, hk, hf => by
    obtain ⟨f, rfl⟩ : ∃ f', f = f' + 1 := ⟨f - 1, by omega⟩
    obtain rfl : j = t.sn 0 0 := by omega
    simp only [l69_0, cdn, cond_false]
    rfl
  | r + 1, j, f, hk, hf => by
    obtain ⟨f, rfl⟩ : ∃ f', f = f' + 1 := ⟨f - 1, by omega⟩
    have hj : j < t.sn 0 0 := by omega
    have ih := loop0_32 (l := l) h hn r (j + 1) f (by omega) (by omega)
    have h2 := loop2_32 (l := l) hj h hn j 0 ((j : Int).toNat + (j : Int).toNat + (0 : Int).toNat + 8) (by omega) (by omega)
    have e : L1_32 t m j ++ L2_32 t m j 0 = L1_32 t m j := by simp [L2_32]
    rw [e] at h2
    have h2' : o69_2 t m (j : Int) (j : Int) l (N69 t m) (Y69 t m) (L1_32 t m j).length 0 = some (L1_32 t m j ++ L2_32 t m j j).length := h2
    simp only [l69_0, cdl hj, cond_true, h2', Option.isSome_some, Option.getD_some, wrS hj (by omega)]
    exact ih
theorem loop1_32 {t m : Dat} {l : Nat} (h : ok69 t m = true) (hn : t.sn 0 0 ≤ 1000000) (F : Nat) (hF : t.sn 0 0 < F) : l69_0 t m l (N69 t m) (Y69 t m) F 0 1 = some (N69 t m) := by
  rcases Nat.eq_zero_or_pos (t.sn 0 0) with h0 | h0
  · obtain ⟨f, rfl⟩ : ∃ f', F = f' + 1 := ⟨F - 1, by omega⟩
    have e : N69 t m = 0 := by simp [N69, all32, h0, L1_32]
    have z : decide ((1 : Int) < ((t.sn 0 0 : Nat) : Int)) = false := decide_eq_false (by omega)
    rw [l69_0, z, cond_false, e]
  · have := loop0_32 (l := l) h hn (t.sn 0 0 - 1) 1 F (by omega) (by omega)
    have e : (L1_32 t m 1).length = 0 := by simp [L1_32, L2_32]
    rw [e] at this
    exact this
theorem iter32 (t m : Dat) (h : ok69 t m = true) : SIter Tryz.prog 69 [.rp [.sl [.int .i64, .int .i64]] t 0 0, .rp [.int .i64] m 0 0] [] (N69 t m) (fun k => [.int .i64 ((Y69 t m).ii k 0), .int .i64 ((Y69 t m).ii k 1)]) :=
  it69 t m (N69 t m) (Y69 t m) fun l => by
    have hn : t.sn 0 0 ≤ 1000000 := by
      simp only [ok69, Bool.and_eq_true, decide_eq_true_eq] at h
      exact h.1
    have h0 := loop1_32 (t := t) (m := m) (l := l) h hn ((1 : Int).toNat + 8 + t.sn 0 0) (by omega)
    have h0' : o69_0 t m l (N69 t m) (Y69 t m) 0 1 = some (N69 t m) := h0
    simp only [n69, h0', Option.isSome_some, Option.getD_some, decide_true, Bool.and_self]


/-! ### strconv.Itoa -/
noncomputable def m56 (a0 : Int) : ByteArray := ⟨(Lib.itoa a0).toArray⟩
noncomputable def n56 (a0 : Int) : Bool := decide (-9223372036854775808 ≤ a0 ∧ a0 ≤ 9223372036854775807)
noncomputable def q56 (r : ByteArray) : SV × List Blk × List Blk := (.str r, [], [])
noncomputable def g56 : List SV → List Blk → Option OpRes := fun vs bs => match vs, bs with
  | [.int .i64 a0], [] => some (resOf 0 (q56 (m56 a0)) [n56 a0])
  | _, _ => none
noncomputable def c56 : Ctr := genC [.k] g56
theorem k56 : CtrOk Tryz.prog c56 56 := by
  refine ctr_gen ⟨Tryz.f56, Tryz.func56, rfl, by kernel_rfl⟩ fun vs bs q hq hn ρ1 M xs w hd hm hfr hMb => ?_
  unfold g56 at hq
  split at hq <;> cases hq
  rename_i n
  have hr := hn _ (List.mem_singleton.2 rfl)
  have hr : -9223372036854775808 ≤ n ∧ n ≤ 9223372036854775807 := by simpa [n56] using hr
  match xs, hd with
  | [x], ⟨hx, _⟩ =>
  obtain rfl : x = .int .i64 n := hx
  refine (Any.strconv_Itoa itoaR n hr.1 hr.2 w (tab_of hm.pv)).mono ?_
  rintro e w' ⟨rfl, k, os, rfl⟩
  exact ⟨_, ρ1, rfl, post_val rfl (grow_below w k os)⟩
attribute [irreducible] m56
/-! ### strings.TrimRight -/
noncomputable def m74 (a0 : ByteArray) : ByteArray := ⟨(Lib.trimRightB a0.data.toList 48).toArray⟩
noncomputable def n74 (a0 : ByteArray) (a1 : ByteArray) : Bool := decide (a1 = ⟨#[48]⟩) && decide (a0.size ≤ 1000000)
noncomputable def q74 (r : ByteArray) : SV × List Blk × List Blk := (.str r, [], [])
noncomputable def g74 : List SV → List Blk → Option OpRes := fun vs bs => match vs, bs with
  | [.str a0, .str a1], [] => some (resOf 0 (q74 (m74 a0)) [n74 a0 a1])
  | _, _ => none
noncomputable def c74 : Ctr := genC [.k, .k] g74
theorem k74 : CtrOk Tryz.prog c74 74 := by
  refine ctr_gen ⟨Tryz.f74, Tryz.func74, rfl, by kernel_rfl⟩ fun vs bs q hq hn ρ1 M xs w hd hm hfr hMb => ?_
  unfold g74 at hq
  split at hq <;> cases hq
  rename_i s c
  have hr := hn _ (List.mem_singleton.2 rfl)
  simp only [n74, Bool.and_eq_true, decide_eq_true_eq] at hr
  obtain ⟨rfl, hs⟩ := hr
  match xs, hd with
  | [x, y], ⟨hx, hy, _⟩ =>
  obtain rfl : x = .string s := hx
  obtain rfl : y = .string ⟨#[48]⟩ := hy
  refine (Any.strings_TrimRight_one trimR s 48 (by decide) w (by omega)).mono ?_
  rintro e w' ⟨rfl, rfl⟩
  exact ⟨_, ρ1, rfl, post_val rfl (RowKit.Below.refl _ _)⟩
attribute [irreducible] m74

/-! ### (*strings.Builder).copyCheck -/
theorem ccR : Go.Proofs.Lays.n240 Tryz.prog joinR_ren := { joinR with }
noncomputable def g71u : List SV → List Blk → Option OpRes := fun vs bs => match vs, bs with
  | [.ptr 0 0], [.cells 94 [.ptr 0 0, .gr 1 1 n], .row 5 [.int .u8] m d] => some (resOf 2 (.tup [], [], []) [])
  | _, _ => none
noncomputable def c71u : Ctr := genC [.s [.gr 5 [.int .u8]]] g71u
theorem k71u : CtrOk Tryz.prog c71u 71 := by
  refine ctr_gen ⟨Tryz.f71, Tryz.func71, rfl, by kernel_rfl⟩ fun vs bs q hq hn ρ1 M xs w hd hm hfr hMb => ?_
  unfold g71u at hq
  split at hq <;> cases hq
  rename_i n m d
  match xs, hd with
  | [x], ⟨hx, _⟩ =>
  obtain ⟨b, hb, rfl⟩ := hx
  obtain ⟨_, ⟨h0, c, hc, hl⟩, _⟩ := hm.get (i := 0) rfl hb
  have c0 : w.cell? ⟨b.blk, 0, none⟩ = some (.pointer (some ⟨b.blk, 0, none⟩)) := by
    rw [Lib.cell_of_heap hc]
    rcases c with ⟨l⟩
    cases l with
    | nil => exact hl.elim
    | cons y l =>
      obtain ⟨⟨b', hb', e⟩, _⟩ := hl
      rw [hb] at hb'; cases hb'
      rw [h0] at e
      simpa using e
  rw [h0]
  refine (Any.Builder_copyCheck_used ccR joinRX.toX72 b.blk w c0).mono ?_
  rintro e w' ⟨rfl, rfl⟩
  exact ⟨_, ρ1, rfl, post_val ⟨[], rfl, trivial⟩ (RowKit.Below.refl _ _)⟩
noncomputable def g71f : List SV → List Blk → Option OpRes := fun vs bs => match vs, bs with
  | [.ptr 0 0], [.cells 94 [.val (.pointer none), .gr 1 1 n], .row 5 [.int .u8] m d] => some (resOf 2 (.tup [], [.cells 94 [.ptr 0 0, .gr 1 1 n]], []) [])
  | _, _ => none
noncomputable def c71f : Ctr := genC [.c [.k, .gr 5 [.int .u8]]] g71f
theorem k71f : CtrOk Tryz.prog c71f 71 := by
  refine ctr_gen ⟨Tryz.f71, Tryz.func71, rfl, by kernel_rfl⟩ fun vs bs q hq hn ρ1 M xs w hd hm hfr hMb => ?_
  unfold g71f at hq
  split at hq <;> cases hq
  rename_i n m d
  match xs, hd with
  | [x], ⟨hx, _⟩ =>
  obtain ⟨b, hb, rfl⟩ := hx
  obtain ⟨hlt, ⟨h0, c, hc, hl⟩, _⟩ := hm.get (i := 0) rfl hb
  obtain ⟨y, rfl, hy⟩ : ∃ y, c = #[.pointer none, y] ∧ (SV.gr 1 1 n).den ρ1 y := by
    rcases c with ⟨l⟩
    match l, hl with
    | [x, y], ⟨e, h2, _⟩ => exact ⟨y, by rw [show x = .pointer none from e], h2⟩
  have c0 : w.cell? ⟨b.blk, 0, none⟩ = some (.pointer none) := by rw [Lib.cell_of_heap hc]; rfl
  have hsh : w.shape? b.blk = some (94, 2) := by simp [World.shape?, hc]
  have hfz : w.frozen? ⟨b.blk, 0, none⟩ = false := Lib.frozen_of_heap hc 0
  rw [h0]
  refine (Any.Builder_copyCheck_fresh ccR joinRX.toX72 b.blk w c0 hsh hfz).mono ?_
  rintro e w' ⟨rfl, rfl⟩
  have hc' : (w.setCell ⟨b.blk, 0, none⟩ (.pointer (some ⟨b.blk, 0, none⟩))).heap[b.blk]? = some (.cells #[.pointer (some ⟨b.blk, 0, none⟩), y] 94 (0, 0)) := by
    rw [heap_setCell_same w b.blk 0 _ _ _ hc]; rfl
  have hU : (resOf 2 ((.tup [] : SV), [Blk.cells 94 [.ptr 0 0, .gr 1 1 n]], []) []).upds = [(0, .cells 94 [.ptr 0 0, .gr 1 1 n])] := rfl
  refine ⟨_, ρ1, rfl, ⟨[], rfl, trivial⟩, Ext.refl _, fun _ _ => rfl, rfl, rfl, rfl, by simp, fun k hk hno => ?_, fun _ _ _ h => .inl h, fun u hu _ => ?_, fun j b hj => by simp [resOf] at hj, fun j j' b b' m m' hne hj => by simp [resOf] at hj⟩
  · exact RowKit.Below.heap_setCell w ⟨b.blk, 0, none⟩ _ k fun e => hno _ (by rw [hU]; exact List.mem_singleton.2 rfl) b hb e.symm
  · rw [hU] at hu
    obtain rfl := List.mem_singleton.1 hu
    refine ⟨fun m' hm' => ?_, fun hn => by rw [hb] at hn; cases hn⟩
    rw [hb] at hm'; cases hm'
    exact ⟨h0, _, hc', ⟨_, hb, by rw [h0]⟩, hy, trivial⟩
/-! ### strings.Join -/
def wordsL (n : Nat) (d : Dat) : List ByteArray := (List.range n).map fun q => d.ss q 0
noncomputable def m55 (n : Nat) (d : Dat) (s : ByteArray) : ByteArray := ⟨(Lib.join ((wordsL n d).map (·.data.toList)) s.data.toList).toArray⟩
noncomputable def n55 (n : Nat) (d : Dat) (s : ByteArray) : Bool := decide (0 < n) && (decide (n ≤ 1000000) && decide ((m55 n d s).size ≤ 1073741824))
noncomputable def q55 (r : ByteArray) : SV × List Blk × List Blk := (.str r, [], [])
noncomputable def g55 : List SV → List Blk → Option OpRes := fun vs bs => match vs, bs with
  | [.ro [.str] n d, .str s], [] => some (resOf 0 (q55 (m55 n d s)) [n55 n d s])
  | _, _ => none
noncomputable def c55 : Ctr := genC [.ro [.str], .k] g55
theorem k55 : CtrOk Tryz.prog c55 55 := by
  refine ctr_gen ⟨Tryz.f55, Tryz.func55, rfl, by kernel_rfl⟩ fun vs bs q hq hn ρ1 M xs w hd hm hfr hMb => ?_
  unfold g55 at hq
  split at hq <;> cases hq
  rename_i n d s
  have hr := hn _ (List.mem_singleton.2 rfl)
  simp only [n55, Bool.and_eq_true, decide_eq_true_eq] at hr
  obtain ⟨h0, hle, hsz⟩ := hr
  match xs, hd with
  | [x, y], ⟨⟨A, cap, hx, hc, hA⟩, hy, _⟩ =>
  subst hx
  obtain rfl : y = .string s := hy
  obtain ⟨b, o, rfl, hq⟩ := hA h0
  have hlen : (wordsL n d).length = n := by simp [wordsL]
  have hcells : ∀ (j : Nat) x, (wordsL n d)[j]? = some x → w.cell? ⟨b, o + j, none⟩ = some (.string x) := fun j x hj => by
    have hlt : j < n := by have := (List.getElem?_eq_some_iff.1 hj).1; omega
    have h := hq j hlt
    simp only [Kd.denL, Kd.den, List.length_singleton, Nat.mul_one] at h
    obtain ⟨⟨v, k0, e0⟩, _⟩ := h
    have e : x = d.ss j 0 := by
      simp [wordsL, List.getElem?_range hlt] at hj
      exact hj.symm
    rw [e]
    subst e0
    exact hm.seal_ _ _ _ k0
  have hblk := World.block_lt_of_cell? w _ (hcells 0 _ (List.getElem?_eq_getElem (by omega)))
  have hsz' : (Lib.join ((wordsL n d).map (·.data.toList)) s.data.toList).length ≤ 140737488355328 := by
    have : (m55 n d s).size = (Lib.join ((wordsL n d).map (·.data.toList)) s.data.toList).length := by
      unfold m55
      show Array.size _ = _
      simp
    omega
  have := Any.strings_Join joinR joinRX b o cap (wordsL n d) s w hcells hblk (by omega) (by have := hc.1; omega) hsz'
  rw [hlen] at this
  refine this.mono ?_
  rintro e w' ⟨rfl, hB⟩
  exact ⟨_, ρ1, rfl, post_val rfl hB⟩
attribute [irreducible] m55

/-! ### (*strings.Builder).String -/
theorem bsR : Go.Proofs.Lays.n169 Tryz.prog joinR_ren := { joinR with }
/-- The bytes that a row holds. -/
def bytesOf (n : Nat) (d : Dat) : List UInt8 := (List.range n).map fun q => UInt8.ofNat (d.ii q 0).toNat
section
open Go.Shelf Go.RowKit
set_option maxHeartbeats 1000000 in
theorem string_calls {b g cap : Nat} {p : Value} {cur : Array Value} {l : List UInt8} {w : World} (h0 : l ≠ []) (hb : w.heap[b]? = some (.cells #[p, .slice (some ⟨g, 0, none⟩) l.length cap] 94 (0, 0))) (hg : w.heap[g]? = some (.cells cur 5 (0, 0))) (hnc : l.length ≤ cap) (hcm : cap ≤ maxLen) (hcs : cur.size = cap)
    (hl : ∀ j x, l[j]? = some x → w.cell? ⟨g, j, none⟩ = some (.int .u8 x.toNat)) :
    Calls Tryz.prog 58 #[.pointer (some ⟨b, 0, none⟩)] w fun e w' => e = .returned (.string ⟨l.toArray⟩) ∧ w' = w.drew.freeze ⟨g, 0, none⟩ l.length := by
  have hl0 : l.length ≠ 0 := by simpa using h0
  have c1 : w.drew.cell? ⟨b, 1, none⟩ = some (.slice (some ⟨g, 0, none⟩) l.length cap) := by
    have : w.drew.heap[b]? = some (.cells #[p, .slice (some ⟨g, 0, none⟩) l.length cap] 94 (0, 0)) := hb
    rw [Lib.cell_of_heap this]; rfl
  have hSD : (Builtin.unsafeSliceData_ #[92] 115 #[.slice (some ⟨g, 0, none⟩) l.length cap]).run Tryz.prog w.drew = .ok (.pointer (some ⟨g, 0, none⟩)) w.drew := Lib.run_unsafeSliceData_row _ _ _ _ _ _ (by omega)
  have hUS : (Builtin.unsafeString_ #[115, 3] 9 #[.pointer (some ⟨g, 0, none⟩), .int .i64 l.length]).run Tryz.prog w.drew = .ok (.string ⟨l.toArray⟩) (w.drew.freeze ⟨g, 0, none⟩ l.length) := by
    refine Lib.run_unsafeString_row w.drew 115 3 9 5 Tryz.underlying115 (by kernel_rfl) g cur.size (by have hg' : w.drew.heap[g]? = some (.cells cur 5 (0, 0)) := hg; simp [World.shape?, hg']) l h0 (by omega) (by unfold maxLen at hcm; omega) ?_
    exact fun j x hx => by rw [Addr.add_mid, Nat.zero_add]; exact hl j x hx
  have mixed := bsR.mixed
  have u1 := run_underlying Tryz.underlying94; have u2 := run_underlying Tryz.underlying91; have u3 := run_underlying Tryz.underlying92; have u4 := run_underlying Tryz.underlying115; have u5 := run_underlying Tryz.underlying3; have u6 := run_underlying Tryz.underlying9; have u7 := run_underlying Tryz.underlying5
  go_enter Tryz.func58, Tryz.ntmps58
  go_wp2
  go_region_o
  all_goals (go_wp2; go_ret; exact ⟨rfl, rfl⟩)
end
section
variable {w : World} {p : Addr} {n : Nat}
theorem freeze_other {k : Nat} (h : k ≠ p.block) : (w.drew.freeze p n).heap[k]? = w.heap[k]? := by
  unfold World.freeze
  split
  · rfl
  · show (w.heap.modify _ _)[k]? = _
    simp only [Array.getElem?_modify]
    rw [if_neg (fun e => h e.symm)]
theorem freeze_size : w.heap.size ≤ (w.drew.freeze p n).heap.size := by
  unfold World.freeze
  split
  · exact Nat.le_refl _
  · show _ ≤ (w.heap.modify _ _).size
    simp
theorem freeze_os : (w.drew.freeze p n).os = w.os := by unfold World.freeze; split <;> rfl
theorem freeze_tape : (w.drew.freeze p n).tape = w.tape := by unfold World.freeze; split <;> rfl
theorem freeze_out : (w.drew.freeze p n).output = w.output := by unfold World.freeze; split <;> rfl
end
noncomputable def m58 (n : Nat) (d : Dat) : ByteArray := ⟨(bytesOf n d).toArray⟩
noncomputable def n58 (n m : Nat) (d : Dat) : Bool := decide (0 < n) && (decide (n ≤ m) && (List.range n).all fun q => decide (0 ≤ d.ii q 0 ∧ d.ii q 0 ≤ 255))
noncomputable def q58 (n : Nat) (r : ByteArray) : SV × List Blk × List Blk := (.str r, [.cells 94 [.ptr 0 0, .gr 1 1 n], .unk], [])
noncomputable def g58 : List SV → List Blk → Option OpRes := fun vs bs => match vs, bs with
  | [.ptr 0 0], [.cells 94 [.ptr 0 0, .gr 1 1 n], .row 5 [.int .u8] m d] => some (resOf 2 (q58 n (m58 n d)) [n58 n m d])
  | _, _ => none
noncomputable def c58 : Ctr := genC [.s [.gr 5 [.int .u8]]] g58
theorem k58 : CtrOk Tryz.prog c58 58 := by
  refine ctr_gen ⟨Tryz.f58, Tryz.func58, rfl, by kernel_rfl⟩ fun vs bs q hq hn ρ1 M xs w hd hm hfr hMb => ?_
  unfold g58 at hq
  split at hq <;> cases hq
  rename_i n m d
  have hr := hn _ (List.mem_singleton.2 rfl)
  simp only [n58, Bool.and_eq_true, decide_eq_true_eq, List.all_eq_true, List.mem_range] at hr
  obtain ⟨hn0, hnm, hby⟩ := hr
  match xs, hd with
  | [x], ⟨hx, _⟩ =>
  obtain ⟨b, hb, rfl⟩ := hx
  obtain ⟨hlt, ⟨h0, c, hc, hl⟩, _⟩ := hm.get (i := 0) rfl hb
  obtain ⟨y0, y, rfl, ⟨b2, hb2, e0⟩, hy⟩ : ∃ y0 y, c = #[y0, y] ∧ (SV.ptr 0 0).den ρ1 y0 ∧ (SV.gr 1 1 n).den ρ1 y := by
    rcases c with ⟨l⟩
    match l, hl with
    | [x, y], ⟨h1, h2, _⟩ => exact ⟨x, y, rfl, h1, h2⟩
  rcases hy with ⟨e, _⟩ | ⟨g, hg, g0, hcap, rfl⟩
  · omega
  obtain ⟨hglt, ⟨_, hmc, ⟨cur, hcur, hcs, hcm⟩, hel⟩, _⟩ := hm.get (i := 1) rfl hg
  have hne : b.blk ≠ g.blk := hm.apart 0 1 b g (by decide) rfl rfl hb hg
  have hlen : (bytesOf n d).length = n := by simp [bytesOf]
  have hcell : ∀ j x, (bytesOf n d)[j]? = some x → w.cell? ⟨g.blk, j, none⟩ = some (.int .u8 x.toNat) := fun j x hj => by
    have hlt : j < n := by have := (List.getElem?_eq_some_iff.1 hj).1; omega
    obtain ⟨_, h⟩ := hel j (by omega)
    obtain ⟨y, hy, e⟩ := h 0 (.int .u8 (d.ii j 0)) rfl
    have e : y = .int .u8 (d.ii j 0) := e
    subst e
    simp only [g0, Nat.zero_add, Nat.add_zero, List.length_singleton, Nat.mul_one] at hy
    have hx : x = UInt8.ofNat (d.ii j 0).toNat := by
      simp [bytesOf, List.getElem?_range hlt] at hj
      exact hj.symm
    have hb := hby j hlt
    have : ((x.toNat : Nat) : Int) = d.ii j 0 := by
      rw [hx, UInt8.toNat_ofNat']
      omega
    rw [this]; exact hy
  rw [h0]
  have hc' : w.heap[b.blk]? = some (.cells #[y0, .slice (some ⟨g.blk, 0, none⟩) (bytesOf n d).length g.cap] 94 (0, 0)) := by rw [hlen]; exact hc
  refine (string_calls (l := bytesOf n d) (fun e => by rw [e] at hlen; simp at hlen; omega) hc' hcur (by omega) hcm (by simpa using hcs) hcell).mono ?_
  rintro e w' ⟨rfl, rfl⟩
  have hoth : ∀ k, k ≠ g.blk → (w.drew.freeze ⟨g.blk, 0, none⟩ (bytesOf n d).length).heap[k]? = w.heap[k]? := fun k hk => freeze_other hk
  have hU : (resOf 2 (q58 n (m58 n d)) [n58 n m d]).upds = [(0, .cells 94 [.ptr 0 0, .gr 1 1 n]), (1, .unk)] := rfl
  refine ⟨_, ρ1, rfl, rfl, Ext.refl _, fun _ _ => rfl, freeze_os, freeze_tape, freeze_out, freeze_size, fun k hk hno => hoth k fun e => hno (1, .unk) (by rw [hU]; simp) g hg e.symm, fun _ _ _ h => .inl h, fun u hu hk => ?_, fun j b hj => by simp [resOf, q58] at hj, fun j j' b b' m m' hne hj => by simp [resOf, q58] at hj⟩
  rw [hU] at hu
  simp only [List.mem_cons, List.not_mem_nil, or_false] at hu
  rcases hu with rfl | rfl
  · refine ⟨fun m' hm' => ?_, fun hn => by rw [hb] at hn; cases hn⟩
    rw [hb] at hm'; cases hm'
    exact ⟨h0, _, (hoth _ hne).trans hc, ⟨_, hb2, e0⟩, .inr ⟨g, hg, g0, hcap, rfl⟩, trivial⟩
  · cases hk
attribute [irreducible] m58
end Go.Proofs.YtchhhoamnagbfaaGreatDoor
