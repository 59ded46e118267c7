/-
  slices.Backward over winds, and the wind at a minute: walked by the kit's words. Conditions: none.
-/
import Derived.RangeFuncNested
import Derived.RangeFuncBox
import Derived.RangeFuncLeaves
import Derived.Shelf.Abstract
import Derived.Shelf.RegionOpen
import Derived.WalkKit
import Derived.OwnWalkIn
import Derived.TacticsInMore
import Derived.LoopNIn
import Derived.LoopIn
import Derived.Test.YtbhldggbjjailaaProg
namespace Go.Proofs.Ytbhldggbjjailaa
open Go Go.RowKit Go.Shelf
set_option linter.unusedVariables false
set_option linter.unusedSimpArgs false
attribute [local go_sem] Oper.semAt_some
/-- The numbers from the last one down, so many of them. -/
def downTo (len k : Nat) : List Nat := (List.range k).map fun j => len - 1 - j
theorem downTo_succ (len k : Nat) : downTo len (k + 1) = downTo len k ++ [len - 1 - k] := by simp [downTo, List.range_succ]
theorem downTo_length (len k : Nat) : (downTo len k).length = k := by simp [downTo]
def wnd (z : Nat → Int × Int × Int) (x : Nat) : Value := .agg #[.int .i64 (z x).1, .int .i64 (z x).2.1, .int .i64 (z x).2.2]
/-- What a round keeps: what lay below n₀, and the iterator's own box. -/
structure KpB (n₀ Bs : Nat) (A B : World) : Prop where
  below : Below n₀ A B
  box : B.heap[Bs]? = A.heap[Bs]?
theorem KpB.refl (n₀ Bs : Nat) (A : World) : KpB n₀ Bs A A := ⟨Below.refl _ _, rfl⟩
theorem KpB.trans {n₀ Bs : Nat} {A B C : World} (h : KpB n₀ Bs A B) (k : KpB n₀ Bs B C) : KpB n₀ Bs A C := ⟨h.below.trans k.below, k.box.trans h.box⟩
theorem KpB.cell {n₀ Bs : Nat} {A B : World} (h : KpB n₀ Bs A B) : B.cell? ⟨Bs, 0, none⟩ = A.cell? ⟨Bs, 0, none⟩ := World.cell?_of_block h.box
set_option maxRecDepth 100000 in
set_option maxHeartbeats 2000000 in
theorem back1_in (F : Fence) (n : Nat) (h7 : F.fn 147) (hro : F.round = none) (hn : 1 ≤ n) (l Bs n₀ b off len cap : Nat) (z : Nat → Int × Int × Int) (hreach : len ≤ 1000000) (hb : b < n₀) (J Jx : List Nat → World → Prop)
    (hY : ∀ (pre : List Nat) (x : Nat) (W : World), J pre W → pre.length < len → YieldAt F (n - 1) Try.prog l #[.int .i64 (x : Int), wnd z x] W fun e W' =>
      (e = .returned (.bool true) ∧ J (pre ++ [x]) W' ∧ KpB n₀ Bs W W') ∨ (e = .returned (.bool false) ∧ Jx (pre ++ [x]) W'))
    (W : World) (hBs : W.cell? ⟨Bs, 0, none⟩ = some (.slice (some ⟨b, off, none⟩) len cap)) (hc0 : ∀ j, j < len → W.cell? ⟨b, off + j * 3, none⟩ = some (.int .i64 (z j).1)) (hc1 : ∀ j, j < len → W.cell? ⟨b, off + j * 3 + 1, none⟩ = some (.int .i64 (z j).2.1)) (hc2 : ∀ j, j < len → W.cell? ⟨b, off + j * 3 + 2, none⟩ = some (.int .i64 (z j).2.2)) (h0 : J [] W) :
    CallsIn F n Try.prog 147 #[.func (.yield l) #[] #[], .pointer (some ⟨Bs, 0, none⟩)] W fun e W' => (∃ v, e = .returned v) ∧
      ((∃ ys, ys = downTo len len ∧ J ys W') ∨ (∃ pre, (∃ k, k ≤ len ∧ pre = downTo len k) ∧ Jx pre W')) := by
  refine callsIn_of_wp Try.func147 rfl h7 ?_ hro
  simp only [Try.ntmps147, List.size_toArray, List.length_cons, List.length_nil, Nat.reduceAdd, Nat.reduceSub, Array.replicate_succ, Array.replicate_zero, List.push_toArray, List.append_toArray, List.nil_append, List.cons_append]
  gi_wp2
  gi_loopw [3] (fun i wr => ∃ k : Nat, k ≤ len ∧ i = .int .i64 ((len : Int) - 1 - k) ∧ J (downTo len k) wr ∧ KpB n₀ Bs W wr)
    (fun i _ => (intOf i + 1).toNat)
  case atStart => exact ⟨0, Nat.zero_le _, by simp, h0, KpB.refl _ _ _⟩
  case round =>
    obtain ⟨k, hk, rfl, hJs, hnx⟩ := hrel
    by_cases hlt : k < len
    · obtain ⟨j, hj⟩ : ∃ j : Nat, len = j + 1 + k := ⟨len - 1 - k, by omega⟩
      have ej : (len : Int) - 1 - (k : Int) = (j : Int) := by omega
      have ej2 : len - 1 - k = j := by omega
      have hjl : j < len := by omega
      clear hj
      rw [ej]
      obtain ⟨fn, tmps, assign, body, hy, hR⟩ := hY _ j wr hJs (by rw [downTo_length]; exact hlt)
      dsimp only [wnd] at hy
      have g0 := (hnx.below.cell (p := ⟨b, off + j * 3, none⟩) hb).trans (hc0 j hjl)
      have g1 := (hnx.below.cell (p := ⟨b, off + j * 3 + 1, none⟩) hb).trans (hc1 j hjl)
      have g2 := (hnx.below.cell (p := ⟨b, off + j * 3 + 2, none⟩) hb).trans (hc2 j hjl)
      have gB := hnx.cell.trans hBs
      gi_wp2
      refine hR.mono ?_
      rintro e W3 (⟨rfl, hJ3, hk3⟩ | ⟨rfl, hJx3⟩)
      · gi_wp2
        go_roundw
        case rel => exact ⟨k + 1, by omega, by simp; omega, by rw [downTo_succ, ej2]; exact hJ3, hnx.trans hk3⟩
        case measure => simp [intOf]
      · gi_wp2
        refine bodyPost_ret (results_none rfl _ _ _) rfl ?_
        exact ⟨⟨_, rfl⟩, .inr ⟨_, ⟨k + 1, by omega, by rw [downTo_succ, ej2]⟩, hJx3⟩⟩
    · obtain rfl : k = len := by omega
      rw [show (k : Int) - 1 - (k : Int) = -1 by omega]
      gi_wp2
      go_end0
      exact ⟨⟨_, rfl⟩, .inl ⟨_, rfl, hJs⟩⟩
set_option maxRecDepth 100000 in
set_option maxHeartbeats 1000000 in
theorem back1_nil_in (F : Fence) (n : Nat) (h7 : F.fn 147) (hro : F.round = none) (l Bs : Nat) (a : Option Addr) (cap : Nat) (J : List Nat → World → Prop) (W : World) (hBs : W.cell? ⟨Bs, 0, none⟩ = some (.slice a 0 cap)) (h0 : J [] W) :
    CallsIn F n Try.prog 147 #[.func (.yield l) #[] #[], .pointer (some ⟨Bs, 0, none⟩)] W fun e W' => (∃ v, e = .returned v) ∧ J [] W' := by
  refine callsIn_of_wp Try.func147 rfl h7 ?_ hro
  simp only [Try.ntmps147, List.size_toArray, List.length_cons, List.length_nil, Nat.reduceAdd, Nat.reduceSub, Array.replicate_succ, Array.replicate_zero, List.push_toArray, List.append_toArray, List.nil_append, List.cons_append]
  gi_wp2
  gi_loopw [3] (fun i wr => i = .int .i64 (-1) ∧ J [] wr) (fun _ _ => 0)
  case atStart => exact ⟨rfl, h0⟩
  case round =>
    obtain ⟨rfl, hJs⟩ := hrel
    gi_wp2
    go_end0
    exact ⟨⟨_, rfl⟩, hJs⟩
set_option maxHeartbeats 1000000 in
theorem back_in (F : Fence) (n : Nat) (h5 : F.fn 130) (hro : F.round = none) (a : Option Addr) (len cap : Nat) (w : World) :
    CallsIn F n Try.prog 130 #[.slice a len cap] w fun e w' => e = .returned (.func (.func 147) #[] #[.pointer (some ⟨w.heap.size, 0, none⟩)]) ∧ w' = w.alloc (.cells #[.slice a len cap] 32) := by
  refine callsIn_of_wp Try.func130 rfl h5 ?_ hro
  simp only [Try.ntmps130, List.size_toArray, List.length_cons, List.length_nil, Nat.reduceAdd, Nat.reduceSub, Array.replicate_succ, Array.replicate_zero, List.push_toArray, List.append_toArray, List.nil_append, List.cons_append]
  gi_wp2
  go_ret
  exact ⟨rfl, rfl⟩
/-- The slice value holds the winds, in a block below n₀. -/
def Winds (n₀ : Nat) (W : World) (a : Option Addr) (len : Nat) (z : Nat → Int × Int × Int) : Prop :=
  0 < len → ∃ b off, a = some ⟨b, off, none⟩ ∧ b < n₀ ∧ ∀ j, j < len → W.cell? ⟨b, off + j * 3, none⟩ = some (.int .i64 (z j).1) ∧ W.cell? ⟨b, off + j * 3 + 1, none⟩ = some (.int .i64 (z j).2.1) ∧ W.cell? ⟨b, off + j * 3 + 2, none⟩ = some (.int .i64 (z j).2.2)
theorem Winds.below {n₀ : Nat} {A B : World} (h : Below n₀ A B) {a : Option Addr} {len : Nat} {z : Nat → Int × Int × Int} (hw : Winds n₀ A a len z) : Winds n₀ B a len z := fun h0 => by
  obtain ⟨b, off, e, hb, hc⟩ := hw h0
  exact ⟨b, off, e, hb, fun j hj => ⟨(h.cell (p := ⟨b, off + j * 3, none⟩) hb).trans (hc j hj).1, (h.cell (p := ⟨b, off + j * 3 + 1, none⟩) hb).trans (hc j hj).2.1, (h.cell (p := ⟨b, off + j * 3 + 2, none⟩) hb).trans (hc j hj).2.2⟩⟩
theorem back_stops (F : Fence) (n : Nat) (h7 : F.fn 147) (hro : F.round = none) (hn : 1 ≤ n) (Bs n₀ : Nat) (a : Option Addr) (len cap : Nat) (z : Nat → Int × Int × Int) (hreach : len ≤ 1000000) (w : World) (hBs : Bs < w.heap.size) (hn₀ : n₀ ≤ w.heap.size)
    (hc : w.cell? ⟨Bs, 0, none⟩ = some (.slice a len cap)) (hI : Winds n₀ w a len z) :
    SeqStopsK F n Try.prog 147 #[.pointer (some ⟨Bs, 0, none⟩)] (fun x : Nat => #[Value.int .i64 (x : Int), wnd z x]) (KpB n₀ Bs) (fun ys => ys = downTo len len) (fun pre => ∃ k, k ≤ len ∧ pre = downTo len k) len w := fun l J Jx W hW _ _ hY h0 => by
  have hc' := (hW.cell (p := ⟨Bs, 0, none⟩) hBs).trans hc
  have hI' := hI.below (hW.mono hn₀)
  by_cases h : 0 < len
  · obtain ⟨b, off, rfl, hb, hcs⟩ := hI' h
    exact back1_in F n h7 hro hn l Bs n₀ b off len cap z hreach hb J Jx hY W hc' (fun j hj => (hcs j hj).1) (fun j hj => (hcs j hj).2.1) (fun j hj => (hcs j hj).2.2) h0
  · obtain rfl : len = 0 := by omega
    exact (back1_nil_in F n h7 hro l Bs a cap J W hc' h0).mono fun e W' ⟨he, hj⟩ => ⟨he, .inl ⟨_, rfl, hj⟩⟩
/-- A block of cells. -/
def Cel (W : World) (B : Nat) (t : TypeId) (c : Array Value) : Prop := W.heap[B]? = some (.cells c t (0, 0))
theorem Cel.lt {W : World} {B : Nat} {t : TypeId} {c : Array Value} (h : Cel W B t c) : B < W.heap.size := (Array.getElem?_eq_some_iff.1 h).1
theorem Cel.new (W : World) (t : TypeId) (c : Array Value) : Cel (W.alloc (.cells c t)) W.heap.size t c := World.alloc_heap_new W _
theorem Cel.kept {W W' : World} {row : Option Nat} {B : Nat} {t : TypeId} {c : Array Value} (h : Cel W B t c) (hg : W.grownBy W' row) (hne : some B ≠ row) : Cel W' B t c := (hg.block B h.lt hne).trans h
theorem Cel.alloc {W : World} {B : Nat} {t : TypeId} {c : Array Value} (h : Cel W B t c) (o : Obj) : Cel (W.alloc o) B t c := h.kept (World.grownBy_alloc W o none) (by simp)
theorem cel_own {β : Type} (B : Nat) (t : TypeId) (f : β → Array Value) : Own (fun s W => Cel W B t (f s)) := fun s X Y row hs hg hrow =>
  hs.kept hg (fun e' => by obtain ⟨o, ho, hc⟩ := hrow B e'.symm; rw [show X.heap[B]? = _ from hs] at ho; cases ho; cases hc)
theorem Cel.other {W : World} {B B' : Nat} {t : TypeId} {c : Array Value} (h : Cel W B t c) (hne : B ≠ B') (o : Nat) (u : Value) : Cel (W.setCell ⟨B', o, none⟩ u) B t c := (Below.heap_setCell W ⟨B', o, none⟩ u B hne).trans h
theorem Cel.set {W : World} {B : Nat} {t : TypeId} {c : Array Value} (h : Cel W B t c) (o : Nat) (u : Value) : Cel (W.setCell ⟨B, o, none⟩ u) B t (c.setIfInBounds o u) := heap_setCell_same W B o c t u h
theorem Cel.cell {W : World} {B : Nat} {t : TypeId} {c : Array Value} (h : Cel W B t c) (o : Nat) : W.cell? ⟨B, o, none⟩ = c[o]? := by simp [World.cell?, show W.heap[B]? = _ from h]
theorem Cel.frozen {W : World} {B : Nat} {t : TypeId} {c : Array Value} (h : Cel W B t c) (o : Nat) : W.frozen? ⟨B, o, none⟩ = false := by simp [World.frozen?, show W.heap[B]? = _ from h]
set_option maxRecDepth 100000 in
set_option maxHeartbeats 4000000 in
theorem windAt_in (F : Fence) (n : Nat) (h3 : F.fn 90) (h4 : F.fn 130) (h5 : F.fn 147) (hro : F.round = none) (hn : 6 ≤ n) (a : Option Addr) (len cap : Nat) (z : Nat → Int × Int × Int) (m : Int) (hreach : len ≤ 1000000) (w : World) (hI : Winds w.heap.size w a len z) :
    CallsIn F n Try.prog 90 #[.slice a len cap, .int .i64 m] w fun e W' => ((e = .returned (.tuple #[.agg #[.int .i64 0, .int .i64 0, .int .i64 0], .bool false]) ∧ ∀ j, j < len → m < (z j).1) ∨
      ∃ j, j < len ∧ e = .returned (.tuple #[wnd z j, .bool true]) ∧ (z j).1 ≤ m ∧ ∀ i, j < i → i < len → m < (z i).1) ∧ Below w.heap.size w W' := by
  have h1 : 1 ≤ n := by omega
  refine callsIn_of_wp_marks Try.func90 rfl h3 ?_ hro
  simp only [Try.ntmps90, List.size_toArray, List.length_cons, List.length_nil, Nat.reduceAdd, Nat.reduceSub, Array.replicate_succ, Array.replicate_zero, List.push_toArray, List.append_toArray, List.nil_append, List.cons_append]
  gi_wp2_with (gi_at_call 130; refine (back_in F (n - 1) h4 hro _ _ _ _).mono ?_; rintro e w' ⟨rfl, rfl⟩)
  have b0 := (((Cel.new w 3 #[.int .i64 m]).alloc (.cells #[Value.int IntKind.i64 0, Value.int IntKind.i64 0, Value.int IntKind.i64 0] 53)).alloc (.cells #[.bool false] 4)).alloc (.cells #[.slice a len cap] 32)
  have b1 := ((Cel.new (w.alloc (.cells #[.int .i64 m] 3)) 53 #[Value.int IntKind.i64 0, Value.int IntKind.i64 0, Value.int IntKind.i64 0]).alloc (.cells #[.bool false] 4)).alloc (.cells #[.slice a len cap] 32)
  have b2 := (Cel.new ((w.alloc (.cells #[.int .i64 m] 3)).alloc (.cells #[Value.int IntKind.i64 0, Value.int IntKind.i64 0, Value.int IntKind.i64 0] 53)) 4 #[.bool false]).alloc (.cells #[.slice a len cap] 32)
  have b3 := Cel.new (((w.alloc (.cells #[.int .i64 m] 3)).alloc (.cells #[Value.int IntKind.i64 0, Value.int IntKind.i64 0, Value.int IntKind.i64 0] 53)).alloc (.cells #[.bool false] 4)) 32 #[.slice a len cap]
  simp only [World.size_alloc] at b1 b2 b3
  have hB0 : Below w.heap.size w ((((w.alloc (.cells #[.int .i64 m] 3)).alloc (.cells #[Value.int IntKind.i64 0, Value.int IntKind.i64 0, Value.int IntKind.i64 0] 53)).alloc (.cells #[.bool false] 4)).alloc (.cells #[.slice a len cap] 32)) := ((((Below.refl _ w).alloc (Nat.le_refl _) _).alloc (by simp) _).alloc (by simp; omega) _).alloc (by simp; omega) _
  have hsz : ((((w.alloc (.cells #[.int .i64 m] 3)).alloc (.cells #[Value.int IntKind.i64 0, Value.int IntKind.i64 0, Value.int IntKind.i64 0] 53)).alloc (.cells #[.bool false] 4)).alloc (.cells #[.slice a len cap] 32)).heap.size = w.heap.size + 4 := by simp
  obtain ⟨W0, hW0⟩ : ∃ W0, (((w.alloc (.cells #[.int .i64 m] 3)).alloc (.cells #[Value.int IntKind.i64 0, Value.int IntKind.i64 0, Value.int IntKind.i64 0] 53)).alloc (.cells #[.bool false] 4)).alloc (.cells #[.slice a len cap] 32) = W0 := ⟨_, rfl⟩
  rw [hW0] at b0 b1 b2 b3 hB0 hsz ⊢
  clear hW0
  refine wpIn_rangeFunc_ownH hro h1 (gf := 147) (lb := #[.pointer (some ⟨w.heap.size + 1 + 1 + 1, 0, none⟩)]) rfl h5 (enters_of Try.func147 (by kernel_rfl) rfl)
    (back_stops F (n - 1) h5 hro (by omega) (w.heap.size + 1 + 1 + 1) w.heap.size a len cap z hreach W0 (by omega) (by omega) (by rw [b3.cell]; rfl) (hI.below hB0)) KpB.trans
    (fun W l o o' hl hx hc hw => ⟨belowK_b (w := W0) (by omega) W l o o' hl hx hc hw, by rw [World.putObj_heap_other (by omega)]⟩) (Below.refl _ _) (fun _ => rfl)
    (fun pre W => ((((Cel W w.heap.size 3 #[.int .i64 m] ∧ Cel W (w.heap.size + 1) 53 #[.int .i64 0, .int .i64 0, .int .i64 0]) ∧ Cel W (w.heap.size + 1 + 1) 4 #[.bool false]) ∧ Cel W (w.heap.size + 1 + 1 + 1) 32 #[.slice a len cap]) ∧ ∀ x ∈ pre, m < (z x).1) ∧ Below w.heap.size w W)
    (fun c pre W => (((∃ ini last, c = Code.ret ∧ pre = ini ++ [last] ∧ (∀ x ∈ ini, m < (z x).1) ∧ (z last).1 ≤ m ∧ Cel W (w.heap.size + 1) 53 #[.int .i64 (z last).1, .int .i64 (z last).2.1, .int .i64 (z last).2.2])) ∧ Cel W (w.heap.size + 1 + 1) 4 #[.bool true]) ∧ Below w.heap.size w W)
    (OwnFrom.and (OwnFrom.and (OwnFrom.and (OwnFrom.and (OwnFrom.and (Own.from (cel_own _ _ _) _) (Own.from (cel_own _ _ _) _)) (Own.from (cel_own _ _ _) _)) (Own.from (cel_own _ _ _) _)) (fun _ _ _ _ hs _ _ => hs)) (ownFrom_below (Nat.le_refl _) (by omega)))
    (fun c => OwnFrom.and (OwnFrom.and (fun s X Y row hs hg hr => by obtain ⟨ini, last, e0, e1, e2, e3, e4⟩ := hs; exact ⟨ini, last, e0, e1, e2, e3, cel_own _ _ (fun (_ : Unit) => _) () X Y row e4 hg (fun r e => (hr r e).2)⟩) (Own.from (cel_own _ _ _) _)) (ownFrom_below (Nat.le_refl _) (by omega)))
    ⟨⟨⟨⟨⟨b0, b1⟩, b2⟩, b3⟩, by simp⟩, hB0⟩
    (fun x a' W => ∃ Bx, w.heap.size + 1 + 1 + 1 < Bx ∧ Cel W Bx 53 #[.int .i64 (z x).1, .int .i64 (z x).2.1, .int .i64 (z x).2.2] ∧ a' = { tmps := #[.slice a len cap, .int .i64 m, undef, .pointer (some ⟨w.heap.size, 0, none⟩), .pointer (some ⟨w.heap.size + 1, 0, none⟩), .pointer (some ⟨w.heap.size + 1 + 1, 0, none⟩), undef, .pointer (some ⟨Bx, 0, none⟩), .slice a len cap, .func (.func 147) #[] #[.pointer (some ⟨w.heap.size + 1 + 1 + 1, 0, none⟩)], .int .i64 (x : Int), wnd z x, undef, undef, undef, undef, undef, undef], defers := [] })
    (fun x a' _ X Y row hs hg hr => by obtain ⟨Bx, h1, h2, h3⟩ := hs; exact ⟨Bx, h1, cel_own Bx 53 (fun (_ : Unit) => _) () X Y row h2 hg (fun r e => (hr r e).2), h3⟩)
    ?assign ?body ?done ?stop
  case assign =>
    rintro l pre x W K ⟨⟨⟨⟨⟨c0, c1⟩, c2⟩, cB⟩, c3⟩, hB⟩ hK
    dsimp only [wnd]
    gi_wp2
    exact hK _ _ ((KeepsOthers.alloc _ _).from _) ⟨(Below.refl _ W).alloc hB.size _, Below.heap_alloc W _ _ cB.lt⟩ ⟨⟨⟨⟨⟨c0.alloc _, c1.alloc _⟩, c2.alloc _⟩, cB.alloc _⟩, c3⟩, hB.alloc hB.size _⟩ ⟨W.heap.size, cB.lt, Cel.new W 53 _, rfl⟩
  case body =>
    rintro l pre x a' W hl ⟨r, hr⟩ ⟨⟨⟨⟨⟨c0, c1⟩, c2⟩, cB⟩, c3⟩, hB⟩ ⟨Bx, hBx, bX, rfl⟩ hlt
    have g0 := c0.cell 0
    have g3 := bX.cell 0
    have g4 := bX.cell 1
    have g5 := bX.cell 2
    have f0 := c1.frozen 0
    have f1 := c1.frozen 1
    have f2 := c1.frozen 2
    have f3 := c2.frozen 0
    have g6 := c1.cell 0
    have g7 := c1.cell 1
    have g8 := c1.cell 2
    have g9 := c2.cell 0
    simp at g0 g3 g4 g5 g6 g7 g8 g9
    dsimp only [wnd]
    gi_wp2
    · have hx : (z x).1 ≤ m := by assumption
      refine ⟨((((KeepsOthers.setCell _ _ _).trans (KeepsOthers.setCell _ _ _)).trans (KeepsOthers.setCell _ _ _)).trans (KeepsOthers.setCell _ _ _)).from _, ⟨⟨pre, x, rfl, rfl, c3, hx, ?_⟩, ?_⟩, ?_⟩
      · exact (((c1.set 0 _).set 1 _).set 2 _).other (by omega) _ _
      · exact (((c2.other (by omega) _ _).other (by omega) _ _).other (by omega) _ _).set 0 _
      · exact (((hB.setCell (p := ⟨w.heap.size + 1, 0, none⟩) (by simp) _).setCell (p := ⟨w.heap.size + 1, 1, none⟩) (by simp) _).setCell (p := ⟨w.heap.size + 1, 2, none⟩) (by simp) _).setCell (p := ⟨w.heap.size + 1 + 1, 0, none⟩) (by simp; omega) _
    · have hx : m < (z x).1 := by assumption
      exact ⟨KeepsFrom.refl _ _, KpB.refl _ _ _, ⟨⟨⟨⟨⟨c0, c1⟩, c2⟩, cB⟩, fun y hy => (List.mem_append.1 hy).elim (c3 y) (fun e => by simp at e; subst e; exact hx)⟩, hB⟩⟩
  case done =>
    rintro D ys W hD rfl ⟨⟨⟨⟨⟨c0, c1⟩, c2⟩, cB⟩, c3⟩, hB⟩ hK
    have f0 := c1.frozen 0
    have f1 := c1.frozen 1
    have f2 := c1.frozen 2
    have f3 := c2.frozen 0
    have g6 := c1.cell 0
    have g7 := c1.cell 1
    have g8 := c1.cell 2
    have g9 := c2.cell 0
    simp at g6 g7 g8 g9
    gi_wp2
    have hK' := ((((KeepsOthers.setCell W ⟨w.heap.size + 1, 0, none⟩ (.int .i64 0)).trans (KeepsOthers.setCell _ ⟨w.heap.size + 1, 1, none⟩ (.int .i64 0))).trans (KeepsOthers.setCell _ ⟨w.heap.size + 1, 2, none⟩ (.int .i64 0))).trans (KeepsOthers.setCell _ ⟨w.heap.size + 1 + 1, 0, none⟩ (.bool false))).same D _ hK rfl
    refine ⟨by simp, .inl ⟨_, _, rfl, run_takeDeferred hK', ?_⟩⟩
    have k1 : Cel _ (w.heap.size + 1) 53 #[.int .i64 0, .int .i64 0, .int .i64 0] := ((((c1.set 0 (.int .i64 0)).set 1 (.int .i64 0)).set 2 (.int .i64 0)).other (show w.heap.size + 1 ≠ w.heap.size + 1 + 1 by omega) 0 (.bool false)).kept (grownBy_putObj' _ D (.deferred none)) (fun e => by cases e; omega)
    have k2 : Cel _ (w.heap.size + 1 + 1) 4 #[.bool false] := ((((c2.other (show w.heap.size + 1 + 1 ≠ w.heap.size + 1 by omega) 0 (.int .i64 0)).other (show w.heap.size + 1 + 1 ≠ w.heap.size + 1 by omega) 1 (.int .i64 0)).other (show w.heap.size + 1 + 1 ≠ w.heap.size + 1 by omega) 2 (.int .i64 0)).set 0 (.bool false)).kept (grownBy_putObj' _ D (.deferred none)) (fun e => by cases e; omega)
    have q0 := k1.cell 0
    have q1 := k1.cell 1
    have q2 := k1.cell 2
    have q3 := k2.cell 0
    simp at q0 q1 q2 q3
    refine ⟨_, ?_, .inl ⟨rfl, fun j hj => c3 j ?_⟩, ?_⟩
    · simp [results, Try.f90, go_sem, q0, q1, q2, q3]
    · simp only [downTo, List.mem_map, List.mem_range]
      exact ⟨len - 1 - j, by omega, by omega⟩
    · exact ((((hB.setCell (p := ⟨w.heap.size + 1, 0, none⟩) (by simp) _).setCell (p := ⟨w.heap.size + 1, 1, none⟩) (by simp) _).setCell (p := ⟨w.heap.size + 1, 2, none⟩) (by simp) _).setCell (p := ⟨w.heap.size + 1 + 1, 0, none⟩) (by simp; omega) _).trans (belowK_b (w := w) (Nat.le_refl _) _ D _ _ (by omega) hK' rfl rfl)
  case stop =>
    rintro D c pre W hD ⟨k, hk, rfl⟩ ⟨⟨⟨ini, last, rfl, e1, e2, e3, c1⟩, c2⟩, hB⟩ hK
    gi_wp2
    refine ⟨by simp, .inl ⟨_, _, rfl, run_takeDeferred hK, ?_⟩⟩
    have k1 := c1.kept (grownBy_putObj' W D (.deferred none)) (fun e => by cases e; omega)
    have k2 := c2.kept (grownBy_putObj' W D (.deferred none)) (fun e => by cases e; omega)
    have q0 := k1.cell 0
    have q1 := k1.cell 1
    have q2 := k1.cell 2
    have q3 := k2.cell 0
    simp at q0 q1 q2 q3
    obtain ⟨k', rfl⟩ : ∃ k', k = k' + 1 := by
      cases k with
      | zero => simp [downTo] at e1
      | succ k' => exact ⟨k', rfl⟩
    rw [downTo_succ] at e1
    obtain ⟨rfl, e5⟩ := List.append_inj' e1 rfl
    obtain rfl : len - 1 - k' = last := by simpa using e5
    refine ⟨_, ?_, .inr ⟨len - 1 - k', by omega, rfl, e3, fun i hi hi2 => e2 i ?_⟩, hB.trans (belowK_b (w := w) (Nat.le_refl _) W D _ _ (by omega) hK rfl rfl)⟩
    · simp [results, Try.f90, go_sem, q0, q1, q2, q3, wnd]
    · simp only [downTo, List.mem_map, List.mem_range]
      exact ⟨len - 1 - i, by omega, by omega⟩
end Go.Proofs.Ytbhldggbjjailaa
