/-
  Charts: program's and reference's check alike. Conditions: none.
-/
import Derived.Test.YtlaogoojkfjgoaaR1
import Derived.Test.YtlaogoojkfjgoaaR2
import Derived.Test.YtlaogoojkfjgoaaR3
import Derived.Test.YtlaogoojkfjgoaaR4
import Derived.Test.YtlaogoojkfjgoaaRFRuns
import Derived.Test.YtlaogoojkfjgoaaRPLoop
import Derived.Test.YtlaogoojkfjgoaaRPAng
namespace Go.Proofs.Ytlaogoojkfjgoaa
open Go Go.Sy
set_option linter.unusedVariables false
set_option linter.unusedSimpArgs false
set_option maxRecDepth 100000
attribute [local simp] brk
/-- Two searches side by side. -/
theorem first_two {β γ : Type} {ga : Nat → Option β} {gb : Nat → Option γ} {ea : β} {eb : γ} {R : β → γ → Prop} {n : Nat} (h : ∀ i, i < n → (ga i = none ∧ gb i = none) ∨ ∃ b c, ga i = some b ∧ gb i = some c ∧ R b c) :
    (first ga ea n 0 = ea ∧ first gb eb n 0 = eb ∧ (∀ i, i < n → ga i = none) ∧ ∀ i, i < n → gb i = none) ∨ ∃ b c, first ga ea n 0 = b ∧ first gb eb n 0 = c ∧ R b c := by
  rcases first_cases (g := ga) (e := ea) n 0 with ⟨j, b, h1, h2, h3, h4, h5⟩ | ⟨h1, h2⟩
  · right
    rcases h j (by omega) with ⟨a, _⟩ | ⟨b', c, a1, a2, a3⟩
    · rw [a] at h3; cases h3
    · rw [a1] at h3; injection h3 with h3; rw [← h3] at h5
      refine ⟨b', c, h5, first_some h1 h2 a2 fun j' u v => ?_, a3⟩
      rcases h j' (by omega) with ⟨_, q⟩ | ⟨b2, c2, q, _⟩
      · exact q
      · rw [h4 j' u v] at q; cases q
  · left
    have hb : ∀ i, i < n → gb i = none := fun i hi => by
      rcases h i hi with ⟨_, q⟩ | ⟨b2, c2, q, _⟩
      · exact q
      · rw [h1 i (Nat.zero_le _) (by omega)] at q; cases q
    exact ⟨h2, first_none fun j _ hj => hb j (by omega), fun i hi => h1 i (Nat.zero_le _) (by omega), hb⟩
noncomputable def byt (s : ByteArray) (i : Nat) : Int := ((s.data.toList.getD i 0).toNat : Int)
noncomputable def badB (s : ByteArray) (i : Nat) : Option (Bool × Bool × Unit) :=
  cond (bif (bif (bif (bif decide (97 ≤ byt s i) then decide (byt s i ≤ 122) else false) then true else (bif decide (65 ≤ byt s i) then decide (byt s i ≤ 90) else false)) then false else true) then (bif decide ((i : Int) = 0) then true else (bif (bif decide (byt s i = 45) then false else true) then (bif decide (byt s i < 48) then true else decide (57 < byt s i)) else false)) else false) (some (true, false, default)) none
theorem l90_all (s : ByteArray) (h : s.size ≤ 9223372036854775807) : o90_0 s 0 = some (first (badB s) (false, default, ()) s.size 0) := by
  refine loop_first (l := l90_0 s) h (fun f i hi => ?_) (fun f => by simp only [l90_0, cdn]; rfl) s.size 0 _ (by omega) (by omega)
  have e : byteAt s i = byt s i := rfl
  simp only [l90_0, cdl hi, cdd hi, cond_true, Int.toNat_natCast, e, badB]
  cases (bif (bif (bif (bif decide (97 ≤ byt s i) then decide (byt s i ≤ 122) else false) then true else (bif decide (65 ≤ byt s i) then decide (byt s i ≤ 90) else false)) then false else true) then (bif decide ((i : Int) = 0) then true else (bif (bif decide (byt s i = 45) then false else true) then (bif decide (byt s i < 48) then true else decide (57 < byt s i)) else false)) else false) <;> simp
theorem l92_all (s : ByteArray) (h : s.size ≤ 9223372036854775807) : o92_0 s.size ({ ii := fun q x => (↑(s.data.toList.getD q 0).toNat : Int), ss := noDat.ss, bb := noDat.bb, sn := noDat.sn, sd := noDat.sd }) (↑s.size : Int) 0 = some (first (badB s) (false, default, ()) s.size 0) := by
  refine loop_first (l := l92_0 s.size ({ ii := fun q x => (↑(s.data.toList.getD q 0).toNat : Int), ss := noDat.ss, bb := noDat.bb, sn := noDat.sn, sd := noDat.sd }) (↑s.size : Int)) h (fun f i hi => ?_) (fun f => by simp only [l92_0, cdn]; rfl) s.size 0 _ (by omega) (by omega)
  have e : ((s.data.toList.getD i 0).toNat : Int) = byt s i := rfl
  simp only [l92_0, cdl hi, cdd hi, cond_true, Int.toNat_natCast, e, badB]
  cases (bif (bif (bif (bif decide (97 ≤ byt s i) then decide (byt s i ≤ 122) else false) then true else (bif decide (65 ≤ byt s i) then decide (byt s i ≤ 90) else false)) then false else true) then (bif decide ((i : Int) = 0) then true else (bif (bif decide (byt s i = 45) then false else true) then (bif decide (byt s i < 48) then true else decide (57 < byt s i)) else false)) else false) <;> simp
theorem empty_iff (s : ByteArray) : decide (s = ({ data := #[] } : ByteArray)) = decide ((s.size : Int) < 1) := by
  by_cases h : s.size = 0
  · have : s = ({ data := #[] } : ByteArray) := by
      cases s with
      | mk d =>
        have hd : d.size = 0 := h
        rw [Array.eq_empty_of_size_eq_zero hd]
    rw [decide_eq_true this, decide_eq_true (by omega)]
  · rw [decide_eq_false (fun e => h (by rw [e]; rfl)), decide_eq_false (by omega)]
theorem name_eq (s : ByteArray) : n90 s = true ∧ n92 s = true ∧ m92 s = m90 s := by
  simp only [n90, n92, m90, m92, empty_iff]
  by_cases h : s.size < 1
  · rw [decide_eq_true (show (s.size : Int) < 1 by omega)]; exact ⟨rfl, rfl, rfl⟩
  · rw [decide_eq_false (show ¬ (s.size : Int) < 1 by omega)]
    by_cases k : 12 < s.size
    · rw [decide_eq_true (show (12 : Int) < (s.size : Int) by omega)]; exact ⟨rfl, rfl, rfl⟩
    · rw [decide_eq_false (show ¬ (12 : Int) < (s.size : Int) by omega), l90_all s (by omega), l92_all s (by omega)]; exact ⟨rfl, rfl, rfl⟩
theorem has_eq (k : Nat) (hk : k ≤ 9223372036854775807) (d : Dat) (s : ByteArray) : n91 k d s = true ∧ n93 k d s = true ∧ m93 k d s = m91 k d s := by
  have r1 : o91_0 k d s 0 = some (first (fun i => cond (decide (d.ss i 0 = s)) (some (true, true, default)) none) (false, default, ()) k 0) := by
    refine loop_first (l := l91_0 k d s) hk (fun f i hi => ?_) (fun f => by simp only [l91_0, cdn]; rfl) k 0 _ (by omega) (by omega)
    simp only [l91_0, cdl hi, cdd hi, cond_true, Int.toNat_natCast]
    cases decide (d.ss i 0 = s) <;> simp
  have r2 : o129_0 k d s (k : Int) 0 = some (first (fun i => cond (decide (d.ss i 0 = s)) (some (true, (i : Int), default)) none) (false, default, ()) k 0) := by
    refine loop_first (l := l129_0 k d s (k : Int)) hk (fun f i hi => ?_) (fun f => by simp only [l129_0, cdn]; rfl) k 0 _ (by omega) (by omega)
    have e : decide (s = d.ss i 0) = decide (d.ss i 0 = s) := by
      by_cases h : d.ss i 0 = s
      · rw [decide_eq_true h, decide_eq_true h.symm]
      · rw [decide_eq_false h, decide_eq_false (fun e => h e.symm)]
    simp only [l129_0, cdl hi, cdd hi, cond_true, Int.toNat_natCast, e]
    cases decide (d.ss i 0 = s) <;> simp
  refine ⟨by simp only [n91, r1]; rfl, by simp only [n93, n129, r2]; rfl, ?_⟩
  simp only [m93, m129, m91, r1, r2, Option.getD_some]
  rcases first_two (n := k) (ga := fun i => cond (decide (d.ss i 0 = s)) (some (true, true, (default : Unit))) none) (gb := fun i => cond (decide (d.ss i 0 = s)) (some (true, (i : Int), (default : Unit))) none) (ea := (false, default, ())) (eb := (false, default, ())) (R := fun b c => b = (true, true, default) ∧ ∃ i : Nat, c = (true, (i : Int), default)) (fun i hi => by
    cases decide (d.ss i 0 = s) with
    | true => exact .inr ⟨_, _, rfl, rfl, rfl, i, rfl⟩
    | false => exact .inl ⟨rfl, rfl⟩) with ⟨a, b, _⟩ | ⟨b, c, h1, h2, rfl, i, rfl⟩
  · rw [a, b]; rfl
  · rw [h1, h2]; simp only [cond_true]; exact decide_eq_true (by omega)
section
variable {n : Nat} {d : Dat} {n' : Nat} {d' : Dat}
noncomputable def badN (d : Dat) (i : Nat) : Option (Bool × Int × Unit) := cond (bif m90 (d.ss i 0) then false else true) (some (true, 4, default)) (cond (m91 i d (d.ss i 0)) (some (true, 5, default)) none)
theorem l27a (hn : n ≤ 9223372036854775807) : o27_0 (n : Int) n d n' d' 0 = some (first (badN d) (false, default, ()) n 0) := by
  refine loop_first (l := l27_0 (n : Int) n d n' d') hn (fun f i hi => ?_) (fun f => by simp only [l27_0, cdn]; rfl) n 0 _ (by omega) (by omega)
  obtain ⟨a1, a2, a3⟩ := name_eq (d.ss i 0)
  obtain ⟨b1, b2, b3⟩ := has_eq i (by omega) d (d.ss i 0)
  have z : decide ((0 : Int) ≤ 0 ∧ (0 : Int) ≤ (i : Int) ∧ (i : Int) ≤ (n : Int)) = true := decide_eq_true ⟨by omega, by omega, by omega⟩
  simp only [l27_0, cdl hi, cdd hi, cond_true, Int.toNat_natCast, Int.sub_zero, a1, b1, z, badN]
  cases m90 (d.ss i 0) <;> cases m91 i d (d.ss i 0) <;> simp
theorem l28a (hn : n ≤ 9223372036854775807) : o28_0 n d (n : Int) d n' d' (n : Int) 0 = some (first (badN d) (false, default, ()) n 0) := by
  refine loop_first (l := l28_0 n d (n : Int) d n' d' (n : Int)) hn (fun f i hi => ?_) (fun f => by simp only [l28_0, cdn]; rfl) n 0 _ (by omega) (by omega)
  obtain ⟨a1, a2, a3⟩ := name_eq (d.ss i 0)
  obtain ⟨b1, b2, b3⟩ := has_eq i (by omega) d (d.ss i 0)
  have z : decide ((0 : Int) ≤ 0 ∧ (0 : Int) ≤ (i : Int) ∧ (i : Int) ≤ (n : Int)) = true := decide_eq_true ⟨by omega, by omega, by omega⟩
  simp only [l28_0, cdl hi, cdd hi, cond_true, Int.toNat_natCast, Int.sub_zero, a2, a3, b2, b3, z, badN]
  cases m90 (d.ss i 0) <;> cases m91 i d (d.ss i 0) <;> simp
noncomputable def badS (n : Nat) (d' : Dat) (i : Nat) : Option (Bool × Int × Unit) := cond (bif decide ((d'.sn i 0 : Int) = (n : Int)) then false else true) (some (true, 10, default)) none
theorem l27b (hn : n ≤ 9223372036854775807) : o27_2 (n : Int) n d n d' 0 = some (first (badS n d') (false, default, ()) n 0) := by
  refine loop_first (l := l27_2 (n : Int) n d n d') hn (fun f i hi => ?_) (fun f => by simp only [l27_2, cdn]; rfl) n 0 _ (by omega) (by omega)
  simp only [l27_2, cdl hi, cdd hi, cond_true, Int.toNat_natCast, badS]
  cases decide ((d'.sn i 0 : Int) = (n : Int)) <;> simp
noncomputable def badT (n : Nat) (d' : Dat) (i : Nat) : Option (Bool × Int × Unit) := cond (bif decide ((d'.sn i 0 : Int) = (n : Int)) then false else true) (some (true, (i : Int), default)) none
theorem l130 (hn : n ≤ 9223372036854775807) : o130c95_0 n d' (datC [SV.int IntKind.i64 (n : Int)]) (n : Int) 0 = some (first (badT n d') (false, default, ()) n 0) := by
  refine loop_first (l := l130c95_0 n d' (datC [SV.int IntKind.i64 (n : Int)]) (n : Int)) hn (fun f i hi => ?_) (fun f => by simp only [l130c95_0, cdn]; rfl) n 0 _ (by omega) (by omega)
  have e : (datC [SV.int IntKind.i64 (n : Int)]).ii 0 0 = (n : Int) := rfl
  simp only [l130c95_0, cdl hi, cdd hi, cond_true, Int.toNat_natCast, m95, e, badT]
  cases decide ((d'.sn i 0 : Int) = (n : Int)) <;> simp
/-- The shapes. -/
theorem shape_eq (hn : n ≤ 9223372036854775807) : n94c95 n d' (datC [SV.int IntKind.i64 (n : Int)]) = true ∧ (((∀ i, i < n → d'.sn i 0 = n) ∧ (first (badS n d') (false, default, ()) n 0) = (false, default, ()) ∧ m94c95 n d' (datC [SV.int IntKind.i64 (n : Int)]) = false) ∨ ((first (badS n d') (false, default, ()) n 0) = (true, 10, default) ∧ m94c95 n d' (datC [SV.int IntKind.i64 (n : Int)]) = true)) := by
  refine ⟨by simp only [n94c95, n130c95, l130 hn]; rfl, ?_⟩
  simp only [m94c95, m130c95, l130 hn, Option.getD_some]
  rcases first_two (n := n) (ga := badS n d') (gb := badT n d') (ea := (false, default, ())) (eb := (false, default, ())) (R := fun b c => b = (true, 10, default) ∧ ∃ i : Nat, c = (true, (i : Int), default)) (fun i hi => by
    simp only [badS, badT]
    cases decide ((d'.sn i 0 : Int) = (n : Int)) with
    | false => exact .inr ⟨_, _, rfl, rfl, rfl, i, rfl⟩
    | true => exact .inl ⟨rfl, rfl⟩) with ⟨a, b, c, _⟩ | ⟨b, c, h1, h2, rfl, i, rfl⟩
  · refine .inl ⟨fun i hi => ?_, a, ?_⟩
    · have := c i hi
      simp only [badS] at this
      by_cases h : ((d'.sn i 0 : Int) = (n : Int))
      · omega
      · rw [decide_eq_false h] at this; cases this
    · rw [b]; rfl
  · exact .inr ⟨h1, by rw [h2]; simp only [cond_true]; exact decide_eq_true (by omega)⟩
/-- The minutes between two places. -/
noncomputable def mn (d' : Dat) (i k : Nat) : Int := (d'.sub i 0).ii k 0
noncomputable def badV (d' : Dat) (i k : Nat) : Option (Bool × Int × Unit) := cond (bif m29 (mn d' i k) (-1) 10000 then false else true) (some (true, 2, default)) (cond (bif decide ((i : Int) = (k : Int)) then (bif decide (mn d' i k = 0) then false else true) else false) (some (true, 3, default)) none)
theorem l27c (hn : n ≤ 9223372036854775807) (hs : ∀ i, i < n → d'.sn i 0 = n) {i : Nat} (hi : i < n) : o27_6 (n : Int) (i : Int) n d n d' 0 = some (first (badV d' i) (false, default, ()) n 0) := by
  refine loop_first (l := l27_6 (n : Int) (i : Int) n d n d') hn (fun f k hk => ?_) (fun f => by simp only [l27_6, cdn]; rfl) n 0 _ (by omega) (by omega)
  have e : (d'.sub i 0).ii k 0 = mn d' i k := rfl
  simp only [l27_6, cdl hk, cdd hi, cdd hk, hs i hi, cond_true, Int.toNat_natCast, e, badV]
  cases m29 (mn d' i k) (-1) 10000 <;> cases decide ((i : Int) = (k : Int)) <;> cases decide (mn d' i k = 0) <;> simp
theorem l28c (hn : n ≤ 9223372036854775807) (x y : Dat) {i : Nat} (hi : i < n) : o28_5 (i : Int) n d' (n : Int) (i : Int) n (d'.sub i 0) (n : Int) x y (n : Int) 0 = some (first (badV d' i) (false, default, ()) n 0) := by
  refine loop_first (l := l28_5 (i : Int) n d' (n : Int) (i : Int) n (d'.sub i 0) (n : Int) x y (n : Int)) hn (fun f k hk => ?_) (fun f => by simp only [l28_5, cdn]; rfl) n 0 _ (by omega) (by omega)
  have e : (d'.sub i 0).ii k 0 = mn d' i k := rfl
  simp only [l28_5, cdl hk, cdd hk, cond_true, Int.toNat_natCast, e, badV, m96_m29]
  cases m29 (mn d' i k) (-1) 10000 <;> cases decide ((i : Int) = (k : Int)) <;> cases decide (mn d' i k = 0) <;> simp
noncomputable def rowE (n : Nat) (d' : Dat) (i : Nat) : Bool × Int × Unit := first (badV d' i) (false, default, ()) n 0
theorem l27d (hn : n ≤ 9223372036854775807) (hs : ∀ i, i < n → d'.sn i 0 = n) : o27_4 (n : Int) n d n d' 0 = some (first (fun i => cond (rowE n d' i).1 (some (true, (rowE n d' i).2.1, default)) none) (false, default, ()) n 0) := by
  refine loop_first (l := l27_4 (n : Int) n d n d') hn (fun f i hi => ?_) (fun f => by simp only [l27_4, cdn]; rfl) n 0 _ (by omega) (by omega)
  have e := l27c (d := d) hn hs hi
  have e' : o27_6 (n : Int) (i : Int) n d n d' 0 = some (rowE n d' i) := e
  simp only [l27_4, cdl hi, cond_true, e', Option.isSome_some, Option.getD_some]
  cases (rowE n d' i).1 <;> simp
theorem l28d (hn : n ≤ 9223372036854775807) (hs : ∀ i, i < n → d'.sn i 0 = n) (x : Dat) : o28_3 n d' (n : Int) x d' (n : Int) 0 n = some (first (fun i => cond (rowE n d' i).1 (some (true, (rowE n d' i).2.1, default)) none) (false, default, n) n 0) := by
  refine loop_first (l := fun f i => l28_3 n d' (n : Int) x d' (n : Int) f i n) hn (fun f i hi => ?_) (fun f => by simp only [l28_3, cdn]; rfl) n 0 _ (by omega) (by omega)
  have e' : o28_5 (i : Int) n d' (n : Int) (i : Int) n (d'.sub i 0) (n : Int) x d' (n : Int) 0 = some (rowE n d' i) := l28c hn x d' hi
  simp only [l28_3, cdl hi, cdd hi, cond_true, Int.toNat_natCast, hs i hi, e', Option.isSome_some, Option.getD_some, decide_true]
  cases (rowE n d' i).1 <;> simp
/-- A right chart. -/
structure Cht (n : Nat) (n' : Nat) (d' : Dat) : Prop where
  few : n ≤ 12
  rows : n' = n
  row : ∀ i, i < n → d'.sn i 0 = n
  lo : ∀ i k, i < n → k < n → -1 ≤ mn d' i k
  hi : ∀ i k, i < n → k < n → mn d' i k ≤ 10000
  diag : ∀ i, i < n → mn d' i i = 0
theorem badV_none {i k : Nat} (h : badV d' i k = none) : -1 ≤ mn d' i k ∧ mn d' i k ≤ 10000 ∧ (i = k → mn d' i k = 0) := by
  simp only [badV] at h
  cases h1 : m29 (mn d' i k) (-1) 10000 with
  | false => rw [h1] at h; cases h
  | true =>
    rw [h1] at h
    have ⟨a, b⟩ := m29_iff.1 h1
    refine ⟨a, b, fun e => ?_⟩
    subst e
    simp only [decide_true, cond_true, cond_false] at h
    by_cases hz : mn d' i i = 0
    · exact hz
    · rw [decide_eq_false hz] at h; cases h
theorem chart_cases (hn : n ≤ 9223372036854775807) : n27 n d n' d' = true ∧ n28 n d n' d' = true ∧ ((Cht n n' d' ∧ m27 n d n' d' = 0 ∧ m28 n d n' d' = 0) ∨ ∃ e, e ≠ 0 ∧ m27 n d n' d' = e ∧ m28 n d n' d' = e) := by
  by_cases h12 : 12 < n
  · have z : decide ((12 : Int) < (n : Int)) = true := decide_eq_true (by omega)
    refine ⟨by simp only [n27, z, cond_true], by simp only [n28, z, cond_true], .inr ⟨8, by decide, by simp only [m27, z, cond_true], by simp only [m28, z, cond_true]⟩⟩
  · have z : decide ((12 : Int) < (n : Int)) = false := decide_eq_false (by omega)
    have a1 := l27a (n' := n') (d' := d') (d := d) hn
    have a2 := l28a (n' := n') (d' := d') (d := d) hn
    rcases first_two (n := n) (ga := badN d) (gb := badN d) (ea := (false, default, ())) (eb := (false, default, ())) (R := fun b c => b = c ∧ ∃ e : Int, e ≠ 0 ∧ b = (true, e, default)) (fun i hi => by
      simp only [badN]
      cases m90 (d.ss i 0) with
      | false => exact .inr ⟨_, _, rfl, rfl, rfl, 4, by decide, rfl⟩
      | true =>
        cases m91 i d (d.ss i 0) with
        | true => exact .inr ⟨_, _, rfl, rfl, rfl, 5, by decide, rfl⟩
        | false => exact .inl ⟨rfl, rfl⟩) with ⟨b1, _, _⟩ | ⟨b, c, b1, _, _, e, he, rfl⟩
    · rw [b1] at a1 a2
      by_cases hr : n' = n
      · subst hr
        have z2 : decide ((n' : Int) = (n' : Int)) = true := decide_eq_true rfl
        obtain ⟨c1, ⟨c2, c3, c4⟩ | ⟨c3, c4⟩⟩ := shape_eq (d' := d') hn
        · have e1 := l27b (d := d) (d' := d') hn
          rw [c3] at e1
          have e2 := l27d (d := d) hn c2
          have e3 := l28d hn c2 d
          rcases first_two (n := n') (ga := fun i => cond (rowE n' d' i).1 (some (true, (rowE n' d' i).2.1, (default : Unit))) none) (gb := fun i => cond (rowE n' d' i).1 (some (true, (rowE n' d' i).2.1, (default : Nat))) none) (ea := (false, default, ())) (eb := (false, default, n')) (R := fun b c => ∃ e : Int, e ≠ 0 ∧ b = (true, e, default) ∧ c = (true, e, default)) (fun i hi => by
            rcases first_two (n := n') (ga := badV d' i) (gb := badV d' i) (ea := (false, default, ())) (eb := (false, default, ())) (R := fun b c => ∃ e : Int, e ≠ 0 ∧ b = (true, e, default)) (fun k hk => by
              simp only [badV]
              cases m29 (mn d' i k) (-1) 10000 with
              | false => exact .inr ⟨_, _, rfl, rfl, 2, by decide, rfl⟩
              | true =>
                cases (bif decide ((i : Int) = (k : Int)) then (bif decide (mn d' i k = 0) then false else true) else false) with
                | true => exact .inr ⟨_, _, rfl, rfl, 3, by decide, rfl⟩
                | false => exact .inl ⟨rfl, rfl⟩) with ⟨q, _⟩ | ⟨b, c, q, _, e, he, rfl⟩
            · have q' : rowE n' d' i = (false, default, ()) := q
              rw [q']; exact .inl ⟨rfl, rfl⟩
            · have q' : rowE n' d' i = (true, e, default) := q
              rw [q']; exact .inr ⟨_, _, rfl, rfl, e, he, rfl, rfl⟩) with ⟨f1, f2, f3, _⟩ | ⟨b, c, f1, f2, e, he, rfl, rfl⟩
          · rw [f1] at e2; rw [f2] at e3
            refine ⟨?_, ?_, .inl ⟨⟨by omega, rfl, c2, ?_, ?_, ?_⟩, ?_, ?_⟩⟩
            · simp only [n27, z, a1, z2, e1, e2, Option.isSome_some, Option.getD_some, cond_true, cond_false]; rfl
            · simp only [n28, z, a2, z2, c1, c4, e3, Option.isSome_some, Option.getD_some, cond_true, cond_false]; rfl
            all_goals first
              | (intro i k hi hk
                 have g : first (badV d' i) (false, default, ()) n' 0 = (false, default, ()) := by
                   have := f3 i hi
                   rcases first_cases (g := badV d' i) (e := (false, default, ())) n' 0 with ⟨j, b, _, _, h3, _, h5⟩ | ⟨_, h2⟩
                   · have hb : b.1 = true := by
                       simp only [badV] at h3
                       revert h3
                       cases m29 (mn d' i j) (-1) 10000 <;> cases (bif decide ((i : Int) = (j : Int)) then (bif decide (mn d' i j = 0) then false else true) else false) <;> intro h3 <;> cases h3 <;> rfl
                     have hr : rowE n' d' i = b := h5
                     rw [hr, hb] at this; cases this
                   · exact h2
                 rcases first_cases (g := badV d' i) (e := (false, default, ())) n' 0 with ⟨j, b, _, _, h3, _, h5⟩ | ⟨h1, _⟩
                 · exfalso
                   have hb : b.1 = true := by
                       simp only [badV] at h3
                       revert h3
                       cases m29 (mn d' i j) (-1) 10000 <;> cases (bif decide ((i : Int) = (j : Int)) then (bif decide (mn d' i j = 0) then false else true) else false) <;> intro h3 <;> cases h3 <;> rfl
                   rw [g] at h5; rw [← h5] at hb; cases hb
                 · have := badV_none (h1 k (Nat.zero_le _) (by omega))
                   omega)
              | (intro i hi
                 have := f3 i hi
                 rcases first_cases (g := badV d' i) (e := (false, default, ())) n' 0 with ⟨j, b, _, _, h3, _, h5⟩ | ⟨h1, _⟩
                 · exfalso
                   have hb : b.1 = true := by
                       simp only [badV] at h3
                       revert h3
                       cases m29 (mn d' i j) (-1) 10000 <;> cases (bif decide ((i : Int) = (j : Int)) then (bif decide (mn d' i j = 0) then false else true) else false) <;> intro h3 <;> cases h3 <;> rfl
                   have hr : rowE n' d' i = b := h5
                   rw [hr, hb] at this; cases this
                 · exact (badV_none (h1 i (Nat.zero_le _) (by omega))).2.2 rfl)
              | (simp only [m27, z, a1, z2, e1, e2, Option.getD_some, decide_true, cond_true, cond_false])
              | (simp only [m28, z, a2, z2, c4, e3, Option.getD_some, decide_true, cond_true, cond_false])
          · rw [f1] at e2; rw [f2] at e3
            refine ⟨?_, ?_, .inr ⟨e, he, ?_, ?_⟩⟩
            · simp only [n27, z, a1, z2, e1, e2, Option.isSome_some, Option.getD_some, cond_true, cond_false]; rfl
            · simp only [n28, z, a2, z2, c1, c4, e3, Option.isSome_some, Option.getD_some, cond_true, cond_false]; rfl
            · simp only [m27, z, a1, z2, e1, e2, Option.getD_some, decide_true, cond_true, cond_false]
            · simp only [m28, z, a2, z2, c4, e3, Option.getD_some, decide_true, cond_true, cond_false]
        · have e1 := l27b (d := d) (d' := d') hn
          rw [c3] at e1
          refine ⟨?_, ?_, .inr ⟨10, by decide, ?_, ?_⟩⟩
          · simp only [n27, z, a1, z2, e1, Option.isSome_some, Option.getD_some, cond_true, cond_false]; rfl
          · simp only [n28, z, a2, z2, c1, c4, Option.isSome_some, Option.getD_some, cond_true, cond_false]; rfl
          · simp only [m27, z, a1, z2, e1, Option.getD_some, decide_true, cond_true, cond_false]
          · simp only [m28, z, a2, z2, c4, Option.getD_some, decide_true, cond_true, cond_false]
      · have z2 : decide ((n' : Int) = (n : Int)) = false := decide_eq_false (by omega)
        refine ⟨?_, ?_, .inr ⟨10, by decide, ?_, ?_⟩⟩
        · simp only [n27, z, a1, z2, Option.isSome_some, Option.getD_some, cond_true, cond_false]; rfl
        · simp only [n28, z, a2, z2, Option.isSome_some, Option.getD_some, cond_true, cond_false]; rfl
        · simp only [m27, z, a1, z2, Option.getD_some, cond_true, cond_false]
        · simp only [m28, z, a2, z2, Option.getD_some, cond_true, cond_false]
    · rw [b1] at a1 a2
      refine ⟨?_, ?_, .inr ⟨e, he, ?_, ?_⟩⟩
      · simp only [n27, z, a1, Option.isSome_some, Option.getD_some, cond_true, cond_false]; rfl
      · simp only [n28, z, a2, Option.isSome_some, Option.getD_some, cond_true, cond_false]; rfl
      · simp only [m27, z, a1, Option.getD_some, cond_true, cond_false]
      · simp only [m28, z, a2, Option.getD_some, cond_true, cond_false]
end
end Go.Proofs.Ytlaogoojkfjgoaa
