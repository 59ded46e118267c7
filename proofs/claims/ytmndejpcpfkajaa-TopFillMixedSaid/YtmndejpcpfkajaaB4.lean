/-
 Contracts of functions: models, equations by the kernel, contracts. Conditions: none.
-/
import Derived.Test.YtmndejpcpfkajaaB3
import Derived.KernelRfl
namespace Go.Proofs.Ytmndejpcpfkajaa
open Go Go.Sy
noncomputable section
set_option linter.unusedVariables false
set_option linter.unusedSimpArgs false
set_option maxRecDepth 100000
set_option maxHeartbeats 2000000
/-! ### iterator 155 -/
def sg155 (s : Bool) (x : Int) : Int := cond s (IntKind.i64.wrap (0 - x)) x
def cr155 (d : Dat) (i j : Nat) : Int × Int × Int := m138 (d.ii i 0) (d.ii i 1) (d.ii i 2) (d.ii j 0) (d.ii j 1) (d.ii j 2)
def det155 (d : Dat) (i j k : Nat) : Int := m156 (d.ii i 0) (d.ii i 1) (d.ii i 2) (cr155 d j k).1 (cr155 d j k).2.1 (cr155 d j k).2.2
def isB155 (d : Dat) (i j k : Nat) : Bool := decide (0 < sg155 (decide (det155 d i j k < 0)) (det155 d i j k))
def row155 (d : Dat) (i j k : Nat) : Nat → Int
 | 0 => i
 | 1 => j
 | 2 => k
 | 3 => sg155 (decide (det155 d i j k < 0)) (cr155 d j k).1
 | 4 => sg155 (decide (det155 d i j k < 0)) (cr155 d j k).2.1
 | 5 => sg155 (decide (det155 d i j k < 0)) (cr155 d j k).2.2
 | 6 => sg155 (decide (det155 d i j k < 0)) (cr155 d k i).1
 | 7 => sg155 (decide (det155 d i j k < 0)) (cr155 d k i).2.1
 | 8 => sg155 (decide (det155 d i j k < 0)) (cr155 d k i).2.2
 | 9 => sg155 (decide (det155 d i j k < 0)) (cr155 d i j).1
 | 10 => sg155 (decide (det155 d i j k < 0)) (cr155 d i j).2.1
 | 11 => sg155 (decide (det155 d i j k < 0)) (cr155 d i j).2.2
 | 12 => sg155 (decide (det155 d i j k < 0)) (det155 d i j k)
 | _ => 0
def L3_155 (d : Dat) (i j : Nat) : Nat → List (Nat × Nat × Nat)
 | 0 => []
 | k + 1 => L3_155 d i j k ++ cond (isB155 d i j k) [(i, j, k)] []
def L2_155 (d : Dat) (i : Nat) : Nat → List (Nat × Nat × Nat)
 | 0 => []
 | j + 1 => L2_155 d i j ++ L3_155 d i j j
def L1_155 (d : Dat) : Nat → List (Nat × Nat × Nat)
 | 0 => []
 | i + 1 => L1_155 d i ++ L2_155 d i i
def all155 (t : Dat) : List (Nat × Nat × Nat) := L1_155 (t.sub 0 0) (t.sn 0 0)
def N155 (t : Dat) : Nat := (all155 t).length
def rowAt155 (d : Dat) : Option (Nat × Nat × Nat) → Nat → Int
 | some p, c => row155 d p.1 p.2.1 p.2.2 c
 | none, _ => 0
def Y155 (t : Dat) : Dat := { noDat with ii := fun k c => rowAt155 (t.sub 0 0) (all155 t)[k]? c }
def ok155 (t : Dat) : Bool := decide (t.sn 0 0 ≤ 1000)
theorem pre3_155 (d : Dat) (i j : Nat) : ∀ {k k' : Nat}, k ≤ k' → L3_155 d i j k <+: L3_155 d i j k' := fun {k k'} h => by
 induction k' with
 | zero =>
  obtain rfl : k = 0 := by omega
  exact List.prefix_refl _
 | succ m ih =>
  rcases Nat.lt_or_ge k (m + 1) with h1 | h1
  ·exact (ih (by omega)).trans (List.prefix_append _ _)
  ·obtain rfl : k = m + 1 := by omega
   exact List.prefix_refl _
theorem pre2_155 (d : Dat) (i : Nat) : ∀ {k k' : Nat}, k ≤ k' → L2_155 d i k <+: L2_155 d i k' := fun {k k'} h => by
 induction k' with
 | zero =>
  obtain rfl : k = 0 := by omega
  exact List.prefix_refl _
 | succ m ih =>
  rcases Nat.lt_or_ge k (m + 1) with h1 | h1
  ·exact (ih (by omega)).trans (List.prefix_append _ _)
  ·obtain rfl : k = m + 1 := by omega
   exact List.prefix_refl _
theorem pre1_155 (d : Dat) : ∀ {k k' : Nat}, k ≤ k' → L1_155 d k <+: L1_155 d k' := fun {k k'} h => by
 induction k' with
 | zero =>
  obtain rfl : k = 0 := by omega
  exact List.prefix_refl _
 | succ m ih =>
  rcases Nat.lt_or_ge k (m + 1) with h1 | h1
  ·exact (ih (by omega)).trans (List.prefix_append _ _)
  ·obtain rfl : k = m + 1 := by omega
   exact List.prefix_refl _
theorem pre_all155 {t : Dat} {i j k : Nat} (hi : i < t.sn 0 0) (hj : j < i) (hk : k ≤ j) : L1_155 (t.sub 0 0) i ++ (L2_155 (t.sub 0 0) i j ++ L3_155 (t.sub 0 0) i j k) <+: all155 t := by
 have h3 := pre3_155 (t.sub 0 0) i j hk
 have h2 : L2_155 (t.sub 0 0) i j ++ L3_155 (t.sub 0 0) i j k <+: L2_155 (t.sub 0 0) i i :=
  ((List.prefix_append_right_inj _).2 h3).trans (pre2_155 (t.sub 0 0) i (k := j + 1) (k' := i) hj)
 exact ((List.prefix_append_right_inj _).2 h2).trans (pre1_155 (t.sub 0 0) (k := i + 1) (k' := t.sn 0 0) hi)
theorem wrap155 {i n : Nat} (h : i < n) (hn : n ≤ 1000) : IntKind.i64.wrap ((i : Int) + 1) = ((i + 1 : Nat) : Int) := by
 rw [wrS h (by omega)]
theorem loop4_155 {t : Dat} {l : Nat} {i j : Nat} (hi : i < t.sn 0 0) (hj : j < i) (hn : t.sn 0 0 ≤ 1000) (t11 t12 t15 t16 : Int) : ∀ (r k f : Nat), k + r = j → r < f →
  l155_4 t (i : Int) (j : Int) t11 t12 t15 t16 (j : Int) l (N155 t) (Y155 t) f (L1_155 (t.sub 0 0) i ++ (L2_155 (t.sub 0 0) i j ++ L3_155 (t.sub 0 0) i j k)).length (k : Int) = some (L1_155 (t.sub 0 0) i ++ (L2_155 (t.sub 0 0) i j ++ L3_155 (t.sub 0 0) i j j)).length
 | 0, k, f, hk, hf => by
  obtain ⟨f, rfl⟩ : ∃ f', f = f' + 1 := ⟨f - 1, by omega⟩
  obtain rfl : k = j := by omega
  simp only [l155_4, cdn, cond_false]
 | r + 1, k, f, hk, hf => by
  obtain ⟨f, rfl⟩ : ∃ f', f = f' + 1 := ⟨f - 1, by omega⟩
  have hkj : k < j := by omega
  have ih := loop4_155 (l := l) hi hj hn t11 t12 t15 t16 r (k + 1) f (by omega) (by omega)
  have c1 : decide ((k : Int) < (j : Int)) = true := cdl hkj
  have c2 : decide (0 ≤ (k : Int) ∧ (k : Int) < (t.sn 0 0 : Int)) = true := cdd (by omega)
  have c3 : decide (0 ≤ (j : Int) ∧ (j : Int) < (t.sn 0 0 : Int)) = true := cdd (by omega)
  have c4 : decide (0 ≤ (i : Int) ∧ (i : Int) < (t.sn 0 0 : Int)) = true := cdd hi
  have w : IntKind.i64.wrap ((k : Int) + 1) = ((k + 1 : Nat) : Int) := wrap155 (n := j) hkj (by omega)
  have hp := pre_all155 (t := t) (k := k + 1) hi hj hkj
  simp only [L3_155] at ih hp
  cases hB : isB155 (t.sub 0 0) i j k with
  | false =>
   rw [hB] at ih
   simp only [cond_false, List.append_nil] at ih
   have hB := of_decide_eq_false hB
   simp only [l155_4, c1, c2, c3, c4, Int.toNat_natCast, cond_true, w]
   by_cases hP : det155 (t.sub 0 0) i j k < 0
   ·rw [decide_eq_true hP] at hB
    dsimp only [sg155, det155, cr155, cond_true] at hP hB
    simp only [hP, hB, decide_true, decide_false, cond_true, cond_false]
    exact ih
   ·rw [decide_eq_false hP] at hB
    dsimp only [sg155, det155, cr155, cond_false] at hP hB
    simp only [hP, hB, decide_true, decide_false, cond_true, cond_false]
    exact ih
  | true =>
   rw [hB] at ih hp
   simp only [cond_true] at ih hp
   have hlen : (L1_155 (t.sub 0 0) i ++ (L2_155 (t.sub 0 0) i j ++ (L3_155 (t.sub 0 0) i j k ++ [(i, j, k)]))).length = (L1_155 (t.sub 0 0) i ++ (L2_155 (t.sub 0 0) i j ++ L3_155 (t.sub 0 0) i j k)).length + 1 := by simp; omega
   rw [hlen] at ih
   generalize hq : (L1_155 (t.sub 0 0) i ++ (L2_155 (t.sub 0 0) i j ++ L3_155 (t.sub 0 0) i j k)).length = q at ih ⊢
   have hat : (all155 t)[q]? = some (i, j, k) := by
    obtain ⟨z, hz⟩ := hp
    rw [← hz]
    simp only [List.append_assoc, ← hq]
    rw [show L1_155 (t.sub 0 0) i ++ (L2_155 (t.sub 0 0) i j ++ (L3_155 (t.sub 0 0) i j k ++ ([(i, j, k)] ++ z))) = (L1_155 (t.sub 0 0) i ++ (L2_155 (t.sub 0 0) i j ++ L3_155 (t.sub 0 0) i j k)) ++ ([(i, j, k)] ++ z) by simp]
    rw [List.getElem?_append_right (Nat.le_refl _), Nat.sub_self]
    rfl
   have hqN : q < N155 t := (List.getElem?_eq_some_iff.1 hat).1
   have hqN' : decide (q < N155 t) = true := decide_eq_true hqN
   have hY : ∀ c, (Y155 t).ii q c = row155 (t.sub 0 0) i j k c := fun c => by
    show rowAt155 (t.sub 0 0) (all155 t)[q]? c = _
    rw [hat]; rfl
   have hB := of_decide_eq_true hB
   simp only [l155_4, c1, c2, c3, c4, Int.toNat_natCast, cond_true, w, hqN', hY]
   by_cases hP : det155 (t.sub 0 0) i j k < 0
   ·rw [decide_eq_true hP] at hB
    simp only [row155, decide_eq_true hP]
    dsimp only [sg155, det155, cr155, cond_true] at hP hB ⊢
    simp only [hP, hB, decide_true, decide_false, cond_true, cond_false]
    exact ih
   ·rw [decide_eq_false hP] at hB
    simp only [row155, decide_eq_false hP]
    dsimp only [sg155, det155, cr155, cond_false] at hP hB ⊢
    simp only [hP, hB, decide_true, decide_false, cond_true, cond_false]
    exact ih
theorem loop2_155 {t : Dat} {l : Nat} {i : Nat} (hi : i < t.sn 0 0) (hn : t.sn 0 0 ≤ 1000) (t11 t12 : Int) : ∀ (r j f : Nat), j + r = i → r < f →
  l155_2 t (i : Int) t11 t12 (i : Int) l (N155 t) (Y155 t) f (L1_155 (t.sub 0 0) i ++ L2_155 (t.sub 0 0) i j).length (j : Int) = some (L1_155 (t.sub 0 0) i ++ L2_155 (t.sub 0 0) i i).length
 | 0, j, f, hk, hf => by
  obtain ⟨f, rfl⟩ : ∃ f', f = f' + 1 := ⟨f - 1, by omega⟩
  obtain rfl : j = i := by omega
  simp only [l155_2, cdn, cond_false]
 | r + 1, j, f, hk, hf => by
  obtain ⟨f, rfl⟩ : ∃ f', f = f' + 1 := ⟨f - 1, by omega⟩
  have hj : j < i := by omega
  have ih := loop2_155 (l := l) hi hn t11 t12 r (j + 1) f (by omega) (by omega)
  have h4 := loop4_155 (l := l) hi hj hn t11 t12 (i : Int) (j : Int) j 0 ((i : Int).toNat + (j : Int).toNat + t11.toNat + t12.toNat + (i : Int).toNat + (j : Int).toNat + (j : Int).toNat + (0 : Int).toNat + 8) (by omega) (by omega)
  have e : L1_155 (t.sub 0 0) i ++ (L2_155 (t.sub 0 0) i j ++ L3_155 (t.sub 0 0) i j 0) = L1_155 (t.sub 0 0) i ++ L2_155 (t.sub 0 0) i j := by simp [L3_155]
  rw [e] at h4
  have h4' : o155_4 t (i : Int) (j : Int) t11 t12 (i : Int) (j : Int) (j : Int) l (N155 t) (Y155 t) (L1_155 (t.sub 0 0) i ++ L2_155 (t.sub 0 0) i j).length 0 = some (L1_155 (t.sub 0 0) i ++ (L2_155 (t.sub 0 0) i j ++ L3_155 (t.sub 0 0) i j j)).length := h4
  have w : IntKind.i64.wrap ((j : Int) + 1) = ((j + 1 : Nat) : Int) := wrap155 (n := i) hj (by omega)
  simp only [l155_2, cdl hj, cond_true, h4', Option.isSome_some, Option.getD_some, w]
  exact ih
theorem loop0_155 {t : Dat} {l : Nat} (hn : t.sn 0 0 ≤ 1000) : ∀ (r i f : Nat), i + r = t.sn 0 0 → r < f →
  l155_0 t (t.sn 0 0 : Int) l (N155 t) (Y155 t) f (L1_155 (t.sub 0 0) i).length (i : Int) = some (N155 t)
 | 0, i, f, hk, hf => by
  obtain ⟨f, rfl⟩ : ∃ f', f = f' + 1 := ⟨f - 1, by omega⟩
  obtain rfl : i = t.sn 0 0 := by omega
  simp only [l155_0, cdn, cond_false]
  rfl
 | r + 1, i, f, hk, hf => by
  obtain ⟨f, rfl⟩ : ∃ f', f = f' + 1 := ⟨f - 1, by omega⟩
  have hi : i < t.sn 0 0 := by omega
  have ih := loop0_155 (l := l) hn r (i + 1) f (by omega) (by omega)
  have h2 := loop2_155 (l := l) hi hn (t.sn 0 0 : Int) (i : Int) i 0 ((i : Int).toNat + (t.sn 0 0 : Int).toNat + (i : Int).toNat + (i : Int).toNat + (0 : Int).toNat + 8) (by omega) (by omega)
  have e : L1_155 (t.sub 0 0) i ++ L2_155 (t.sub 0 0) i 0 = L1_155 (t.sub 0 0) i := by simp [L2_155]
  rw [e] at h2
  have h2' : o155_2 t (i : Int) (t.sn 0 0 : Int) (i : Int) (i : Int) l (N155 t) (Y155 t) (L1_155 (t.sub 0 0) i).length 0 = some (L1_155 (t.sub 0 0) i ++ L2_155 (t.sub 0 0) i i).length := h2
  have w : IntKind.i64.wrap ((i : Int) + 1) = ((i + 1 : Nat) : Int) := wrap155 (n := t.sn 0 0) hi (by omega)
  simp only [l155_0, cdl hi, cond_true, h2', Option.isSome_some, Option.getD_some, w]
  exact ih
theorem iter155 (t : Dat) (h : ok155 t = true) : SIter Try.prog 155 [.rp [.sl [.int .i64, .int .i64, .int .i64]] t 0 0] [] (N155 t) (fun k => [.agg [.int .i64 ((Y155 t).ii k 0), .int .i64 ((Y155 t).ii k 1), .int .i64 ((Y155 t).ii k 2), .int .i64 ((Y155 t).ii k 3), .int .i64 ((Y155 t).ii k 4), .int .i64 ((Y155 t).ii k 5), .int .i64 ((Y155 t).ii k 6), .int .i64 ((Y155 t).ii k 7), .int .i64 ((Y155 t).ii k 8), .int .i64 ((Y155 t).ii k 9), .int .i64 ((Y155 t).ii k 10), .int .i64 ((Y155 t).ii k 11), .int .i64 ((Y155 t).ii k 12)]]) :=
 it155 t (N155 t) (Y155 t) fun l => by
  have hn : t.sn 0 0 ≤ 1000 := of_decide_eq_true h
  have h0 := loop0_155 (t := t) (l := l) hn (t.sn 0 0) 0 ((t.sn 0 0 : Int).toNat + (0 : Int).toNat + 8) (by omega) (by omega)
  have h0' : o155_0 t (t.sn 0 0 : Int) l (N155 t) (Y155 t) 0 0 = some (N155 t) := h0
  simp only [n155, h0', Option.isSome_some, Option.getD_some, decide_true, Bool.and_self]
end
end Go.Proofs.Ytmndejpcpfkajaa
