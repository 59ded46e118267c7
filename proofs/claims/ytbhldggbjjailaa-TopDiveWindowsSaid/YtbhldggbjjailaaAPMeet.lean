/-
  Windows in both of two lists: what the program's function comes to; whether a minute is in windows. Conditions: the lists are right.
-/
import Derived.Test.YtbhldggbjjailaaAFDiveWindows
import Derived.Test.YtbhldggbjjailaaAPApt
import Derived.Test.YtbhldggbjjailaaAPLoop
import Derived.Test.YtbhldggbjjailaaAPAng
import Derived.Test.YtbhldggbjjailaaAPCheckW
import Derived.Test.YtbhldggbjjailaaAPFits
import Derived.Test.YtbhldggbjjailaaAPCirc
import Derived.Test.YtbhldggbjjailaaAPRay
import Derived.Test.YtbhldggbjjailaaAPCos
import Derived.Test.YtbhldggbjjailaaAPTide
import Derived.Test.YtbhldggbjjailaaAPLevels
import Derived.Test.YtbhldggbjjailaaAPWin
import Derived.Test.YtbhldggbjjailaaA1
import Derived.Test.YtbhldggbjjailaaA2
import Derived.Test.YtbhldggbjjailaaA3
import Derived.Test.YtbhldggbjjailaaA4
import Derived.Test.YtbhldggbjjailaaA5
namespace Go.Proofs.Ytbhldggbjjailaa
open Go Go.Sy
set_option linter.unusedVariables false
set_option linter.unusedSimpArgs false
set_option maxRecDepth 100000
def lst (n : Nat) (d : Dat) : List (Int × Int) := (List.range n).map fun q => (d.ii q 0, d.ii q 1)
theorem lst_len (n : Nat) (d : Dat) : (lst n d).length = n := by simp [lst]
theorem lst_succ (n : Nat) (d : Dat) : lst (n + 1) d = (d.ii 0 0, d.ii 0 1) :: lst n (d.shift 1) := by
  unfold lst
  rw [List.range_succ_eq_map, List.map_cons, List.map_map]
  congr 1
  refine List.map_congr_left fun q _ => ?_
  simp only [Function.comp_apply, shift_ii, Nat.succ_eq_add_one, Nat.add_comm]
theorem mem_lst {n : Nat} {d : Dat} {w : Int × Int} : w ∈ lst n d ↔ ∃ q, q < n ∧ w = (d.ii q 0, d.ii q 1) := by
  simp only [lst, List.mem_map, List.mem_range]
  exact ⟨fun ⟨q, h, e⟩ => ⟨q, h, e.symm⟩, fun ⟨q, h, e⟩ => ⟨q, h, e.symm⟩⟩
section
variable {n n' : Nat} {d d' : Dat}
theorem Wns.lt (W : Wns n d) : ∀ (k i : Nat), i + k + 1 < n → d.ii i 1 + 1 < d.ii (i + k + 1) 0
  | 0, i, h => W.up i h
  | k + 1, i, h => by
    have h1 := Wns.lt W k i (by omega)
    have h2 := W.le (i + k + 1) (by omega)
    have h3 := W.up (i + k + 1) (by omega)
    rw [show i + (k + 1) + 1 = i + k + 1 + 1 by omega]
    omega
theorem wns_apt (W : Wns n d) : Apt (lst n d) := by
  refine ⟨fun a ha => ?_, ?_⟩
  · obtain ⟨q, hq, rfl⟩ := mem_lst.1 ha
    exact W.le q hq
  · rw [List.pairwise_iff_getElem]
    intro i j hi hj hij
    rw [lst_len] at hi hj
    have := W.lt (j - i - 1) i (by omega)
    rw [show i + (j - i - 1) + 1 = j by omega] at this
    simpa [lst] using this
theorem apt_wns (h : Apt (lst n d)) (hn : n ≤ 60) (hb : ∀ w ∈ lst n d, 0 ≤ w.1 ∧ w.2 ≤ 1000000) : Wns n d where
  few := hn
  lo := fun i hi => (hb _ (mem_lst.2 ⟨i, hi, rfl⟩)).1
  le := fun i hi => h.ord _ (mem_lst.2 ⟨i, hi, rfl⟩)
  hi := fun i hi => (hb _ (mem_lst.2 ⟨i, hi, rfl⟩)).2
  up := fun i hi => by
    have := (List.pairwise_iff_getElem.1 h.apart) i (i + 1) (by rw [lst_len]; omega) (by rw [lst_len]; omega) (by omega)
    simpa [lst] using this
/-- Is a minute in windows? -/
theorem in_ok (m : Int) (hn : n ≤ 9223372036854775807) : n32 n d m = true ∧ (m32 n d m = true ↔ InL (lst n d) m) := by
  have h : o32_0 n d m 0 = some (first (fun i => cond (m24 m (d.ii i 0) (d.ii i 1)) (some (true, true, default)) none) (false, default, ()) n 0) :=
    loop_first (l := l32_0 n d m) hn (fun f i hi => by
      simp only [l32_0, cdl hi, cdd hi, cond_true, Int.toNat_natCast]
      cases m24 m (d.ii i 0) (d.ii i 1) <;> rfl) (fun f => by simp only [l32_0, cdn]; rfl) n 0 _ (by omega) (by omega)
  have w : ∀ i, m24 m (d.ii i 0) (d.ii i 1) = true ↔ (d.ii i 0 ≤ m ∧ m ≤ d.ii i 1) := fun i => by
    simp only [m24, Bool.cond_eq_ite]
    by_cases h1 : d.ii i 0 ≤ m <;> by_cases h2 : m ≤ d.ii i 1 <;> simp [h1, h2]
  refine ⟨by simp only [n32, h, Option.isSome_some, Bool.and_true], ?_⟩
  simp only [m32, h, Option.getD_some]
  rcases first_cases (g := fun i => cond (m24 m (d.ii i 0) (d.ii i 1)) (some (true, true, (default : Unit))) none) (e := (false, default, ())) n 0 with ⟨j, b, h1, h2, h3, h4, h5⟩ | ⟨h1, h2⟩
  · rw [h5]
    cases hw : m24 m (d.ii j 0) (d.ii j 1) with
    | false => rw [hw] at h3; cases h3
    | true =>
      rw [hw] at h3; cases h3
      simp only [cond_true, true_iff]
      exact ⟨_, mem_lst.2 ⟨j, by omega, rfl⟩, (w j).1 hw⟩
  · rw [h2]
    simp only [cond_false, Bool.false_eq_true, false_iff]
    rintro ⟨a, ha, h3⟩
    obtain ⟨q, hq, rfl⟩ := mem_lst.1 ha
    have := h1 q (by omega) (by omega)
    rw [(w q).2 h3] at this
    cases this
theorem rep_lst {c : Nat} {D : Dat} {L : List (Int × Int)} (R : Rep c D L) : lst c D = L.reverse := by
  apply List.ext_getElem?
  intro i
  by_cases h : i < c
  · have hl := R.1
    have h1 : (L.reverse)[i]? = L[c - 1 - i]? := by rw [List.getElem?_reverse (by omega), ← hl]
    have h2 : c - 1 - i < L.length := by omega
    have h3 := R.2 (c - 1 - i) (L[c - 1 - i]) (by simp)
    rw [show c - 1 - (c - 1 - i) = i by omega] at h3
    rw [h1]
    simp [lst, h, h2, h3]
  · have h1 : (lst c D)[i]? = none := by rw [List.getElem?_eq_none]; rw [lst_len]; omega
    rw [h1, List.getElem?_eq_none]
    rw [List.length_reverse, ← R.1]; omega
/-- One window more, apart from those before. -/
theorem add_app {c : Nat} {D : Dat} {L : List (Int × Int)} {x y : Int} (R : Rep c D L) (hc : c ≤ 100000) (hL : ∀ w ∈ L.head?, -1 ≤ w.2 ∧ w.2 ≤ 1000000 ∧ w.2 + 1 < x) :
    n92 c c D x y = true ∧ m92 c c D x y = (c + 1, c + 1, D.app c (datS [.int .i64 x, .int .i64 y] 2)) ∧ Rep (c + 1) (D.app c (datS [.int .i64 x, .int .i64 y] 2)) ((x, y) :: L) := by
  have s1 : decide (c ≤ c) = true := decide_eq_true (Nat.le_refl c)
  have s2 : decide (c + 1 ≤ 1073741824) = true := decide_eq_true (by omega)
  refine ⟨?_, ?_, rep_app R x y⟩
  all_goals
    cases L with
    | nil =>
      have hc0 : c = 0 := R.1
      subst hc0
      have z : decide ((0 : Int) < ((0 : Nat) : Int)) = false := rfl
      first
      | (simp only [n92, z, s1, s2, cond_true, cond_false]; rfl)
      | (simp only [m92, z, cond_true, cond_false])
    | cons p T =>
      obtain ⟨a0, b0⟩ := p
      obtain ⟨hc0, g1, g2⟩ := rep_head R
      obtain ⟨r1, r2, r3⟩ := hL (a0, b0) (by simp)
      simp only at r1 r2 r3
      have z : decide ((0 : Int) < (c : Int)) = true := decide_eq_true (by omega)
      have w1 : IntKind.i64.wrap ((c : Int) - 1) = (c : Int) - 1 := wr (by omega) (by omega)
      have w2 : ((c : Int) - 1).toNat = c - 1 := by omega
      have s3 : decide (0 ≤ (c : Int) - 1 ∧ (c : Int) - 1 < (c : Int)) = true := decide_eq_true ⟨by omega, by omega⟩
      have s4 : decide (c - 1 < c) = true := decide_eq_true (by omega)
      have w3 : IntKind.i64.wrap (b0 + 1) = b0 + 1 := wr (by omega) (by omega)
      have s5 : decide (x ≤ b0 + 1) = false := decide_eq_false (by omega)
      first
      | (simp only [n92, z, w1, w2, s3, s4, g2, w3, s5, s1, s2, cond_true, cond_false]; rfl)
      | (simp only [m92, z, w1, w2, g2, w3, s5, cond_true, cond_false])
theorem imax_max (x y : Int) : imax x y = max x y := by unfold imax; split <;> omega
theorem imin_min (x y : Int) : imin x y = min x y := by unfold imin; split <;> omega
theorem meet_run (b : Dat) : ∀ (f n : Nat) (d : Dat) (n' : Nat) (d' : Dat) (c : Nat) (D : Dat) (L : List (Int × Int)), Rep c D L → n + n' < f → c + (n + n') ≤ 100000 → Apt (lst n d) → Apt (lst n' d') →
    (∀ w ∈ lst n d, 0 ≤ w.1 ∧ w.2 ≤ 1000000) → (∀ w ∈ lst n' d', 0 ≤ w.1 ∧ w.2 ≤ 1000000) → (∀ w ∈ L.head?, -1 ≤ w.2 ∧ w.2 ≤ 1000000 ∧ ∀ a ∈ lst n d, ∀ b ∈ lst n' d', w.2 + 1 < max a.1 b.1) →
    ∃ c' D', l27_0 b f n d n' d' c c D = some (c', c', D') ∧ Rep c' D' ((meetL (lst n d) (lst n' d')).reverse ++ L)
  | 0, _, _, _, _, _, _, _, _, h, _, _, _, _, _, _ => absurd h (Nat.not_lt_zero _)
  | f + 1, 0, d, n', d', c, D, L, R, _, _, _, _, _, _, _ => by
    have z : decide ((0 : Int) < ((0 : Nat) : Int)) = false := rfl
    refine ⟨c, D, by simp only [l27_0, z, cond_false], ?_⟩
    rw [show lst 0 d = [] from rfl, meetL]; exact R
  | f + 1, n + 1, d, 0, d', c, D, L, R, _, _, _, _, _, _, _ => by
    have z : decide ((0 : Int) < ((0 : Nat) : Int)) = false := rfl
    have z1 : decide ((0 : Int) < ((n + 1 : Nat) : Int)) = true := decide_eq_true (by omega)
    refine ⟨c, D, by simp only [l27_0, z, z1, cond_true, cond_false], ?_⟩
    rw [lst_succ, show lst 0 d' = [] from rfl, meetL]; exact R
  | f + 1, n + 1, d, n' + 1, d', c, D, L, R, hf, hc, hA, hB, bA, bB, hL => by
    have z1 : decide ((0 : Int) < ((n + 1 : Nat) : Int)) = true := decide_eq_true (by omega)
    have z2 : decide ((0 : Int) < ((n' + 1 : Nat) : Int)) = true := decide_eq_true (by omega)
    have y1 : decide ((0 : Int) ≤ (0 : Int) ∧ (0 : Int) < ((n + 1 : Nat) : Int)) = true := decide_eq_true ⟨by omega, by omega⟩
    have y2 : decide ((0 : Int) ≤ (0 : Int) ∧ (0 : Int) < ((n' + 1 : Nat) : Int)) = true := decide_eq_true ⟨by omega, by omega⟩
    have x1 : decide ((0 : Int) ≤ (1 : Int) ∧ (1 : Int) ≤ ((n + 1 : Nat) : Int) ∧ ((n + 1 : Nat) : Int) ≤ ((n + 1 : Nat) : Int)) = true := decide_eq_true ⟨by omega, by omega, by omega⟩
    have x2 : decide ((0 : Int) ≤ (1 : Int) ∧ (1 : Int) ≤ ((n' + 1 : Nat) : Int) ∧ ((n' + 1 : Nat) : Int) ≤ ((n' + 1 : Nat) : Int)) = true := decide_eq_true ⟨by omega, by omega, by omega⟩
    have t1 : (((n + 1 : Nat) : Int) - 1).toNat = n := by omega
    have t2 : (((n' + 1 : Nat) : Int) - 1).toNat = n' := by omega
    have eA := lst_succ n d
    have eB := lst_succ n' d'
    have aA := hA; have aB := hB
    rw [eA] at aA; rw [eB] at aB
    have memA : (d.ii 0 0, d.ii 0 1) ∈ lst (n + 1) d := by rw [eA]; simp
    have memB : (d'.ii 0 0, d'.ii 0 1) ∈ lst (n' + 1) d' := by rw [eB]; simp
    have subA : ∀ w, w ∈ lst n (d.shift 1) → w ∈ lst (n + 1) d := fun w h => by rw [eA]; simp [h]
    have subB : ∀ w, w ∈ lst n' (d'.shift 1) → w ∈ lst (n' + 1) d' := fun w h => by rw [eB]; simp [h]
    have oA : d.ii 0 0 ≤ d.ii 0 1 := aA.head
    have oB : d'.ii 0 0 ≤ d'.ii 0 1 := aB.head
    have b1 := bA _ memA
    have b2 := bB _ memB
    simp only at b1 b2
    -- behind this round: the list, its end
    have next : ∃ c1 D1, Rep c1 D1 ((bth (d.ii 0 0, d.ii 0 1) (d'.ii 0 0, d'.ii 0 1)).reverse ++ L) ∧ c1 ≤ c + 1 ∧
        (decide (imax (d.ii 0 0) (d'.ii 0 0) ≤ imin (d.ii 0 1) (d'.ii 0 1)) = true → n92 c c D (imax (d.ii 0 0) (d'.ii 0 0)) (imin (d.ii 0 1) (d'.ii 0 1)) = true ∧ m92 c c D (imax (d.ii 0 0) (d'.ii 0 0)) (imin (d.ii 0 1) (d'.ii 0 1)) = (c1, c1, D1)) ∧
        (decide (imax (d.ii 0 0) (d'.ii 0 0) ≤ imin (d.ii 0 1) (d'.ii 0 1)) = false → c1 = c ∧ D1 = D) ∧
        (∀ w ∈ ((bth (d.ii 0 0, d.ii 0 1) (d'.ii 0 0, d'.ii 0 1)).reverse ++ L).head?, -1 ≤ w.2 ∧ w.2 ≤ 1000000 ∧ (w.2 = min (d.ii 0 1) (d'.ii 0 1) ∨ ∀ a ∈ lst (n + 1) d, ∀ b ∈ lst (n' + 1) d', w.2 + 1 < max a.1 b.1)) := by
      rw [imax_max, imin_min]
      by_cases hb : max (d.ii 0 0) (d'.ii 0 0) ≤ min (d.ii 0 1) (d'.ii 0 1)
      · obtain ⟨g1, g2, g3⟩ := add_app (x := max (d.ii 0 0) (d'.ii 0 0)) (y := min (d.ii 0 1) (d'.ii 0 1)) R (by omega) fun w hw => ⟨(hL w hw).1, (hL w hw).2.1, (hL w hw).2.2 _ memA _ memB⟩
        have e : bth (d.ii 0 0, d.ii 0 1) (d'.ii 0 0, d'.ii 0 1) = [(max (d.ii 0 0) (d'.ii 0 0), min (d.ii 0 1) (d'.ii 0 1))] := if_pos hb
        refine ⟨_, _, by rw [e]; exact g3, by omega, fun _ => ⟨g1, g2⟩, fun h => absurd hb (of_decide_eq_false h), fun w hw => ?_⟩
        rw [e] at hw
        simp at hw
        subst hw
        exact ⟨by simp only; omega, by simp only; omega, .inl rfl⟩
      · have e : bth (d.ii 0 0, d.ii 0 1) (d'.ii 0 0, d'.ii 0 1) = [] := if_neg hb
        refine ⟨c, D, by rw [e]; exact R, by omega, fun h => absurd (of_decide_eq_true h) hb, fun _ => ⟨rfl, rfl⟩, fun w hw => ?_⟩
        rw [e] at hw
        exact ⟨(hL w hw).1, (hL w hw).2.1, .inr (hL w hw).2.2⟩
    obtain ⟨c1, D1, R1, hc1, hn1, hn2, hL1⟩ := next
    by_cases hab : d.ii 0 1 < d'.ii 0 1
    · obtain ⟨c2, D2, e2, R2⟩ := meet_run b f n (d.shift 1) (n' + 1) d' c1 D1 _ R1 (by omega) (by omega) aA.tail hB (fun w h => bA w (subA w h)) bB fun w hw => by
        obtain ⟨q1, q2, q3⟩ := hL1 w hw
        refine ⟨q1, q2, fun a ha b' hb' => ?_⟩
        rcases q3 with q3 | q3
        · have := (apt_cons.1 aA).2.1 a ha
          simp only at this
          omega
        · exact q3 a (subA a ha) b' hb'
      refine ⟨c2, D2, ?_, ?_⟩
      · cases hd : decide (imax (d.ii 0 0) (d'.ii 0 0) ≤ imin (d.ii 0 1) (d'.ii 0 1)) with
        | true =>
          obtain ⟨g1, g2⟩ := hn1 hd
          simp only [l27_0, z1, z2, y1, y2, x1, t1, hd, g1, g2, decide_eq_true hab, cond_true]
          exact e2
        | false =>
          obtain ⟨rfl, rfl⟩ := hn2 hd
          simp only [l27_0, z1, z2, y1, y2, x1, t1, hd, decide_eq_true hab, cond_true, cond_false]
          exact e2
      · rw [eA, eB, meetL, if_pos hab, List.reverse_append, List.append_assoc, ← eB]
        exact R2
    · obtain ⟨c2, D2, e2, R2⟩ := meet_run b f (n + 1) d n' (d'.shift 1) c1 D1 _ R1 (by omega) (by omega) hA aB.tail bA (fun w h => bB w (subB w h)) fun w hw => by
        obtain ⟨q1, q2, q3⟩ := hL1 w hw
        refine ⟨q1, q2, fun a ha b' hb' => ?_⟩
        rcases q3 with q3 | q3
        · have := (apt_cons.1 aB).2.1 b' hb'
          simp only at this
          omega
        · exact q3 a ha b' (subB b' hb')
      refine ⟨c2, D2, ?_, ?_⟩
      · cases hd : decide (imax (d.ii 0 0) (d'.ii 0 0) ≤ imin (d.ii 0 1) (d'.ii 0 1)) with
        | true =>
          obtain ⟨g1, g2⟩ := hn1 hd
          simp only [l27_0, z1, z2, y1, y2, x2, t2, hd, g1, g2, decide_eq_false hab, cond_true, cond_false]
          exact e2
        | false =>
          obtain ⟨rfl, rfl⟩ := hn2 hd
          simp only [l27_0, z1, z2, y1, y2, x2, t2, hd, decide_eq_false hab, cond_true, cond_false]
          exact e2
      · rw [eA, eB, meetL, if_neg hab, List.reverse_append, List.append_assoc, ← eA]
        exact R2
/-- The lists' first error. -/
theorem lists_ok (x y : Int) (hx : m59 n d = x) (hy : m59 n' d' = y) (gx : n59 n d = true) (gy : n59 n' d' = true) :
    n91 2 (datS [SV.ro [Kd.int IntKind.i64, Kd.int IntKind.i64] n d, SV.ro [Kd.int IntKind.i64, Kd.int IntKind.i64] n' d'] 1) = true ∧ m91 2 (datS [SV.ro [Kd.int IntKind.i64, Kd.int IntKind.i64] n d, SV.ro [Kd.int IntKind.i64, Kd.int IntKind.i64] n' d'] 1) = cond (decide (x = 0)) y x := by
  generalize hD : datS [SV.ro [Kd.int IntKind.i64, Kd.int IntKind.i64] n d, SV.ro [Kd.int IntKind.i64, Kd.int IntKind.i64] n' d'] 1 = D
  have s0 : D.sn 0 0 = n := by subst hD; rfl
  have u0 : D.sub 0 0 = d := by subst hD; rfl
  have s1 : D.sn 1 0 = n' := by subst hD; rfl
  have u1 : D.sub 1 0 = d' := by subst hD; rfl
  have h : o91_0 2 D (2 : Nat) 0 = some (first (fun i => cond (decide (m59 (D.sn i 0) (D.sub i 0) = 0)) none (some (true, m59 (D.sn i 0) (D.sub i 0), default))) (false, default, ()) 2 0) :=
    loop_first (n := 2) (l := l91_0 2 D (2 : Nat)) (by omega) (fun f i hi => by
      have gi : n59 (D.sn i 0) (D.sub i 0) = true := by
        rcases (show i = 0 ∨ i = 1 by omega) with rfl | rfl
        · rw [s0, u0]; exact gx
        · rw [s1, u1]; exact gy
      simp only [l91_0, cdl hi, cdd hi, cond_true, Int.toNat_natCast, gi]
      cases decide (m59 (D.sn i 0) (D.sub i 0) = 0) <;> rfl) (fun f => by simp only [l91_0, cdn]; rfl) 2 0 _ (by omega) (by omega)
  refine ⟨by simp only [n91, h, Option.isSome_some, Bool.and_true], ?_⟩
  simp only [m91, h, Option.getD_some, first, s0, u0, s1, u1, hx, hy]
  by_cases x0 : x = 0
  · by_cases y0 : y = 0
    · simp [x0, y0]
    · simp [x0, y0]
  · simp [x0]
theorem meet_ok (A : Wns n d) (B : Wns n' d') (a0 : m59 n d = 0) (b0 : m59 n' d' = 0) (gx : n59 n d = true) (gy : n59 n' d' = true) : n27 n d n' d' = true ∧
    ((60 < (meetL (lst n d) (lst n' d')).length ∧ m27 n d n' d' = (0, noDat, 8)) ∨ ((meetL (lst n d) (lst n' d')).length ≤ 60 ∧ ∃ D, m27 n d n' d' = ((meetL (lst n d) (lst n' d')).length, D, 0) ∧ lst (meetL (lst n d) (lst n' d')).length D = meetL (lst n d) (lst n' d'))) := by
  obtain ⟨g1, g2'⟩ := lists_ok 0 0 a0 b0 gx gy
  have g2 : m91 2 (datS [SV.ro [Kd.int IntKind.i64, Kd.int IntKind.i64] n d, SV.ro [Kd.int IntKind.i64, Kd.int IntKind.i64] n' d'] 1) = 0 := by rw [g2']; rfl
  have hA := A.few
  have hB := B.few
  obtain ⟨c, D, e, R⟩ := meet_run (datS [SV.ro [Kd.int IntKind.i64, Kd.int IntKind.i64] n d, SV.ro [Kd.int IntKind.i64, Kd.int IntKind.i64] n' d'] 1) (n + n' + 0 + 0 + 8) n d n' d' 0 noDat [] rep_nil (by omega) (by omega) (wns_apt A) (wns_apt B)
    (fun w hw => by obtain ⟨q, hq, rfl⟩ := mem_lst.1 hw; exact ⟨A.lo q hq, A.hi q hq⟩) (fun w hw => by obtain ⟨q, hq, rfl⟩ := mem_lst.1 hw; exact ⟨B.lo q hq, B.hi q hq⟩) (fun w hw => by simp at hw)
  rw [List.append_nil] at R
  have hc : c = (meetL (lst n d) (lst n' d')).length := by have := R.1; simpa using this
  have hl := rep_lst R
  rw [List.reverse_reverse] at hl
  have ho : o27_0 (datS [SV.ro [Kd.int IntKind.i64, Kd.int IntKind.i64] n d, SV.ro [Kd.int IntKind.i64, Kd.int IntKind.i64] n' d'] 1) n d n' d' 0 0 noDat = some (c, c, D) := e
  have ez : decide ((0 : Int) = 0) = true := rfl
  by_cases h60 : 60 < c
  · have q1 : decide ((60 : Int) < (c : Int)) = true := decide_eq_true (by omega)
    refine ⟨?_, .inl ⟨by omega, ?_⟩⟩
    · simp only [n27, g1, g2, ez, decide_true, ho, Option.getD_some, Option.isSome_some, n87a, n87b, q1, cond_true, cond_false, Bool.and_true, Bool.true_and]
    · simp only [m27, g2, ez, decide_true, ho, Option.getD_some, n87a, m87a, q1, cond_true, cond_false, Bool.and_true]
  · have q1 : decide ((60 : Int) < (c : Int)) = false := decide_eq_false (by omega)
    have q2 : decide (0 + c ≤ c) = true := decide_eq_true (by omega)
    refine ⟨?_, .inr ⟨by omega, D, ?_, by rw [← hc]; exact hl⟩⟩
    · simp only [n27, g1, g2, ez, decide_true, ho, Option.getD_some, Option.isSome_some, n87a, n87b, m87b, q1, q2, cond_true, cond_false, Bool.and_true, Bool.true_and]; rfl
    · rw [← hc]; simp only [m27, g2, ez, decide_true, ho, Option.getD_some, n87a, m87b, q1, cond_true, cond_false, Bool.and_true]
end
end Go.Proofs.Ytbhldggbjjailaa
