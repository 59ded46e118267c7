/-
  The law 'TopDiveWindows': its model is true, and its need. Conditions: none.
-/
import Derived.Test.YtbhldggbjjailaaAFDiveWindows
import Derived.Test.YtbhldggbjjailaaAPApt
import Derived.Test.YtbhldggbjjailaaAPLoop
import Derived.Test.YtbhldggbjjailaaAPAng
import Derived.Test.YtbhldggbjjailaaAPCheckW
import Derived.Test.YtbhldggbjjailaaAPFits
import Derived.Test.YtbhldggbjjailaaAPCirc
import Derived.Test.YtbhldggbjjailaaAPRay
import Derived.Test.YtbhldggbjjailaaAPCos
import Derived.Test.YtbhldggbjjailaaAPTide
import Derived.Test.YtbhldggbjjailaaAPLevels
import Derived.Test.YtbhldggbjjailaaAPWin
import Derived.Test.YtbhldggbjjailaaAPMeet
import Derived.Test.YtbhldggbjjailaaAPRuns
import Derived.Test.YtbhldggbjjailaaAPSlackW
import Derived.Test.YtbhldggbjjailaaAPSurely
import Derived.Test.YtbhldggbjjailaaAPWinds
import Derived.Test.YtbhldggbjjailaaAPWinds2
import Derived.Test.YtbhldggbjjailaaAPWinds3
import Derived.Test.YtbhldggbjjailaaAPDive
import Derived.Test.YtbhldggbjjailaaAPDive2
import Derived.Test.YtbhldggbjjailaaAPDive3
import Derived.Test.YtbhldggbjjailaaA1
import Derived.Test.YtbhldggbjjailaaA2
import Derived.Test.YtbhldggbjjailaaA3
import Derived.Test.YtbhldggbjjailaaA4
import Derived.Test.YtbhldggbjjailaaA5
namespace Go.Proofs.Ytbhldggbjjailaa
open Go Go.Sy
set_option linter.unusedVariables false
set_option linter.unusedSimpArgs false
set_option maxRecDepth 100000
theorem n18_val : n18 = true := by kernel_rfl
theorem e18 : m18 = true := by kernel_rfl
theorem fuel_ok (a b c d e f g h i j k l m n o p q : Nat) : h + 8 ≤ a + b + c + d + e + f + g + h + i + j + k + l + m + n + o + p + q + 8 := by omega
theorem fit_first {q : Nat} {D : Dat} {lo mins : Int} (W : Wns q D) (hb : ∀ j, j < q → lo ≤ D.ii j 0) (h0 : 0 ≤ lo) (h1 : lo ≤ 1000000) (m0 : 1 ≤ mins) (m1 : mins ≤ 500) :
    n33 q D lo mins = true ∧ ((∃ j, j < q ∧ D.ii j 0 + mins - 1 ≤ D.ii j 1 ∧ m33 q D lo mins = (D.ii j 0, 0)) ∨ ((∀ j, j < q → D.ii j 1 < D.ii j 0 + mins - 1) ∧ m33 q D lo mins = (0, 12))) := by
  obtain ⟨w1, w2⟩ := wns_zero W
  have few := W.few
  have mm : m95 mins 1 1000000 = true := by rw [m95_m29]; exact m24_iff.2 ⟨m0, by omega⟩
  have mb : m93 lo = true := by rw [m93_m22]; exact m39_iff.2 ⟨h0, h1⟩
  have o : o33_0 lo mins q D (q : Int) 0 = some (first (fun j => cond (decide (D.ii j 0 + mins - 1 ≤ D.ii j 1)) (some (true, (D.ii j 0, 0), default)) none) (false, default, ()) q 0) :=
    loop_first (l := l33_0 lo mins q D (q : Int)) (n := q) (by omega) (fun f i hi => by
      have a1 := W.lo i hi
      have a2 := W.le i hi
      have a3 := W.hi i hi
      have mx : imax (D.ii i 0) lo = D.ii i 0 := by have := hb i hi; unfold imax; split <;> omega
      have w : IntKind.i64.wrap (IntKind.i64.wrap (D.ii i 0 + mins) - 1) = D.ii i 0 + mins - 1 := by rw [wr (n := D.ii i 0 + mins) (by omega) (by omega), wr (by omega) (by omega)]
      simp only [l33_0, cdl hi, cdd hi, cond_true, Int.toNat_natCast, mx, w]
      cases decide (D.ii i 0 + mins - 1 ≤ D.ii i 1) <;> rfl) (fun f => by simp only [l33_0, cdn]; rfl) q 0 _ (by omega) (by omega)
  refine ⟨by simp only [n33, w1, w2, mm, mb, o, Option.isSome_some, decide_true, cond_true, cond_false]; rfl, ?_⟩
  rcases first_cases (g := fun j => cond (decide (D.ii j 0 + mins - 1 ≤ D.ii j 1)) (some (true, (D.ii j 0, (0 : Int)), (default : Unit))) none) (e := (false, default, ())) q 0 with ⟨j, b, h1, h2, h3, h4, h5⟩ | ⟨h1, h2⟩
  · left
    by_cases hj : D.ii j 0 + mins - 1 ≤ D.ii j 1
    · simp only [decide_eq_true hj, cond_true, Option.some.injEq] at h3
      refine ⟨j, by omega, hj, ?_⟩
      rw [h5, ← h3] at o
      simp only [m33, w2, mm, mb, o, Option.getD_some, decide_true, cond_true, cond_false]
    · simp only [decide_eq_false hj, cond_false] at h3; cases h3
  · right
    rw [h2] at o
    refine ⟨fun j hj => ?_, by simp only [m33, w2, mm, mb, o, Option.getD_some, decide_true, cond_true, cond_false]⟩
    have := h1 j (by omega) (by omega)
    by_cases hq : D.ii j 0 + mins - 1 ≤ D.ii j 1
    · simp only [decide_eq_true hq, cond_true] at this; cases this
    · omega
theorem longer_none {q : Nat} {D : Dat} {mins : Int} (W : Wns q D) (m0 : 1 ≤ mins) (m1 : mins ≤ 500) (h : ∀ j, j < q → D.ii j 1 < D.ii j 0 + mins - 1) : n34 q D mins = true ∧ ∃ E, m34 q D mins = (0, E, 0) := by
  obtain ⟨w1, w2⟩ := wns_zero W
  have few := W.few
  obtain ⟨q1, E, c, q2, q4, q5⟩ := del_ok W mins
  have mm : m95 mins 1 1000000 = true := by rw [m95_m29]; exact m24_iff.2 ⟨m0, by omega⟩
  have z30 : decide (q ≤ 1073741824) = true := decide_eq_true (by omega)
  have k0 : (ks D mins q).length = 0 := by
    rw [List.length_eq_zero_iff]
    unfold ks
    rw [List.filter_eq_nil_iff]
    intro i hi
    have := h i (List.mem_range.1 hi)
    simp only [keep, decide_eq_true_eq]
    omega
  rw [k0] at q4 q5
  exact ⟨by simp only [n34, w1, w2, mm, z30, q1, q5, Nat.zero_add, decide_eq_true q4, decide_true, cond_true, cond_false]; rfl, E, by simp only [m34, w2, mm, q5, decide_true, cond_true, cond_false]⟩
theorem lawDiveWindows (M : Int) (n : Nat) (d : Dat) (l lo hi : Int) (b : Bool) (s0 s1 s2 s3 s4 s5 s6 s7 : Int) (nw : Nat) (dw : Dat) (mins : Int) (hn : n ≤ 9223372036854775807) (hw : nw ≤ 9223372036854775807) :
    n3 M n d l lo hi b s0 s1 s2 s3 s4 s5 s6 s7 nw dw mins = true ∧ m3 M n d l lo hi b s0 s1 s2 s3 s4 s5 s6 s7 nw dw mins = true := by
  obtain ⟨q1, q2, tc⟩ := tab_cases M n hn d
  obtain ⟨w1, w2, w3, wc⟩ := winds_cases (n := nw) (d := dw) hw
  obtain ⟨v1, vc⟩ := shel_cases (s0 := s0) (s1 := s1) (s2 := s2) (s3 := s3) (s4 := s4) (s5 := s5) (s6 := s6) (s7 := s7)
  cases hf : m19 M n d with
  | false => exact ⟨by simp only [n3, n18_val, e18, hf, cond_true, cond_false]; rfl, by simp only [m3, e18, hf, cond_true, cond_false]⟩
  | true =>
  rcases tc with ⟨T, t1, t2⟩ | ⟨e, he, t1, t2⟩
  case inr => exact ⟨by simp only [n3, n18_val, e18, hf, q1, t1, decide_eq_false he, cond_true, cond_false]; rfl, by simp only [m3, e18, hf, t1, decide_eq_false he, cond_true, cond_false]⟩
  by_cases h12 : 12 < nw
  · have z12 : decide ((12 : Int) < (nw : Int)) = true := decide_eq_true (by omega)
    exact ⟨by simp only [n3, n18_val, e18, hf, q1, t1, z12, decide_true, cond_true, cond_false]; rfl, by simp only [m3, e18, hf, t1, z12, decide_true, cond_true, cond_false]⟩
  have z12 : decide ((12 : Int) < (nw : Int)) = false := decide_eq_false (by omega)
  rcases wc with ⟨Wd, wz⟩ | wz
  case inr => exact ⟨by simp only [n3, n18_val, e18, hf, q1, t1, z12, w1, decide_eq_false wz, decide_true, cond_true, cond_false]; rfl, by simp only [m3, e18, hf, t1, z12, decide_eq_false wz, decide_true, cond_true, cond_false]⟩
  rcases vc with ⟨Sh, vz⟩ | ⟨_, vz⟩
  case inr =>
    have v2 : decide ((2 : Int) = 0) = false := rfl
    exact ⟨by simp only [n3, n18_val, e18, hf, q1, t1, z12, w1, wz, v1, vz, v2, decide_true, cond_true, cond_false]; rfl, by simp only [m3, e18, hf, t1, z12, wz, vz, v2, decide_true, cond_true, cond_false]⟩
  rcases span_cases lo hi with ⟨S, s23, s83⟩ | ⟨e, he, s23, s83⟩
  case inr => exact ⟨by simp only [n3, n18_val, e18, hf, q1, t1, z12, w1, wz, v1, vz, s23, decide_eq_false he, decide_true, cond_true, cond_false]; rfl, by simp only [m3, e18, hf, t1, z12, wz, vz, s23, decide_eq_false he, decide_true, cond_true, cond_false]⟩
  have S' := S
  obtain ⟨S0, S1, S2, S3⟩ := S'
  have wd : IntKind.i64.wrap (hi - lo) = hi - lo := wr (by omega) (by omega)
  by_cases h120 : 120 < hi - lo
  · have z120 : decide ((120 : Int) < hi - lo) = true := decide_eq_true h120
    exact ⟨by simp only [n3, n18_val, e18, hf, q1, t1, z12, w1, wz, v1, vz, s23, wd, z120, decide_true, cond_true, cond_false]; rfl, by simp only [m3, e18, hf, t1, z12, wz, vz, s23, wd, z120, decide_true, cond_true, cond_false]⟩
  have z120 : decide ((120 : Int) < hi - lo) = false := decide_eq_false h120
  cases hl : m24 l 0 10000000 with
  | false => exact ⟨by simp only [n3, n18_val, e18, hf, q1, t1, z12, w1, wz, v1, vz, s23, wd, z120, hl, decide_true, cond_true, cond_false]; rfl, by simp only [m3, e18, hf, t1, z12, wz, vz, s23, wd, z120, hl, decide_true, cond_true, cond_false]⟩
  | true =>
  cases hm : m24 mins 1 500 with
  | false => exact ⟨by simp only [n3, n18_val, e18, hf, q1, t1, z12, w1, wz, v1, vz, s23, wd, z120, hl, hm, decide_true, cond_true, cond_false]; rfl, by simp only [m3, e18, hf, t1, z12, wz, vz, s23, wd, z120, hl, hm, decide_true, cond_true, cond_false]⟩
  | true =>
  have ⟨l0, l1⟩ := m24_iff.1 hl
  have ⟨k0, k1⟩ := m24_iff.1 hm
  rw [wz] at w3
  obtain ⟨a1, k, D, R, a2⟩ := win_ok (s := true) T t2 q2 S s83 l0 l1
  obtain ⟨c1, c2, k', D', hk', R', c3⟩ := calm_ok Sh w2 w3 s83 Wd S
  have f8 : decide ((8 : Int) = 8) = true := rfl
  have f80 : decide ((8 : Int) = 0) = false := rfl
  have f08 : decide ((0 : Int) = 8) = false := rfl
  have kk : decide (k' ≤ k') = true := decide_eq_true (Nat.le_refl _)
  by_cases h60 : 60 < k
  · rw [if_pos h60] at a2
    exact ⟨by simp only [n3, n18_val, e18, hf, q1, t1, z12, w1, wz, v1, vz, s23, wd, z120, hl, hm, a1, a2, c1, c2, c3, f8, f80, f08, kk, decide_true, cond_true, cond_false]; rfl, by simp only [m3, e18, hf, t1, z12, wz, vz, s23, wd, z120, hl, hm, a2, c1, c3, f8, decide_true, cond_true, cond_false]⟩
  rw [if_neg h60] at a2
  -- the windows of both
  obtain ⟨K, hK⟩ : ∃ K, (hi - lo + 1).toNat = K + 1 := ⟨(hi - lo).toNat, by omega⟩
  rw [hK] at R R'
  have hk12 : k' ≤ 12 := by
    have e := R'.1
    have h1 := wl_few (n := nw) (d := dw) (s0 := s0) (s1 := s1) (s2 := s2) (s3 := s3) (s4 := s4) (s5 := s5) (s6 := s6) (s7 := s7) lo K
    have h2 := idx_le (n := nw) (d := dw) (lo + (K : Int))
    omega
  have WA := wl_wns R S0 (by omega) (by omega)
  have WB := wl_wns R' S0 (by omega) (by omega)
  obtain ⟨gA, zA⟩ := wns_zero WA
  obtain ⟨gB, zB⟩ := wns_zero WB
  obtain ⟨b1, bc⟩ := meet_ok WA WB zA zB gA gB
  obtain ⟨i1, i2, i3, i4⟩ := meetL_ok _ _ (wns_apt WA) (wns_apt WB)
  rcases bc with ⟨hlen, b2⟩ | ⟨hlen, E, b2, b3⟩
  · exact ⟨by simp only [n3, n18_val, e18, hf, q1, t1, z12, w1, wz, v1, vz, s23, wd, z120, hl, hm, a1, a2, b1, b2, c1, c2, c3, f8, f80, f08, kk, decide_true, cond_true, cond_false]; rfl, by simp only [m3, e18, hf, t1, z12, wz, vz, s23, wd, z120, hl, hm, a2, b2, c1, c3, f8, f80, f08, decide_true, cond_true, cond_false]⟩
  generalize hq : (meetL (lst k D) (lst k' D')).length = q at b2 b3 hlen
  have rng : ∀ w ∈ lst q E, lo ≤ w.1 ∧ w.2 ≤ hi := fun w hw => by
    rw [b3] at hw
    obtain ⟨x, hx, y, hy, rfl⟩ := i4 w hw
    rw [rep_lst R] at hx
    obtain ⟨r1, r2, r3⟩ := (wl_ok _ lo (K + 1)).rng x (List.mem_reverse.1 hx)
    simp only
    omega
  have WE : Wns q E := apt_wns (by rw [b3]; exact i1) hlen fun w hw => by have := rng w hw; omega
  have inE : ∀ m, lo ≤ m → m ≤ hi → m32 q E m = (decide (slk M n d m l = 2) && hasC nw dw s0 s1 s2 s3 s4 s5 s6 s7 m) := fun m g1 g2 => by
    have e1 := (in_ok (n := q) (d := E) m (by omega)).2
    rw [b3, i2, rep_lst R, rep_lst R', wl_in, wl_in, hasW_true] at e1
    rw [Bool.eq_iff_iff, e1, Bool.and_eq_true]
    constructor
    · rintro ⟨⟨_, x⟩, ⟨_, y⟩⟩; exact ⟨x, y⟩
    · rintro ⟨x, y⟩; exact ⟨⟨⟨g1, by omega⟩, x⟩, ⟨⟨g1, by omega⟩, y⟩⟩
  have loop : o3_0 mins q E M n d l lo hi true s0 s1 s2 s3 s4 s5 s6 s7 nw dw lo = some (false, default, ()) :=
    dive_loop T t2 q2 Wd w2 w3 S l0 l1 (fun m => (in_ok m (by omega)).1) inE (hi - lo + 1).toNat _ lo (by omega) (Int.le_refl _) (Nat.lt_of_lt_of_le (show (hi - lo + 1).toNat < hi.toNat + 8 by omega) (fuel_ok _ _ _ _ _ _ _ _ _ _ _ _ _ _ _ _ _))
  have z130 : decide ((130 : Int) < (q : Int)) = false := decide_eq_false (by omega)
  obtain ⟨u1, uc⟩ := fit_first WE (lo := lo) (mins := mins) (fun j hj => (rng _ (mem_lst.2 ⟨j, hj, rfl⟩)).1) S0 (by omega) k0 k1
  rcases uc with ⟨j, hj, hfit, u2⟩ | ⟨hno, u2⟩
  · have ws : IntKind.i64.wrap (mins - 1) = mins - 1 := wr (by omega) (by omega)
    have j0 := WE.lo j hj
    have j1 := WE.le j hj
    have j2 := WE.hi j hj
    obtain ⟨x1, x2⟩ := fits_one (x := E.ii j 0) (s := mins - 1) j0 (by omega) (by omega) (by omega) WE ⟨j, hj, Int.le_refl _, by omega⟩
    have wx : IntKind.i64.wrap (IntKind.i64.wrap (E.ii j 0 + mins) - 1) = E.ii j 0 + (mins - 1) := by rw [wr (n := E.ii j 0 + mins) (by omega) (by omega), wr (by omega) (by omega)]; omega
    exact ⟨by simp only [n3, n18_val, e18, hf, q1, t1, z12, w1, wz, v1, vz, s23, wd, z120, hl, hm, a1, a2, b1, b2, c1, c2, c3, f8, f80, f08, kk, loop, z130, u1, u2, ws, x1, x2, wx, Option.isSome_some, Option.getD_some, decide_true, cond_true, cond_false]; rfl, by simp only [m3, e18, hf, t1, z12, wz, vz, s23, wd, z120, hl, hm, a2, b2, c1, c3, f8, f80, f08, loop, z130, u2, ws, x2, wx, Option.getD_some, decide_true, cond_true, cond_false]⟩
  · obtain ⟨y1, F, y2⟩ := longer_none WE k0 k1 hno
    have f12 : decide ((12 : Int) = 0) = false := rfl
    have z00 : decide (((0 : Nat) : Int) = 0) = true := rfl
    exact ⟨by simp only [n3, n18_val, e18, hf, q1, t1, z12, w1, wz, v1, vz, s23, wd, z120, hl, hm, a1, a2, b1, b2, c1, c2, c3, f8, f80, f08, kk, loop, z130, u1, u2, f12, y1, y2, Option.isSome_some, Option.getD_some, decide_true, cond_true, cond_false]; rfl, by simp only [m3, e18, hf, t1, z12, wz, vz, s23, wd, z120, hl, hm, a2, b2, c1, c3, f8, f80, f08, loop, z130, u2, f12, y2, z00, Option.getD_some, decide_true, cond_true, cond_false]⟩
end Go.Proofs.Ytbhldggbjjailaa
