/-
  Windows of the minutes in one of both, and those of the reference: plain law. Conditions: none.
-/
import Derived.Test.YtlaogoojkfjgoaaBPMeet
namespace Go.Proofs.Ytlaogoojkfjgoaa
open Go Go.Sy
set_option linter.unusedVariables false
set_option linter.unusedSimpArgs false
set_option maxRecDepth 100000
attribute [local simp] brk
theorem arrW_at {N : Nat} {E : Dat} (hE : ∀ q, q < N → 0 ≤ E.ii q 0 ∧ E.ii q 0 ≤ 1000000000) {q : Nat} (hq : q < N) : ((arrW N E)[q]!).1 = (E.ii q 0, E.ii q 1) := by
  rw [getElem!_pos (arrW N E) q (by rw [arrW_size]; exact hq)]
  simp only [arrW, Array.getElem_ofFn]
  rw [dif_pos (hE q hq)]
theorem datW_ok {N : Nat} {E : Dat} (hE : ∀ q, q < N → 0 ≤ E.ii q 0 ∧ E.ii q 0 ≤ 1000000000) : (∀ i j, i < j → j < N → (datW N E).ii i 0 ≤ (datW N E).ii j 0) ∧
    (∀ q, q < N → ∃ r, r < N ∧ (datW N E).ii q 0 = E.ii r 0 ∧ (datW N E).ii q 1 = E.ii r 1) ∧ (∀ r, r < N → ∃ q, q < N ∧ (datW N E).ii q 0 = E.ii r 0 ∧ (datW N E).ii q 1 = E.ii r 1) := by
  have hs := Go.Sort.pdq_sorts (Go.Proofs.ltOf cfW) swoW (arrW N E) 0 N (Go.Lib.bitLen N) true true (Nat.zero_le _) (by rw [arrW_size]; exact Nat.le_refl _) (Or.inl rfl)
  obtain ⟨⟨h1, _, h3⟩, h4⟩ := hs
  rw [arrW_size] at h1
  have hsz : (srtW N E).size = N := h1
  have hp : (srtW N E).toList.Perm (arrW N E).toList := by
    have a : (srtW N E).extract 0 N = srtW N E := Array.extract_eq_self_of_le (by rw [hsz]; exact Nat.le_refl _)
    have b : (arrW N E).extract 0 N = arrW N E := Array.extract_eq_self_of_le (by rw [arrW_size]; exact Nat.le_refl _)
    have h3' : ((srtW N E).extract 0 N).toList.Perm ((arrW N E).extract 0 N).toList := h3
    rw [a, b] at h3'; exact h3'
  have c0 : ∀ q, q < N → (datW N E).ii q 0 = ((srtW N E)[q]!).1.1 := fun q hq => by simp [datW, hq]
  have c1 : ∀ q, q < N → (datW N E).ii q 1 = ((srtW N E)[q]!).1.2 := fun q hq => by simp [datW, hq]
  refine ⟨fun i j hij hj => ?_, fun q hq => ?_, fun r hr => ?_⟩
  · have t := h4 i j (Nat.zero_le _) hij hj
    rw [ltW] at t
    rw [c0 _ (by omega), c0 _ hj]
    exact Int.not_lt.1 (of_decide_eq_false t)
  · have mem : (srtW N E)[q]! ∈ (srtW N E).toList := by rw [getElem!_pos _ q (by omega)]; simp
    obtain ⟨r, hr, e⟩ := List.getElem_of_mem (hp.mem_iff.1 mem)
    have hr' : r < N := by simpa [arrW_size] using hr
    have e2 : (arrW N E)[r]! = (srtW N E)[q]! := by rw [getElem!_pos _ r (by rw [arrW_size]; exact hr'), ← e]; simp
    have e3 := arrW_at hE hr'
    rw [e2] at e3
    exact ⟨r, hr', by rw [c0 q hq, e3], by rw [c1 q hq, e3]⟩
  · have mem : (arrW N E)[r]! ∈ (arrW N E).toList := by rw [getElem!_pos _ r (by rw [arrW_size]; exact hr)]; simp
    obtain ⟨q, hq, e⟩ := List.getElem_of_mem (hp.mem_iff.2 mem)
    have hq' : q < N := by simpa [hsz] using hq
    have e2 : (srtW N E)[q]! = (arrW N E)[r]! := by rw [getElem!_pos _ q (by omega), ← e]; simp
    have e3 := arrW_at hE hr
    exact ⟨q, hq', by rw [c0 q hq', e2, e3], by rw [c1 q hq', e2, e3]⟩
theorem join_run {N M : Nat} {S : Dat} (hr : ∀ q, q < N → 0 ≤ S.ii q 0 ∧ S.ii q 0 ≤ S.ii q 1 ∧ S.ii q 1 ≤ 1000000) (hs : ∀ i j, i < j → j < N → S.ii i 0 ≤ S.ii j 0) (hN : N ≤ 1000) (hM : N ≤ M) (x0 x1 : Dat) :
    ∀ (k i f c : Nat) (D : Dat) (L : List (Int × Int)), i + k = N → k < f → Rep c D L → Gd L → L.length ≤ i → (i < N → ∀ v, v ∈ L → v.1 ≤ S.ii i 0) →
    ∃ c' D' L', l43r_0 N (N : Int) x0 x1 M S f (i : Int) c c D = some (c', c', D') ∧ Rep c' D' L' ∧ Gd L' ∧ L'.length ≤ N ∧ ∀ x, Mb L' x ↔ Mb L x ∨ ∃ q, i ≤ q ∧ q < N ∧ S.ii q 0 ≤ x ∧ x ≤ S.ii q 1
  | 0, i, f, c, D, L, hi, hf, R, G, hl, hH => by
    obtain ⟨f, rfl⟩ : ∃ f', f = f' + 1 := ⟨f - 1, by omega⟩
    obtain rfl : i = N := by omega
    exact ⟨c, D, L, by simp only [l43r_0, cdn, cond_false], R, G, hl, fun x => ⟨.inl, fun h => h.elim id fun ⟨q, h1, h2, _⟩ => by omega⟩⟩
  | k + 1, i, f, c, D, L, hi, hf, R, G, hl, hH => by
    obtain ⟨f, rfl⟩ : ∃ f', f = f' + 1 := ⟨f - 1, by omega⟩
    have hlt : i < N := by omega
    obtain ⟨r0, r1, r2⟩ := hr i hlt
    have hc : c ≤ 3000 := by have := R.1; omega
    obtain ⟨h1, c1, D1, h2, h3⟩ := add_gen R G hc (S.ii i 0) (S.ii i 1)
    obtain ⟨g1, g2, g3, g4, g5⟩ := adL_ok (a := S.ii i 0) (b := S.ii i 1) G ⟨r0, r1, r2⟩ (hH hlt)
    obtain ⟨c', D', L', k1, k2, k3, k4, k5⟩ := join_run hr hs hN hM x0 x1 k (i + 1) f c1 D1 _ (by omega) (by omega) h3 g1 (by omega) fun hn v hv => Int.le_trans (g4 v hv) (hs i (i + 1) (by omega) hn)
    refine ⟨c', D', L', ?_, k2, k3, k4, fun x => ?_⟩
    · simp only [l43r_0, cdl hlt, cdd hlt, Int.toNat_natCast, decide_eq_true (show i < M by omega), h1, h2, wrS hlt (by omega), cond_true]
      exact k1
    · rw [k5, g2]
      constructor
      · rintro ((h | h) | ⟨q, a, b⟩)
        · exact .inl h
        · exact .inr ⟨i, Nat.le_refl _, hlt, h⟩
        · exact .inr ⟨q, by omega, b⟩
      · rintro (h | ⟨q, a, b⟩)
        · exact .inl (.inl h)
        · by_cases hq : q = i
          · subst hq; exact .inl (.inr b.2)
          · exact .inr ⟨q, by omega, b⟩
theorem both_ii (n : Nat) (b d e : Dat) (q c : Nat) : (((b.app 0 d).app (0 + n) e)).ii q c = if q < n then d.ii q c else e.ii (q - n) c := by
  show cond (Nat.blt q (0 + n)) (cond (Nat.blt q 0) (b.ii q c) (d.ii (q - 0) c)) (e.ii (q - (0 + n)) c) = _
  rw [blt_f (Nat.not_lt_zero q), Nat.zero_add, Nat.sub_zero]
  by_cases h : q < n
  · rw [blt_t h, if_pos h]; rfl
  · rw [blt_f h, if_neg h]; rfl
theorem both_in {n m : Nat} {b d e : Dat} {P : Int → Int → Prop} : (∃ q, q < 0 + n + m ∧ P (((b.app 0 d).app (0 + n) e).ii q 0) (((b.app 0 d).app (0 + n) e).ii q 1)) ↔ (∃ q, q < n ∧ P (d.ii q 0) (d.ii q 1)) ∨ ∃ q, q < m ∧ P (e.ii q 0) (e.ii q 1) := by
  simp only [both_ii]
  constructor
  · rintro ⟨q, hq, h⟩
    by_cases hh : q < n
    · rw [if_pos hh, if_pos hh] at h; exact .inl ⟨q, hh, h⟩
    · rw [if_neg hh, if_neg hh] at h; exact .inr ⟨q - n, by omega, h⟩
  · rintro (⟨q, hq, h⟩ | ⟨q, hq, h⟩)
    · exact ⟨q, by omega, by rw [if_pos hq, if_pos hq]; exact h⟩
    · exact ⟨n + q, by omega, by rw [if_neg (by omega), if_neg (by omega), show n + q - n = q by omega]; exact h⟩
theorem both_all {n m : Nat} {b d e : Dat} {P : Int → Int → Prop} (h1 : ∀ q, q < n → P (d.ii q 0) (d.ii q 1)) (h2 : ∀ q, q < m → P (e.ii q 0) (e.ii q 1)) (q : Nat) (hq : q < 0 + n + m) : P (((b.app 0 d).app (0 + n) e).ii q 0) (((b.app 0 d).app (0 + n) e).ii q 1) := by
  simp only [both_ii]
  by_cases hh : q < n
  · rw [if_pos hh, if_pos hh]; exact h1 q hh
  · rw [if_neg hh, if_neg hh]; exact h2 _ (by omega)
theorem concat_ok {n m : Nat} {d e : Dat} (hn : n ≤ 1000) (hm : m ≤ 1000) {Y : Dat} (hY : Y = datS [SV.ro [Kd.int IntKind.i64, Kd.int IntKind.i64] n d, SV.ro [Kd.int IntKind.i64, Kd.int IntKind.i64] m e] 1) :
    n107 2 Y = true ∧ m107 2 Y = (0 + n + m, 0 + n + m, (noDat.app 0 d).app (0 + n) e) := by
  have p0 : Y.sn 0 0 = n := by rw [hY]; rfl
  have p1 : Y.sn 1 0 = m := by rw [hY]; rfl
  have p2 : Y.sub 0 0 = d := by rw [hY]; rfl
  have p3 : Y.sub 1 0 = e := by rw [hY]; rfl
  have w1 : IntKind.i64.wrap (0 + (n : Int)) = (n : Int) := by rw [wr (by omega) (by omega)]; omega
  have w2 : IntKind.i64.wrap ((n : Int) + (m : Int)) = (n : Int) + (m : Int) := wr (by omega) (by omega)
  have w3 : IntKind.i64.wrap ((0 : Int) + 1) = 1 := rfl
  have w4 : IntKind.i64.wrap ((1 : Int) + 1) = 2 := rfl
  have t0 : (0 : Int).toNat = 0 := rfl
  have t1 : (1 : Int).toNat = 1 := rfl
  have c2 : ((2 : Nat) : Int) = 2 := rfl
  have z0 : decide ((0 : Int) < 2) = true := rfl
  have z1 : decide ((1 : Int) < 2) = true := rfl
  have z2 : decide ((2 : Int) < 2) = false := rfl
  have y0 : decide ((0 : Int) ≤ 0 ∧ (0 : Int) < 2) = true := rfl
  have y1 : decide ((0 : Int) ≤ 1 ∧ (1 : Int) < 2) = true := rfl
  have o0 : ∀ f, l107_0 2 Y Y 2 (f + 3) 0 0 = some ((n : Int) + (m : Int)) := fun f => by
    simp only [l107_0, c2, z0, z1, z2, y0, y1, t0, t1, p0, p1, w1, w2, w3, w4, decide_eq_false (show ¬ (n : Int) < 0 by omega), decide_eq_false (show ¬ (n : Int) + (m : Int) < 0 by omega), cond_true, cond_false]
  have o2 : ∀ f, l107_2 2 Y 2 (f + 3) 0 0 noDat = some (0 + n + m, 0 + n + m, (noDat.app 0 d).app (0 + n) e) := fun f => by
    simp only [l107_2, c2, z0, z1, z2, y0, y1, t0, t1, p0, p1, p2, p3, w3, w4, decide_eq_true (show 0 + n ≤ 1073741824 by omega), decide_eq_true (show 0 + n + m ≤ 1073741824 by omega), cond_true, cond_false]
  have a0 : o107_0 2 Y Y ((2 : Nat) : Int) 0 0 = some ((n : Int) + (m : Int)) := o0 9
  have a2 : o107_2 2 Y ((2 : Nat) : Int) 0 0 noDat = some (0 + n + m, 0 + n + m, (noDat.app 0 d).app (0 + n) e) := o2 9
  constructor
  · simp only [n107, a0, a2, Option.isSome_some, Option.getD_some, n136, decide_eq_true (show 0 ≤ (n : Int) + (m : Int) ∧ (n : Int) + (m : Int) ≤ 1073741824 by omega)]; rfl
  · simp only [m107, a2, Option.getD_some]
theorem join_ok {n m : Nat} {d e : Dat} (W : Wns n d) (V : Wns m e) (hd : m45 n d = 0) (he : m45 m e = 0) (hs : n + m ≤ 60) :
    n43r n d m e = true ∧ ∃ c D L, m43r n d m e = (c, D, 0) ∧ Rep c D L ∧ Gd L ∧ L.length ≤ n + m ∧ ∀ x, Mb L x ↔ InW n d x ∨ InW m e x := by
  obtain ⟨g1, g2⟩ := lists_ok n m d e (by omega) (by omega)
  rw [hd, he] at g2
  obtain ⟨Y, hY⟩ : ∃ Y, Y = datS [SV.ro [Kd.int IntKind.i64, Kd.int IntKind.i64] n d, SV.ro [Kd.int IntKind.i64, Kd.int IntKind.i64] m e] 1 := ⟨_, rfl⟩
  rw [← hY] at g1 g2
  obtain ⟨k1, k2⟩ := concat_ok (d := d) (e := e) (show n ≤ 1000 by omega) (show m ≤ 1000 by omega) hY
  have hall := both_all (n := n) (m := m) (b := noDat) (d := d) (e := e) (P := fun a b => 0 ≤ a ∧ a ≤ b ∧ b ≤ 1000000) (fun q hq => ⟨W.lo q hq, W.le q hq, W.hi q hq⟩) (fun q hq => ⟨V.lo q hq, V.le q hq, V.hi q hq⟩)
  have hin : ∀ x, (∃ q, q < 0 + n + m ∧ ((noDat.app 0 d).app (0 + n) e).ii q 0 ≤ x ∧ x ≤ ((noDat.app 0 d).app (0 + n) e).ii q 1) ↔ InW n d x ∨ InW m e x := fun x => both_in (P := fun a b => a ≤ x ∧ x ≤ b)
  generalize (noDat.app 0 d).app (0 + n) e = E at *
  obtain ⟨N, hN⟩ : ∃ N, N = 0 + n + m := ⟨_, rfl⟩
  rw [← hN] at k2 hall hin
  have hN60 : N ≤ 60 := by omega
  obtain ⟨s1, s2, s3⟩ := datW_ok (N := N) (E := E) (fun q hq => by have := hall q hq; omega)
  have k3 : n108r N N E = true := by
    simp only [n108r, Nat.le_refl, decide_true, decide_eq_true (show N ≤ 1000000 by omega), Bool.true_and, List.all_eq_true, List.mem_range]
    intro q hq
    have := hall q hq
    rw [decide_eq_true (show 0 ≤ E.ii q 0 by omega), decide_eq_true (show E.ii q 0 ≤ 1000000000 by omega)]; rfl
  obtain ⟨c, D, L, r1, r2, r3, r4, r5⟩ := join_run (N := N) (M := N) (S := datW N E) (fun q hq => by obtain ⟨r, hr, e1, e2⟩ := s2 q hq; rw [e1, e2]; exact hall r hr) s1 (by omega) (Nat.le_refl N) Y Y N 0 (N + (N : Int).toNat + (0 : Int).toNat + N + 0 + 0 + 8) 0 noDat [] (by omega) (by omega) rep_nil trivial (by simp) (fun _ v hv => by simp at hv)
  have o : o43r_0 N (N : Int) Y Y N (datW N E) 0 0 0 noDat = some (c, c, D) := r1
  have hc : c ≤ 60 := by have := r2.1; omega
  have z : decide ((60 : Int) < (c : Int)) = false := decide_eq_false (by omega)
  have z0 : m104 2 Y = 0 := by rw [g2]; rfl
  refine ⟨?_, c, D, L, ?_, r2, r3, by omega, fun x => ?_⟩
  · simp only [n43r, ← hY, g1, z0, k1, k2, k3, m108r, o, n106a, n106b, m106b, z, Option.getD_some, Option.isSome_some, Nat.zero_add, Nat.le_refl, decide_true, cond_true, cond_false]; rfl
  · simp only [m43r, ← hY, z0, k2, m108r, o, n106a, m106b, z, Option.getD_some, Nat.zero_add, decide_true, cond_true, cond_false]; rfl
  · rw [r5, ← hin]
    constructor
    · rintro (h | ⟨q, _, hq, h⟩)
      · exact (mb_nil h).elim
      · obtain ⟨r, hr, e1, e2⟩ := s2 q hq
        exact ⟨r, hr, by rw [← e1, ← e2]; exact h⟩
    · rintro ⟨r, hr, h⟩
      obtain ⟨q, hq, e1, e2⟩ := s3 r hr
      exact .inr ⟨q, Nat.zero_le _, hq, by rw [e1, e2]; exact h⟩
def Stp (c : Nat) (D : Dat) : Prop := ∀ i j, i < j → j < c → D.ii i 0 < D.ii j 0
def Has (c : Nat) (D : Dat) (x : Int) : Prop := ∃ j, j < c ∧ D.ii j 0 = x
theorem find_run {c N M : Nat} {B D : Dat} {v t7 a0 a1 t : Int} (hc : c ≤ 1000) : ∀ (k i f : Nat), i + k = c → k < f → (∀ j, j < i → D.ii j 0 < v) →
    ∃ p : Nat, p ≤ c ∧ (∀ j, j < p → D.ii j 0 < v) ∧ (p < c → v ≤ D.ii p 0) ∧ l139_4 c N t7 v a0 a1 t M B c D f (i : Int) = some (p : Int)
  | 0, i, f, hi, hf, h => by
    obtain ⟨f, rfl⟩ : ∃ f', f = f' + 1 := ⟨f - 1, by omega⟩
    obtain rfl : i = c := by omega
    exact ⟨i, Nat.le_refl _, h, fun h => by omega, by simp only [l139_4, cdn, cond_true, cond_false]⟩
  | k + 1, i, f, hi, hf, h => by
    obtain ⟨f, rfl⟩ : ∃ f', f = f' + 1 := ⟨f - 1, by omega⟩
    have hlt : i < c := by omega
    by_cases hv : D.ii i 0 < v
    · obtain ⟨p, p1, p2, p3, p4⟩ := find_run hc k (i + 1) f (by omega) (by omega) fun j hj => by
        by_cases hh : j = i
        · subst hh; exact hv
        · exact h j (by omega)
      refine ⟨p, p1, p2, p3, ?_⟩
      simp only [l139_4, cdl hlt, cdd hlt, Int.toNat_natCast, decide_eq_true hlt, decide_eq_true hv, wrS hlt (by omega), cond_true, cond_false]
      exact p4
    · exact ⟨i, by omega, h, fun _ => by omega, by simp only [l139_4, cdl hlt, cdd hlt, Int.toNat_natCast, decide_eq_true hlt, decide_eq_false hv, cond_true, cond_false]⟩
theorem ins_ii (p : Nat) (b D : Dat) (v : Int) (j : Nat) : (((b.app 0 D).app (0 + p) (datS [SV.int IntKind.i64 v] 1)).app (0 + p + 1) (D.shift p)).ii j 0 = if j < p then D.ii j 0 else if j = p then v else D.ii (j - 1) 0 := by
  show cond (Nat.blt j (0 + p + 1)) (cond (Nat.blt j (0 + p)) (cond (Nat.blt j 0) (b.ii j 0) (D.ii (j - 0) 0)) ((datS [SV.int IntKind.i64 v] 1).ii (j - (0 + p)) 0)) ((D.shift p).ii (j - (0 + p + 1)) 0) = _
  rw [shift_ii, blt_f (Nat.not_lt_zero j), Nat.zero_add, Nat.sub_zero]
  by_cases h1 : j < p
  · rw [blt_t (show j < p + 1 by omega), blt_t h1, if_pos h1]; rfl
  · rw [if_neg h1, blt_f h1]
    by_cases h2 : j = p
    · subst h2; rw [blt_t (show j < j + 1 by omega), if_pos rfl, Nat.sub_self]; rfl
    · rw [blt_f (show ¬ j < p + 1 by omega), if_neg h2, show p + (j - (p + 1)) = j - 1 by omega]; rfl
theorem ins_ok {c N M : Nat} {B D : Dat} {t7 a0 a1 : Int} (S : Stp c D) (hc : c ≤ 900) (q : Nat) (hq : q < 2) : ∃ c' D', o139_3 c N t7 a0 a1 (q : Int) M B c D = some (c', c', D') ∧ Stp c' D' ∧ c' ≤ c + 1 ∧
    ∀ x, Has c' D' x ↔ Has c D x ∨ x = intAt [SV.int IntKind.i64 a0, SV.int IntKind.i64 a1] q := by
  obtain ⟨v, hv⟩ : ∃ v, v = intAt [SV.int IntKind.i64 a0, SV.int IntKind.i64 a1] q := ⟨_, rfl⟩
  have hv' : intAt [SV.int IntKind.i64 a0, SV.int IntKind.i64 a1] ((q : Int)).toNat = v := by rw [hv, Int.toNat_natCast]
  obtain ⟨p, p1, p2, p3, p4⟩ := find_run (c := c) (N := N) (M := M) (B := B) (D := D) (v := v) (t7 := t7) (a0 := a0) (a1 := a1) (t := (q : Int)) (by omega) c 0 (c + N + t7.toNat + v.toNat + (0 : Int).toNat + a0.toNat + a1.toNat + (q : Int).toNat + M + c + 8) (by omega) (by omega) (fun j hj => by omega)
  have o : o139_4 c N t7 v a0 a1 (q : Int) M B c D 0 = some (p : Int) := p4
  rw [← hv]
  have hv2 : intAt [SV.int IntKind.i64 a0, SV.int IntKind.i64 a1] q = v := hv.symm
  have z9 : decide (0 ≤ (q : Int) ∧ (q : Int) < 2) = true := decide_eq_true ⟨by omega, by omega⟩
  have z0 : decide (0 ≤ (q : Int) ∧ (q : Int) < ((2 : Nat) : Int)) = true := decide_eq_true ⟨by omega, by omega⟩
  have z1 : decide ((0 : Int) ≤ (0 : Int) ∧ (0 : Int) ≤ (p : Int) ∧ (p : Int) ≤ (c : Int)) = true := decide_eq_true ⟨by omega, by omega, by omega⟩
  have z2 : decide (0 ≤ (p : Int) ∧ (p : Int) ≤ (c : Int) ∧ (c : Int) ≤ (c : Int)) = true := decide_eq_true ⟨by omega, by omega, by omega⟩
  have e1 : ((c : Int) - (p : Int)).toNat = c - p := by omega
  have new : ∀ D', D' = (((datS [] 1).app 0 D).app (0 + p) (datS [SV.int IntKind.i64 v] 1)).app (0 + p + 1) (D.shift p) → (p < c → D.ii p 0 ≠ v) → Stp (c + 1) D' ∧ ∀ x, Has (c + 1) D' x ↔ Has c D x ∨ x = v := by
    intro D' hD hne
    have ii : ∀ j, D'.ii j 0 = if j < p then D.ii j 0 else if j = p then v else D.ii (j - 1) 0 := fun j => by rw [hD]; exact ins_ii p _ D v j
    refine ⟨fun i j hij hj => ?_, fun x => ⟨?_, ?_⟩⟩
    · rw [ii, ii]
      have hp : p < c → v < D.ii p 0 := fun h => by have := p3 h; have := hne h; omega
      by_cases h1 : i < p
      · rw [if_pos h1]
        by_cases h2 : j < p
        · rw [if_pos h2]; exact S i j hij (by omega)
        · rw [if_neg h2]
          by_cases h3 : j = p
          · rw [if_pos h3]; exact p2 i h1
          · rw [if_neg h3]; exact S i (j - 1) (by omega) (by omega)
      · rw [if_neg h1, if_neg (show ¬ j < p by omega), if_neg (show ¬ j = p by omega)]
        by_cases h2 : i = p
        · rw [if_pos h2]
          have := hp (by omega)
          by_cases h3 : j - 1 = p
          · rw [h3]; exact this
          · have := S p (j - 1) (by omega) (by omega); omega
        · rw [if_neg h2]; exact S (i - 1) (j - 1) (by omega) (by omega)
    · rintro ⟨j, hj, hx⟩
      rw [ii] at hx
      by_cases h1 : j < p
      · rw [if_pos h1] at hx; exact .inl ⟨j, by omega, hx⟩
      · rw [if_neg h1] at hx
        by_cases h2 : j = p
        · rw [if_pos h2] at hx; exact .inr hx.symm
        · rw [if_neg h2] at hx; exact .inl ⟨j - 1, by omega, hx⟩
    · rintro (⟨j, hj, hx⟩ | hx)
      · by_cases h1 : j < p
        · exact ⟨j, by omega, by rw [ii, if_pos h1]; exact hx⟩
        · exact ⟨j + 1, by omega, by rw [ii, if_neg (by omega), if_neg (by omega)]; exact hx⟩
      · exact ⟨p, by omega, by rw [ii, if_neg (by omega), if_pos rfl]; exact hx.symm⟩
  by_cases hpc : p = c
  · have z3 : decide ((p : Int) = (c : Int)) = true := decide_eq_true (by omega)
    obtain ⟨n1, n2⟩ := new _ rfl (fun h => by omega)
    have e2 : 0 + p + 1 + (c - p) = c + 1 := by omega
    refine ⟨c + 1, _, ?_, n1, Nat.le_refl _, n2⟩
    simp only [o139_3, l139_3, hv', hv2, o, z0, z9, z1, z2, z3, e1, Option.isSome_some, Option.getD_some, Int.toNat_natCast, decide_eq_true (show 0 + p ≤ c by omega), decide_eq_true (show 0 + p ≤ 1073741824 by omega), decide_eq_true (show 0 + p + 1 ≤ 1073741824 by omega), decide_eq_true (show p + (c - p) ≤ c by omega), e2, decide_eq_true (show c + 1 ≤ 1073741824 by omega), cond_true, cond_false]
  · have hlt : p < c := by omega
    have z3 : decide ((p : Int) = (c : Int)) = false := decide_eq_false (by omega)
    by_cases hh : D.ii p 0 = v
    · refine ⟨c, D, ?_, S, by omega, fun x => ⟨.inl, fun h => h.elim id fun h => ⟨p, hlt, by rw [hh, h]⟩⟩⟩
      simp only [o139_3, l139_3, hv', hv2, o, z0, z9, z3, cdd hlt, Option.isSome_some, Option.getD_some, Int.toNat_natCast, decide_eq_true hlt, hh, decide_true, cond_true, cond_false]
    · obtain ⟨n1, n2⟩ := new _ rfl (fun _ => hh)
      have e2 : 0 + p + 1 + (c - p) = c + 1 := by omega
      refine ⟨c + 1, _, ?_, n1, Nat.le_refl _, n2⟩
      simp only [o139_3, l139_3, hv', hv2, o, z0, z9, z1, z2, z3, e1, cdd hlt, Option.isSome_some, Option.getD_some, Int.toNat_natCast, decide_eq_true hlt, decide_eq_false hh, decide_eq_true (show 0 + p ≤ c by omega), decide_eq_true (show 0 + p ≤ 1073741824 by omega), decide_eq_true (show 0 + p + 1 ≤ 1073741824 by omega), decide_eq_true (show p + (c - p) ≤ c by omega), e2, decide_eq_true (show c + 1 ≤ 1073741824 by omega), cond_true, cond_false]
theorem steps_run {N : Nat} {B : Dat} (hN : N ≤ 200) (hr : ∀ q, q < N → 0 ≤ B.ii q 1 ∧ B.ii q 1 ≤ 1000000) : ∀ (k i f c : Nat) (D : Dat), i + k = N → k < f → Stp c D → c ≤ 2 * i →
    ∃ c' D', l139_0 N B f c (i : Int) c D = some (c', c', D') ∧ Stp c' D' ∧ c' ≤ 2 * N ∧ ∀ x, Has c' D' x ↔ Has c D x ∨ ∃ q, i ≤ q ∧ q < N ∧ (x = B.ii q 0 ∨ x = B.ii q 1 + 1)
  | 0, i, f, c, D, hi, hf, S, hc => by
    obtain ⟨f, rfl⟩ : ∃ f', f = f' + 1 := ⟨f - 1, by omega⟩
    obtain rfl : i = N := by omega
    exact ⟨c, D, by simp only [l139_0, cdn, cond_false], S, hc, fun x => ⟨.inl, fun h => h.elim id fun ⟨q, h1, h2, _⟩ => by omega⟩⟩
  | k + 1, i, f, c, D, hi, hf, S, hc => by
    obtain ⟨f, rfl⟩ : ∃ f', f = f' + 1 := ⟨f - 1, by omega⟩
    have hlt : i < N := by omega
    obtain ⟨r0, r1⟩ := hr i hlt
    have w : IntKind.i64.wrap (B.ii i 1 + 1) = B.ii i 1 + 1 := wr (by omega) (by omega)
    obtain ⟨c1, D1, x1, x2, x3, x4⟩ := ins_ok (N := N) (M := N) (B := B) (t7 := (i : Int)) (a0 := B.ii i 0) (a1 := B.ii i 1 + 1) S (by omega) 0 (by omega)
    obtain ⟨c2, D2, y1, y2, y3, y4⟩ := ins_ok (N := N) (M := N) (B := B) (t7 := (i : Int)) (a0 := B.ii i 0) (a1 := B.ii i 1 + 1) x2 (by omega) 1 (by omega)
    have x1' : o139_3 c N (i : Int) (B.ii i 0) (B.ii i 1 + 1) 0 N B c D = some (c1, c1, D1) := x1
    have y1' : o139_3 c1 N (i : Int) (B.ii i 0) (B.ii i 1 + 1) 1 N B c1 D1 = some (c2, c2, D2) := y1
    have i0 : intAt [SV.int IntKind.i64 (B.ii i 0), SV.int IntKind.i64 (B.ii i 1 + 1)] 0 = B.ii i 0 := rfl
    have i1 : intAt [SV.int IntKind.i64 (B.ii i 0), SV.int IntKind.i64 (B.ii i 1 + 1)] 1 = B.ii i 1 + 1 := rfl
    rw [i0] at x4
    rw [i1] at y4
    obtain ⟨c', D', k1, k2, k3, k4⟩ := steps_run hN hr k (i + 1) f c2 D2 (by omega) (by omega) y2 (by omega)
    refine ⟨c', D', ?_, k2, k3, fun x => ?_⟩
    · simp only [l139_0, cdl hlt, cdd hlt, Int.toNat_natCast, decide_eq_true hlt, w, x1', y1', Option.isSome_some, Option.getD_some, wrS hlt (by omega), cond_true]
      exact k1
    · rw [k4, y4, x4]
      constructor
      · rintro (((h | h) | h) | ⟨q, a, b⟩)
        · exact .inl h
        · exact .inr ⟨i, Nat.le_refl _, hlt, .inl h⟩
        · exact .inr ⟨i, Nat.le_refl _, hlt, .inr h⟩
        · exact .inr ⟨q, by omega, b⟩
      · rintro (h | ⟨q, a, b, h⟩)
        · exact .inl (.inl (.inl h))
        · by_cases hq : q = i
          · subst hq
            rcases h with h | h
            · exact .inl (.inl (.inr h))
            · exact .inl (.inr h)
          · exact .inr ⟨q, by omega, b, h⟩
theorem steps_ok {n m : Nat} {d e : Dat} (W : Wns n d) (V : Wns m e) : n139 n d m e = true ∧ ∃ c D, m139 n d m e = (c, D) ∧ Stp c D ∧ c ≤ 1000 ∧ ∀ x, Has c D x ↔ (∃ q, q < n ∧ (x = d.ii q 0 ∨ x = d.ii q 1 + 1)) ∨ ∃ q, q < m ∧ (x = e.ii q 0 ∨ x = e.ii q 1 + 1) := by
  have f1 := W.few; have f2 := V.few
  have hall := both_all (n := n) (m := m) (b := datS [] 2) (d := d) (e := e) (P := fun a b => 0 ≤ b ∧ b ≤ 1000000) (fun q hq => ⟨by have := W.lo q hq; have := W.le q hq; omega, W.hi q hq⟩) (fun q hq => ⟨by have := V.lo q hq; have := V.le q hq; omega, V.hi q hq⟩)
  have hin : ∀ x, (∃ q, q < 0 + n + m ∧ (x = (((datS [] 2).app 0 d).app (0 + n) e).ii q 0 ∨ x = (((datS [] 2).app 0 d).app (0 + n) e).ii q 1 + 1)) ↔ _ := fun x => both_in (P := fun a b => x = a ∨ x = b + 1)
  obtain ⟨c, D, k1, k2, k3, k4⟩ := steps_run (N := 0 + n + m) (B := (((datS [] 2).app 0 d).app (0 + n) e)) (by omega) hall (0 + n + m) 0 (0 + (0 + n + m) + (0 : Int).toNat + 0 + 8) 0 noDat (by omega) (by omega) (fun i j _ h => by omega) (by omega)
  have o : o139_0 (0 + n + m) (((datS [] 2).app 0 d).app (0 + n) e) 0 0 0 noDat = some (c, c, D) := k1
  refine ⟨?_, c, D, ?_, k2, by omega, fun x => ?_⟩
  · simp only [n139, o, Option.isSome_some, Option.getD_some, decide_eq_true (show 0 + n ≤ 1073741824 by omega), decide_eq_true (show 0 + n + m ≤ 1073741824 by omega), Nat.zero_add, Nat.le_refl, decide_true] at *
    simp only [o, Option.isSome_some, Option.getD_some, Nat.le_refl, decide_true, decide_eq_true (show n ≤ 1073741824 by omega), decide_eq_true (show n + m ≤ 1073741824 by omega)]; rfl
  · simp only [m139, o, Option.getD_some]
  · rw [k4, ← hin]
    constructor
    · rintro (⟨j, hj, _⟩ | ⟨q, _, h⟩)
      · omega
      · exact ⟨q, h⟩
    · rintro ⟨q, h⟩
      exact .inr ⟨q, Nat.zero_le _, h⟩
end Go.Proofs.Ytlaogoojkfjgoaa
