/-
  The fewest points: the labels, the kept list, the picked points: plain law. Conditions: none.
-/
import Derived.Test.YtchhhoamnagbfaaDoorGPDist
namespace Go.Proofs.YtchhhoamnagbfaaDoor
open Go Go.Sy
set_option linter.unusedVariables false
set_option linter.unusedSimpArgs false
set_option linter.unusedSectionVars false
set_option maxRecDepth 100000
attribute [local simp] brk
noncomputable def stp (s : Dat × Dat) (p : Nat × Nat) : Dat × Dat :=
  cond (decide (s.1.ii p.1 0 + 1 < s.1.ii p.2 0)) (s.1.upd p.2 0 [SV.int IntKind.i64 (s.1.ii p.1 0 + 1)], s.2.upd p.2 0 [SV.int IntKind.i64 (p.1 : Int)]) s
theorem upd_ii (D : Dat) (k q : Nat) (x : Int) : (D.upd k 0 [SV.int IntKind.i64 x]).ii q 0 = if q = k then x else D.ii q 0 := by
  by_cases h : q = k <;> simp [Dat.upd, h]
structure LI (n : Nat) (al : Nat → Nat → Prop) (j i : Nat) (s : Dat × Dat) : Prop where
  z : s.1.ii 0 0 = 0
  fin : ∀ t, 1 ≤ t → t < j → (1 ≤ s.1.ii t 0 ∧ s.1.ii t 0 ≤ (t : Int)) ∧ (∃ u, u < t ∧ s.2.ii t 0 = (u : Int) ∧ al u t ∧ s.1.ii t 0 = s.1.ii u 0 + 1) ∧ ∀ u, u < t → al u t → s.1.ii t 0 ≤ s.1.ii u 0 + 1
  cur : 1 ≤ j → j < n → (s.1.ii j 0 = (n : Int) ∨ ∃ u, u < i ∧ s.2.ii j 0 = (u : Int) ∧ al u j ∧ s.1.ii j 0 = s.1.ii u 0 + 1) ∧ (∀ u, u < i → al u j → s.1.ii j 0 ≤ s.1.ii u 0 + 1) ∧ s.1.ii j 0 ≤ (n : Int)
  rest : ∀ t, j < t → t < n → s.1.ii t 0 = (n : Int)
section
variable {n : Nat} {al : Nat → Nat → Prop}
theorem LI.low {j i : Nat} {s : Dat × Dat} (h : LI n al j i s) {u : Nat} (hu : u < j) : 0 ≤ s.1.ii u 0 ∧ s.1.ii u 0 ≤ (u : Int) := by
  by_cases h0 : u = 0
  · subst h0; rw [h.z]; omega
  · have := (h.fin u (by omega) hu).1; omega
theorem LI.bnd {j i : Nat} {s : Dat × Dat} (h : LI n al j i s) (hij : i ≤ j) (hj : 1 ≤ j) {u : Nat} (hu : u < n) : 0 ≤ s.1.ii u 0 ∧ s.1.ii u 0 ≤ (n : Int) := by
  rcases Nat.lt_trichotomy u j with h1 | h1 | h1
  · have := h.low h1; omega
  · subst h1
    obtain ⟨c1, _, c3⟩ := h.cur hj hu
    refine ⟨?_, c3⟩
    rcases c1 with c1 | ⟨u', hu', _, _, e⟩
    · omega
    · have := h.low (show u' < u by omega); omega
  · have := h.rest u h1 hu; omega
theorem LI.skip {j i : Nat} {s : Dat × Dat} (h : LI n al j i s) (hno : ¬ al i j) : LI n al j (i + 1) s :=
  ⟨h.z, h.fin, fun h1 h2 => by
    obtain ⟨c1, c2, c3⟩ := h.cur h1 h2
    refine ⟨c1.imp id fun ⟨u, hu, r⟩ => ⟨u, by omega, r⟩, fun u hu ha => ?_, c3⟩
    by_cases e : u = i
    · subst e; exact (hno ha).elim
    · exact c2 u (by omega) ha, h.rest⟩
theorem LI.step {j i : Nat} {s : Dat × Dat} (h : LI n al j i s) (hi : i < j) (hj : j < n) (ha : al i j) : LI n al j (i + 1) (stp s (i, j)) := by
  have hj1 : 1 ≤ j := by omega
  obtain ⟨c1, c2, c3⟩ := h.cur hj1 hj
  unfold stp
  by_cases hh : s.1.ii i 0 + 1 < s.1.ii j 0
  · rw [decide_eq_true hh]
    have low := h.low hi
    refine ⟨?_, fun t t1 t2 => ?_, fun _ _ => ⟨.inr ⟨i, by omega, ?_, ha, ?_⟩, fun u hu hau => ?_, ?_⟩, fun t t1 t2 => ?_⟩
    · show (s.1.upd j 0 _).ii 0 0 = 0
      rw [upd_ii, if_neg (by omega)]; exact h.z
    · obtain ⟨f1, ⟨u, f2, f3, f4, f5⟩, f6⟩ := h.fin t t1 t2
      show _ ∧ _ ∧ _
      simp only [cond_true, upd_ii]
      rw [if_neg (by omega), if_neg (show ¬ t = j by omega)]
      refine ⟨f1, ⟨u, f2, f3, f4, by rw [if_neg (by omega)]; exact f5⟩, fun u hu hau => ?_⟩
      rw [if_neg (by omega)]; exact f6 u hu hau
    · show (s.2.upd j 0 _).ii j 0 = _
      rw [upd_ii, if_pos rfl]
    · show (s.1.upd j 0 _).ii j 0 = (s.1.upd j 0 _).ii i 0 + 1
      rw [upd_ii, if_pos rfl, upd_ii, if_neg (by omega)]
    · show (s.1.upd j 0 _).ii j 0 ≤ (s.1.upd j 0 _).ii u 0 + 1
      rw [upd_ii, if_pos rfl, upd_ii, if_neg (by omega)]
      show s.1.ii i 0 + 1 ≤ s.1.ii u 0 + 1
      by_cases e : u = i
      · subst e; exact Int.le_refl _
      · have := c2 u (by omega) hau; omega
    · show (s.1.upd j 0 _).ii j 0 ≤ _
      rw [upd_ii, if_pos rfl]
      show s.1.ii i 0 + 1 ≤ (n : Int)
      omega
    · show (s.1.upd j 0 _).ii t 0 = _
      rw [upd_ii, if_neg (by omega)]; exact h.rest t t1 t2
  · rw [decide_eq_false hh]
    refine ⟨h.z, h.fin, fun _ _ => ⟨c1.imp id fun ⟨u, hu, r⟩ => ⟨u, by omega, r⟩, fun u hu hau => ?_, c3⟩, h.rest⟩
    by_cases e : u = i
    · subst e; show s.1.ii j 0 ≤ s.1.ii u 0 + 1; omega
    · exact c2 u (by omega) hau
theorem LI.next {j : Nat} {s : Dat × Dat} (h : LI n al j j s) (hj1 : 1 ≤ j) (hj : j < n) (adj : al (j - 1) j) : LI n al (j + 1) 0 s := by
  obtain ⟨c1, c2, c3⟩ := h.cur hj1 hj
  have a := c2 (j - 1) (by omega) adj
  have low := h.low (show j - 1 < j by omega)
  obtain ⟨u, hu, e1, e2, e3⟩ : ∃ u, u < j ∧ s.2.ii j 0 = (u : Int) ∧ al u j ∧ s.1.ii j 0 = s.1.ii u 0 + 1 := by
    rcases c1 with c1 | c1
    · omega
    · exact c1
  have lu := h.low hu
  refine ⟨h.z, fun t t1 t2 => ?_, fun _ h2 => ⟨.inl (h.rest _ (by omega) h2), fun u hu => by omega, by rw [h.rest _ (by omega) h2]; exact Int.le_refl _⟩, fun t t1 t2 => h.rest t (by omega) t2⟩
  by_cases e : t = j
  · subst e
    exact ⟨⟨by omega, by omega⟩, ⟨u, hu, e1, e2, e3⟩, c2⟩
  · exact h.fin t t1 (by omega)
end
section
variable {t m : Dat} {n : Nat} (hn : t.sn 0 0 = n)
include hn
theorem li_L2 {j : Nat} (hj1 : 1 ≤ j) (hj : j < n) : ∀ (i : Nat) (s : Dat × Dat), i ≤ j → LI n (fun i j => al102 t m i j = true) j 0 s → LI n (fun i j => al102 t m i j = true) j i ((L2_32 t m j i).foldl stp s)
  | 0, s, _, h => h
  | i + 1, s, hi, h => by
    have ih := li_L2 hj1 hj i s (by omega) h
    rw [L2_32, List.foldl_append]
    cases ha : al102 t m i j with
    | true => exact ih.step (by omega) hj ha
    | false => exact ih.skip (by rw [ha]; decide)
theorem li_L1 (adj : ∀ j, 1 ≤ j → j < n → al102 t m (j - 1) j = true) : ∀ (j : Nat) (s : Dat × Dat), 1 ≤ j → j ≤ n → LI n (fun i j => al102 t m i j = true) 1 0 s → LI n (fun i j => al102 t m i j = true) j 0 ((L1_32 t m j).foldl stp s)
  | 0, s, h, _, _ => absurd h (by decide)
  | j + 1, s, _, hj, h => by
    by_cases e : j = 0
    · subst e; exact h
    · have ih := li_L1 adj j s (by omega) (by omega) h
      rw [L1_32, List.foldl_append]
      exact (li_L2 hn (by omega) (by omega) j _ (Nat.le_refl _) ih).next (by omega) (by omega) (adj j (by omega) (by omega))
theorem mem_L2 {j : Nat} : ∀ (i : Nat) (p : Nat × Nat), p ∈ L2_32 t m j i → p.1 < i ∧ p.2 = j
  | 0, p, h => by simp [L2_32] at h
  | i + 1, p, h => by
    rw [L2_32, List.mem_append] at h
    rcases h with h | h
    · have := mem_L2 i p h; omega
    · cases ha : al102 t m i j with
      | true => rw [ha] at h; simp at h; subst h; exact ⟨Nat.lt_succ_self _, rfl⟩
      | false => rw [ha] at h; simp at h
theorem mem_L1 : ∀ (j : Nat) (p : Nat × Nat), p ∈ L1_32 t m j → p.1 < p.2 ∧ p.2 < j
  | 0, p, h => by simp [L1_32] at h
  | j + 1, p, h => by
    rw [L1_32, List.mem_append] at h
    rcases h with h | h
    · have := mem_L1 j p h; omega
    · have := mem_L2 hn j p h; omega
theorem rf_run (d : Dat) (hn2 : n ≤ 1000) : ∀ (l pre : List (Nat × Nat)) (A B : Dat), all32 t m = pre ++ l → (∀ u, u < n → 0 ≤ A.ii u 0 ∧ A.ii u 0 ≤ (n : Int)) →
    l44_2 n d t m n n n n (Y102 t m) l.length pre.length A B = some (l.foldl stp (A, B))
  | [], pre, A, B, _, _ => rfl
  | p :: l, pre, A, B, h, hb => by
    have hp : p ∈ all32 t m := by rw [h]; simp
    obtain ⟨p1, p2⟩ := mem_L1 hn _ p hp
    rw [hn] at p2
    have hat : (all32 t m)[pre.length]? = some p := by rw [h]; simp
    have hY0 : (Y102 t m).ii pre.length 0 = (p.1 : Int) := by show rowAt32 (all32 t m)[pre.length]? 0 = _; rw [hat]; rfl
    have hY1 : (Y102 t m).ii pre.length 1 = (p.2 : Int) := by show rowAt32 (all32 t m)[pre.length]? 1 = _; rw [hat]; rfl
    have b1 := hb p.1 (by omega)
    have w : IntKind.i64.wrap (A.ii p.1 0 + 1) = A.ii p.1 0 + 1 := wr (by omega) (by omega)
    have c1 : decide ((0 : Int) ≤ (p.1 : Int) ∧ (p.1 : Int) < (n : Int)) = true := cdd (by omega)
    have c2 : decide ((0 : Int) ≤ (p.2 : Int) ∧ (p.2 : Int) < (n : Int)) = true := cdd (by omega)
    have e1 : decide (p.1 < n) = true := decide_eq_true (by omega)
    have e2 : decide (p.2 < n) = true := decide_eq_true (by omega)
    have ln : (p :: l).length = l.length + 1 := rfl
    have pl : (pre ++ [p]).length = pre.length + 1 := by simp
    rw [ln, List.foldl_cons]
    by_cases hh : A.ii p.1 0 + 1 < A.ii p.2 0
    · have ih := rf_run d hn2 l (pre ++ [p]) (A.upd p.2 0 [SV.int IntKind.i64 (A.ii p.1 0 + 1)]) (B.upd p.2 0 [SV.int IntKind.i64 (p.1 : Int)]) (by rw [h]; simp) (fun u hu => by
        rw [upd_ii]
        have b2 := hb p.2 (by omega)
        by_cases e : u = p.2
        · rw [if_pos e]; omega
        · rw [if_neg e]; exact hb u hu)
      rw [pl] at ih
      have es : stp (A, B) p = (A.upd p.2 0 [SV.int IntKind.i64 (A.ii p.1 0 + 1)], B.upd p.2 0 [SV.int IntKind.i64 (p.1 : Int)]) := by unfold stp; rw [decide_eq_true hh]; rfl
      rw [es]
      simp only [l44_2, hY0, hY1, Int.toNat_natCast, c1, c2, e1, e2, w, decide_eq_true hh, cond_true]
      exact ih
    · have ih := rf_run d hn2 l (pre ++ [p]) A B (by rw [h]; simp) hb
      rw [pl] at ih
      have es : stp (A, B) p = (A, B) := by unfold stp; rw [decide_eq_false hh]; rfl
      rw [es]
      simp only [l44_2, hY0, hY1, Int.toNat_natCast, c1, c2, e1, e2, w, decide_eq_false hh, cond_true, cond_false]
      exact ih
end
theorem init_run {n : Nat} (hn : n ≤ 1000) (d : Dat) (M : Int) (B : Dat) : ∀ (k i f : Nat) (A : Dat), i + k = n → k < f → 1 ≤ i → A.ii 0 0 = 0 → (∀ u, 1 ≤ u → u < i → A.ii u 0 = (n : Int)) →
    ∃ A', l44_0 n d M n B f (i : Int) A = some A' ∧ A'.ii 0 0 = 0 ∧ ∀ u, 1 ≤ u → u < n → A'.ii u 0 = (n : Int)
  | 0, i, f, A, hi, hf, _, h0, h => by
    obtain ⟨f, rfl⟩ : ∃ f', f = f' + 1 := ⟨f - 1, by omega⟩
    obtain rfl : i = n := by omega
    exact ⟨A, by simp only [l44_0, cdn, cond_false], h0, h⟩
  | k + 1, i, f, A, hi, hf, h1, h0, h => by
    obtain ⟨f, rfl⟩ : ∃ f', f = f' + 1 := ⟨f - 1, by omega⟩
    have hlt : i < n := by omega
    obtain ⟨A', g1, g2, g3⟩ := init_run hn d M B k (i + 1) f (A.upd i 0 [SV.int IntKind.i64 (n : Int)]) (by omega) (by omega) (by omega) (by rw [upd_ii, if_neg (by omega)]; exact h0) (fun u u1 u2 => by
      rw [upd_ii]
      by_cases e : u = i
      · rw [if_pos e]
      · rw [if_neg e]; exact h u u1 (by omega))
    refine ⟨A', ?_, g2, g3⟩
    simp only [l44_0, cdl hlt, cdd hlt, Int.toNat_natCast, decide_eq_true hlt, wrS hlt (by omega), cond_true]
    exact g1
structure KI (n : Nat) (al : Nat → Nat → Prop) (A : Dat) (c : Nat) (D : Dat) : Prop where
  pos : 0 < c
  at_ : ∀ q, q < c → 0 ≤ D.ii q 0 ∧ D.ii q 0 < (n : Int)
  up : ∀ q, q + 1 < c → D.ii q 0 < D.ii (q + 1) 0
  last : D.ii (c - 1) 0 = (n : Int) - 1
  ok : ∀ q, q + 1 < c → al (K D q) (K D (q + 1))
  cnt : A.ii (K D 0) 0 + (c : Int) = A.ii (n - 1) 0 + 1
theorem kept_run {n : Nat} {al : Nat → Nat → Prop} {A B : Dat} (hn : n ≤ 1000) (hA : A.ii (n - 1) 0 < (n : Int)) (hfin : ∀ t, 1 ≤ t → t < n → 1 ≤ A.ii t 0 ∧ ∃ u, u < t ∧ B.ii t 0 = (u : Int) ∧ al u t ∧ A.ii t 0 = A.ii u 0 + 1) (hz : A.ii 0 0 = 0) :
    ∀ (f : Nat) (c : Nat) (D : Dat), K D 0 < f → KI n al A c D → ∃ c' D', l44_4 n A B f c D = some (c', c', D') ∧ KI n al A c' D' ∧ D'.ii 0 0 = 0
  | 0, c, D, h, _ => absurd h (Nat.not_lt_zero _)
  | f + 1, c, D, hf, I => by
    have pos := I.pos
    obtain ⟨a1, a2⟩ := I.at_ 0 pos
    have hk : ((K D 0 : Nat) : Int) = D.ii 0 0 := by unfold K; omega
    have kn : K D 0 < n := by omega
    have z1 : decide ((0 : Int) ≤ (0 : Int) ∧ (0 : Int) < (c : Int)) = true := decide_eq_true ⟨by omega, by omega⟩
    have z2 : decide ((0 : Nat) < c) = true := decide_eq_true pos
    by_cases h0 : D.ii 0 0 = 0
    · refine ⟨c, D, ?_, I, h0⟩
      simp only [l44_4, z1, z2, decide_eq_false (show ¬ (0 : Int) < D.ii 0 0 by omega), cond_true, cond_false]
    · have h1 : 1 ≤ K D 0 := by omega
      obtain ⟨f1, u, f2, f3, f4, f5⟩ := hfin (K D 0) h1 kn
      have cnt := I.cnt
      have hc : c ≤ 1000 := by omega
      have lu : 0 ≤ A.ii u 0 := by
        by_cases e : u = 0
        · subst e; omega
        · have := (hfin u (by omega) (by omega)).1; omega
      obtain ⟨D', hD⟩ : ∃ D', D' = (datS [SV.int IntKind.i64 (B.ii (K D 0) 0)] 1).app 1 D := ⟨_, rfl⟩
      have ii : ∀ q, D'.ii q 0 = if q = 0 then (u : Int) else D.ii (q - 1) 0 := fun q => by
        rw [hD, ins_ii]
        by_cases e : q = 0
        · rw [if_pos e, if_pos e]; exact f3
        · rw [if_neg e, if_neg e]
      have k0 : K D' 0 = u := by unfold K; rw [ii, if_pos rfl]; omega
      have kS : ∀ q, K D' (q + 1) = K D q := fun q => by unfold K; rw [ii, if_neg (by omega), Nat.add_sub_cancel]
      have I' : KI n al A (c + 1) D' := by
        refine ⟨by omega, fun q hq => ?_, fun q hq => ?_, ?_, fun q hq => ?_, ?_⟩
        · rw [ii]
          by_cases e : q = 0
          · rw [if_pos e]; omega
          · rw [if_neg e]; exact I.at_ _ (by omega)
        · rw [ii, ii, if_neg (show ¬ q + 1 = 0 by omega), Nat.add_sub_cancel]
          by_cases e : q = 0
          · subst e; rw [if_pos rfl]; omega
          · rw [if_neg e]
            have := I.up (q - 1) (by omega)
            rw [show q - 1 + 1 = q by omega] at this; exact this
        · rw [ii, if_neg (by omega)]; exact I.last
        · rw [kS]
          by_cases e : q = 0
          · subst e; rw [k0]; exact f4
          · obtain ⟨q', rfl⟩ : ∃ q', q = q' + 1 := ⟨q - 1, by omega⟩
            rw [kS]; exact I.ok q' (by omega)
        · rw [k0]; omega
      obtain ⟨c', E, g1, g2, g3⟩ := kept_run hn hA hfin hz f (c + 1) D' (by omega) I'
      refine ⟨c', E, ?_, g2, g3⟩
      have n18t : ∀ y, n83 c c D y = true := fun y => by simp only [n83, decide_eq_true (show 1 ≤ c by omega), decide_eq_true (Nat.le_refl c), decide_eq_true (show c ≤ 1000000 by omega)]; rfl
      have t0 : Int.toNat 0 = 0 := rfl
      have hK : (D.ii 0 0).toNat = K D 0 := rfl
      simp only [l44_4, z1, z2, t0, hK, decide_eq_true (show (0 : Int) < D.ii 0 0 by omega), decide_eq_true (show (0 : Int) ≤ D.ii 0 0 ∧ D.ii 0 0 < (n : Int) from ⟨a1, a2⟩), decide_eq_true kn, n18t, m83, ← hD, cond_true]
      exact g1
theorem thin_ok {n : Nat} {d : Dat} (P : Pts n d) {M : Int} (hM : 0 ≤ M ∧ M ≤ 30000) : n44 n d M = true ∧ ∃ c D A, m44 n d M = (c, D, n, A, 0) ∧ Idx n c D ∧ (∀ q, q + 1 < c → Ok d M (K D q) (K D (q + 1))) ∧
    ∀ c' D', Idx n c' D' → (∀ q, q + 1 < c' → Ok d M (K D' q) (K D' (q + 1))) → c ≤ c' := by
  have two := P.two; have few := P.few
  obtain ⟨c1, _, _, c4⟩ := check_ok (n := n) (d := d) (by omega)
  have c4 := c4.2 P
  have y20 : m69 M = true := m52_iff.2 hM
  have y16 : m81 n d M = 0 := by simp only [m81, c4, y20]; rfl
  have z16 : n81 n d M = true := by simp only [n81, c1]; rfl
  obtain ⟨t, ht⟩ : ∃ t, t = (m82 n d M).1 := ⟨_, rfl⟩
  obtain ⟨m, hm⟩ : ∃ m, m = (m82 n d M).2 := ⟨_, rfl⟩
  have t1 : t.sn 0 0 = n := by rw [ht]; rfl
  have t2 : t.sub 0 0 = d := by rw [ht]; rfl
  have t3 : m.ii 0 0 = M := by rw [hm]; rfl
  have al : ∀ {i j : Nat}, i < j → j < n → (al102 t m i j = true ↔ Ok d M i j) := fun {i j} h1 h2 => by
    unfold al102; rw [t1, t2, t3]; exact (allow_ok P hM h1 h2).2
  have okT : ok102 t m = true := by
    simp only [ok102, t1, t2, t3, decide_eq_true (show n ≤ 1000000 by omega), Bool.true_and, List.all_eq_true, List.mem_range]
    exact fun j hj i hi => (allow_ok P hM hi hj).1
  have adj : ∀ j, 1 ≤ j → j < n → al102 t m (j - 1) j = true := fun j h1 h2 => (al (by omega) h2).2 fun k k1 k2 => by omega
  obtain ⟨A0, i1, i2, i3⟩ := init_run (n := n) (by omega) d M (datC [SV.int IntKind.i64 0]) (n - 1) 1 (n + M.toNat + (1 : Int).toNat + n + 8) (datC [SV.int IntKind.i64 0]) (by omega) (by omega) (by decide) rfl (fun u h1 h2 => by omega)
  have o0 : o44_0 n d M n (datC [SV.int IntKind.i64 0]) 1 (datC [SV.int IntKind.i64 0]) = some A0 := i1
  have L0 : LI n (fun i j => al102 t m i j = true) 1 0 (A0, datC [SV.int IntKind.i64 0]) := ⟨i2, fun t h1 h2 => by omega, fun _ h2 => ⟨.inl (i3 1 (by omega) h2), fun u hu => by omega, by rw [show (A0, datC [SV.int IntKind.i64 0]).1 = A0 from rfl, i3 1 (by omega) h2]; exact Int.le_refl _⟩, fun t h1 h2 => i3 t (by omega) h2⟩
  have rf := rf_run t1 (m := m) d (by omega) (all32 t m) [] A0 (datC [SV.int IntKind.i64 0]) (by simp) (fun u hu => L0.bnd (by decide) (by decide) hu)
  have o2 : o44_2 n d t m n n n n A0 (datC [SV.int IntKind.i64 0]) = some ((all32 t m).foldl stp (A0, datC [SV.int IntKind.i64 0])) := rf
  have LN := li_L1 t1 adj n (A0, datC [SV.int IntKind.i64 0]) (by omega) (Nat.le_refl _) L0
  have ea : all32 t m = L1_32 t m n := by unfold all32; rw [t1]
  rw [← ea] at LN
  generalize (all32 t m).foldl stp (A0, datC [SV.int IntKind.i64 0]) = s at LN o2
  obtain ⟨A, B⟩ := s
  have wn : IntKind.i64.wrap ((n : Int) - 1) = (n : Int) - 1 := wr (by omega) (by omega)
  obtain ⟨D0, hD0⟩ : ∃ D0, D0 = datS [SV.int IntKind.i64 ((n : Int) - 1)] 1 := ⟨_, rfl⟩
  have d0 : D0.ii 0 0 = (n : Int) - 1 := by rw [hD0]; rfl
  have k0 : K D0 0 = n - 1 := by unfold K; rw [d0]; omega
  have hlast := (LN.fin (n - 1) (by omega) (by omega)).1
  simp only at hlast
  have I0 : KI n (fun i j => al102 t m i j = true) A 1 D0 := by
    refine ⟨by decide, fun q hq => ?_, fun q hq => by omega, d0, fun q hq => by omega, ?_⟩
    · obtain rfl : q = 0 := by omega
      rw [d0]; omega
    · rw [k0]; omega
  obtain ⟨c, D, g1, g2, g3⟩ := kept_run (n := n) (A := A) (B := B) (by omega) (by omega) (fun t h1 h2 => ⟨(LN.fin t h1 h2).1.1, (LN.fin t h1 h2).2.1⟩) LN.z (1 + n + 8) 1 D0 (by omega) I0
  have o4 : o44_4 n A B 1 D0 = some (c, c, D) := g1
  have I : Idx n c D := ⟨g2.pos, g2.at_, g2.up, g3, g2.last⟩
  have tn : ((n : Int)).toNat = n := by omega
  have z0 : decide (0 ≤ (n : Int) ∧ (n : Int) ≤ (n : Int) ∧ (n : Int) ≤ 1073741824) = true := decide_eq_true ⟨by omega, by omega, by omega⟩
  refine ⟨?_, c, D, A, ?_, I, fun q hq => ?_, fun c' D' I' hok => ?_⟩
  · simp only [n44, z16, y16, z0, tn, wn, ← ht, ← hm, ← hD0, o0, o2, o4, okT, Option.isSome_some, Option.getD_some, Nat.zero_add, Nat.le_refl, decide_true, cond_true, cond_false]; rfl
  · simp only [m44, y16, tn, wn, ← ht, ← hm, ← hD0, o0, o2, o4, Option.getD_some, decide_true, cond_true, cond_false]
  · exact (al (I.kup hq) (I.k hq).1).1 (g2.ok q hq)
  · have lab : ∀ q, q < c' → A.ii (K D' q) 0 ≤ (q : Int) := fun q => by
      induction q with
      | zero =>
        intro _
        have : K D' 0 = 0 := by unfold K; rw [I'.first]; rfl
        have z := LN.z
        simp only at z
        rw [this, z]; exact Int.le_refl _
      | succ q ih =>
        intro h
        have a := ih (by omega)
        have up := I'.kup h
        have b := (LN.fin (K D' (q + 1)) (by omega) (I'.k h).1).2.2 (K D' q) up ((al up (I'.k h).1).2 (hok q h))
        simp only at b
        omega
    have hp := I'.pos
    have b := lab (c' - 1) (by omega)
    have kl : K D' (c' - 1) = n - 1 := by unfold K; rw [I'.last]; omega
    rw [kl] at b
    have cnt := g2.cnt
    have k00 : K D 0 = 0 := by unfold K; rw [g3]; rfl
    have z := LN.z
    simp only at z
    rw [k00, z] at cnt
    omega
end Go.Proofs.YtchhhoamnagbfaaDoor
