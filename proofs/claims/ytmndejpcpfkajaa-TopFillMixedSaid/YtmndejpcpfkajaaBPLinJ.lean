/-
 Several texts in one. Conditions: none.
-/
import Derived.Test.YtmndejpcpfkajaaBPLinE
namespace Go.Proofs.Ytmndejpcpfkajaa
open Go Go.Sy Lin
set_option linter.unusedVariables false
set_option linter.unusedSimpArgs false
set_option linter.unusedSectionVars false
set_option maxRecDepth 100000
abbrev rowD (r0 r1 r2 r3 r4 r5 r6 r7 r8 r9 r10 r11 r12 : Int) : Dat := datS [SV.int IntKind.i64 r0, SV.int IntKind.i64 r1, SV.int IntKind.i64 r2, SV.int IntKind.i64 r3, SV.int IntKind.i64 r4, SV.int IntKind.i64 r5, SV.int IntKind.i64 r6, SV.int IntKind.i64 r7, SV.int IntKind.i64 r8, SV.int IntKind.i64 r9, SV.int IntKind.i64 r10, SV.int IntKind.i64 r11, SV.int IntKind.i64 r12] 1
theorem contains3 (r0 r1 r2 r3 r4 r5 r6 r7 r8 r9 r10 r11 r12 t : Int) : n158 3 (rowD r0 r1 r2 r3 r4 r5 r6 r7 r8 r9 r10 r11 r12) t = true ∧ m158 3 (rowD r0 r1 r2 r3 r4 r5 r6 r7 r8 r9 r10 r11 r12) t = decide (t = r0 ∨ t = r1 ∨ t = r2) := by
 have h : o163_0 3 (rowD r0 r1 r2 r3 r4 r5 r6 r7 r8 r9 r10 r11 r12) t ((3 : Nat) : Int) 0 = some (first (fun q => cond (decide (t = (rowD r0 r1 r2 r3 r4 r5 r6 r7 r8 r9 r10 r11 r12).ii q 0)) (some (true, (q : Int), default)) none) (false, default, ()) 3 0) :=
  loop_first (n := 3) (l := l163_0 3 (rowD r0 r1 r2 r3 r4 r5 r6 r7 r8 r9 r10 r11 r12) t ((3 : Nat) : Int)) (by omega) (fun f q hq => by
   simp only [l163_0, cdl hq, cdd hq, cond_true, Int.toNat_natCast]
   cases decide (t = (rowD r0 r1 r2 r3 r4 r5 r6 r7 r8 r9 r10 r11 r12).ii q 0) <;> rfl) (fun f => by simp only [l163_0, cdn]; rfl) 3 0 _ (by omega) (by omega)
 have h : o163_0 3 (rowD r0 r1 r2 r3 r4 r5 r6 r7 r8 r9 r10 r11 r12) t (↑(3 : Nat) : Int) 0 = some (first (fun q => cond (decide (t = (rowD r0 r1 r2 r3 r4 r5 r6 r7 r8 r9 r10 r11 r12).ii q 0)) (some (true, (q : Int), default)) none) (false, default, ()) 3 0) := h
 have v0 : (rowD r0 r1 r2 r3 r4 r5 r6 r7 r8 r9 r10 r11 r12).ii 0 0 = r0 := rfl
 have v1 : (rowD r0 r1 r2 r3 r4 r5 r6 r7 r8 r9 r10 r11 r12).ii (0 + 1) 0 = r1 := rfl
 have v2 : (rowD r0 r1 r2 r3 r4 r5 r6 r7 r8 r9 r10 r11 r12).ii (0 + 1 + 1) 0 = r2 := rfl
 simp only [n158, m158, n163, m163, h, Option.isSome_some, Option.getD_some, first, v0, v1, v2]
 refine ⟨rfl, ?_⟩
 by_cases c0 : t = r0
 ·rw [decide_eq_true c0, decide_eq_true (show t = r0 ∨ t = r1 ∨ t = r2 from .inl c0)]; rfl
 ·by_cases c1 : t = r1
  ·rw [decide_eq_false c0, decide_eq_true c1, decide_eq_true (show t = r0 ∨ t = r1 ∨ t = r2 from .inr (.inl c1))]; rfl
  ·by_cases c2 : t = r2
   ·rw [decide_eq_false c0, decide_eq_false c1, decide_eq_true c2, decide_eq_true (show t = r0 ∨ t = r1 ∨ t = r2 from .inr (.inr c2))]; rfl
   ·rw [decide_eq_false c0, decide_eq_false c1, decide_eq_false c2, decide_eq_false (show ¬ (t = r0 ∨ t = r1 ∨ t = r2) from fun h => h.elim c0 fun h => h.elim c1 c2)]; rfl
theorem updO (D : Dat) (k q c : Nat) (l : List SV) (h : q ≠ k) : (D.upd k 0 l).ii q c = D.ii q c := by simp [Dat.upd, h]
theorem updS (D : Dat) (k : Nat) (x : Int) : (D.upd k 0 [SV.int IntKind.i64 x]).ii k 0 = x := by simp [Dat.upd, intAt]
def isIn (i j k t : Nat) : Prop := t = i ∨ t = j ∨ t = k
instance (i j k t : Nat) : Decidable (isIn i j k t) := by unfold isIn; infer_instance
def setAt (i j k s : Nat) : Nat → Nat
 | 0 => s
 | t + 1 => if isIn i j k t then setAt i j k s t else setAt i j k s t / 2
noncomputable def chA (A : Dat) (i j k s t : Nat) : Int := if setAt i j k s t % 2 = 1 then (lpOf A).u t else (lpOf A).l t
noncomputable def lfA (A : Dat) (i j k s m : Nat) : Nat → Int
 | 0 => (lpOf A).b m
 | t + 1 => if isIn i j k t then lfA A i j k s m t else lfA A i j k s m t - chA A i j k s t * (lpOf A).a t m
section
variable {A : Dat} {n : Nat} {d : Dat} {w O1 O2 H1 H2 : Int} (K : AskK A n d w O1 O2 H1 H2)
include K
theorem end_small {t : Nat} (ht : t < n + 2) : (-10000000000 ≤ (lpOf A).l t ∧ (lpOf A).l t ≤ 10000000000) ∧ (-10000000000 ≤ (lpOf A).u t ∧ (lpOf A).u t ≤ 10000000000) ∧
  (-10000000 ≤ (lpOf A).l t * (lpOf A).a t 0 ∧ (lpOf A).l t * (lpOf A).a t 0 ≤ 10000000) ∧ (-10000000 ≤ (lpOf A).u t * (lpOf A).a t 0 ∧ (lpOf A).u t * (lpOf A).a t 0 ≤ 10000000) ∧
  (-10000000000 ≤ (lpOf A).l t * (lpOf A).a t 1 ∧ (lpOf A).l t * (lpOf A).a t 1 ≤ 10000000000) ∧ (-10000000000 ≤ (lpOf A).u t * (lpOf A).a t 1 ∧ (lpOf A).u t * (lpOf A).a t 1 ≤ 10000000000) ∧
  (-10000000000 ≤ (lpOf A).l t * (lpOf A).a t 2 ∧ (lpOf A).l t * (lpOf A).a t 2 ≤ 10000000000) ∧ (-10000000000 ≤ (lpOf A).u t * (lpOf A).a t 2 ∧ (lpOf A).u t * (lpOf A).a t 2 ≤ 10000000000) := by
 have kO := K.O
 have kH := K.H
 rcases (by omega : t < n ∨ t = n ∨ t = n + 1) with h | rfl | rfl
 ·rw [lp_l K h, lp_u K h, lp_a K h, lp_a K h, lp_a K h]
  have am := K.amount t h
  have ga := K.gas t h
  have m1 := mulb am.1 am.2 ga.1.1 ga.1.2
  have m2 := mulb am.1 am.2 ga.2.1.1 ga.2.1.2
  simp
  omega
 ·rw [lp_l1 K, lp_u1 K, lp_a1 K, lp_a1 K, lp_a1 K]
  simp; omega
 ·rw [lp_l2 K, lp_u2 K, lp_a2 K, lp_a2 K, lp_a2 K]
  simp; omega
theorem ch_small (i j k s : Nat) {t : Nat} (ht : t < n + 2) : (-10000000000 ≤ chA A i j k s t ∧ chA A i j k s t ≤ 10000000000) ∧
  (-10000000 ≤ chA A i j k s t * (lpOf A).a t 0 ∧ chA A i j k s t * (lpOf A).a t 0 ≤ 10000000) ∧ (-10000000000 ≤ chA A i j k s t * (lpOf A).a t 1 ∧ chA A i j k s t * (lpOf A).a t 1 ≤ 10000000000) ∧ (-10000000000 ≤ chA A i j k s t * (lpOf A).a t 2 ∧ chA A i j k s t * (lpOf A).a t 2 ≤ 10000000000) := by
 have h := end_small K ht
 unfold chA
 split <;> omega
theorem lf_small (i j k s : Nat) : ∀ t, t ≤ n + 2 → (-(10000000 * (t + 1 : Int)) ≤ lfA A i j k s 0 t ∧ lfA A i j k s 0 t ≤ 10000000 * (t + 1 : Int)) ∧ (-(10000000000 * (t : Int)) ≤ lfA A i j k s 1 t ∧ lfA A i j k s 1 t ≤ 10000000000 * (t : Int)) ∧ (-(10000000000 * (t : Int)) ≤ lfA A i j k s 2 t ∧ lfA A i j k s 2 t ≤ 10000000000 * (t : Int))
 | 0, _ => by
  have kW := K.W
  simp only [lfA]
  rw [lp_b0 K, lp_b1 K (by omega), lp_b1 K (by omega)]
  omega
 | t + 1, ht => by
  have ih := lf_small i j k s t (by omega)
  have c := ch_small K i j k s (show t < n + 2 by omega)
  simp only [lfA]
  split <;> omega
theorem ch_prog (i j k s : Nat) {t : Nat} : (decide ((setAt i j k s t : Int).tmod 2 = 1)) = decide (setAt i j k s t % 2 = 1) := by
 apply decide_eq_decide.2
 have e : (setAt i j k s t : Int).tmod 2 = ((setAt i j k s t % 2 : Nat) : Int) := by
  rw [Int.ofNat_tmod]; rfl
 rw [e]; omega
theorem corner_loop {i j k : Nat} {s : Nat} (hs : s < 4294967296) {r3 r4 r5 r6 r7 r8 r9 r10 r11 det : Int} (hdet : 1 ≤ det ∧ det ≤ 1000000) :
  ∀ (q t f : Nat) (D : Dat), t + q = n + 2 → q < f → (∀ t', t' < t → ¬ isIn i j k t' → D.ii t' 0 = chA A i j k s t' * det) →
   ∃ D', l137_0 A (n + 2) (m136 A).2 (n + 2) (m157 A).2 (n + 2) (m157 A).2 ((n + 2 : Nat) : Int) i j k r3 r4 r5 r6 r7 r8 r9 r10 r11 det 0 f (setAt i j k s t : Int) (t : Int) D (lfA A i j k s 0 t) (lfA A i j k s 1 t) (lfA A i j k s 2 t) =
    some (D', lfA A i j k s 0 (n + 2), lfA A i j k s 1 (n + 2), lfA A i j k s 2 (n + 2)) ∧ ∀ t', t' < n + 2 → ¬ isIn i j k t' → D'.ii t' 0 = chA A i j k s t' * det
 | 0, t, f, D, ht, hf, hD => by
  obtain ⟨f, rfl⟩ : ∃ g, f = g + 1 := ⟨f - 1, by omega⟩
  obtain rfl : t = n + 2 := by omega
  exact ⟨D, by simp only [l137_0, cdn]; rfl, hD⟩
 | q + 1, t, f, D, ht, hf, hD => by
  obtain ⟨f, rfl⟩ : ∃ g, f = g + 1 := ⟨f - 1, by omega⟩
  have few := K.few
  have htn : t < n + 2 := by omega
  have hset : ∀ t, setAt i j k s t ≤ s := by
   intro t
   induction t with
   | zero => exact Nat.le_refl _
   | succ t ih => simp only [setAt]; split <;> omega
  have hst := hset t
  obtain ⟨n1, n2⟩ := contains3 (i : Int) j k r3 r4 r5 r6 r7 r8 r9 r10 r11 det (t : Int)
  unfold rowD at n1 n2
  have hin : decide ((t : Int) = i ∨ (t : Int) = j ∨ (t : Int) = k) = decide (isIn i j k t) := by
   apply decide_eq_decide.2; unfold isIn; omega
  have u7 : IntKind.i64.wrap ((t : Int) + 1) = ((t + 1 : Nat) : Int) := by rw [wr (by omega) (by omega)]; omega
  have c1 : decide (t < n + 2) = true := decide_eq_true htn
  obtain ⟨-, -, B⟩ := bounds_spec K
  obtain ⟨-, -, C⟩ := columns_spec K
  have ih := corner_loop (i := i) (j := j) (k := k) hs hdet (r3 := r3) (r4 := r4) (r5 := r5) (r6 := r6) (r7 := r7) (r8 := r8) (r9 := r9) (r10 := r10) (r11 := r11) q (t + 1) f
  have lfs := lf_small K i j k s t (by omega)
  have chs := ch_small K i j k s htn
  by_cases hI : isIn i j k t
  ·have e : setAt i j k s (t + 1) = setAt i j k s t := by simp only [setAt, if_pos hI]
   have e0 : ∀ m, lfA A i j k s m (t + 1) = lfA A i j k s m t := fun m => by simp only [lfA, if_pos hI]
   simp only [l137_0, cdl htn, cdd htn, cond_true, n1, n2, hin, decide_eq_true hI, u7]
   have := ih D (by omega) (by omega) fun t' ht' hn => by
    rcases Nat.lt_or_ge t' t with h | h
    ·exact hD t' h hn
    ·obtain rfl : t' = t := by omega
     exact absurd hI hn
   rw [e, e0, e0, e0] at this
   exact this
  ·have e : setAt i j k s (t + 1) = setAt i j k s t / 2 := by simp only [setAt, if_neg hI]
   have e0 : ∀ m, lfA A i j k s m (t + 1) = lfA A i j k s m t - chA A i j k s t * (lpOf A).a t m := fun m => by simp only [lfA, if_neg hI]
   have hdiv : IntKind.i64.wrap ((setAt i j k s t : Int).tdiv 2) = ((setAt i j k s t / 2 : Nat) : Int) := by
    have e : (setAt i j k s t : Int).tdiv 2 = ((setAt i j k s t / 2 : Nat) : Int) := by rw [Int.ofNat_tdiv]; rfl
    rw [e, wr (by omega) (by omega)]
   have mdet : -10000000000000000 ≤ chA A i j k s t * det ∧ chA A i j k s t * det ≤ 10000000000000000 := by
    have := mulb2 hdet.1 hdet.2 chs.1
    rw [Int.mul_comm]; exact this
   have w0 : IntKind.i64.wrap (chA A i j k s t * det) = chA A i j k s t * det := wr (by omega) (by omega)
   have w1 : IntKind.i64.wrap (lfA A i j k s 0 t - IntKind.i64.wrap (chA A i j k s t * (lpOf A).a t 0)) = lfA A i j k s 0 (t + 1) := by
    rw [wr (n := chA A i j k s t * (lpOf A).a t 0) (by omega) (by omega), e0, wr (by omega) (by omega)]
   have w2 : IntKind.i64.wrap (lfA A i j k s 1 t - IntKind.i64.wrap (chA A i j k s t * (lpOf A).a t 1)) = lfA A i j k s 1 (t + 1) := by
    rw [wr (n := chA A i j k s t * (lpOf A).a t 1) (by omega) (by omega), e0, wr (by omega) (by omega)]
   have w3 : IntKind.i64.wrap (lfA A i j k s 2 t - IntKind.i64.wrap (chA A i j k s t * (lpOf A).a t 2)) = lfA A i j k s 2 (t + 1) := by
    rw [wr (n := chA A i j k s t * (lpOf A).a t 2) (by omega) (by omega), e0, wr (by omega) (by omega)]
   have fin := ih (D.upd t 0 [SV.int IntKind.i64 (chA A i j k s t * det)]) (by omega) (by omega) fun t' ht' hn => by
    rcases Nat.lt_or_ge t' t with h | h
    ·rw [updO _ _ _ _ _ (by omega)]; exact hD t' h hn
    ·obtain rfl : t' = t := by omega
     simp [Dat.upd, intAt]
   rw [e] at fin
   simp only [l137_0, cdl htn, cdd htn, cond_true, n1, n2, hin, decide_eq_false hI, cond_false, u7, Int.toNat_natCast, c1, ch_prog K, (B t htn).1, (B t htn).2, C t htn 0 (by omega), C t htn 1 (by omega), C t htn 2 (by omega), hdiv]
   by_cases hb : setAt i j k s t % 2 = 1
   ·have hch : (lpOf A).u t = chA A i j k s t := by unfold chA; rw [if_pos hb]
    rw [decide_eq_true hb, cond_true, hch, w0, w1, w2, w3]
    exact fin
   ·have hch : (lpOf A).l t = chA A i j k s t := by unfold chA; rw [if_neg hb]
    rw [decide_eq_false hb, cond_false, hch, w0, w1, w2, w3]
    exact fin
end
end Go.Proofs.Ytmndejpcpfkajaa
namespace Go.Proofs.Ytmndejpcpfkajaa
open Go Go.Sy Lin
set_option linter.unusedVariables false
set_option linter.unusedSimpArgs false
set_option linter.unusedSectionVars false
set_option maxRecDepth 100000
theorem sm_split3 {i j k N : Nat} (hi : i < N) (hj : j < N) (hk : k < N) (h1 : i ≠ j) (h2 : i ≠ k) (h3 : j ≠ k) (f : Nat → Int) :
  sm f N = sm (fun t => if isIn i j k t then 0 else f t) N + f i + f j + f k := by
 have e : sm f N = sm (fun t => (if isIn i j k t then 0 else f t) + f i * Lp.dl i t * 1 + f j * Lp.dl j t * 1 + f k * Lp.dl k t * 1) N := by
  refine sm_congr fun t _ => ?_
  by_cases e1 : t = i
  ·subst e1
   rw [if_pos (.inl rfl), Lp.dl_self, Lp.dl_ne h1, Lp.dl_ne h2]; omega
  by_cases e2 : t = j
  ·subst e2
   rw [if_pos (.inr (.inl rfl)), Lp.dl_self, Lp.dl_ne e1, Lp.dl_ne h3]; omega
  by_cases e3 : t = k
  ·subst e3
   rw [if_pos (.inr (.inr rfl)), Lp.dl_self, Lp.dl_ne e1, Lp.dl_ne e2]; omega
  have : ¬ isIn i j k t := fun h => h.elim e1 fun h => h.elim e2 e3
  rw [if_neg this, Lp.dl_ne e1, Lp.dl_ne e2, Lp.dl_ne e3]; omega
 rw [e, sm_add, sm_add, sm_add, Lp.sm_dl hi (f i) fun _ => 1, Lp.sm_dl hj (f j) fun _ => 1, Lp.sm_dl hk (f k) fun _ => 1]
 omega
noncomputable def xC (A : Dat) (i j k s N : Nat) (t : Nat) : Int :=
 if t = i then sgB A i j k * ((lpOf A).cx0 j k * lfA A i j k s 0 N + (lpOf A).cx1 j k * lfA A i j k s 1 N + (lpOf A).cx2 j k * lfA A i j k s 2 N)
 else if t = j then sgB A i j k * ((lpOf A).cx0 k i * lfA A i j k s 0 N + (lpOf A).cx1 k i * lfA A i j k s 1 N + (lpOf A).cx2 k i * lfA A i j k s 2 N)
 else if t = k then sgB A i j k * ((lpOf A).cx0 i j * lfA A i j k s 0 N + (lpOf A).cx1 i j * lfA A i j k s 1 N + (lpOf A).cx2 i j * lfA A i j k s 2 N)
 else chA A i j k s t * bd A i j k
theorem left_sum (A : Dat) (i j k s m : Nat) : ∀ t, sm (fun t => if isIn i j k t then 0 else chA A i j k s t * bd A i j k * (lpOf A).a t m) t = bd A i j k * ((lpOf A).b m - lfA A i j k s m t)
 | 0 => by simp [sm, lfA]
 | t + 1 => by
  simp only [sm, left_sum A i j k s m t, lfA]
  by_cases h : isIn i j k t
  ·rw [if_pos h, if_pos h]; omega
  ·rw [if_neg h, if_neg h]; grind
theorem cram (T : Lp) (i j k : Nat) (l0 l1 l2 : Int) :
  (T.cx0 j k * l0 + T.cx1 j k * l1 + T.cx2 j k * l2) * T.a i 0 + (T.cx0 k i * l0 + T.cx1 k i * l1 + T.cx2 k i * l2) * T.a j 0 + (T.cx0 i j * l0 + T.cx1 i j * l1 + T.cx2 i j * l2) * T.a k 0 = T.dt i j k * l0 ∧
  (T.cx0 j k * l0 + T.cx1 j k * l1 + T.cx2 j k * l2) * T.a i 1 + (T.cx0 k i * l0 + T.cx1 k i * l1 + T.cx2 k i * l2) * T.a j 1 + (T.cx0 i j * l0 + T.cx1 i j * l1 + T.cx2 i j * l2) * T.a k 1 = T.dt i j k * l1 ∧
  (T.cx0 j k * l0 + T.cx1 j k * l1 + T.cx2 j k * l2) * T.a i 2 + (T.cx0 k i * l0 + T.cx1 k i * l1 + T.cx2 k i * l2) * T.a j 2 + (T.cx0 i j * l0 + T.cx1 i j * l1 + T.cx2 i j * l2) * T.a k 2 = T.dt i j k * l2 := by
 unfold Lp.dt Lp.cx0 Lp.cx1 Lp.cx2
 refine ⟨?_, ?_, ?_⟩ <;> grind
theorem corner_sum (A : Dat) {i j k s N : Nat} (hi : i < N) (hj : j < i) (hk : k < j) {m : Nat} (hm : m < 3) : sm (fun t => xC A i j k s N t * (lpOf A).a t m) N = bd A i j k * (lpOf A).b m := by
 rw [sm_split3 (i := i) (j := j) (k := k) hi (by omega) (by omega) (by omega) (by omega) (by omega)]
 have e : sm (fun t => if isIn i j k t then 0 else xC A i j k s N t * (lpOf A).a t m) N = sm (fun t => if isIn i j k t then 0 else chA A i j k s t * bd A i j k * (lpOf A).a t m) N := by
  refine sm_congr fun t _ => ?_
  by_cases h : isIn i j k t
  ·rw [if_pos h, if_pos h]
  ·rw [if_neg h, if_neg h]
   unfold xC
   rw [if_neg fun e => h (.inl e), if_neg fun e => h (.inr (.inl e)), if_neg fun e => h (.inr (.inr e))]
 rw [e, left_sum]
 have xi : xC A i j k s N i = sgB A i j k * ((lpOf A).cx0 j k * lfA A i j k s 0 N + (lpOf A).cx1 j k * lfA A i j k s 1 N + (lpOf A).cx2 j k * lfA A i j k s 2 N) := if_pos rfl
 have xj : xC A i j k s N j = sgB A i j k * ((lpOf A).cx0 k i * lfA A i j k s 0 N + (lpOf A).cx1 k i * lfA A i j k s 1 N + (lpOf A).cx2 k i * lfA A i j k s 2 N) := by
  unfold xC; rw [if_neg (by omega), if_pos rfl]
 have xk : xC A i j k s N k = sgB A i j k * ((lpOf A).cx0 i j * lfA A i j k s 0 N + (lpOf A).cx1 i j * lfA A i j k s 1 N + (lpOf A).cx2 i j * lfA A i j k s 2 N) := by
  unfold xC; rw [if_neg (by omega), if_neg (by omega), if_pos rfl]
 rw [xi, xj, xk]
 have C := cram (lpOf A) i j k (lfA A i j k s 0 N) (lfA A i j k s 1 N) (lfA A i j k s 2 N)
 have c : ((lpOf A).cx0 j k * lfA A i j k s 0 N + (lpOf A).cx1 j k * lfA A i j k s 1 N + (lpOf A).cx2 j k * lfA A i j k s 2 N) * (lpOf A).a i m + ((lpOf A).cx0 k i * lfA A i j k s 0 N + (lpOf A).cx1 k i * lfA A i j k s 1 N + (lpOf A).cx2 k i * lfA A i j k s 2 N) * (lpOf A).a j m + ((lpOf A).cx0 i j * lfA A i j k s 0 N + (lpOf A).cx1 i j * lfA A i j k s 1 N + (lpOf A).cx2 i j * lfA A i j k s 2 N) * (lpOf A).a k m = (lpOf A).dt i j k * lfA A i j k s m N := by
  rcases (by omega : m = 0 ∨ m = 1 ∨ m = 2) with rfl | rfl | rfl
  ·exact C.1
  ·exact C.2.1
  ·exact C.2.2
 generalize (lpOf A).cx0 j k * lfA A i j k s 0 N + (lpOf A).cx1 j k * lfA A i j k s 1 N + (lpOf A).cx2 j k * lfA A i j k s 2 N = u1 at *
 generalize (lpOf A).cx0 k i * lfA A i j k s 0 N + (lpOf A).cx1 k i * lfA A i j k s 1 N + (lpOf A).cx2 k i * lfA A i j k s 2 N = u2 at *
 generalize (lpOf A).cx0 i j * lfA A i j k s 0 N + (lpOf A).cx1 i j * lfA A i j k s 1 N + (lpOf A).cx2 i j * lfA A i j k s 2 N = u3 at *
 unfold bd
 clear xi xj xk C e
 generalize (lpOf A).dt i j k = D at *
 generalize sgB A i j k = σ at *
 have : σ * u1 * (lpOf A).a i m + σ * u2 * (lpOf A).a j m + σ * u3 * (lpOf A).a k m = σ * (D * lfA A i j k s m N) := by rw [← c]; grind
 grind
def okC (A : Dat) (i j k s N : Nat) : Prop := ∀ t, isIn i j k t → bd A i j k * (lpOf A).l t ≤ xC A i j k s N t ∧ xC A i j k s N t ≤ bd A i j k * (lpOf A).u t
theorem corner_plan {A : Dat} (hlu : ∀ j, j < (lpOf A).n → (lpOf A).l j ≤ (lpOf A).u j) {i j k s : Nat} (hi : i < (lpOf A).n) (hj : j < i) (hk : k < j) (hd : 1 ≤ bd A i j k) (ho : okC A i j k s (lpOf A).n) :
  (lpOf A).Plan (bd A i j k) (xC A i j k s (lpOf A).n) := by
 refine ⟨by omega, fun t ht => ?_, fun m hm => corner_sum A hi hj hk hm⟩
 by_cases h : isIn i j k t
 ·exact ho t h
 ·have e : xC A i j k s (lpOf A).n t = chA A i j k s t * bd A i j k := by
   unfold xC
   rw [if_neg fun e => h (.inl e), if_neg fun e => h (.inr (.inl e)), if_neg fun e => h (.inr (.inr e))]
  rw [e, Int.mul_comm (chA A i j k s t)]
  have hlu := hlu t ht
  have m := Int.mul_le_mul_of_nonneg_left hlu (show 0 ≤ bd A i j k by omega)
  unfold chA
  split <;> omega
open Classical in
noncomputable def encR (i j k N : Nat) (χ : Nat → Prop) : Nat → Nat
 | 0 => 0
 | q + 1 => if isIn i j k (N - (q + 1)) then encR i j k N χ q else 2 * encR i j k N χ q + (if χ (N - (q + 1)) then 1 else 0)
def rnk (i j k : Nat) : Nat → Nat
 | 0 => 0
 | t + 1 => if isIn i j k t then rnk i j k t else rnk i j k t + 1
theorem rnk_all {i j k N : Nat} (hi : i < N) (hj : j < i) (hk : k < j) : rnk i j k N + 3 = N := by
 have h := sm_split3 (i := i) (j := j) (k := k) (N := N) hi (by omega) (by omega) (by omega) (by omega) (by omega) fun _ => 1
 have e1 : ∀ m, sm (fun _ => 1) m = (m : Int) := fun m => by
  induction m with
  | zero => rfl
  | succ m ih => simp only [sm, ih]; omega
 have e2 : ∀ m, sm (fun t => if isIn i j k t then 0 else 1) m = (rnk i j k m : Int) := fun m => by
  induction m with
  | zero => rfl
  | succ m ih =>
   simp only [sm, ih, rnk]
   by_cases h : isIn i j k m
   ·rw [if_pos h, if_pos h]; omega
   ·rw [if_neg h, if_neg h]; omega
 rw [e1, e2] at h
 omega
theorem enc_set {i j k N : Nat} (χ : Nat → Prop) : ∀ t, t ≤ N → setAt i j k (encR i j k N χ N) t = encR i j k N χ (N - t)
 | 0, _ => rfl
 | t + 1, h => by
  have ih := enc_set (i := i) (j := j) (k := k) (N := N) χ t (by omega)
  simp only [setAt]
  obtain ⟨q, hq⟩ : ∃ q, N - t = q + 1 := ⟨N - t - 1, by omega⟩
  have hq2 : N - (t + 1) = q := by omega
  have ht : N - (q + 1) = t := by omega
  rw [ih, hq, hq2]
  simp only [encR, ht]
  by_cases hI : isIn i j k t
  ·rw [if_pos hI, if_pos hI]
  ·rw [if_neg hI, if_neg hI]; split <;> omega
theorem enc_bit {i j k N : Nat} (χ : Nat → Prop) {t : Nat} (ht : t < N) (hI : ¬ isIn i j k t) : setAt i j k (encR i j k N χ N) t % 2 = 1 ↔ χ t := by
 rw [enc_set χ t (by omega)]
 obtain ⟨q, hq⟩ : ∃ q, N - t = q + 1 := ⟨N - t - 1, by omega⟩
 obtain rfl : t = N - (q + 1) := by omega
 rw [hq]
 simp only [encR, if_neg hI]
 by_cases h : χ (N - (q + 1))
 ·rw [if_pos h]; exact ⟨fun _ => h, fun _ => by omega⟩
 ·rw [if_neg h]; exact ⟨fun h' => by omega, fun h' => absurd h' h⟩
open Classical in
theorem enc_lt {i j k N : Nat} (χ : Nat → Prop) : ∀ q, q ≤ N → encR i j k N χ q * 2 ^ rnk i j k (N - q) < 2 ^ rnk i j k N
 | 0, _ => by simp only [encR, Nat.zero_mul]; exact Nat.pow_pos (by omega)
 | q + 1, h => by
  have ih := enc_lt (i := i) (j := j) (k := k) (N := N) χ q (by omega)
  have e : N - q = N - (q + 1) + 1 := by omega
  rw [e] at ih
  simp only [rnk] at ih
  simp only [encR]
  generalize ht : N - (q + 1) = t at *
  by_cases hI : isIn i j k t
  ·rw [if_pos hI] at ih ⊢; exact ih
  ·rw [if_neg hI] at ih ⊢
   -- an even number below an even power
   have hle : t + 1 ≤ N := by omega
   have mono : ∀ a b, a ≤ b → rnk i j k a ≤ rnk i j k b := fun a b hab => by
    induction b with
    | zero =>
      obtain rfl : a = 0 := by omega
      exact Nat.le_refl _
    | succ b ihb =>
     rcases Nat.lt_or_ge a (b + 1) with g | g
     ·have := ihb (by omega)
      simp only [rnk]; split <;> omega
     ·obtain rfl : a = b + 1 := by omega
      exact Nat.le_refl _
   have hm := mono (t + 1) N hle
   simp only [rnk, if_neg hI] at hm
   obtain ⟨r, hr⟩ : ∃ r, rnk i j k N = rnk i j k t + 1 + r := ⟨rnk i j k N - (rnk i j k t + 1), by omega⟩
   rw [hr] at ih ⊢
   generalize rnk i j k t = p at *
   have e1 : 2 ^ (p + 1 + r) = 2 ^ (p + 1) * 2 ^ r := Nat.pow_add 2 (p + 1) r
   have e2 : 2 ^ (p + 1) = 2 ^ p * 2 := Nat.pow_succ 2 p
   have hp : 0 < 2 ^ p := Nat.pow_pos (by omega)
   rw [e1] at ih
   have h3 : encR i j k N χ q < 2 ^ r := by
    rw [Nat.mul_comm] at ih
    exact Nat.lt_of_mul_lt_mul_left ih
   rw [e1, e2]
   have h4 : (2 * encR i j k N χ q + (if χ t then 1 else 0)) < 2 * 2 ^ r := by split <;> omega
   calc (2 * encR i j k N χ q + (if χ t then 1 else 0)) * 2 ^ p < (2 * 2 ^ r) * 2 ^ p := Nat.mul_lt_mul_of_pos_right h4 hp
    _ = 2 ^ p * 2 * 2 ^ r := by rw [Nat.mul_comm (2 * 2 ^ r), Nat.mul_assoc]
theorem corner_complete {A : Dat} {i j k : Nat} (hi : i < (lpOf A).n) (hj : j < i) (hk : k < j) (hd : (lpOf A).dt i j k ≠ 0) {D : Int} {X : Nat → Int} (hP : (lpOf A).Plan D X) (hin : ∀ t, t < (lpOf A).n → (lpOf A).Ins D X t → isIn i j k t) :
  ∃ s, s < 2 ^ ((lpOf A).n - 3) ∧ okC A i j k s (lpOf A).n ∧ ∀ t, t < (lpOf A).n → D * xC A i j k s (lpOf A).n t = bd A i j k * X t := by
 obtain ⟨hD, hb, he⟩ := hP
 let χ : Nat → Prop := fun t => X t = D * (lpOf A).u t
 let s := encR i j k (lpOf A).n χ (lpOf A).n
 have hr := rnk_all hi hj hk
 have hs : s < 2 ^ ((lpOf A).n - 3) := by
  have := enc_lt (i := i) (j := j) (k := k) (N := (lpOf A).n) χ (lpOf A).n (Nat.le_refl _)
  rw [Nat.sub_self] at this
  simp only [rnk, Nat.pow_zero, Nat.mul_one] at this
  rw [show (lpOf A).n - 3 = rnk i j k (lpOf A).n by omega]
  exact this
 have hbd : 1 ≤ bd A i j k := by unfold bd sgB; split <;> omega
 -- outside
 have out : ∀ t, t < (lpOf A).n → ¬ isIn i j k t → D * xC A i j k s (lpOf A).n t = bd A i j k * X t := by
  intro t ht hI
  have e : xC A i j k s (lpOf A).n t = chA A i j k s t * bd A i j k := by
   unfold xC
   rw [if_neg fun e => hI (.inl e), if_neg fun e => hI (.inr (.inl e)), if_neg fun e => hI (.inr (.inr e))]
  have hx : X t = D * chA A i j k s t := by
   unfold chA
   by_cases hc : χ t
   ·rw [if_pos ((enc_bit χ ht hI).2 hc)]; exact hc
   ·rw [if_neg fun h => hc ((enc_bit χ ht hI).1 h)]
    have hb := hb t ht
    have hni : ¬ (lpOf A).Ins D X t := fun h => hI (hin t ht h)
    have hc : X t ≠ D * (lpOf A).u t := hc
    unfold Lp.Ins at hni
    omega
  rw [e, hx]; grind
 -- within
 have key : ∀ m, m < 3 → (D * xC A i j k s (lpOf A).n i - bd A i j k * X i) * (lpOf A).a i m + (D * xC A i j k s (lpOf A).n j - bd A i j k * X j) * (lpOf A).a j m + (D * xC A i j k s (lpOf A).n k - bd A i j k * X k) * (lpOf A).a k m = 0 := by
  intro m hm
  have s1 := corner_sum A (s := s) hi hj hk hm
  have s2 := he m hm
  have tot : sm (fun t => (D * xC A i j k s (lpOf A).n t - bd A i j k * X t) * (lpOf A).a t m) (lpOf A).n = 0 := by
   have : sm (fun t => (D * xC A i j k s (lpOf A).n t - bd A i j k * X t) * (lpOf A).a t m) (lpOf A).n = D * sm (fun t => xC A i j k s (lpOf A).n t * (lpOf A).a t m) (lpOf A).n + (- bd A i j k) * sm (fun t => X t * (lpOf A).a t m) (lpOf A).n := by
    rw [← sm_mul, ← sm_mul, ← sm_add]; exact sm_congr fun t _ => by grind
   rw [this, s1, s2]; grind
  rw [sm_split3 (i := i) (j := j) (k := k) hi (by omega) (by omega) (by omega) (by omega) (by omega), sm_zero fun t ht => by
   by_cases hI : isIn i j k t
   ·rw [if_pos hI]
   ·rw [if_neg hI, out t ht hI]; simp] at tot
  omega
 have k0 := key 0 (by omega)
 have k1 := key 1 (by omega)
 have k2 := key 2 (by omega)
 generalize gp : D * xC A i j k s (lpOf A).n i - bd A i j k * X i = p at *
 generalize gq : D * xC A i j k s (lpOf A).n j - bd A i j k * X j = q at *
 generalize gr : D * xC A i j k s (lpOf A).n k - bd A i j k * X k = r at *
 have zp : (lpOf A).dt i j k * p = 0 := by unfold Lp.dt Lp.cx0 Lp.cx1 Lp.cx2; grind
 have zq : (lpOf A).dt i j k * q = 0 := by unfold Lp.dt Lp.cx0 Lp.cx1 Lp.cx2; grind
 have zr : (lpOf A).dt i j k * r = 0 := by unfold Lp.dt Lp.cx0 Lp.cx1 Lp.cx2; grind
 have p0 : p = 0 := (Int.mul_eq_zero.1 zp).resolve_left hd
 have q0 : q = 0 := (Int.mul_eq_zero.1 zq).resolve_left hd
 have r0 : r = 0 := (Int.mul_eq_zero.1 zr).resolve_left hd
 have all : ∀ t, t < (lpOf A).n → D * xC A i j k s (lpOf A).n t = bd A i j k * X t := by
  intro t ht
  by_cases hI : isIn i j k t
  ·rcases hI with rfl | rfl | rfl <;> omega
  ·exact out t ht hI
 refine ⟨s, hs, fun t hI => ?_, all⟩
 have ht : t < (lpOf A).n := by rcases hI with rfl | rfl | rfl <;> omega
 have e := all t ht
 have b := hb t ht
 have b1 := Int.mul_le_mul_of_nonneg_left b.1 (show 0 ≤ bd A i j k by omega)
 have b2 := Int.mul_le_mul_of_nonneg_left b.2 (show 0 ≤ bd A i j k by omega)
 constructor
 ·refine Int.le_of_mul_le_mul_left ?_ hD
  have : D * (bd A i j k * (lpOf A).l t) = bd A i j k * (D * (lpOf A).l t) := by grind
  omega
 ·refine Int.le_of_mul_le_mul_left ?_ hD
  have : D * (bd A i j k * (lpOf A).u t) = bd A i j k * (D * (lpOf A).u t) := by grind
  omega
end Go.Proofs.Ytmndejpcpfkajaa
namespace Go.Proofs.Ytmndejpcpfkajaa
open Go Go.Sy Lin
set_option linter.unusedVariables false
set_option linter.unusedSimpArgs false
set_option linter.unusedSectionVars false
set_option maxRecDepth 100000
section
variable {A : Dat} {n : Nat} {d : Dat} {w O1 O2 H1 H2 : Int} (K : AskK A n d w O1 O2 H1 H2)
include K
theorem dot3 {i j k s : Nat} {c0 c1 c2 : Int} (h0 : -1000000 ≤ c0 ∧ c0 ≤ 1000000) (h1 : -1000 ≤ c1 ∧ c1 ≤ 1000) (h2 : -1000 ≤ c2 ∧ c2 ≤ 1000) :
  m156 (sgB A i j k * c0) (sgB A i j k * c1) (sgB A i j k * c2) (lfA A i j k s 0 (n + 2)) (lfA A i j k s 1 (n + 2)) (lfA A i j k s 2 (n + 2)) =
   sgB A i j k * (c0 * lfA A i j k s 0 (n + 2) + c1 * lfA A i j k s 1 (n + 2) + c2 * lfA A i j k s 2 (n + 2)) := by
 have few := K.few
 have l := lf_small K i j k s (n + 2) (Nat.le_refl _)
 have pr : ∀ {x y M N : Int}, 0 ≤ M → -M ≤ x ∧ x ≤ M → -N ≤ y ∧ y ≤ N → -(M * N) ≤ x * y ∧ x * y ≤ M * N := fun {x y M N} hM hx hy => by
  rcases Int.le_total 0 x with h | h <;> rcases Int.le_total 0 y with g | g
  ·have := mulb h hx.2 g hy.2; omega
  ·have := mulb h hx.2 (show 0 ≤ -y by omega) (show -y ≤ N by omega)
   have : x * -y = -(x * y) := Int.mul_neg _ _
   omega
  ·have := mulb (show 0 ≤ -x by omega) (show -x ≤ M by omega) g hy.2
   have : -x * y = -(x * y) := Int.neg_mul _ _
   omega
  ·have := mulb (show 0 ≤ -x by omega) (show -x ≤ M by omega) (show 0 ≤ -y by omega) (show -y ≤ N by omega)
   have : -x * -y = x * y := Int.neg_mul_neg _ _
   omega
 have sg : ∀ c : Int, sgB A i j k * c = c ∨ sgB A i j k * c = -c := fun c => by
  rcases sgB_cases K i j k with h | h <;> rw [h] <;> omega
 have g0 := sg c0
 have g1 := sg c1
 have g2 := sg c2
 have e : sgB A i j k * (c0 * lfA A i j k s 0 (n + 2) + c1 * lfA A i j k s 1 (n + 2) + c2 * lfA A i j k s 2 (n + 2)) = (sgB A i j k * c0) * lfA A i j k s 0 (n + 2) + (sgB A i j k * c1) * lfA A i j k s 1 (n + 2) + (sgB A i j k * c2) * lfA A i j k s 2 (n + 2) := by grind
 rw [e]
 generalize sgB A i j k * c0 = a0 at *
 generalize sgB A i j k * c1 = a1 at *
 generalize sgB A i j k * c2 = a2 at *
 generalize lfA A i j k s 0 (n + 2) = l0 at *
 generalize lfA A i j k s 1 (n + 2) = l1 at *
 generalize lfA A i j k s 2 (n + 2) = l2 at *
 have p0 := pr (M := 1000000) (N := 80000000) (by omega) (show -1000000 ≤ a0 ∧ a0 ≤ 1000000 by omega) (show -80000000 ≤ l0 ∧ l0 ≤ 80000000 by omega)
 have p1 := pr (M := 1000) (N := 70000000000) (by omega) (show -1000 ≤ a1 ∧ a1 ≤ 1000 by omega) (show -70000000000 ≤ l1 ∧ l1 ≤ 70000000000 by omega)
 have p2 := pr (M := 1000) (N := 70000000000) (by omega) (show -1000 ≤ a2 ∧ a2 ≤ 1000 by omega) (show -70000000000 ≤ l2 ∧ l2 ≤ 70000000000 by omega)
 unfold m156
 rw [wr (n := a0 * l0) (by omega) (by omega), wr (n := a1 * l1) (by omega) (by omega), wr (n := a2 * l2) (by omega) (by omega), wr (n := a0 * l0 + a1 * l1) (by omega) (by omega), wr (by omega) (by omega)]
set_option maxHeartbeats 4000000 in
theorem corner_spec {i j k s : Nat} (hi : i < n + 2) (hj : j < i) (hk : k < j) (hd : (lpOf A).dt i j k ≠ 0) (hs : s < 4294967296) :
  n137 A i j k (sgB A i j k * (lpOf A).cx0 j k) (sgB A i j k * (lpOf A).cx1 j k) (sgB A i j k * (lpOf A).cx2 j k) (sgB A i j k * (lpOf A).cx0 k i) (sgB A i j k * (lpOf A).cx1 k i) (sgB A i j k * (lpOf A).cx2 k i) (sgB A i j k * (lpOf A).cx0 i j) (sgB A i j k * (lpOf A).cx1 i j) (sgB A i j k * (lpOf A).cx2 i j) (bd A i j k) (s : Int) = true ∧
  ((okC A i j k s (n + 2) → ∃ D', m137 A i j k (sgB A i j k * (lpOf A).cx0 j k) (sgB A i j k * (lpOf A).cx1 j k) (sgB A i j k * (lpOf A).cx2 j k) (sgB A i j k * (lpOf A).cx0 k i) (sgB A i j k * (lpOf A).cx1 k i) (sgB A i j k * (lpOf A).cx2 k i) (sgB A i j k * (lpOf A).cx0 i j) (sgB A i j k * (lpOf A).cx1 i j) (sgB A i j k * (lpOf A).cx2 i j) (bd A i j k) (s : Int) = (n, D', bd A i j k, true) ∧ ∀ t, t < n + 2 → D'.ii t 0 = xC A i j k s (n + 2) t) ∧
   (¬ okC A i j k s (n + 2) → (m137 A i j k (sgB A i j k * (lpOf A).cx0 j k) (sgB A i j k * (lpOf A).cx1 j k) (sgB A i j k * (lpOf A).cx2 j k) (sgB A i j k * (lpOf A).cx0 k i) (sgB A i j k * (lpOf A).cx1 k i) (sgB A i j k * (lpOf A).cx2 k i) (sgB A i j k * (lpOf A).cx0 i j) (sgB A i j k * (lpOf A).cx1 i j) (sgB A i j k * (lpOf A).cx2 i j) (bd A i j k) (s : Int)).2.2.2 = false)) := by
 have few := K.few
 have hj2 : j < n + 2 := by omega
 have hk2 : k < n + 2 := by omega
 have hbd := bd_pos K hi hj hk hd
 obtain ⟨c1, c2, _⟩ := columns_spec K
 obtain ⟨b1, b2, B⟩ := bounds_spec K
 have s1 := cx_small K hj2 hk2
 have s2 := cx_small K hk2 hi
 have s3 := cx_small K hi hj2
 obtain ⟨F, hF, g1⟩ : ∃ F, n + 2 < F ∧ ∀ (x0 x1 x2 : Int), o137_0 A (n + 2) (m136 A).2 (n + 2) (m157 A).2 (n + 2) (m157 A).2 ((n + 2 : Nat) : Int) i j k (sgB A i j k * (lpOf A).cx0 j k) (sgB A i j k * (lpOf A).cx1 j k) (sgB A i j k * (lpOf A).cx2 j k) (sgB A i j k * (lpOf A).cx0 k i) (sgB A i j k * (lpOf A).cx1 k i) (sgB A i j k * (lpOf A).cx2 k i) (sgB A i j k * (lpOf A).cx0 i j) (sgB A i j k * (lpOf A).cx1 i j) (sgB A i j k * (lpOf A).cx2 i j) (bd A i j k) 0 (s : Int) 0 (datC [SV.int IntKind.i64 0]) (A.ii 0 9) 0 0 = l137_0 A (n + 2) (m136 A).2 (n + 2) (m157 A).2 (n + 2) (m157 A).2 ((n + 2 : Nat) : Int) i j k (sgB A i j k * (lpOf A).cx0 j k) (sgB A i j k * (lpOf A).cx1 j k) (sgB A i j k * (lpOf A).cx2 j k) (sgB A i j k * (lpOf A).cx0 k i) (sgB A i j k * (lpOf A).cx1 k i) (sgB A i j k * (lpOf A).cx2 k i) (sgB A i j k * (lpOf A).cx0 i j) (sgB A i j k * (lpOf A).cx1 i j) (sgB A i j k * (lpOf A).cx2 i j) (bd A i j k) 0 F (s : Int) ((0 : Nat) : Int) (datC [SV.int IntKind.i64 0]) (A.ii 0 9) 0 0 := by
  refine ⟨_, ?_, fun _ _ _ => rfl⟩
  exact ltp (by repeat (first | exact Nat.le_refl _ | exact Nat.le_add_left _ _ | apply Nat.le_add_right_of_le)) (by decide)
 obtain ⟨D', hl, hD'⟩ := corner_loop K (i := i) (j := j) (k := k) hs hbd (r3 := sgB A i j k * (lpOf A).cx0 j k) (r4 := sgB A i j k * (lpOf A).cx1 j k) (r5 := sgB A i j k * (lpOf A).cx2 j k) (r6 := sgB A i j k * (lpOf A).cx0 k i) (r7 := sgB A i j k * (lpOf A).cx1 k i) (r8 := sgB A i j k * (lpOf A).cx2 k i) (r9 := sgB A i j k * (lpOf A).cx0 i j) (r10 := sgB A i j k * (lpOf A).cx1 i j) (r11 := sgB A i j k * (lpOf A).cx2 i j) (n + 2) 0 F (datC [SV.int IntKind.i64 0]) (by omega) hF (fun t ht => by omega)
 have e0 : setAt i j k s 0 = s := rfl
 have e1 : lfA A i j k s 0 0 = A.ii 0 9 := (lp_b0 K).trans K.s9.symm
 have e2 : lfA A i j k s 1 0 = 0 := lp_b1 K (by omega)
 have e3 : lfA A i j k s 2 0 = 0 := lp_b1 K (by omega)
 rw [e0, e1, e2, e3, ← g1 0 0 0] at hl
 -- the three numbers
 have xi : xC A i j k s (n + 2) i = sgB A i j k * ((lpOf A).cx0 j k * lfA A i j k s 0 (n + 2) + (lpOf A).cx1 j k * lfA A i j k s 1 (n + 2) + (lpOf A).cx2 j k * lfA A i j k s 2 (n + 2)) := if_pos rfl
 have xj : xC A i j k s (n + 2) j = sgB A i j k * ((lpOf A).cx0 k i * lfA A i j k s 0 (n + 2) + (lpOf A).cx1 k i * lfA A i j k s 1 (n + 2) + (lpOf A).cx2 k i * lfA A i j k s 2 (n + 2)) := by
  unfold xC; rw [if_neg (by omega), if_pos rfl]
 have xk : xC A i j k s (n + 2) k = sgB A i j k * ((lpOf A).cx0 i j * lfA A i j k s 0 (n + 2) + (lpOf A).cx1 i j * lfA A i j k s 1 (n + 2) + (lpOf A).cx2 i j * lfA A i j k s 2 (n + 2)) := by
  unfold xC; rw [if_neg (by omega), if_neg (by omega), if_pos rfl]
 have di := (dot3 K (i := i) (j := j) (k := k) (s := s) s1.1 s1.2.1 s1.2.2).trans xi.symm
 have dj := (dot3 K (i := i) (j := j) (k := k) (s := s) s2.1 s2.2.1 s2.2.2).trans xj.symm
 have dk := (dot3 K (i := i) (j := j) (k := k) (s := s) s3.1 s3.2.1 s3.2.2).trans xk.symm
 have e73 : ∀ x y z, m83 x y z = m32 x y z := fun x y z => rfl
 have we : ∀ t, t < n + 2 → IntKind.i64.wrap (bd A i j k * (m157 A).2.ii t 0) = bd A i j k * (lpOf A).l t ∧ IntKind.i64.wrap (bd A i j k * (m157 A).2.ii t 1) = bd A i j k * (lpOf A).u t := fun t ht => by
  have es := end_small K ht
  have m1 := mulb2 hbd.1 hbd.2 es.1
  have m2 := mulb2 hbd.1 hbd.2 es.2.1
  rw [(B t ht).1, (B t ht).2, wr (by omega) (by omega), wr (by omega) (by omega)]
  exact ⟨rfl, rfl⟩
 have cN : ((n + 2 : Nat) : Int).toNat = n + 2 := by omega
 have k1 : decide (0 ≤ ((n + 2 : Nat) : Int) ∧ ((n + 2 : Nat) : Int) ≤ ((n + 2 : Nat) : Int) ∧ ((n + 2 : Nat) : Int) ≤ 1073741824) = true := decide_eq_true (by omega)
 have ki : decide (i < n + 2) = true := decide_eq_true hi
 have kj : decide (j < n + 2) = true := decide_eq_true hj2
 have kk : decide (k < n + 2) = true := decide_eq_true hk2
 have kn : decide ((0 : Int) ≤ (0 : Int) ∧ (0 : Int) ≤ (n : Int) ∧ (n : Int) ≤ ((n + 2 : Nat) : Int)) = true := decide_eq_true (by omega)
 have kn0 : ((n : Int) - 0).toNat = n := by omega
 have kn1 : decide (0 + n ≤ n + 2) = true := decide_eq_true (by omega)
 have kn2 : decide (n ≤ 1073741824) = true := decide_eq_true (by omega)
 have kn3 : decide (0 + n ≤ n) = true := decide_eq_true (by omega)
 -- the last numbers
 have fin : ∀ t, t < n + 2 → (((D'.upd i 0 [SV.int IntKind.i64 (xC A i j k s (n + 2) i)]).upd j 0 [SV.int IntKind.i64 (xC A i j k s (n + 2) j)]).upd k 0 [SV.int IntKind.i64 (xC A i j k s (n + 2) k)]).ii t 0 = xC A i j k s (n + 2) t := by
  intro t ht
  by_cases e3 : t = k
  ·subst e3; exact updS _ _ _
  rw [updO _ _ _ _ _ e3]
  by_cases e2 : t = j
  ·subst e2; exact updS _ _ _
  rw [updO _ _ _ _ _ e2]
  by_cases e1 : t = i
  ·subst e1; exact updS _ _ _
  rw [updO _ _ _ _ _ e1, hD' t ht (fun h => h.elim e1 fun h => h.elim e2 e3)]
  unfold xC
  rw [if_neg e1, if_neg e2, if_neg e3]
 simp only [n137, m137, c1, c2, b1, b2, cN, hl, Option.isSome_some, Option.getD_some, di, dj, dk, Int.toNat_natCast, updS, (we i hi).1, (we i hi).2, (we j hj2).1, (we j hj2).2, (we k hk2).1, (we k hk2).2, e73, k1, cdd hi, cdd hj2, cdd hk2, ki, kj, kk, K.s0, kn, kn0, kn1, kn2, kn3]
 by_cases wi : bd A i j k * (lpOf A).l i ≤ xC A i j k s (n + 2) i ∧ xC A i j k s (n + 2) i ≤ bd A i j k * (lpOf A).u i
 ·by_cases wj : bd A i j k * (lpOf A).l j ≤ xC A i j k s (n + 2) j ∧ xC A i j k s (n + 2) j ≤ bd A i j k * (lpOf A).u j
  ·by_cases wk : bd A i j k * (lpOf A).l k ≤ xC A i j k s (n + 2) k ∧ xC A i j k s (n + 2) k ≤ bd A i j k * (lpOf A).u k
   ·rw [m32_iff.2 wi, m32_iff.2 wj, m32_iff.2 wk]
    refine ⟨rfl, fun _ => ⟨_, rfl, fin⟩, fun h => absurd ?_ h⟩
    intro t ht
    rcases ht with rfl | rfl | rfl
    ·exact wi
    ·exact wj
    ·exact wk
   ·rw [m32_iff.2 wi, m32_iff.2 wj, m32_f wk]
    exact ⟨rfl, fun h => absurd (h k (.inr (.inr rfl))) wk, fun _ => rfl⟩
  ·rw [m32_iff.2 wi, m32_f wj]
   exact ⟨rfl, fun h => absurd (h j (.inr (.inl rfl))) wj, fun _ => rfl⟩
 ·rw [m32_f wi]
  exact ⟨rfl, fun h => absurd (h i (.inl rfl)) wi, fun _ => rfl⟩
end
end Go.Proofs.Ytmndejpcpfkajaa
namespace Go.Proofs.Ytmndejpcpfkajaa
open Go Go.Sy Lin
set_option linter.unusedVariables false
set_option linter.unusedSimpArgs false
set_option linter.unusedSectionVars false
set_option maxRecDepth 100000
def Best (A : Dat) (n : Nat) (d : Dat) (P : Nat → Nat → Nat → Nat → Prop) (bn : Nat) (bp : Dat) (den least : Int) (fd : Bool) : Prop :=
 (fd = false ∧ ∀ i j k s, P i j k s → ¬ okC A i j k s (n + 2)) ∨
 (fd = true ∧ bn = n ∧ (1 ≤ den ∧ den ≤ 1000000) ∧ (lpOf A).Plan den (xOf n d bp) ∧ (lpOf A).cost (xOf n d bp) = least ∧ (0 ≤ least ∧ least ≤ 9223372036854775807) ∧
  ∀ i j k s, P i j k s → okC A i j k s (n + 2) → least * bd A i j k ≤ (lpOf A).cost (xC A i j k s (n + 2)) * den)
section
variable {A : Dat} {n : Nat} {d : Dat} {w O1 O2 H1 H2 : Int} (K : AskK A n d w O1 O2 H1 H2)
include K
theorem cost_small {den : Int} {dp : Dat} (hden : 1 ≤ den ∧ den ≤ 1000000) (hP : (lpOf A).Plan den (xOf n d dp)) : 0 ≤ (lpOf A).cost (xOf n d dp) ∧ (lpOf A).cost (xOf n d dp) ≤ 9223372036854775807 := by
 have few := K.few
 rw [xplan_iff K] at hP
 rw [xcost K]
 have := sm_bnd (f := fun i => dp.ii i 0 * d.ii i 3) (M := 10000000000000000) (i := n) fun j hj => by
  have am := K.amount j hj
  have ce := K.cents j hj
  have h := hP.2.1 j hj
  have m1 := mulb (show 0 ≤ den by omega) hden.2 am.1 am.2
  have := mulb h.1 (show dp.ii j 0 ≤ 10000000000000 by omega) ce.1 ce.2
  omega
 omega
theorem best_round {i j k s : Nat} (hi : i < n + 2) (hj : j < i) (hk : k < j) (hd : (lpOf A).dt i j k ≠ 0) (hs : s < 4294967296) (T : Nat) (hsT : s < T) (b1 : Int) (f : Nat) {P : Nat → Nat → Nat → Nat → Prop} {bn : Nat} {bp : Dat} {den least : Int} {fd : Bool} (hPv : ∀ i j k s, P i j k s → 1 ≤ bd A i j k) (hB : Best A n d P bn bp den least fd) :
  ∃ bn' bp' den' least' fd', l94_2 (T : Int) A b1 i j k (sgB A i j k * (lpOf A).cx0 j k) (sgB A i j k * (lpOf A).cx1 j k) (sgB A i j k * (lpOf A).cx2 j k) (sgB A i j k * (lpOf A).cx0 k i) (sgB A i j k * (lpOf A).cx1 k i) (sgB A i j k * (lpOf A).cx2 k i) (sgB A i j k * (lpOf A).cx0 i j) (sgB A i j k * (lpOf A).cx1 i j) (sgB A i j k * (lpOf A).cx2 i j) (bd A i j k) (f + 1) (s : Int) bn bp den least fd =
   l94_2 (T : Int) A b1 i j k (sgB A i j k * (lpOf A).cx0 j k) (sgB A i j k * (lpOf A).cx1 j k) (sgB A i j k * (lpOf A).cx2 j k) (sgB A i j k * (lpOf A).cx0 k i) (sgB A i j k * (lpOf A).cx1 k i) (sgB A i j k * (lpOf A).cx2 k i) (sgB A i j k * (lpOf A).cx0 i j) (sgB A i j k * (lpOf A).cx1 i j) (sgB A i j k * (lpOf A).cx2 i j) (bd A i j k) f ((s + 1 : Nat) : Int) bn' bp' den' least' fd' ∧
   Best A n d (fun i' j' k' s' => P i' j' k' s' ∨ (i' = i ∧ j' = j ∧ k' = k ∧ s' = s)) bn' bp' den' least' fd' := by
 have hbd := bd_pos K hi hj hk hd
 obtain ⟨c1, cy, cn⟩ := corner_spec K hi hj hk hd hs
 have u7 : IntKind.i64.wrap ((s : Int) + 1) = ((s + 1 : Nat) : Int) := by rw [wr (by omega) (by omega)]; omega
 by_cases ho : okC A i j k s (n + 2)
 ·obtain ⟨D', he, hD'⟩ := cy ho
  obtain ⟨p1, -, p3⟩ := plan_spec K n D' (bd A i j k)
  have hplan : (lpOf A).Plan (bd A i j k) (xC A i j k s (n + 2)) := by
   have := corner_plan (A := A) (lp_lu K) (i := i) (j := j) (k := k) (s := s) (by rw [lp_n K]; exact hi) hj hk hbd.1 (by rw [lp_n K]; exact ho)
   rw [lp_n K] at this; exact this
  have hx : ∀ t, t < n + 2 → xOf n d D' t = xC A i j k s (n + 2) t := by
   have q := (plan_iff K (bd A i j k) (xC A i j k s (n + 2))).1 hplan
   intro t ht
   rcases (by omega : t < n ∨ t = n ∨ t = n + 1) with h | rfl | rfl
   ·rw [xOf_lt h, hD' t ht]
   ·rw [xOf_n, sm_congr (g := fun i' => xC A i j k s (t + 2) i' * d.ii i' 1) fun i' h' => by rw [hD' i' (by omega)]]
    exact q.2.2.2.2.2.1
   ·rw [xOf_n1, sm_congr (g := fun i' => xC A i j k s (n + 2) i' * d.ii i' 2) fun i' h' => by rw [hD' i' (by omega)]]
    exact q.2.2.2.2.2.2
  have hplan' : (lpOf A).Plan (bd A i j k) (xOf n d D') := by
   refine ⟨hplan.1, fun t ht => ?_, fun m hm => ?_⟩
   ·rw [hx t (by rw [lp_n K] at ht; exact ht)]; exact hplan.2.1 t ht
   ·rw [← hplan.2.2 m hm]
    exact sm_congr fun t ht => by rw [hx t (by rw [lp_n K] at ht; exact ht)]
  have hcost : (lpOf A).cost (xOf n d D') = (lpOf A).cost (xC A i j k s (n + 2)) := by
   unfold Lp.cost
   exact sm_congr fun t ht => by rw [hx t (by rw [lp_n K] at ht; exact ht)]
  have hm97 := p3 rfl hbd.1 hbd.2 hplan'
  have hcs := cost_small K hbd hplan'
  generalize hC : (lpOf A).cost (xOf n d D') = C at *
  have fresh : ∀ (Q : ∀ i' j' k' s', P i' j' k' s' → okC A i' j' k' s' (n + 2) → C * bd A i' j' k' ≤ (lpOf A).cost (xC A i' j' k' s' (n + 2)) * bd A i j k),
    Best A n d (fun i' j' k' s' => P i' j' k' s' ∨ (i' = i ∧ j' = j ∧ k' = k ∧ s' = s)) n D' (bd A i j k) C true := fun Q => by
   refine .inr ⟨rfl, rfl, hbd, hplan', hC, hcs, fun i' j' k' s' hp hok => ?_⟩
   rcases hp with hp | ⟨rfl, rfl, rfl, rfl⟩
   ·exact Q i' j' k' s' hp hok
   ·rw [← hcost]; exact Int.le_refl _
  rcases hB with ⟨rfl, hno⟩ | ⟨rfl, rfl, hden, hpl, hlc, hl0, hall⟩
  ·refine ⟨n, D', bd A i j k, C, true, ?_, fresh fun i' j' k' s' hp hok => absurd hok (hno i' j' k' s' hp)⟩
   simp only [l94_2, cdl hsT, cond_true, c1, he, p1, hm97, u7]
   rfl
  ·obtain ⟨v1, v2⟩ := compare_prog (n := C) (d := bd A i j k) (m := least) (k := den) hcs.1 (by omega) (by omega) (by omega) (by omega) hcs.2 hl0.2
   by_cases hlt : C * den < least * bd A i j k
   ·refine ⟨bn, D', bd A i j k, C, true, ?_, fresh fun i' j' k' s' hp hok => ?_⟩
    ·simp only [l94_2, cdl hsT, cond_true, c1, he, p1, hm97, u7, v1, v2, sgn_neg (show C * den - least * bd A i j k < 0 by omega)]
     rfl
    ·have h1 := hall i' j' k' s' hp hok
     have hv := hPv i' j' k' s' hp
     have m1 := Int.mul_le_mul_of_nonneg_right (show C * den ≤ least * bd A i j k by omega) (show 0 ≤ bd A i' j' k' by omega)
     have m2 := Int.mul_le_mul_of_nonneg_right h1 (show 0 ≤ bd A i j k by omega)
     refine Int.le_of_mul_le_mul_right ?_ (show 0 < den by omega)
     have e1 : C * bd A i' j' k' * den = C * den * bd A i' j' k' := by grind
     have e2 : (lpOf A).cost (xC A i' j' k' s' (bn + 2)) * bd A i j k * den = (lpOf A).cost (xC A i' j' k' s' (bn + 2)) * den * bd A i j k := by grind
     have e3 : least * bd A i j k * bd A i' j' k' = least * bd A i' j' k' * bd A i j k := by grind
     omega
   ·refine ⟨bn, bp, den, least, true, ?_, .inr ⟨rfl, rfl, hden, hpl, hlc, hl0, fun i' j' k' s' hp hok => ?_⟩⟩
    ·have hns : ¬ sgn (C * den - least * bd A i j k) < 0 := by
      unfold sgn; split <;> (try split) <;> omega
     simp only [l94_2, cdl hsT, cond_true, c1, he, p1, hm97, u7, v1, v2, decide_eq_false hns]
     rfl
    ·rcases hp with hp | ⟨rfl, rfl, rfl, rfl⟩
     ·exact hall i' j' k' s' hp hok
     ·rw [← hcost]; omega
 ·refine ⟨bn, bp, den, least, fd, ?_, ?_⟩
  ·simp only [l94_2, cdl hsT, cond_true, c1, cn ho, u7]
   rfl
  ·rcases hB with ⟨h1, hno⟩ | ⟨h1, h2, h3, h4, h5, h6, hall⟩
   ·refine .inl ⟨h1, fun i' j' k' s' hp => ?_⟩
    rcases hp with hp | ⟨rfl, rfl, rfl, rfl⟩
    ·exact hno i' j' k' s' hp
    ·exact ho
   ·refine .inr ⟨h1, h2, h3, h4, h5, h6, fun i' j' k' s' hp hok => ?_⟩
    rcases hp with hp | ⟨rfl, rfl, rfl, rfl⟩
    ·exact hall i' j' k' s' hp hok
    ·exact absurd hok ho
omit K in
theorem Best.congr {P Q : Nat → Nat → Nat → Nat → Prop} (h : ∀ i j k s, P i j k s ↔ Q i j k s) {bn : Nat} {bp : Dat} {den least : Int} {fd : Bool} (hB : Best A n d P bn bp den least fd) : Best A n d Q bn bp den least fd := by
 rcases hB with ⟨h1, hno⟩ | ⟨h1, h2, h3, h4, h5, h6, hall⟩
 ·exact .inl ⟨h1, fun i j k s hp => hno i j k s ((h i j k s).2 hp)⟩
 ·exact .inr ⟨h1, h2, h3, h4, h5, h6, fun i j k s hp => hall i j k s ((h i j k s).2 hp)⟩
theorem best_sets {i j k : Nat} (hi : i < n + 2) (hj : j < i) (hk : k < j) (hd : (lpOf A).dt i j k ≠ 0) (T : Nat) (hT : T ≤ 4294967296) (b1 : Int) {P : Nat → Nat → Nat → Nat → Prop} (hPv : ∀ i j k s, P i j k s → 1 ≤ bd A i j k) :
  ∀ (q s f : Nat) (bn : Nat) (bp : Dat) (den least : Int) (fd : Bool), s + q = T → q < f → Best A n d (fun i' j' k' s' => P i' j' k' s' ∨ (i' = i ∧ j' = j ∧ k' = k ∧ s' < s)) bn bp den least fd →
   ∃ bn' bp' den' least' fd', l94_2 (T : Int) A b1 i j k (sgB A i j k * (lpOf A).cx0 j k) (sgB A i j k * (lpOf A).cx1 j k) (sgB A i j k * (lpOf A).cx2 j k) (sgB A i j k * (lpOf A).cx0 k i) (sgB A i j k * (lpOf A).cx1 k i) (sgB A i j k * (lpOf A).cx2 k i) (sgB A i j k * (lpOf A).cx0 i j) (sgB A i j k * (lpOf A).cx1 i j) (sgB A i j k * (lpOf A).cx2 i j) (bd A i j k) f (s : Int) bn bp den least fd = some (bn', bp', den', least', fd') ∧
    Best A n d (fun i' j' k' s' => P i' j' k' s' ∨ (i' = i ∧ j' = j ∧ k' = k ∧ s' < T)) bn' bp' den' least' fd'
 | 0, s, f, bn, bp, den, least, fd, hq, hf, hB => by
  obtain ⟨f, rfl⟩ : ∃ g, f = g + 1 := ⟨f - 1, by omega⟩
  obtain rfl : s = T := by omega
  exact ⟨bn, bp, den, least, fd, by simp only [l94_2, cdn]; rfl, hB⟩
 | q + 1, s, f, bn, bp, den, least, fd, hq, hf, hB => by
  obtain ⟨f, rfl⟩ : ∃ g, f = g + 1 := ⟨f - 1, by omega⟩
  have hbd := bd_pos K hi hj hk hd
  obtain ⟨bn', bp', den', least', fd', he, hB'⟩ := best_round K hi hj hk hd (show s < 4294967296 by omega) T (by omega) b1 f (fun i' j' k' s' hp => by
   rcases hp with hp | ⟨rfl, rfl, rfl, _⟩
   ·exact hPv i' j' k' s' hp
   ·exact hbd.1) hB
  rw [he]
  refine best_sets hi hj hk hd T hT b1 hPv q (s + 1) f bn' bp' den' least' fd' (by omega) (by omega) (hB'.congr fun i' j' k' s' => ?_)
  constructor
  ·rintro ((h | ⟨a, b, c, e⟩) | ⟨a, b, c, e⟩)
   ·exact .inl h
   ·exact .inr ⟨a, b, c, by omega⟩
   ·exact .inr ⟨a, b, c, by omega⟩
  ·rintro (h | ⟨a, b, c, e⟩)
   ·exact .inl (.inl h)
   ·rcases Nat.lt_or_ge s' s with g | g
    ·exact .inl (.inr ⟨a, b, c, g⟩)
    ·exact .inr ⟨a, b, c, by omega⟩
theorem two_pow : IntKind.i64.wrap (1 * (2 ^ (min ((IntKind.i64.wrap ((n : Int) - 1)).toNat) 64))) = ((2 ^ (n - 1) : Nat) : Int) ∧ 0 ≤ IntKind.i64.wrap ((n : Int) - 1) ∧ 2 ^ (n - 1) ≤ 4294967296 := by
 have few := K.few
 have pos := K.pos
 rw [wr (n := (n : Int) - 1) (by omega) (by omega)]
 rcases (by omega : n = 1 ∨ n = 2 ∨ n = 3 ∨ n = 4 ∨ n = 5) with h | h | h | h | h
 all_goals
  rw [h]
  refine ⟨?_, by decide, by decide⟩
  exact wr (by decide) (by decide)
theorem best_loop (b1 : Int) : ∀ (f kk : Nat) (bn : Nat) (bp : Dat) (den least : Int) (fd : Bool), kk + f = N155 (tOf A) →
  Best A n d (fun i j k s => (∃ q, q < kk ∧ (all155 (tOf A))[q]? = some (i, j, k)) ∧ s < 2 ^ (n - 1)) bn bp den least fd →
  ∃ bn' bp' den' least' fd', l94_0 (tOf A) A b1 (Y155 (tOf A)) f kk bn bp den least fd = some (bn', bp', den', least', fd') ∧
   Best A n d (fun i j k s => (∃ q, q < N155 (tOf A) ∧ (all155 (tOf A))[q]? = some (i, j, k)) ∧ s < 2 ^ (n - 1)) bn' bp' den' least' fd'
 | 0, kk, bn, bp, den, least, fd, hq, hB => by
  obtain rfl : kk = N155 (tOf A) := by omega
  exact ⟨bn, bp, den, least, fd, rfl, hB⟩
 | f + 1, kk, bn, bp, den, least, fd, hq, hB => by
  obtain ⟨i, j, k, hi, hj, hk, hd, he, hY⟩ := yielded K (show kk < N155 (tOf A) by omega)
  have R := row_eq K hi hj hk
  have r0 : (Y155 (tOf A)).ii kk 0 = (i : Int) := by rw [hY]; exact R 0
  have r1 : (Y155 (tOf A)).ii kk 1 = (j : Int) := by rw [hY]; exact R 1
  have r2 : (Y155 (tOf A)).ii kk 2 = (k : Int) := by rw [hY]; exact R 2
  have r3 : (Y155 (tOf A)).ii kk 3 = sgB A i j k * (lpOf A).cx0 j k := by rw [hY]; exact R 3
  have r4 : (Y155 (tOf A)).ii kk 4 = sgB A i j k * (lpOf A).cx1 j k := by rw [hY]; exact R 4
  have r5 : (Y155 (tOf A)).ii kk 5 = sgB A i j k * (lpOf A).cx2 j k := by rw [hY]; exact R 5
  have r6 : (Y155 (tOf A)).ii kk 6 = sgB A i j k * (lpOf A).cx0 k i := by rw [hY]; exact R 6
  have r7 : (Y155 (tOf A)).ii kk 7 = sgB A i j k * (lpOf A).cx1 k i := by rw [hY]; exact R 7
  have r8 : (Y155 (tOf A)).ii kk 8 = sgB A i j k * (lpOf A).cx2 k i := by rw [hY]; exact R 8
  have r9 : (Y155 (tOf A)).ii kk 9 = sgB A i j k * (lpOf A).cx0 i j := by rw [hY]; exact R 9
  have r10 : (Y155 (tOf A)).ii kk 10 = sgB A i j k * (lpOf A).cx1 i j := by rw [hY]; exact R 10
  have r11 : (Y155 (tOf A)).ii kk 11 = sgB A i j k * (lpOf A).cx2 i j := by rw [hY]; exact R 11
  have r12 : (Y155 (tOf A)).ii kk 12 = bd A i j k := by rw [hY]; exact R 12
  obtain ⟨t1, t2, t3⟩ := two_pow K
  have hPv : ∀ i' j' k' s', ((∃ q, q < kk ∧ (all155 (tOf A))[q]? = some (i', j', k')) ∧ s' < 2 ^ (n - 1)) → 1 ≤ bd A i' j' k' := by
   rintro i' j' k' s' ⟨⟨q, hq1, hq2⟩, _⟩
   obtain ⟨i2, j2, k2, u1, u2, u3, u4, u5, _⟩ := yielded K (show q < N155 (tOf A) by omega)
   rw [hq2] at u5
   simp only [Option.some.injEq, Prod.mk.injEq] at u5
   obtain ⟨rfl, rfl, rfl⟩ := u5
   exact (bd_pos K u1 u2 u3 u4).1
  obtain ⟨F, hF, g⟩ : ∃ F, 2 ^ (n - 1) < F ∧ o94_2 ((2 ^ (n - 1) : Nat) : Int) A b1 i j k (sgB A i j k * (lpOf A).cx0 j k) (sgB A i j k * (lpOf A).cx1 j k) (sgB A i j k * (lpOf A).cx2 j k) (sgB A i j k * (lpOf A).cx0 k i) (sgB A i j k * (lpOf A).cx1 k i) (sgB A i j k * (lpOf A).cx2 k i) (sgB A i j k * (lpOf A).cx0 i j) (sgB A i j k * (lpOf A).cx1 i j) (sgB A i j k * (lpOf A).cx2 i j) (bd A i j k) 0 bn bp den least fd = l94_2 ((2 ^ (n - 1) : Nat) : Int) A b1 i j k (sgB A i j k * (lpOf A).cx0 j k) (sgB A i j k * (lpOf A).cx1 j k) (sgB A i j k * (lpOf A).cx2 j k) (sgB A i j k * (lpOf A).cx0 k i) (sgB A i j k * (lpOf A).cx1 k i) (sgB A i j k * (lpOf A).cx2 k i) (sgB A i j k * (lpOf A).cx0 i j) (sgB A i j k * (lpOf A).cx1 i j) (sgB A i j k * (lpOf A).cx2 i j) (bd A i j k) F ((0 : Nat) : Int) bn bp den least fd := by
   refine ⟨_, ?_, rfl⟩
   rw [Int.toNat_natCast]
   exact ltp (by repeat (first | exact Nat.le_refl _ | exact Nat.le_add_left _ _ | apply Nat.le_add_right_of_le)) (by decide)
  obtain ⟨bn', bp', den', least', fd', hl, hB'⟩ := best_sets K hi hj hk hd (2 ^ (n - 1)) t3 b1 hPv (2 ^ (n - 1)) 0 F bn bp den least fd (by omega) hF (hB.congr fun i' j' k' s' => by
   constructor
   ·exact .inl
   ·rintro (h | ⟨_, _, _, h⟩)
    ·exact h
    ·omega)
  rw [← g] at hl
  simp only [l94_0, K.s0, decide_eq_true t2, cond_true, t1, r0, r1, r2, r3, r4, r5, r6, r7, r8, r9, r10, r11, r12, hl, Option.isSome_some, Option.getD_some]
  refine best_loop b1 f (kk + 1) bn' bp' den' least' fd' (by omega) (hB'.congr fun i' j' k' s' => ?_)
  constructor
  ·rintro (⟨⟨q, h1, h2⟩, h3⟩ | ⟨rfl, rfl, rfl, h3⟩)
   ·exact ⟨⟨q, by omega, h2⟩, h3⟩
   ·exact ⟨⟨kk, by omega, he⟩, h3⟩
  ·rintro ⟨⟨q, h1, h2⟩, h3⟩
   rcases Nat.lt_or_ge q kk with g | g
   ·exact .inl ⟨⟨q, g, h2⟩, h3⟩
   ·obtain rfl : q = kk := by omega
    rw [he] at h2
    simp only [Option.some.injEq, Prod.mk.injEq] at h2
    obtain ⟨rfl, rfl, rfl⟩ := h2
    exact .inr ⟨rfl, rfl, rfl, h3⟩
theorem cheapest_spec : n94 A = true ∧ ∃ bn bp den least fd, m94 A = (bn, bp, den, fd) ∧ Best A n d (fun i j k s => (i < n + 2 ∧ j < i ∧ k < j ∧ (lpOf A).dt i j k ≠ 0) ∧ s < 2 ^ (n - 1)) bn bp den least fd := by
 obtain ⟨bn, bp, den, least, fd, hl, hB⟩ := best_loop K 0 (N155 (tOf A)) 0 0 noDat 0 0 false (by omega) (.inl ⟨rfl, fun i j k s h => by obtain ⟨⟨q, hq, _⟩, _⟩ := h; omega⟩)
 have ho : o94_0 (m135 ((m136 A).fst) ((m136 A).snd)) A 0 0 noDat 0 0 false = some (bn, bp, den, least, fd) := hl
 have hok : ok155 (m135 ((m136 A).fst) ((m136 A).snd)) = true := ok_t K
 simp only [n94, m94, (columns_spec K).1, ho, hok, Option.isSome_some, Option.getD_some]
 refine ⟨by trivial, bn, bp, den, least, fd, rfl, hB.congr fun i j k s => ?_⟩
 constructor
 ·rintro ⟨⟨q, hq, he⟩, hs⟩
  obtain ⟨i2, j2, k2, u1, u2, u3, u4, u5, _⟩ := yielded K hq
  rw [he] at u5
  simp only [Option.some.injEq, Prod.mk.injEq] at u5
  obtain ⟨rfl, rfl, rfl⟩ := u5
  exact ⟨⟨u1, u2, u3, u4⟩, hs⟩
 ·rintro ⟨⟨h1, h2, h3, h4⟩, hs⟩
  exact ⟨all_yielded K h1 h2 h3 h4, hs⟩
end
end Go.Proofs.Ytmndejpcpfkajaa
namespace Go.Proofs.Ytmndejpcpfkajaa
open Go Go.Sy Lin
set_option linter.unusedVariables false
set_option linter.unusedSimpArgs false
set_option linter.unusedSectionVars false
set_option maxRecDepth 100000
theorem swap12 (T : Lp) (i j k : Nat) : T.dt j i k = -1 * T.dt i j k ∧ T.yv0 j i k = -1 * T.yv0 i j k ∧ T.yv1 j i k = -1 * T.yv1 i j k ∧ T.yv2 j i k = -1 * T.yv2 i j k := by
 unfold Lp.dt Lp.yv0 Lp.yv1 Lp.yv2 Lp.cx0 Lp.cx1 Lp.cx2
 refine ⟨?_, ?_, ?_, ?_⟩ <;> grind
theorem swap23 (T : Lp) (i j k : Nat) : T.dt i k j = -1 * T.dt i j k ∧ T.yv0 i k j = -1 * T.yv0 i j k ∧ T.yv1 i k j = -1 * T.yv1 i j k ∧ T.yv2 i k j = -1 * T.yv2 i j k := by
 unfold Lp.dt Lp.yv0 Lp.yv1 Lp.yv2 Lp.cx0 Lp.cx1 Lp.cx2
 refine ⟨?_, ?_, ?_, ?_⟩ <;> grind
def Srt (T : Lp) (i j k a b c : Nat) (ε : Int) : Prop := T.dt a b c = ε * T.dt i j k ∧ T.yv0 a b c = ε * T.yv0 i j k ∧ T.yv1 a b c = ε * T.yv1 i j k ∧ T.yv2 a b c = ε * T.yv2 i j k
theorem Srt.s12 {T : Lp} {i j k a b c : Nat} {ε : Int} (h : Srt T i j k a b c ε) : Srt T i j k b a c (-ε) := by
 obtain ⟨h0, h1, h2, h3⟩ := h
 obtain ⟨s0, s1, s2, s3⟩ := swap12 T a b c
 refine ⟨?_, ?_, ?_, ?_⟩
 ·rw [s0, h0]; grind
 ·rw [s1, h1]; grind
 ·rw [s2, h2]; grind
 ·rw [s3, h3]; grind
theorem Srt.s23 {T : Lp} {i j k a b c : Nat} {ε : Int} (h : Srt T i j k a b c ε) : Srt T i j k a c b (-ε) := by
 obtain ⟨h0, h1, h2, h3⟩ := h
 obtain ⟨s0, s1, s2, s3⟩ := swap23 T a b c
 refine ⟨?_, ?_, ?_, ?_⟩
 ·rw [s0, h0]; grind
 ·rw [s1, h1]; grind
 ·rw [s2, h2]; grind
 ·rw [s3, h3]; grind
theorem sortB (T : Lp) {i j k : Nat} (h : T.dt i j k ≠ 0) : ∃ a b c ε, (ε = 1 ∨ ε = -1) ∧ b < a ∧ c < b ∧ (∀ t, isIn i j k t ↔ isIn a b c t) ∧ Srt T i j k a b c ε := by
 have dd12 : i ≠ j := fun e => by subst e; apply h; unfold Lp.dt Lp.cx0 Lp.cx1 Lp.cx2; grind
 have dd23 : j ≠ k := fun e => by subst e; apply h; unfold Lp.dt Lp.cx0 Lp.cx1 Lp.cx2; grind
 have dd13 : i ≠ k := fun e => by subst e; apply h; unfold Lp.dt Lp.cx0 Lp.cx1 Lp.cx2; grind
 have id_ : Srt T i j k i j k 1 := ⟨by omega, by omega, by omega, by omega⟩
 rcases Nat.lt_or_gt_of_ne dd12 with h1 | h1 <;> rcases Nat.lt_or_gt_of_ne dd23 with h2 | h2 <;> rcases Nat.lt_or_gt_of_ne dd13 with h3 | h3
 ·exact ⟨k, j, i, -1, .inr rfl, h2, h1, fun t => by unfold isIn; omega, id_.s12.s23.s12⟩
 ·omega
 ·exact ⟨j, k, i, 1, .inl rfl, h2, h3, fun t => by unfold isIn; omega, id_.s12.s23⟩
 ·exact ⟨j, i, k, -1, .inr rfl, h1, h3, fun t => by unfold isIn; omega, id_.s12⟩
 ·exact ⟨k, i, j, 1, .inl rfl, h3, h1, fun t => by unfold isIn; omega, id_.s23.s12⟩
 ·exact ⟨i, k, j, -1, .inr rfl, h3, h2, fun t => by unfold isIn; omega, id_.s23⟩
 ·omega
 ·exact ⟨i, j, k, 1, .inl rfl, h1, h2, fun t => Iff.rfl, id_⟩
theorem H_zero (T : Lp) (hc : ∀ j, j < T.n → T.c j = 0) (s : Int) : T.H 0 0 0 s = 0 := by
 unfold Lp.H
 rw [sm_zero fun j hj => by
  unfold Lp.yl
  rw [hc j hj]
  simp [Lp.phi]]
 simp
theorem H_free (T : Lp) (y0 y1 y2 : Int) : ({ T with c := fun _ => 0 } : Lp).H y0 y1 y2 0 = T.H y0 y1 y2 0 := by
 unfold Lp.H
 show y0 * T.b 0 + y1 * T.b 1 + y2 * T.b 2 - sm (fun j => Lp.phi (T.l j) (T.u j) (T.yl y0 y1 y2 j - 0 * 0)) T.n = y0 * T.b 0 + y1 * T.b 1 + y2 * T.b 2 - sm (fun j => Lp.phi (T.l j) (T.u j) (T.yl y0 y1 y2 j - 0 * T.c j)) T.n
 congr 2
 funext j
 rw [Int.zero_mul, Int.zero_mul]
section
variable {A : Dat} {n : Nat} {d : Dat} {w O1 O2 H1 H2 : Int} (K : AskK A n d w O1 O2 H1 H2)
include K
theorem fill_spec : n94 A = true ∧ n95 A = true ∧ n96 A = true ∧
  ((∃ bp den least W a b c e q m, m94 A = (n, bp, den, true) ∧ (1 ≤ den ∧ den ≤ 1000000) ∧ (lpOf A).Plan den (xOf n d bp) ∧ (lpOf A).cost (xOf n d bp) = least ∧ m96 A = (W, a, b, c, e, q) ∧ InW W a b c e q ∧ m99 A W a b c e q 1 = m ∧ least * q = m * den) ∨
   ((∀ D X, ¬ (lpOf A).Plan D X) ∧ (m94 A).2.2.2 = false ∧ ∃ W a b c e q, m95 A = (W, a, b, c, e, q) ∧ InW W a b c e q ∧ 0 < m99 A W a b c e q 0)) := by
 obtain ⟨x1, bn, bp, den, least, fd, x2, hB⟩ := cheapest_spec K
 obtain ⟨y1, W, a, b, c, e, q, m, y2, hW, hm, hm0, hall⟩ := prices_spec K
 obtain ⟨z1, W', a', b', c', e', q', z2, hW', href⟩ := refusal_spec K
 refine ⟨x1, z1, y1, ?_⟩
 have hlu := lp_lu K
 have hsp := lp_span K
 have hN := lp_n K
 by_cases hex : ∃ D X, (lpOf A).Plan D X
 ·left
  obtain ⟨D0, X0, hP0⟩ := hex
  have hq : 0 < q := by have := hW.1; omega
  rcases (lpOf A).altern hlu m q with ⟨D, X, hP, hc⟩ | ⟨v0, v1, v2, s, hs, hv⟩
  ·obtain ⟨D', X', hP', hc', hind⟩ := (lpOf A).corner_of (by omega : 0 ≤ q) _ D X rfl hP hc
   obtain ⟨i, j, k, hi, hj, hk, hd, hin⟩ := (lpOf A).basis_of hsp hind
   obtain ⟨i', j', k', ε, hε, hji, hkj, hmem, hS⟩ := sortB (lpOf A) hd
   have hi' : i' < (lpOf A).n := by
    rcases (hmem i').2 (.inl rfl) with h | h | h <;> omega
   have hd' : (lpOf A).dt i' j' k' ≠ 0 := by
    rw [hS.1]; rcases hε with h | h <;> rw [h] <;> omega
   obtain ⟨s, hs, hok, hx⟩ := corner_complete hi' hji hkj hd' hP' fun t ht hI => (hmem t).1 (hin t ht hI)
   rw [hN] at hi' hs hok hx
   have hs : s < 2 ^ (n - 1) := by rw [show n + 2 - 3 = n - 1 by omega] at hs; exact hs
   have hcx : D' * (lpOf A).cost (xC A i' j' k' s (n + 2)) = bd A i' j' k' * (lpOf A).cost X' := by
    unfold Lp.cost
    rw [← sm_mul, ← sm_mul]
    refine sm_congr fun t ht => ?_
    rw [hN] at ht
    rw [← Int.mul_assoc, hx t ht, Int.mul_assoc]
   have hbd := bd_pos K hi' hji hkj hd'
   rcases hB with ⟨_, hno⟩ | ⟨rfl, rfl, hden, hpl, hlc, hl0, hbest⟩
   ·exact absurd hok (hno i' j' k' s ⟨⟨hi', hji, hkj, hd'⟩, hs⟩)
   ·have h1 := hbest i' j' k' s ⟨⟨hi', hji, hkj, hd'⟩, hs⟩ hok
    refine ⟨bp, den, least, W, a, b, c, e, q, m, x2, hden, hpl, hlc, y2, hW, hm, Int.le_antisymm ?_ ?_⟩
    ·-- the corner is no dearer than the prices say
     have hD' := hP'.1
     have pos : 0 < bd A i' j' k' * D' := Int.mul_pos (by omega) hD'
     refine Int.le_of_mul_le_mul_right ?_ pos
     have a1 := Int.mul_le_mul_of_nonneg_right h1 (show 0 ≤ D' * q from Int.mul_nonneg (by omega) (by omega))
     have a2 := Int.mul_le_mul_of_nonneg_right hc' (show 0 ≤ bd A i' j' k' * den from Int.mul_nonneg (by omega) (by omega))
     have e1 : least * q * (bd A i' j' k' * D') = least * bd A i' j' k' * (D' * q) := by grind
     have e2 : (lpOf A).cost (xC A i' j' k' s (bn + 2)) * den * (D' * q) = (D' * (lpOf A).cost (xC A i' j' k' s (bn + 2))) * (den * q) := by grind
     have e3 : (bd A i' j' k' * (lpOf A).cost X') * (den * q) = q * (lpOf A).cost X' * (bd A i' j' k' * den) := by grind
     have e4 : D' * m * (bd A i' j' k' * den) = m * den * (bd A i' j' k' * D') := by grind
     rw [hcx] at e2
     omega
    ·have hw := (lpOf A).weak hpl W (a - b) (c - e) q
     obtain ⟨i1, i2, i3, i4, i5, i6⟩ := hW
     have hv := (value_le K (times := 1) (.inr rfl) i1 i2 i3 i4 i5 i6).1
     rw [hm, Int.one_mul] at hv
     have := Int.mul_le_mul_of_nonneg_left hv (show 0 ≤ den by omega)
     rw [hlc] at hw
     have e1 : m * den = den * m := Int.mul_comm _ _
     have e2 : least * q = q * least := Int.mul_comm _ _
     omega
  ·exfalso
   have hv' : 0 < q * (lpOf A).H v0 v1 v2 (q * s) - m * (q * s) := by
    have := Int.mul_lt_mul_of_pos_left hv hq
    have e1 : q * (s * m) = m * (q * s) := by grind
    omega
   rcases (lpOf A).rays hlu hsp (Int.mul_nonneg (by omega) hs) hv' with ⟨i, k, σ, hi, hk, hσ, hpos⟩ | ⟨_, i, j, k, σ, hi, hj, hk, hσ, hdp, hlt⟩
   ·have hw := (lpOf A).weak hP0 (σ * (lpOf A).cx0 i k) (σ * (lpOf A).cx1 i k) (σ * (lpOf A).cx2 i k) 0
    rw [Int.zero_mul] at hw
    have hH : 0 < (lpOf A).H (σ * (lpOf A).cx0 i k) (σ * (lpOf A).cx1 i k) (σ * (lpOf A).cx2 i k) 0 := by
     rcases Int.lt_or_le 0 ((lpOf A).H (σ * (lpOf A).cx0 i k) (σ * (lpOf A).cx1 i k) (σ * (lpOf A).cx2 i k) 0) with h | h
     ·exact h
     ·have := Int.mul_nonpos_of_nonneg_of_nonpos (show 0 ≤ q by omega) h; omega
    have := Int.mul_pos hP0.1 hH
    omega
   ·have hd : (lpOf A).dt i j k ≠ 0 := fun h => by rw [h] at hdp; omega
    obtain ⟨i', j', k', ε, hε, hji, hkj, hmem, h0, h1, h2, h3⟩ := sortB (lpOf A) hd
    have hi' : i' < n + 2 := by
     rw [hN] at hi hj hk
     rcases (hmem i').2 (.inl rfl) with h | h | h <;> omega
    have hd' : (lpOf A).dt i' j' k' ≠ 0 := by
     rw [h0]; rcases hε with h | h <;> rw [h] <;> omega
    have hb := hall i' j' k' hi' hji hkj hd'
    have hsg : sgB A i' j' k' * ε = σ := by
     unfold sgB
     rw [h0]
     rcases hε with rfl | rfl <;> rcases hσ with rfl | rfl <;> split <;> omega
    have ed : bd A i' j' k' = σ * (lpOf A).dt i j k := by unfold bd; rw [h0, ← Int.mul_assoc, hsg]
    have e0 : sgB A i' j' k' * (lpOf A).yv0 i' j' k' = σ * (lpOf A).yv0 i j k := by rw [h1, ← Int.mul_assoc, hsg]
    have e1 : sgB A i' j' k' * (lpOf A).yv1 i' j' k' = σ * (lpOf A).yv1 i j k := by rw [h2, ← Int.mul_assoc, hsg]
    have e2 : sgB A i' j' k' * (lpOf A).yv2 i' j' k' = σ * (lpOf A).yv2 i j k := by rw [h3, ← Int.mul_assoc, hsg]
    have ev : bv A i' j' k' = (lpOf A).H (σ * (lpOf A).yv0 i j k) (σ * (lpOf A).yv1 i j k) (σ * (lpOf A).yv2 i j k) (σ * (lpOf A).dt i j k) := by
     unfold bv
     rw [e0, e1, e2]
     exact congrArg _ ed
    rw [ev, ed] at hb
    rw [Int.mul_comm] at hb
    omega
 ·right
  have hnone : ∀ D X, ¬ (lpOf A).Plan D X := fun D X h => hex ⟨D, X, h⟩
  have hfd : fd = false := by
   rcases hB with ⟨h, _⟩ | ⟨_, _, _, h, _⟩
   ·exact h
   ·exact absurd h (hnone _ _)
  refine ⟨hnone, by rw [x2]; exact hfd, W', a', b', c', e', q', z2, hW', href ?_⟩
  let T0 : Lp := { lpOf A with c := fun _ => 0 }
  rcases T0.altern hlu 0 1 with ⟨D, X, hP, _⟩ | ⟨v0, v1, v2, s, hs, hv⟩
  ·exact absurd hP (hnone D X)
  ·rcases T0.rays hlu hsp (kn := 0) (kd := 1) (y0 := v0) (y1 := v1) (y2 := v2) (s := 1 * s) (by omega) (by omega) with ⟨i, k, σ, hi, hk, hσ, hpos⟩ | ⟨_, i, j, k, σ, hi, hj, hk, hσ, hdp, hlt⟩
   ·rw [Int.one_mul] at hpos
    have hpos : 0 < (lpOf A).H (σ * (lpOf A).cx0 i k) (σ * (lpOf A).cx1 i k) (σ * (lpOf A).cx2 i k) 0 := by
     rw [← H_free]; exact hpos
    have hi : i < n + 2 := by rw [← hN]; exact hi
    have hk : k < n + 2 := by rw [← hN]; exact hk
    have asym : ∀ i k, (lpOf A).cx0 k i = 0 - (lpOf A).cx0 i k ∧ (lpOf A).cx1 k i = 0 - (lpOf A).cx1 i k ∧ (lpOf A).cx2 k i = 0 - (lpOf A).cx2 i k := fun i k => by
     unfold Lp.cx0 Lp.cx1 Lp.cx2
     refine ⟨?_, ?_, ?_⟩ <;> grind
    have neg : ∀ x : Int, -1 * x = 0 - x := fun x => by omega
    rcases Nat.lt_trichotomy i k with h | h | h
    ·obtain ⟨a0, a1, a2⟩ := asym k i
     rcases hσ with rfl | rfl
     ·rw [Int.one_mul, Int.one_mul, Int.one_mul, a0, a1, a2] at hpos
      exact ⟨k, i, hk, h, .inr hpos⟩
     ·rw [neg, neg, neg, a0, a1, a2] at hpos
      refine ⟨k, i, hk, h, .inl ?_⟩
      unfold hpP
      have z : ∀ x : Int, 0 - (0 - x) = x := fun x => by omega
      rw [z, z, z] at hpos
      exact hpos
    ·exfalso
     subst h
     have c0 : (lpOf A).cx0 i i = 0 := by unfold Lp.cx0; grind
     have c1 : (lpOf A).cx1 i i = 0 := by unfold Lp.cx1; grind
     have c2 : (lpOf A).cx2 i i = 0 := by unfold Lp.cx2; grind
     rw [c0, c1, c2, Int.mul_zero, ← H_free, H_zero _ (fun _ _ => rfl)] at hpos
     omega
    ·rcases hσ with rfl | rfl
     ·rw [Int.one_mul, Int.one_mul, Int.one_mul] at hpos
      exact ⟨i, k, hi, h, .inl hpos⟩
     ·rw [neg, neg, neg] at hpos
      exact ⟨i, k, hi, h, .inr hpos⟩
   ·exfalso
    have c0 : T0.yv0 i j k = 0 := by show (0 : Int) * _ + 0 * _ + 0 * _ = 0; omega
    have c1 : T0.yv1 i j k = 0 := by show (0 : Int) * _ + 0 * _ + 0 * _ = 0; omega
    have c2 : T0.yv2 i j k = 0 := by show (0 : Int) * _ + 0 * _ + 0 * _ = 0; omega
    rw [c0, c1, c2, Int.mul_zero, H_zero T0 (fun _ _ => rfl)] at hlt
    omega
end
end Go.Proofs.Ytmndejpcpfkajaa
