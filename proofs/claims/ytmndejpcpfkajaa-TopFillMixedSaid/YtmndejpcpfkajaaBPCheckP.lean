/-
 Plans and proofs: the program and the reference alike. Conditions: none.
-/
import Derived.Test.YtmndejpcpfkajaaBPCheckT
namespace Go.Proofs.Ytmndejpcpfkajaa
open Go Go.Sy
set_option linter.unusedVariables false
set_option linter.unusedSimpArgs false
set_option maxRecDepth 100000
theorem plan_loops {n : Nat} {d : Dat} {b1 b2 b3 T ol oh hl hh : Int} (K : RightK n d b1 b2 b3 T ol oh hl hh) {dp : Dat} {den : Int} (hd0 : 1 ≤ den) (hd1 : den ≤ 1000000) (A : Dat) (O H : Int) (hO : 0 ≤ O ∧ O ≤ 10000000000000000) (hH : 0 ≤ H ∧ H ≤ 10000000000000000) :
  ∀ (k i f f' : Nat) (c w o h : Int), i + k = n → k < f → k < f' → (0 ≤ c ∧ c ≤ (i : Int) * 10000000000000000) → (0 ≤ w ∧ w ≤ (i : Int) * 10000000000000) → (0 ≤ o ∧ o ≤ (i : Int) * 10000000000000000) → (0 ≤ h ∧ h ≤ (i : Int) * 10000000000000000) →
   (∃ c' w' o' h' x1 x2 x6 x7, l97_1 A n d (n : Int) n dp den f c w o h (i : Int) = some (true, (0, 20, c', w', o', h'), default) ∧ l40_0 n d b1 b2 b3 T ol oh hl hh n dp den f' w (o + O) (h + H) c (i : Int) = some (true, (0, 20, x1, x2, x6, x7), default)) ∨
   (∃ c' w' o' h', l97_1 A n d (n : Int) n dp den f c w o h (i : Int) = some (false, default, (c', w', o', h')) ∧ l40_0 n d b1 b2 b3 T ol oh hl hh n dp den f' w (o + O) (h + H) c (i : Int) = some (false, default, (w', o' + O, h' + H, c')) ∧
    (0 ≤ c' ∧ c' ≤ (n : Int) * 10000000000000000) ∧ (0 ≤ w' ∧ w' ≤ (n : Int) * 10000000000000) ∧ (0 ≤ o' ∧ o' ≤ (n : Int) * 10000000000000000) ∧ (0 ≤ h' ∧ h' ≤ (n : Int) * 10000000000000000))
 | 0, i, f, f', c, w, o, h, hi, hf, hf', hc, hw, ho, hh' => by
  obtain ⟨f, rfl⟩ : ∃ g, f = g + 1 := ⟨f - 1, by omega⟩
  obtain ⟨f', rfl⟩ : ∃ g, f' = g + 1 := ⟨f' - 1, by omega⟩
  obtain rfl : i = n := by omega
  right
  refine ⟨c, w, o, h, ?_, ?_, hc, hw, ho, hh'⟩
  ·simp only [l97_1, cdn]; rfl
  ·simp only [l40_0, cdn]; rfl
 | k + 1, i, f, f', c, w, o, h, hi, hf, hf', hc, hw, ho, hh' => by
  obtain ⟨f, rfl⟩ : ∃ g, f = g + 1 := ⟨f - 1, by omega⟩
  obtain ⟨f', rfl⟩ : ∃ g, f' = g + 1 := ⟨f' - 1, by omega⟩
  have hin : i < n := by omega
  have few := K.few
  have am := K.amount i hin
  have ga := K.gas i hin
  have ce := K.cents i hin
  have m1 := mulb (show 0 ≤ den by omega) hd1 am.1 am.2
  have w1 : IntKind.i64.wrap (den * d.ii i 4) = den * d.ii i 4 := wr (by omega) (by omega)
  have e73 : ∀ x y z, m83 x y z = m32 x y z := fun x y z => rfl
  by_cases hx : 0 ≤ dp.ii i 0 ∧ dp.ii i 0 ≤ den * d.ii i 4
  ·have hm : m32 (dp.ii i 0) 0 (den * d.ii i 4) = true := m32_iff.2 hx
   have x1 : dp.ii i 0 ≤ 10000000000000 := by omega
   have q1 := mulb hx.1 x1 ce.1 ce.2
   have q2 := mulb hx.1 x1 ga.1.1 ga.1.2
   have q6 := mulb hx.1 x1 ga.2.1.1 ga.2.1.2
   have r := plan_loops K hd0 hd1 A O H hO hH (dp := dp) k (i + 1) f f' (c + dp.ii i 0 * d.ii i 3) (w + dp.ii i 0) (o + dp.ii i 0 * d.ii i 1) (h + dp.ii i 0 * d.ii i 2) (by omega) (by omega) (by omega) (by omega) (by omega) (by omega) (by omega)
   have u1 : IntKind.i64.wrap (c + IntKind.i64.wrap (dp.ii i 0 * d.ii i 3)) = c + dp.ii i 0 * d.ii i 3 := by rw [wr (n := dp.ii i 0 * d.ii i 3) (by omega) (by omega), wr (by omega) (by omega)]
   have u2 : IntKind.i64.wrap (w + dp.ii i 0) = w + dp.ii i 0 := wr (by omega) (by omega)
   have u3 : IntKind.i64.wrap (o + IntKind.i64.wrap (dp.ii i 0 * d.ii i 1)) = o + dp.ii i 0 * d.ii i 1 := by rw [wr (n := dp.ii i 0 * d.ii i 1) (by omega) (by omega), wr (by omega) (by omega)]
   have u4 : IntKind.i64.wrap (h + IntKind.i64.wrap (dp.ii i 0 * d.ii i 2)) = h + dp.ii i 0 * d.ii i 2 := by rw [wr (n := dp.ii i 0 * d.ii i 2) (by omega) (by omega), wr (by omega) (by omega)]
   have u5 : IntKind.i64.wrap (o + O + IntKind.i64.wrap (dp.ii i 0 * d.ii i 1)) = o + dp.ii i 0 * d.ii i 1 + O := by rw [wr (n := dp.ii i 0 * d.ii i 1) (by omega) (by omega), wr (by omega) (by omega)]; omega
   have u6 : IntKind.i64.wrap (h + H + IntKind.i64.wrap (dp.ii i 0 * d.ii i 2)) = h + dp.ii i 0 * d.ii i 2 + H := by rw [wr (n := dp.ii i 0 * d.ii i 2) (by omega) (by omega), wr (by omega) (by omega)]; omega
   have u7 : IntKind.i64.wrap ((i : Int) + 1) = ((i + 1 : Nat) : Int) := by rw [wr (by omega) (by omega)]; omega
   simp only [l97_1, l40_0, cdl hin, cdd hin, cond_true, Int.toNat_natCast, Nat.zero_add, Nat.reduceAdd, w1, e73, hm, cond_false, u1, u2, u3, u4, u5, u6, u7]
   exact r
  ·left
   have hm : m32 (dp.ii i 0) 0 (den * d.ii i 4) = false := m32_f hx
   simp only [l97_1, l40_0, cdl hin, cdd hin, cond_true, Int.toNat_natCast, Nat.zero_add, Nat.reduceAdd, w1, e73, hm, cond_false]
   exact ⟨c, w, o, h, w, o + O, h + H, c, rfl, rfl⟩
theorem two_cond {a b : Bool} {x : Int × Int} (h : (cond a (0, 23) (cond b (0, 26) x)).2 = 0) : cond a (0, 23) (cond b (0, 26) x) = x := by
 cases a <;> cases b <;> simp at h ⊢
set_option maxHeartbeats 2000000 in
theorem plan_both {n : Nat} {d : Dat} {b1 b2 b3 T ol oh hl hh : Int} (K : RightK n d b1 b2 b3 T ol oh hl hh) (p : Nat) (dp : Dat) (den : Int) (A : Dat)
  (s0 : A.sn 0 0 = n) (s1 : A.sub 0 0 = d) (s9 : A.ii 0 9 = IntKind.i64.wrap (T - m84 b1 b2 b3))
  (s10 : A.ii 0 10 = IntKind.i64.wrap (IntKind.i64.wrap (ol * T) - IntKind.i64.wrap (1000 * b1))) (s11 : A.ii 0 11 = IntKind.i64.wrap (IntKind.i64.wrap (oh * T) - IntKind.i64.wrap (1000 * b1)))
  (s12 : A.ii 0 12 = IntKind.i64.wrap (IntKind.i64.wrap (hl * T) - IntKind.i64.wrap (1000 * b2))) (s13 : A.ii 0 13 = IntKind.i64.wrap (IntKind.i64.wrap (hh * T) - IntKind.i64.wrap (1000 * b2))) :
  n97 A p dp den = true ∧ n40 n d b1 b2 b3 T ol oh hl hh p dp den = true ∧ m97 A p dp den = m40 n d b1 b2 b3 T ol oh hl hh p dp den ∧
  ((m40 n d b1 b2 b3 T ol oh hl hh p dp den).2 = 0 → 0 ≤ (m40 n d b1 b2 b3 T ol oh hl hh p dp den).1 ∧ (m40 n d b1 b2 b3 T ol oh hl hh p dp den).1 ≤ 50000000000000000 ∧ 1 ≤ den ∧ den ≤ 1000000) := by
 have e73 : ∀ x y z, m83 x y z = m32 x y z := fun x y z => rfl
 have e74 : ∀ x y z, m84 x y z = m29 x y z := fun x y z => rfl
 simp only [n97, n40, m97, m40, s0, s1, Nat.zero_add, Nat.reduceAdd, s9, s10, s11, s12, s13, e73, e74]
 by_cases hp : p = n
 ·subst hp
  simp only [decide_true, cond_true, cond_false]
  by_cases hden : 1 ≤ den ∧ den ≤ 1000000
  ·have hm : m32 den 1 1000000 = true := m32_iff.2 hden
   simp only [hm, cond_true, cond_false]
   have few := K.few
   have hT1 := K.T1
   have hT2 := K.T2
   have ho0 := K.o0
   have hh0 := K.h0
   have hn0 := K.n0
   have hle := K.le
   have kO := K.O
   have kH := K.H
   have p1 := mulb (show 0 ≤ den by omega) hden.2 (show 0 ≤ b1 by omega) (show b1 ≤ 10000000 by omega)
   have p2 := mulb (show 0 ≤ den by omega) hden.2 (show 0 ≤ b2 by omega) (show b2 ≤ 10000000 by omega)
   have c1 : 1000 * den * b1 = 1000 * (den * b1) := by rw [Int.mul_assoc]
   have c2 : 1000 * den * b2 = 1000 * (den * b2) := by rw [Int.mul_assoc]
   have w0 : IntKind.i64.wrap (1000 * den) = 1000 * den := wr (by omega) (by omega)
   have w1 : IntKind.i64.wrap (IntKind.i64.wrap (1000 * den) * b1) = 0 + 1000 * (den * b1) := by rw [w0, c1, wr (by omega) (by omega)]; omega
   have w2 : IntKind.i64.wrap (IntKind.i64.wrap (1000 * den) * b2) = 0 + 1000 * (den * b2) := by rw [w0, c2, wr (by omega) (by omega)]; omega
   rw [w1, w2]
   obtain ⟨F, hF, g1⟩ : ∃ F, p < F ∧ o97_1 A p d (p : Int) p dp den 0 0 0 0 0 = l97_1 A p d (p : Int) p dp den F 0 0 0 0 ((0 : Nat) : Int) := by
    refine ⟨_, ?_, rfl⟩
    omega
   obtain ⟨G, hG, g2⟩ : ∃ G, p < G ∧ o40_0 p d b1 b2 b3 T ol oh hl hh p dp den 0 (0 + 1000 * (den * b1)) (0 + 1000 * (den * b2)) 0 0 = l40_0 p d b1 b2 b3 T ol oh hl hh p dp den G 0 (0 + 1000 * (den * b1)) (0 + 1000 * (den * b2)) 0 ((0 : Nat) : Int) := by
    refine ⟨_, ?_, rfl⟩
    omega
   have L := plan_loops K hden.1 hden.2 A (1000 * (den * b1)) (1000 * (den * b2)) (by omega) (by omega) (dp := dp) p 0 F G 0 0 0 0 (by omega) hF hG (by omega) (by omega) (by omega) (by omega)
   rw [← g1, ← g2] at L
   rcases L with ⟨c', w', o', h', x1, x2, x6, x7, r1, r2⟩ | ⟨c', w', o', h', r1, r2, bc, bw, bo, bh⟩
   ·rw [r1, r2]
    refine ⟨rfl, rfl, rfl, ?_⟩
    intro h
    have h : (20 : Int) = 0 := h
    omega
   ·rw [r1, r2]
    simp only [Option.isSome_some, Option.getD_some, cond_false]
    have q1 := mulb kO.1 (show ol ≤ 1000 by omega) (show 0 ≤ T by omega) hT2
    have q2 := mulb (show 0 ≤ oh by omega) (show oh ≤ 1000 by omega) (show 0 ≤ T by omega) hT2
    have q6 := mulb kH.1 (show hl ≤ 1000 by omega) (show 0 ≤ T by omega) hT2
    have q7 := mulb (show 0 ≤ hh by omega) (show hh ≤ 1000 by omega) (show 0 ≤ T by omega) hT2
    have qT := mulb (show 0 ≤ den by omega) hden.2 (show 0 ≤ T by omega) hT2
    have wT : IntKind.i64.wrap (den * T) = den * T := wr (by omega) (by omega)
    have side : ∀ {x b : Int}, 0 ≤ x * T ∧ x * T ≤ 1000 * 10000000 → 0 ≤ x ∧ x ≤ 1000 → 0 ≤ b ∧ b ≤ 10000000 → 0 ≤ den * b ∧ den * b ≤ 1000000 * 10000000 →
      IntKind.i64.wrap (den * IntKind.i64.wrap (IntKind.i64.wrap (x * T) - IntKind.i64.wrap (1000 * b))) + 1000 * (den * b) = IntKind.i64.wrap (IntKind.i64.wrap (den * T) * x) := by
     intro x b hx hx0 hb hdb
     have y := mulb (show 0 ≤ den by omega) hden.2 hx.1 hx.2
     have y2 : den * T * x = den * (x * T) := by rw [Int.mul_assoc, Int.mul_comm T x]
     have y3 : den * (x * T - 1000 * b) = den * (x * T) - 1000 * (den * b) := by grind
     rw [wr (n := x * T) (by omega) (by omega), wr (n := 1000 * b) (by omega) (by omega), wr (n := x * T - 1000 * b) (by omega) (by omega), y3, wr (n := den * (x * T) - 1000 * (den * b)) (by omega) (by omega), wT, y2, wr (by omega) (by omega)]
     omega
    have f1 := side q1 (by omega) (show 0 ≤ b1 ∧ b1 ≤ 10000000 by omega) p1
    have f2 := side q2 (by omega) (show 0 ≤ b1 ∧ b1 ≤ 10000000 by omega) p1
    have f3 := side q6 (by omega) (show 0 ≤ b2 ∧ b2 ≤ 10000000 by omega) p2
    have f4 := side q7 (by omega) (show 0 ≤ b2 ∧ b2 ≤ 10000000 by omega) p2
    have sh : ∀ x a b y : Int, m32 (x + y) (a + y) (b + y) = m32 x a b := by
     intro x a b y
     simp only [m32]
     have e1 : decide (a + y ≤ x + y) = decide (a ≤ x) := decide_eq_decide.2 (by omega)
     have e2 : decide (x + y ≤ b + y) = decide (x ≤ b) := decide_eq_decide.2 (by omega)
     rw [e1, e2]
    rw [← f1, ← f2, ← f3, ← f4, sh, sh]
    refine ⟨by trivial, by trivial, rfl, fun h => ?_⟩
    rw [two_cond h]
    refine ⟨bc.1, ?_, hden⟩
    show c' ≤ 50000000000000000
    omega
  ·have hm : m32 den 1 1000000 = false := m32_f hden
   simp [hm]
 ·have hq : ¬ (p : Int) = (n : Int) := by omega
  simp [hq]
theorem weights_both (W a b c e den : Int) : n98 W a b c e den = true ∧ n115 W a b c e den = true ∧ m115 W a b c e den = cond (m98 W a b c e den) 0 2 ∧
  (m98 W a b c e den = true → (1 ≤ den ∧ den ≤ 1000000) ∧ (-10000000000 ≤ W ∧ W ≤ 10000000000) ∧ (0 ≤ a ∧ a ≤ 10000000) ∧ (0 ≤ b ∧ b ≤ 10000000) ∧ (0 ≤ c ∧ c ≤ 10000000) ∧ (0 ≤ e ∧ e ≤ 10000000)) := by
 have h : o151c140_0 ((↑4 : Int) - 0).toNat (datS [SV.int IntKind.i64 a, SV.int IntKind.i64 b, SV.int IntKind.i64 c, SV.int IntKind.i64 e] 1) (↑(((↑4 : Int) - 0).toNat) : Int) 0 = cond (m140 a) (some (true, 0, default)) (cond (m140 b) (some (true, 1, default)) (cond (m140 c) (some (true, 2, default)) (cond (m140 e) (some (true, 3, default)) (some (false, default, ()))))) := by kernel_rfl
 have h2 : o115_0 W a b c e den (datS [SV.int IntKind.i64 a, SV.int IntKind.i64 b, SV.int IntKind.i64 c, SV.int IntKind.i64 e] 1) 0 = cond (bif m32 a 0 10000000 then false else true) (some (true, 2, default)) (cond (bif m32 b 0 10000000 then false else true) (some (true, 2, default)) (cond (bif m32 c 0 10000000 then false else true) (some (true, 2, default)) (cond (bif m32 e 0 10000000 then false else true) (some (true, 2, default)) (some (false, default, ()))))) := by kernel_rfl
 have e73 : ∀ x y z, m83 x y z = m32 x y z := fun x y z => rfl
 have e131 : ∀ x, m140 x = !(m32 x 0 10000000) := fun x => by simp only [m140, e73]; cases m32 x 0 10000000 <;> rfl
 simp only [n98, n115, m98, m115, n120c140, m120c140, n151c140, m151c140, h, h2, e73, e131]
 have i1 := @m32_iff den 1 1000000
 have i2 := @m32_iff W (-10000000000) 10000000000
 have i3 := @m32_iff a 0 10000000
 have i4 := @m32_iff b 0 10000000
 have i5 := @m32_iff c 0 10000000
 have i6 := @m32_iff e 0 10000000
 generalize m32 den 1 1000000 = y1 at *
 generalize m32 W (-10000000000) 10000000000 = y2 at *
 generalize m32 a 0 10000000 = y3 at *
 generalize m32 b 0 10000000 = y4 at *
 generalize m32 c 0 10000000 = y5 at *
 generalize m32 e 0 10000000 = y6 at *
 refine ⟨?_, ?_, ?_, ?_⟩
 ·cases y1 <;> cases y2 <;> cases y3 <;> cases y4 <;> cases y5 <;> cases y6 <;> rfl
 ·cases y1 <;> cases y2 <;> cases y3 <;> cases y4 <;> cases y5 <;> cases y6 <;> rfl
 ·cases y1 <;> cases y2 <;> cases y3 <;> cases y4 <;> cases y5 <;> cases y6 <;> rfl
 ·cases y1 <;> cases y2 <;> cases y3 <;> cases y4 <;> cases y5 <;> cases y6 <;> simp_all
noncomputable def valE (d : Dat) (W a b c e : Int) (price : Nat → Int) (i : Nat) (s : Int) : Int ⊕ Int :=
 .inr (IntKind.i64.wrap (s - IntKind.i64.wrap (d.ii i 4 * imax 0 (IntKind.i64.wrap (IntKind.i64.wrap (IntKind.i64.wrap (W + IntKind.i64.wrap (d.ii i 1 * IntKind.i64.wrap (a - b))) + IntKind.i64.wrap (d.ii i 2 * IntKind.i64.wrap (c - e))) - price i)))))
theorem val_prog {n : Nat} (hn : n ≤ 9223372036854775807) {d : Dat} (W a b c e den times s0 : Int) :
  o99_0 times n d (n : Int) W a b c e den s0 0 = some (runs (valE d W a b c e fun i => IntKind.i64.wrap (IntKind.i64.wrap (times * den) * d.ii i 3)) id n 0 s0) :=
 loop_runs (l := fun f i s => l99_0 times n d (n : Int) W a b c e den f s i) (fun _ _ => True) hn
  (fun f i s hi _ => by
   simp only [l99_0, cdl hi, cdd hi, cond_true, Int.toNat_natCast, Nat.zero_add, Nat.reduceAdd, valE, brs])
  (fun _ _ _ _ _ _ => trivial) (fun f s _ => by simp only [l99_0, cdn]; rfl) n 0 _ s0 (by omega) (ltp (by repeat (first | exact Nat.le_refl _ | exact Nat.le_add_left _ _ | apply Nat.le_add_right_of_le)) (by decide)) trivial
theorem val_ref {n : Nat} (hn : n ≤ 9223372036854775807) {d : Dat} (free : Bool) (b1 b2 b3 T ol oh hl hh W a b c e den s0 : Int) :
  o116_0 free n d b1 b2 b3 T ol oh hl hh W a b c e den s0 0 = some (runs (valE d W a b c e fun i => cond free 0 (IntKind.i64.wrap (den * d.ii i 3))) id n 0 s0) :=
 loop_runs (l := fun f i s => l116_0 free n d b1 b2 b3 T ol oh hl hh W a b c e den f s i) (fun _ _ => True) hn
  (fun f i s hi _ => by
   simp only [l116_0, cdl hi, cdd hi, cond_true, Int.toNat_natCast, Nat.zero_add, Nat.reduceAdd, valE, brs]
   cases free <;> rfl)
  (fun _ _ _ _ _ _ => trivial) (fun f s _ => by simp only [l116_0, cdn]; rfl) n 0 _ s0 (by omega) (ltp (by repeat (first | exact Nat.le_refl _ | exact Nat.le_add_left _ _ | apply Nat.le_add_right_of_le)) (by decide)) trivial
theorem runs_i64 (d : Dat) (W a b c e : Int) (price : Nat → Int) : ∀ (k i : Nat) (s : Int), (-9223372036854775808 ≤ s ∧ s ≤ 9223372036854775807) →
  -9223372036854775808 ≤ runs (valE d W a b c e price) id k i s ∧ runs (valE d W a b c e price) id k i s ≤ 9223372036854775807
 | 0, i, s, h => h
 | k + 1, i, s, h => by
  rw [runs]
  refine runs_i64 d W a b c e price k (i + 1) _ ?_
  generalize s - _ = y
  simp [IntKind.wrap, IntKind.bits, IntKind.signed]; omega
theorem value_both {n : Nat} {d : Dat} {b1 b2 b3 T ol oh hl hh : Int} (K : RightK n d b1 b2 b3 T ol oh hl hh) (W a b c e den : Int) (hden : 1 ≤ den ∧ den ≤ 1000000) (A : Dat)
  (s0 : A.sn 0 0 = n) (s1 : A.sub 0 0 = d) (s9 : A.ii 0 9 = IntKind.i64.wrap (T - m84 b1 b2 b3))
  (s10 : A.ii 0 10 = IntKind.i64.wrap (IntKind.i64.wrap (ol * T) - IntKind.i64.wrap (1000 * b1))) (s11 : A.ii 0 11 = IntKind.i64.wrap (IntKind.i64.wrap (oh * T) - IntKind.i64.wrap (1000 * b1)))
  (s12 : A.ii 0 12 = IntKind.i64.wrap (IntKind.i64.wrap (hl * T) - IntKind.i64.wrap (1000 * b2))) (s13 : A.ii 0 13 = IntKind.i64.wrap (IntKind.i64.wrap (hh * T) - IntKind.i64.wrap (1000 * b2))) (free : Bool) :
  n99 A W a b c e den (cond free 0 1) = true ∧ n116 n d b1 b2 b3 T ol oh hl hh W a b c e den free = true ∧ m99 A W a b c e den (cond free 0 1) = m116 n d b1 b2 b3 T ol oh hl hh W a b c e den free ∧
  -9223372036854775808 ≤ m116 n d b1 b2 b3 T ol oh hl hh W a b c e den free ∧ m116 n d b1 b2 b3 T ol oh hl hh W a b c e den free ≤ 9223372036854775807 := by
 have hn : n ≤ 9223372036854775807 := by have := K.few; omega
 have e74 : ∀ x y z, m84 x y z = m29 x y z := fun x y z => rfl
 have hpr : (fun i => IntKind.i64.wrap (IntKind.i64.wrap (cond free 0 1 * den) * d.ii i 3)) = fun i => cond free 0 (IntKind.i64.wrap (den * d.ii i 3)) := by
  funext i
  cases free
  ·show IntKind.i64.wrap (IntKind.i64.wrap (1 * den) * d.ii i 3) = IntKind.i64.wrap (den * d.ii i 3)
   rw [Int.one_mul, wr (n := den) (by omega) (by omega)]
  ·show IntKind.i64.wrap (IntKind.i64.wrap (0 * den) * d.ii i 3) = 0
   rw [Int.zero_mul, wr (n := (0 : Int)) (by omega) (by omega), Int.zero_mul, wr (n := (0 : Int)) (by omega) (by omega)]
 simp only [n99, n116, m99, m116, s0, s1, Nat.zero_add, Nat.reduceAdd, s9, s10, s11, s12, s13, e74, val_prog hn, val_ref hn, hpr, Option.isSome_some, Option.getD_some]
 refine ⟨rfl, rfl, trivial, ?_⟩
 apply runs_i64
 generalize IntKind.i64.wrap _ - IntKind.i64.wrap (e * _) = y
 simp [IntKind.wrap, IntKind.bits, IntKind.signed]; omega
end Go.Proofs.Ytmndejpcpfkajaa
