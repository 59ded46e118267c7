/-
  The plain law of 'MixChecks': the law's model is true, and its need. Conditions: none.
-/
import Derived.Test.YtmjcegbnbnbceaaMFChecks
import Derived.Test.YtmjcegbnbnbceaaME1
import Derived.Test.YtmjcegbnbnbceaaMPMatches
import Derived.Test.YtmjcegbnbnbceaaMPPartials
import Derived.Test.YtmjcegbnbnbceaaMPCheckN
import Derived.Test.YtmjcegbnbnbceaaMPLoop
import Derived.Test.YtmjcegbnbnbceaaMPFactors
import Derived.Test.YtmjcegbnbnbceaaMPShares
import Derived.Test.YtmjcegbnbnbceaaMPVessels
import Derived.Test.YtmjcegbnbnbceaaMPCheckT
import Derived.Test.YtmjcegbnbnbceaaMPCheckP
import Derived.Test.YtmjcegbnbnbceaaM1
import Derived.Test.YtmjcegbnbnbceaaM2
import Derived.Test.YtmjcegbnbnbceaaM3
import Derived.Test.YtmjcegbnbnbceaaM4
namespace Go.Proofs.Ytmjcegbnbnbceaa
open Go Go.Sy
set_option linter.unusedVariables false
set_option linter.unusedSimpArgs false
set_option maxRecDepth 100000
/-- What is asked, as the program keeps it. -/
noncomputable def askD (n : Nat) (d : Dat) (b1 b2 b3 T ol oh hl hh : Int) : Dat :=
  datC [SV.ro [Kd.str, Kd.int IntKind.i64, Kd.int IntKind.i64, Kd.int IntKind.i64, Kd.int IntKind.i64] n d, SV.int IntKind.i64 b1, SV.int IntKind.i64 b2, SV.int IntKind.i64 b3, SV.int IntKind.i64 T, SV.int IntKind.i64 ol, SV.int IntKind.i64 oh, SV.int IntKind.i64 hl, SV.int IntKind.i64 hh, SV.int IntKind.i64 (IntKind.i64.wrap (T - m74 b1 b2 b3)),
    SV.int IntKind.i64 (IntKind.i64.wrap (IntKind.i64.wrap (ol * T) - IntKind.i64.wrap (1000 * b1))), SV.int IntKind.i64 (IntKind.i64.wrap (IntKind.i64.wrap (oh * T) - IntKind.i64.wrap (1000 * b1))), SV.int IntKind.i64 (IntKind.i64.wrap (IntKind.i64.wrap (hl * T) - IntKind.i64.wrap (1000 * b2))), SV.int IntKind.i64 (IntKind.i64.wrap (IntKind.i64.wrap (hh * T) - IntKind.i64.wrap (1000 * b2)))]
section
variable (n : Nat) (hn : n ≤ 9223372036854775807) (d : Dat) (hs : ∀ i, i < n → (d.ss i 0).size ≤ 9223372036854775807) (b1 b2 b3 T ol oh hl hh : Int) (p : Nat) (dp : Dat) (den : Int) (W a b c e q : Int)
include hn hs
theorem task_bad (h : m61 n d b1 b2 b3 T ol oh hl hh ≠ 0) :
    (n56 n d b1 b2 b3 T ol oh hl hh p dp den = true ∧ m56 n d b1 b2 b3 T ol oh hl hh p dp den = (0, m61 n d b1 b2 b3 T ol oh hl hh)) ∧
    (n58 n d b1 b2 b3 T ol oh hl hh W a b c e q = true ∧ m58 n d b1 b2 b3 T ol oh hl hh W a b c e q = (0, m61 n d b1 b2 b3 T ol oh hl hh)) ∧
    (n59 n d b1 b2 b3 T ol oh hl hh W a b c e q = true ∧ m59 n d b1 b2 b3 T ol oh hl hh W a b c e q = (0, m61 n d b1 b2 b3 T ol oh hl hh)) ∧
    (n60 n d b1 b2 b3 T ol oh hl hh p dp den W a b c e q = true ∧ m60 n d b1 b2 b3 T ol oh hl hh p dp den W a b c e q = (0, m61 n d b1 b2 b3 T ol oh hl hh)) := by
  obtain ⟨t1, t2, t3⟩ := task_both n hn d hs b1 b2 b3 T ol oh hl hh
  have z : decide (m61 n d b1 b2 b3 T ol oh hl hh = 0) = false := decide_eq_false h
  have a1 : n95a n d b1 b2 b3 T ol oh hl hh = true := by simp only [n95a, t1, t3, z]; rfl
  have a2 : m95a n d b1 b2 b3 T ol oh hl hh = m61 n d b1 b2 b3 T ol oh hl hh := by simp only [m95a, t3]
  refine ⟨⟨?_, ?_⟩, ⟨?_, ?_⟩, ⟨?_, ?_⟩, ⟨?_, ?_⟩⟩
  · simp only [n56, a1, a2, z, cond_true]; rfl
  · simp only [m56, a1, a2, z, cond_true]
  · simp only [n58, a1, a2, z, cond_true]; rfl
  · simp only [m58, a1, a2, z, cond_true, cond_false]
  · simp only [n59, a1, a2, z, cond_true]; rfl
  · simp only [m59, a1, a2, z, cond_true, cond_false]
  · simp only [n60, a1, a2, z, cond_true]; rfl
  · simp only [m60, a1, a2, z, cond_true]
theorem task_good (h : m61 n d b1 b2 b3 T ol oh hl hh = 0) :
    n95a n d b1 b2 b3 T ol oh hl hh = false ∧ n95b n d b1 b2 b3 T ol oh hl hh = true ∧
    m95b n d b1 b2 b3 T ol oh hl hh = (0, n, d, b1, b2, b3, T, ol, oh, hl, hh, IntKind.i64.wrap (T - m74 b1 b2 b3), IntKind.i64.wrap (IntKind.i64.wrap (ol * T) - IntKind.i64.wrap (1000 * b1)), IntKind.i64.wrap (IntKind.i64.wrap (oh * T) - IntKind.i64.wrap (1000 * b1)), IntKind.i64.wrap (IntKind.i64.wrap (hl * T) - IntKind.i64.wrap (1000 * b2)), IntKind.i64.wrap (IntKind.i64.wrap (hh * T) - IntKind.i64.wrap (1000 * b2))) := by
  obtain ⟨t1, t2, t3⟩ := task_both n hn d hs b1 b2 b3 T ol oh hl hh
  refine ⟨?_, ?_, rfl⟩
  · simp only [n95a, t1, t3, h]; rfl
  · simp only [n95b, t1, t3, h]; rfl
theorem plan_ok (h : m61 n d b1 b2 b3 T ol oh hl hh = 0) :
    n96 (askD n d b1 b2 b3 T ol oh hl hh) p dp den = true ∧ n62 n d b1 b2 b3 T ol oh hl hh p dp den = true ∧ m96 (askD n d b1 b2 b3 T ol oh hl hh) p dp den = m62 n d b1 b2 b3 T ol oh hl hh p dp den ∧
    ((m62 n d b1 b2 b3 T ol oh hl hh p dp den).2 = 0 → 0 ≤ (m62 n d b1 b2 b3 T ol oh hl hh p dp den).1 ∧ (m62 n d b1 b2 b3 T ol oh hl hh p dp den).1 ≤ 50000000000000000 ∧ 1 ≤ den ∧ den ≤ 1000000) :=
  plan_both (rightK_of hn hs h) p dp den (askD n d b1 b2 b3 T ol oh hl hh) rfl rfl rfl rfl rfl rfl rfl
theorem val_ok (h : m61 n d b1 b2 b3 T ol oh hl hh = 0) (hq : 1 ≤ q ∧ q ≤ 1000000) (free : Bool) :
    n98 (askD n d b1 b2 b3 T ol oh hl hh) W a b c e q (cond free 0 1) = true ∧ n102 n d b1 b2 b3 T ol oh hl hh W a b c e q free = true ∧ m98 (askD n d b1 b2 b3 T ol oh hl hh) W a b c e q (cond free 0 1) = m102 n d b1 b2 b3 T ol oh hl hh W a b c e q free ∧
    -9223372036854775808 ≤ m102 n d b1 b2 b3 T ol oh hl hh W a b c e q free ∧ m102 n d b1 b2 b3 T ol oh hl hh W a b c e q free ≤ 9223372036854775807 :=
  value_both (rightK_of hn hs h) W a b c e q hq (askD n d b1 b2 b3 T ol oh hl hh) rfl rfl rfl rfl rfl rfl rfl free
theorem good_plan (h : m61 n d b1 b2 b3 T ol oh hl hh = 0) :
    n56 n d b1 b2 b3 T ol oh hl hh p dp den = true ∧ n62 n d b1 b2 b3 T ol oh hl hh p dp den = true ∧ m56 n d b1 b2 b3 T ol oh hl hh p dp den = m62 n d b1 b2 b3 T ol oh hl hh p dp den := by
  obtain ⟨a1, a2, a3⟩ := task_good n hn d hs b1 b2 b3 T ol oh hl hh h
  obtain ⟨g1, g2, g3, g4⟩ := plan_ok n hn d hs b1 b2 b3 T ol oh hl hh p dp den h
  have k1 : n56 n d b1 b2 b3 T ol oh hl hh p dp den = true := by
    simp only [n56, a1, a2, a3, cond_false]
    show (true && (n96 (askD n d b1 b2 b3 T ol oh hl hh) p dp den && true)) = true
    rw [g1]; rfl
  have k2 : m56 n d b1 b2 b3 T ol oh hl hh p dp den = m62 n d b1 b2 b3 T ol oh hl hh p dp den := by
    simp only [m56, a1, a3, cond_false]
    show ((m96 (askD n d b1 b2 b3 T ol oh hl hh) p dp den).1, (m96 (askD n d b1 b2 b3 T ol oh hl hh) p dp den).2) = _
    rw [g3]
  exact ⟨k1, g2, k2⟩
theorem good_proof (h : m61 n d b1 b2 b3 T ol oh hl hh = 0) :
    n58 n d b1 b2 b3 T ol oh hl hh W a b c e q = true ∧ n63 n d b1 b2 b3 T ol oh hl hh W a b c e q = true ∧ m58 n d b1 b2 b3 T ol oh hl hh W a b c e q = m63 n d b1 b2 b3 T ol oh hl hh W a b c e q := by
  obtain ⟨a1, a2, a3⟩ := task_good n hn d hs b1 b2 b3 T ol oh hl hh h
  obtain ⟨w1, w2, w3, w4⟩ := weights_both W a b c e q
  simp only [n58, n63, m58, m63, a1, a2, a3, w1, w2, w3, cond_false]
  cases hw : m97 W a b c e q
  · exact ⟨rfl, rfl, rfl⟩
  · obtain ⟨g1, g2, g3, _⟩ := val_ok n hn d hs b1 b2 b3 T ol oh hl hh W a b c e q h (w4 hw).1 false
    refine ⟨?_, ?_, ?_⟩
    · show (true && (true && (n98 (askD n d b1 b2 b3 T ol oh hl hh) W a b c e q 1 && true))) = true
      rw [show n98 (askD n d b1 b2 b3 T ol oh hl hh) W a b c e q 1 = true from g1]; rfl
    · show (true && (n102 n d b1 b2 b3 T ol oh hl hh W a b c e q false && true)) = true
      rw [g2]; rfl
    · show (m98 (askD n d b1 b2 b3 T ol oh hl hh) W a b c e q 1, (0 : Int)) = (m102 n d b1 b2 b3 T ol oh hl hh W a b c e q false, 0)
      rw [show m98 (askD n d b1 b2 b3 T ol oh hl hh) W a b c e q 1 = _ from g3]
theorem good_refusal (h : m61 n d b1 b2 b3 T ol oh hl hh = 0) :
    n59 n d b1 b2 b3 T ol oh hl hh W a b c e q = true ∧ n64 n d b1 b2 b3 T ol oh hl hh W a b c e q = true ∧ m59 n d b1 b2 b3 T ol oh hl hh W a b c e q = m64 n d b1 b2 b3 T ol oh hl hh W a b c e q := by
  obtain ⟨a1, a2, a3⟩ := task_good n hn d hs b1 b2 b3 T ol oh hl hh h
  obtain ⟨w1, w2, w3, w4⟩ := weights_both W a b c e q
  simp only [n59, n64, m59, m64, a1, a2, a3, w1, w2, w3, cond_false]
  cases hw : m97 W a b c e q
  · exact ⟨rfl, rfl, rfl⟩
  · obtain ⟨g1, g2, g3, _⟩ := val_ok n hn d hs b1 b2 b3 T ol oh hl hh W a b c e q h (w4 hw).1 true
    refine ⟨?_, ?_, ?_⟩
    · show (true && (true && (n98 (askD n d b1 b2 b3 T ol oh hl hh) W a b c e q 0 && _))) = true
      rw [show n98 (askD n d b1 b2 b3 T ol oh hl hh) W a b c e q 0 = true from g1]
      simp only [Bool.cond_self, Bool.and_true]
    · show (true && (n102 n d b1 b2 b3 T ol oh hl hh W a b c e q true && true)) = true
      rw [g2]
      rfl
    · show cond (decide (m98 (askD n d b1 b2 b3 T ol oh hl hh) W a b c e q 0 ≤ 0)) (0, 22) (m98 (askD n d b1 b2 b3 T ol oh hl hh) W a b c e q 0, (0 : Int)) = cond (decide (m102 n d b1 b2 b3 T ol oh hl hh W a b c e q true ≤ 0)) (0, 22) (m102 n d b1 b2 b3 T ol oh hl hh W a b c e q true, 0)
      rw [show m98 (askD n d b1 b2 b3 T ol oh hl hh) W a b c e q 0 = _ from g3]
theorem good_compare (h : m61 n d b1 b2 b3 T ol oh hl hh = 0) :
    n60 n d b1 b2 b3 T ol oh hl hh p dp den W a b c e q = true ∧ n65 n d b1 b2 b3 T ol oh hl hh p dp den W a b c e q = true ∧ m60 n d b1 b2 b3 T ol oh hl hh p dp den W a b c e q = m65 n d b1 b2 b3 T ol oh hl hh p dp den W a b c e q := by
  obtain ⟨a1, a2, a3⟩ := task_good n hn d hs b1 b2 b3 T ol oh hl hh h
  obtain ⟨w1, w2, w3, w4⟩ := weights_both W a b c e q
  obtain ⟨f1, f2, f3, f4⟩ := plan_ok n hn d hs b1 b2 b3 T ol oh hl hh p dp den h
  have f1' := f1
  have f3' := f3
  unfold askD at f1' f3'
  simp only [n60, n65, m60, m65, n63, m63, a1, a2, a3, w1, w2, w3, f1', f2, f3', cond_false]
  by_cases hz : (m62 n d b1 b2 b3 T ol oh hl hh p dp den).2 = 0
  · obtain ⟨c1, c2, c3, c4⟩ := f4 hz
    simp only [hz, decide_true, cond_true, cond_false]
    cases hw : m97 W a b c e q
    · exact ⟨rfl, rfl, rfl⟩
    · have hq := (w4 hw).1
      obtain ⟨g1, g2, g3, g4, g5⟩ := val_ok n hn d hs b1 b2 b3 T ol oh hl hh W a b c e q h hq false
      have g1 : n98 (askD n d b1 b2 b3 T ol oh hl hh) W a b c e q 1 = true := g1
      have g3 : m98 (askD n d b1 b2 b3 T ol oh hl hh) W a b c e q 1 = m102 n d b1 b2 b3 T ol oh hl hh W a b c e q false := g3
      unfold askD at g1 g3
      simp only [g1, g3, g2, decide_true, cond_true, cond_false]
      generalize (m62 n d b1 b2 b3 T ol oh hl hh p dp den).1 = C at *
      generalize m102 n d b1 b2 b3 T ol oh hl hh W a b c e q false = V at *
      obtain ⟨u1, u2⟩ := compare_prog (n := C) (d := den) (m := V) (k := q) c1 (by omega) (by omega) (by omega) (by omega) (by omega) g5
      obtain ⟨v1, v2⟩ := compare_ref (n := C) (d := den) (m := V) (k := q) c1 (by omega) g4 (by omega) (by omega) (by omega) g5 (by omega)
      rw [u1, u2, v1, v2]
      exact ⟨rfl, rfl, rfl⟩
  · simp only [hz, decide_false, cond_true]
    exact ⟨rfl, rfl, rfl⟩
end
theorem l54_some (n : Nat) (hn : n ≤ 9223372036854775807) (d : Dat) (b1 b2 b3 T ol oh hl hh : Int) : n54 n d b1 b2 b3 T ol oh hl hh = true := by
  have h : o54_0 n d b1 b2 b3 T ol oh hl hh 0 = some (first (fun i => cond (decide (20 < ((d.ss i 0).size : Int))) (some (true, false, default)) none) (false, default, ()) n 0) :=
    loop_first (n := n) (l := l54_0 n d b1 b2 b3 T ol oh hl hh) hn (fun f i hi => by
      simp only [l54_0, cdl hi, cdd hi, cond_true, Int.toNat_natCast]
      cases decide (20 < ((d.ss i 0).size : Int)) <;> rfl) (fun f => by simp only [l54_0, cdn]; rfl) n 0 _ (by omega) (by omega)
  simp only [n54, h]
  rfl
theorem light_few {n : Nat} (hn : n ≤ 9223372036854775807) {d : Dat} {b1 b2 b3 T ol oh hl hh : Int} (h : m54 n d b1 b2 b3 T ol oh hl hh = true) : n ≤ 7 := by
  have h0 : o54_0 n d b1 b2 b3 T ol oh hl hh 0 = some (first (fun i => cond (decide (20 < ((d.ss i 0).size : Int))) (some (true, false, default)) none) (false, default, ()) n 0) :=
    loop_first (n := n) (l := l54_0 n d b1 b2 b3 T ol oh hl hh) hn (fun f i hi => by
      simp only [l54_0, cdl hi, cdd hi, cond_true, Int.toNat_natCast]
      cases decide (20 < ((d.ss i 0).size : Int)) <;> rfl) (fun f => by simp only [l54_0, cdn]; rfl) n 0 _ (by omega) (by omega)
  simp only [m54, h0, Option.getD_some] at h
  rcases first_cases (g := fun i => cond (decide (20 < ((d.ss i 0).size : Int))) (some (true, false, (default : Unit))) none) (e := (false, (default : Bool), ())) n 0 with ⟨j, b, _, _, hg, _, hb⟩ | ⟨_, hb⟩
  · exfalso
    by_cases k : 20 < ((d.ss j 0).size : Int)
    · simp only [k, decide_true, cond_true, Option.some.injEq] at hg
      rw [hb, ← hg] at h
      cases h
    · simp only [k, decide_false, cond_false] at hg
      cases hg
  · rw [hb] at h
    have h : decide ((n : Int) ≤ 7) = true := h
    have := of_decide_eq_true h
    omega
theorem lawChecks (n : Nat) (hn : n ≤ 9223372036854775807) (d : Dat) (hs : ∀ i, i < n → (d.ss i 0).size ≤ 9223372036854775807) (b1 b2 b3 T ol oh hl hh : Int) (p : Nat) (dp : Dat) (den : Int) (W a b c e q : Int) :
    n11 n d b1 b2 b3 T ol oh hl hh p dp den W a b c e q = true ∧ m11 n d b1 b2 b3 T ol oh hl hh p dp den W a b c e q = true := by
  have a54 := l54_some n hn d b1 b2 b3 T ol oh hl hh
  have e57 : m57 n d b1 b2 b3 T ol oh hl hh = (n, d, b1, b2, b3, T, ol, oh, hl, hh) := by simp only [m57, app_zero, Nat.zero_add]
  have e55 : m55 p dp = (p, dp) := by simp only [m55, app_zero, Nat.zero_add]
  obtain ⟨t1, t2, t3⟩ := task_both n hn d hs b1 b2 b3 T ol oh hl hh
  by_cases hL : m54 n d b1 b2 b3 T ol oh hl hh = true ∧ p ≤ 8
  · obtain ⟨h54, hp⟩ := hL
    have hn7 := light_few hn h54
    have a57 : n57 n d b1 b2 b3 T ol oh hl hh = true := by
      have : n ≤ 1073741824 := by omega
      simp [n57, this]
    have a55 : n55 p dp = true := by
      have : p ≤ 1073741824 := by omega
      simp [n55, this]
    have hp8 : decide (8 < (p : Int)) = false := decide_eq_false (by omega)
    by_cases h61 : m61 n d b1 b2 b3 T ol oh hl hh = 0
    · obtain ⟨p1, p2, p3⟩ := good_plan n hn d hs b1 b2 b3 T ol oh hl hh p dp den h61
      obtain ⟨q1, q2, q3⟩ := good_proof n hn d hs b1 b2 b3 T ol oh hl hh W a b c e q h61
      obtain ⟨r1, r2, r3⟩ := good_refusal n hn d hs b1 b2 b3 T ol oh hl hh W a b c e q h61
      obtain ⟨s1, s2, s3⟩ := good_compare n hn d hs b1 b2 b3 T ol oh hl hh p dp den W a b c e q h61
      constructor
      · simp only [n11, v11, t11_0, t11_1, t11_2, t11_3, t11_4, t11_5, t11_6, t11_7, t11_8, t11_9, t11_10, t11_11, t11_12, t11_13, t11_14, t11_15, t11_16, t11_17, t11_18, e57, e55, n15_true, m15_true, a54, h54, hp8, a57, a55, t2, h61, p1, p2, q1, q2, r1, r2, s1, s2]
        rfl
      · simp only [m11, w11, t11_0, t11_1, t11_2, t11_3, t11_4, t11_5, t11_6, t11_7, t11_8, t11_9, t11_10, t11_11, t11_12, t11_13, t11_14, t11_15, t11_16, t11_17, t11_18, e57, e55, m15_true, h54, hp8, h61, p3, q3, r3, s3, decide_true]
        rfl
    · obtain ⟨⟨p1, p2⟩, ⟨q1, q2⟩, ⟨r1, r2⟩, ⟨s1, s2⟩⟩ := task_bad n hn d hs b1 b2 b3 T ol oh hl hh p dp den W a b c e q h61
      constructor
      · simp only [n11, v11, t11_0, t11_1, t11_2, t11_3, t11_4, t11_5, t11_6, t11_7, t11_8, t11_9, t11_10, t11_11, t11_12, t11_13, t11_14, t11_15, t11_16, t11_17, t11_18, e57, e55, n15_true, m15_true, a54, h54, hp8, a57, a55, t2, h61, p1, q1, r1, s1, decide_false]
        rfl
      · simp only [m11, w11, t11_0, t11_1, t11_2, t11_3, t11_4, t11_5, t11_6, t11_7, t11_8, t11_9, t11_10, t11_11, t11_12, t11_13, t11_14, t11_15, t11_16, t11_17, t11_18, e57, e55, m15_true, h54, hp8, h61, p2, q2, r2, s2, decide_true, decide_false]
        rfl
  · have hc : (bif (bif m54 n d b1 b2 b3 T ol oh hl hh then false else true) then true else decide (8 < (p : Int))) = true := by
      cases h : m54 n d b1 b2 b3 T ol oh hl hh
      · rfl
      · have : ¬ p ≤ 8 := fun k => hL ⟨h, k⟩
        have : decide (8 < (p : Int)) = true := decide_eq_true (by omega)
        rw [this]; rfl
    constructor
    · simp only [n11, v11, n15_true, m15_true, a54, hc]
      rfl
    · simp only [m11, w11, m15_true, hc]
      rfl
end Go.Proofs.Ytmjcegbnbnbceaa
