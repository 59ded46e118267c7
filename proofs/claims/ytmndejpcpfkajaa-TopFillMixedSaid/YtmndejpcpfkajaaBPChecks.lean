/-
 The plain law of 'MixChecks': the law's model is true, and its need. Conditions: none.
-/
import Derived.Test.YtmndejpcpfkajaaBPCheckP
namespace Go.Proofs.Ytmndejpcpfkajaa
open Go Go.Sy
set_option linter.unusedVariables false
set_option linter.unusedSimpArgs false
set_option maxRecDepth 100000
noncomputable def askD (n : Nat) (d : Dat) (b1 b2 b3 T ol oh hl hh : Int) : Dat :=
 datC [SV.ro [Kd.str, Kd.int IntKind.i64, Kd.int IntKind.i64, Kd.int IntKind.i64, Kd.int IntKind.i64] n d, SV.int IntKind.i64 b1, SV.int IntKind.i64 b2, SV.int IntKind.i64 b3, SV.int IntKind.i64 T, SV.int IntKind.i64 ol, SV.int IntKind.i64 oh, SV.int IntKind.i64 hl, SV.int IntKind.i64 hh, SV.int IntKind.i64 (IntKind.i64.wrap (T - m84 b1 b2 b3)),
  SV.int IntKind.i64 (IntKind.i64.wrap (IntKind.i64.wrap (ol * T) - IntKind.i64.wrap (1000 * b1))), SV.int IntKind.i64 (IntKind.i64.wrap (IntKind.i64.wrap (oh * T) - IntKind.i64.wrap (1000 * b1))), SV.int IntKind.i64 (IntKind.i64.wrap (IntKind.i64.wrap (hl * T) - IntKind.i64.wrap (1000 * b2))), SV.int IntKind.i64 (IntKind.i64.wrap (IntKind.i64.wrap (hh * T) - IntKind.i64.wrap (1000 * b2)))]
section
variable (n : Nat) (hn : n ≤ 9223372036854775807) (d : Dat) (hs : ∀ i, i < n → (d.ss i 0).size ≤ 9223372036854775807) (b1 b2 b3 T ol oh hl hh : Int) (p : Nat) (dp : Dat) (den : Int) (W a b c e q : Int)
include hn hs
theorem task_good (h : m34 n d b1 b2 b3 T ol oh hl hh = 0) :
  n93a n d b1 b2 b3 T ol oh hl hh = false ∧ n93b n d b1 b2 b3 T ol oh hl hh = true ∧
  m93b n d b1 b2 b3 T ol oh hl hh = (0, n, d, b1, b2, b3, T, ol, oh, hl, hh, IntKind.i64.wrap (T - m84 b1 b2 b3), IntKind.i64.wrap (IntKind.i64.wrap (ol * T) - IntKind.i64.wrap (1000 * b1)), IntKind.i64.wrap (IntKind.i64.wrap (oh * T) - IntKind.i64.wrap (1000 * b1)), IntKind.i64.wrap (IntKind.i64.wrap (hl * T) - IntKind.i64.wrap (1000 * b2)), IntKind.i64.wrap (IntKind.i64.wrap (hh * T) - IntKind.i64.wrap (1000 * b2))) := by
 obtain ⟨t1, t2, t3⟩ := task_both n hn d hs b1 b2 b3 T ol oh hl hh
 refine ⟨?_, ?_, rfl⟩
 ·simp only [n93a, t1, t3, h]; rfl
 ·simp only [n93b, t1, t3, h]; rfl
theorem plan_ok (h : m34 n d b1 b2 b3 T ol oh hl hh = 0) :
  n97 (askD n d b1 b2 b3 T ol oh hl hh) p dp den = true ∧ n40 n d b1 b2 b3 T ol oh hl hh p dp den = true ∧ m97 (askD n d b1 b2 b3 T ol oh hl hh) p dp den = m40 n d b1 b2 b3 T ol oh hl hh p dp den ∧
  ((m40 n d b1 b2 b3 T ol oh hl hh p dp den).2 = 0 → 0 ≤ (m40 n d b1 b2 b3 T ol oh hl hh p dp den).1 ∧ (m40 n d b1 b2 b3 T ol oh hl hh p dp den).1 ≤ 50000000000000000 ∧ 1 ≤ den ∧ den ≤ 1000000) :=
 plan_both (rightK_of hn hs h) p dp den (askD n d b1 b2 b3 T ol oh hl hh) rfl rfl rfl rfl rfl rfl rfl
theorem val_ok (h : m34 n d b1 b2 b3 T ol oh hl hh = 0) (hq : 1 ≤ q ∧ q ≤ 1000000) (free : Bool) :
  n99 (askD n d b1 b2 b3 T ol oh hl hh) W a b c e q (cond free 0 1) = true ∧ n116 n d b1 b2 b3 T ol oh hl hh W a b c e q free = true ∧ m99 (askD n d b1 b2 b3 T ol oh hl hh) W a b c e q (cond free 0 1) = m116 n d b1 b2 b3 T ol oh hl hh W a b c e q free ∧
  -9223372036854775808 ≤ m116 n d b1 b2 b3 T ol oh hl hh W a b c e q free ∧ m116 n d b1 b2 b3 T ol oh hl hh W a b c e q free ≤ 9223372036854775807 :=
 value_both (rightK_of hn hs h) W a b c e q hq (askD n d b1 b2 b3 T ol oh hl hh) rfl rfl rfl rfl rfl rfl rfl free
theorem good_plan (h : m34 n d b1 b2 b3 T ol oh hl hh = 0) :
  n38 n d b1 b2 b3 T ol oh hl hh p dp den = true ∧ n40 n d b1 b2 b3 T ol oh hl hh p dp den = true ∧ m38 n d b1 b2 b3 T ol oh hl hh p dp den = m40 n d b1 b2 b3 T ol oh hl hh p dp den := by
 obtain ⟨a1, a2, a3⟩ := task_good n hn d hs b1 b2 b3 T ol oh hl hh h
 obtain ⟨g1, g2, g6, g7⟩ := plan_ok n hn d hs b1 b2 b3 T ol oh hl hh p dp den h
 have k1 : n38 n d b1 b2 b3 T ol oh hl hh p dp den = true := by
  simp only [n38, a1, a2, a3, cond_false]
  show (true && (n97 (askD n d b1 b2 b3 T ol oh hl hh) p dp den && true)) = true
  rw [g1]; rfl
 have k2 : m38 n d b1 b2 b3 T ol oh hl hh p dp den = m40 n d b1 b2 b3 T ol oh hl hh p dp den := by
  simp only [m38, a1, a3, cond_false]
  show ((m97 (askD n d b1 b2 b3 T ol oh hl hh) p dp den).1, (m97 (askD n d b1 b2 b3 T ol oh hl hh) p dp den).2) = _
  rw [g6]
 exact ⟨k1, g2, k2⟩
theorem good_proof (h : m34 n d b1 b2 b3 T ol oh hl hh = 0) :
  n41 n d b1 b2 b3 T ol oh hl hh W a b c e q = true ∧ n72 n d b1 b2 b3 T ol oh hl hh W a b c e q = true ∧ m41 n d b1 b2 b3 T ol oh hl hh W a b c e q = m72 n d b1 b2 b3 T ol oh hl hh W a b c e q := by
 obtain ⟨a1, a2, a3⟩ := task_good n hn d hs b1 b2 b3 T ol oh hl hh h
 obtain ⟨w1, w2, w3, w4⟩ := weights_both W a b c e q
 simp only [n41, n72, m41, m72, a1, a2, a3, w1, w2, w3, cond_false]
 cases hw : m98 W a b c e q
 ·exact ⟨rfl, rfl, rfl⟩
 ·obtain ⟨g1, g2, g6, _⟩ := val_ok n hn d hs b1 b2 b3 T ol oh hl hh W a b c e q h (w4 hw).1 false
  refine ⟨?_, ?_, ?_⟩
  ·show (true && (true && (n99 (askD n d b1 b2 b3 T ol oh hl hh) W a b c e q 1 && true))) = true
   rw [show n99 (askD n d b1 b2 b3 T ol oh hl hh) W a b c e q 1 = true from g1]; rfl
  ·show (true && (n116 n d b1 b2 b3 T ol oh hl hh W a b c e q false && true)) = true
   rw [g2]; rfl
  ·show (m99 (askD n d b1 b2 b3 T ol oh hl hh) W a b c e q 1, (0 : Int)) = (m116 n d b1 b2 b3 T ol oh hl hh W a b c e q false, 0)
   rw [show m99 (askD n d b1 b2 b3 T ol oh hl hh) W a b c e q 1 = _ from g6]
end
theorem l37_some (n : Nat) (hn : n ≤ 9223372036854775807) (d : Dat) (b1 b2 b3 T ol oh hl hh : Int) : n37 n d b1 b2 b3 T ol oh hl hh = true := by
 have h : o37_0 n d b1 b2 b3 T ol oh hl hh 0 = some (first (fun i => cond (decide (20 < ((d.ss i 0).size : Int))) (some (true, false, default)) none) (false, default, ()) n 0) :=
  loop_first (n := n) (l := l37_0 n d b1 b2 b3 T ol oh hl hh) hn (fun f i hi => by
   simp only [l37_0, cdl hi, cdd hi, cond_true, Int.toNat_natCast]
   cases decide (20 < ((d.ss i 0).size : Int)) <;> rfl) (fun f => by simp only [l37_0, cdn]; rfl) n 0 _ (by omega) (by omega)
 simp only [n37, h]
 rfl
theorem light_few {n : Nat} (hn : n ≤ 9223372036854775807) {d : Dat} {b1 b2 b3 T ol oh hl hh : Int} (h : m37 n d b1 b2 b3 T ol oh hl hh = true) : n ≤ 7 := by
 have h0 : o37_0 n d b1 b2 b3 T ol oh hl hh 0 = some (first (fun i => cond (decide (20 < ((d.ss i 0).size : Int))) (some (true, false, default)) none) (false, default, ()) n 0) :=
  loop_first (n := n) (l := l37_0 n d b1 b2 b3 T ol oh hl hh) hn (fun f i hi => by
   simp only [l37_0, cdl hi, cdd hi, cond_true, Int.toNat_natCast]
   cases decide (20 < ((d.ss i 0).size : Int)) <;> rfl) (fun f => by simp only [l37_0, cdn]; rfl) n 0 _ (by omega) (by omega)
 simp only [m37, h0, Option.getD_some] at h
 rcases first_cases (g := fun i => cond (decide (20 < ((d.ss i 0).size : Int))) (some (true, false, (default : Unit))) none) (e := (false, (default : Bool), ())) n 0 with ⟨j, b, _, _, hg, _, hb⟩ | ⟨_, hb⟩
 ·exfalso
  by_cases k : 20 < ((d.ss j 0).size : Int)
  ·simp only [k, decide_true, cond_true, Option.some.injEq] at hg
   rw [hb, ← hg] at h
   cases h
  ·simp only [k, decide_false, cond_false] at hg
   cases hg
 ·rw [hb] at h
  have h : decide ((n : Int) ≤ 7) = true := h
  have := of_decide_eq_true h
  omega
end Go.Proofs.Ytmndejpcpfkajaa
