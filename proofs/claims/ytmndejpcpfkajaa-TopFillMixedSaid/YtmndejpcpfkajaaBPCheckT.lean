/-
 Tasks of fills: the program's check and the reference's alike; what a right task is. Conditions: none.
-/
import Derived.Test.YtmndejpcpfkajaaBPVessels
namespace Go.Proofs.Ytmndejpcpfkajaa
open Go Go.Sy
set_option linter.unusedVariables false
set_option linter.unusedSimpArgs false
set_option maxRecDepth 100000
attribute [local simp] brk
noncomputable def srcE (d : Dat) (i : Nat) : Option (Bool × Int × Unit) :=
 cond (bif m90 (d.ss i 0) then false else true) (some (true, 4, default)) (cond (decide (0 ≤ fnd i d (d.ss i 0))) (some (true, 5, default))
  (cond (bif decide (m91 (d.ii i 1) (d.ii i 2) = 0) then false else true) (some (true, m91 (d.ii i 1) (d.ii i 2), default))
   (cond (bif (bif m32 (d.ii i 3) 0 1000 then false else true) then true else (bif m32 (d.ii i 4) 0 10000000 then false else true)) (some (true, 2, default)) none)))
theorem l150_all (n : Nat) (hn : n ≤ 9223372036854775807) (d : Dat) (s : ByteArray) (x1 x2 x6 x7 : Int) : o150c118_0 n d (datC [SV.str s, SV.int IntKind.i64 x1, SV.int IntKind.i64 x2, SV.int IntKind.i64 x6, SV.int IntKind.i64 x7]) (n : Int) 0 = some (first (hasN d s) (false, default, ()) n 0) :=
 loop_first (l := l150c118_0 n d (datC [SV.str s, SV.int IntKind.i64 x1, SV.int IntKind.i64 x2, SV.int IntKind.i64 x6, SV.int IntKind.i64 x7]) (n : Int)) hn (fun f i hi => by
  have e : m118 (d.ss i 0) (d.ii i (0 + 1)) (d.ii i (0 + 1 + 1)) (d.ii i (0 + 1 + 1 + 1)) (d.ii i (0 + 1 + 1 + 1 + 1)) (datC [SV.str s, SV.int IntKind.i64 x1, SV.int IntKind.i64 x2, SV.int IntKind.i64 x6, SV.int IntKind.i64 x7]) = decide (d.ss i 0 = s) := rfl
  simp only [l150c118_0, cdl hi, cdd hi, cond_true, Int.toNat_natCast, e, hasN]
  cases decide (d.ss i 0 = s) <;> rfl) (fun f => by simp only [l150c118_0, cdn]; rfl) n 0 _ (by omega) (by omega)
theorem dup_prog (n : Nat) (hn : n ≤ 9223372036854775807) (d : Dat) (s : ByteArray) (x1 x2 x6 x7 : Int) :
  n117c118 n d (datC [SV.str s, SV.int IntKind.i64 x1, SV.int IntKind.i64 x2, SV.int IntKind.i64 x6, SV.int IntKind.i64 x7]) = true ∧
  m117c118 n d (datC [SV.str s, SV.int IntKind.i64 x1, SV.int IntKind.i64 x2, SV.int IntKind.i64 x6, SV.int IntKind.i64 x7]) = decide (0 ≤ fnd n d s) := by
 simp only [n117c118, n150c118, m117c118, m150c118, l150_all n hn d s, Option.getD_some, fnd]
 exact ⟨rfl, rfl⟩
theorem ltp {a b c : Nat} (h : a ≤ b) (hc : 0 < c) : a < b + c := by omega
noncomputable def dupE (d : Dat) (s : ByteArray) (j : Nat) : Option (Bool × Int × Unit) := cond (decide (d.ss j 0 = s)) (some (true, 5, default)) none
theorem dup_ref (n i : Nat) (hi : i ≤ n) (hn : n ≤ 9223372036854775807) (d : Dat) (b1 b2 b3 b4 b5 b6 b7 b8 : Int) (s : ByteArray) (x1 x2 x6 x7 : Int) :
  o34_2 (i : Int) n d b1 b2 b3 b4 b5 b6 b7 b8 s x1 x2 x6 x7 0 = some (cond (decide (0 ≤ fnd i d s)) (true, 5, ()) (false, default, ())) := by
 have h : o34_2 (i : Int) n d b1 b2 b3 b4 b5 b6 b7 b8 s x1 x2 x6 x7 0 = some (first (dupE d s) (false, default, ()) i 0) :=
  loop_first (n := i) (l := l34_2 (i : Int) n d b1 b2 b3 b4 b5 b6 b7 b8 s x1 x2 x6 x7) (by omega) (fun f j hj => by
   have g : decide ((0 : Int) ≤ (j : Int) ∧ (j : Int) < (n : Int)) = true := decide_eq_true ⟨by omega, by omega⟩
   simp only [l34_2, cdl hj, g, cond_true, Int.toNat_natCast, dupE]
   cases decide (d.ss j 0 = s) <;> rfl) (fun f => by simp only [l34_2, cdn]; rfl) i 0 _ (by omega) (ltp (by repeat (first | exact Nat.le_of_eq (Int.toNat_natCast i).symm | apply Nat.le_add_right_of_le)) (by decide))
 rw [h]
 congr 1
 rcases fnd_cases i d s with ⟨a, ha, e, hs, hbef⟩ | ⟨e, hall⟩
 ·rw [e, decide_eq_true (by omega), cond_true]
  refine first_some (Nat.zero_le a) (by omega) ?_ (fun j _ hj => ?_)
  ·simp [dupE, hs]
  ·simp [dupE, hbef j hj]
 ·rw [e, decide_eq_false (by omega), cond_false]
  exact first_none fun j _ hj => by simp [dupE, hall j (by omega)]
theorem l34_all (n : Nat) (hn : n ≤ 9223372036854775807) (d : Dat) (hs : ∀ i, i < n → (d.ss i 0).size ≤ 9223372036854775807) (b1 b2 b3 b4 b5 b6 b7 b8 : Int) :
  o34_0 n d b1 b2 b3 b4 b5 b6 b7 b8 0 = some (first (srcE d) (false, default, ()) n 0) :=
 loop_first (l := l34_0 n d b1 b2 b3 b4 b5 b6 b7 b8) hn (fun f i hi => by
  obtain ⟨a1, a2, a3⟩ := names (d.ss i 0) (hs i hi)
  simp only [l34_0, cdl hi, cdd hi, cond_true, Int.toNat_natCast, a2, srcE, dup_ref n i (by omega) hn d, Option.isSome_some, Option.getD_some, Nat.zero_add, Nat.reduceAdd]
  cases m90 (d.ss i 0) <;> cases decide (0 ≤ fnd i d (d.ss i 0)) <;> cases decide (m91 (d.ii i 1) (d.ii i 2) = 0) <;> cases m32 (d.ii i 3) 0 1000 <;> cases m32 (d.ii i 4) 0 10000000 <;> rfl) (fun f => by simp only [l34_0, cdn]; rfl) n 0 _ (by omega) (by omega)
theorem l75_all (n : Nat) (hn : n ≤ 9223372036854775807) (d : Dat) (hs : ∀ i, i < n → (d.ss i 0).size ≤ 9223372036854775807) (b1 b2 b3 b4 b5 b6 b7 b8 : Int) :
  o75_1 n d (n : Int) d b1 b2 b3 b4 b5 b6 b7 b8 0 = some (first (srcE d) (false, default, ()) n 0) :=
 loop_first (l := l75_1 n d (n : Int) d b1 b2 b3 b4 b5 b6 b7 b8) hn (fun f i hi => by
  obtain ⟨a1, a2, a3⟩ := names (d.ss i 0) (hs i hi)
  have g1 : decide ((0 : Int) ≤ (0 : Int) ∧ (0 : Int) ≤ (i : Int) ∧ (i : Int) ≤ (n : Int)) = true := decide_eq_true ⟨by omega, by omega, by omega⟩
  have t1 : ((i : Int) - 0).toNat = i := by omega
  have e73 : ∀ x y z, m83 x y z = m32 x y z := fun x y z => rfl
  obtain ⟨p1, p2⟩ := dup_prog i (by omega) d (d.ss i 0) (d.ii i (0 + 1)) (d.ii i (0 + 1 + 1)) (d.ii i (0 + 1 + 1 + 1)) (d.ii i (0 + 1 + 1 + 1 + 1))
  obtain ⟨q1, q2⟩ := e88 (d.ii i (0 + 1)) (d.ii i (0 + 1 + 1))
  simp only [l75_1, cdl hi, cdd hi, cond_true, Int.toNat_natCast, a1, a3, srcE, g1, t1, p1, p2, q1, q2, e73]
  simp only [Nat.zero_add, Nat.reduceAdd]
  cases m90 (d.ss i 0) <;> cases decide (0 ≤ fnd i d (d.ss i 0)) <;> cases decide (m91 (d.ii i 1) (d.ii i 2) = 0) <;> cases m32 (d.ii i 3) 0 1000 <;> cases m32 (d.ii i 4) 0 10000000 <;> rfl) (fun f => by simp only [l75_1, cdn]; rfl) n 0 _ (by omega) (by omega)
theorem m119_eq (a b : Int) : m119 a b = m92 a b := rfl
theorem task_both (n : Nat) (hn : n ≤ 9223372036854775807) (d : Dat) (hs : ∀ i, i < n → (d.ss i 0).size ≤ 9223372036854775807) (b1 b2 b3 T ol oh hl hh : Int) :
  n75 n d b1 b2 b3 T ol oh hl hh = true ∧ n34 n d b1 b2 b3 T ol oh hl hh = true ∧ m75 n d b1 b2 b3 T ol oh hl hh = m34 n d b1 b2 b3 T ol oh hl hh := by
 obtain ⟨e1, e2⟩ := e81 b1 b2 b3
 have e74 : ∀ x y z, m84 x y z = m29 x y z := fun x y z => rfl
 have eT : m83 T (imax 1 (m29 b1 b2 b3)) 10000000 = !(bif (bif m32 T 1 10000000 then false else true) then true else decide (T < m29 b1 b2 b3)) := by
  simp only [m83, m32, imax]
  by_cases h1 : 1 ≤ T <;> by_cases h2 : T ≤ 10000000 <;> by_cases h3 : T < m29 b1 b2 b3 <;> by_cases h4 : 1 < m29 b1 b2 b3 <;> simp [h1, h2, h3, h4] <;> omega
 simp only [n75, n34, m75, m34, l34_all n hn d hs, l75_all n hn d hs, Option.getD_some, Option.isSome_some, e1, e2, m82, e74, m119_eq, eT]
 generalize first (srcE d) (false, default, ()) n 0 = r
 obtain ⟨r1, r2, r3⟩ := r
 refine ⟨?_, ?_, ?_⟩
 ·cases decide ((n : Int) = 0) <;> cases decide (5 < (n : Int)) <;> cases r1 <;> rfl
 ·cases decide ((n : Int) = 0) <;> cases decide (5 < (n : Int)) <;> cases r1 <;> rfl
 ·cases decide ((n : Int) = 0) <;> cases decide (5 < (n : Int)) <;> cases r1 <;> cases decide (m26 b1 b2 b3 = 0) <;> cases (bif (bif m32 T 1 10000000 then false else true) then true else decide (T < m29 b1 b2 b3)) <;> rfl
structure RightK (n : Nat) (d : Dat) (b1 b2 b3 T ol oh hl hh : Int) : Prop where
 pos : 0 < n
 few : n ≤ 5
 gas : ∀ i, i < n → (0 ≤ d.ii i 1 ∧ d.ii i 1 ≤ 1000) ∧ (0 ≤ d.ii i 2 ∧ d.ii i 2 ≤ 1000) ∧ d.ii i 1 + d.ii i 2 ≤ 1000
 cents : ∀ i, i < n → 0 ≤ d.ii i 3 ∧ d.ii i 3 ≤ 1000
 amount : ∀ i, i < n → 0 ≤ d.ii i 4 ∧ d.ii i 4 ≤ 10000000
 o0 : 0 ≤ b1
 h0 : 0 ≤ b2
 n0 : 0 ≤ b3
 sum : m29 b1 b2 b3 = b1 + b2 + b3
 le : b1 + b2 + b3 ≤ T
 T1 : 1 ≤ T
 T2 : T ≤ 10000000
 O : 0 ≤ ol ∧ ol ≤ oh ∧ oh ≤ 1000
 H : 0 ≤ hl ∧ hl ≤ hh ∧ hh ≤ 1000
theorem m92_ok {a b : Int} (h : m92 a b = 0) : 0 ≤ a ∧ a ≤ b ∧ b ≤ 1000 := by
 simp only [m92] at h
 by_cases h1 : m32 a 0 1000 = true
 ·by_cases h2 : m32 b 0 1000 = true
  ·have k1 := m32_iff.1 h1
   have k2 := m32_iff.1 h2
   by_cases h3 : b < a
   ·simp [h1, h2, h3] at h
   ·omega
  ·simp only [Bool.not_eq_true] at h2
   simp [h1, h2] at h
 ·simp only [Bool.not_eq_true] at h1
  simp [h1] at h
theorem rightK_of {n : Nat} (hn : n ≤ 9223372036854775807) {d : Dat} (hs : ∀ i, i < n → (d.ss i 0).size ≤ 9223372036854775807) {b1 b2 b3 T ol oh hl hh : Int} (h : m34 n d b1 b2 b3 T ol oh hl hh = 0) : RightK n d b1 b2 b3 T ol oh hl hh := by
 simp only [m34, l34_all n hn d hs, Option.getD_some] at h
 by_cases z0 : (n : Int) = 0
 ·simp [z0] at h
 by_cases z1 : 5 < (n : Int)
 ·simp only [z0, z1, decide_true, decide_false, cond_true, cond_false] at h
  omega
 simp only [z0, z1, decide_false, cond_false] at h
 rcases first_cases (g := srcE d) (e := (false, (default : Int), ())) n 0 with ⟨j, b, _, _, hg, _, hb⟩ | ⟨hall, hb⟩
 ·exfalso
  have hb' : first (srcE d) (false, default, ()) n 0 = b := hb
  rw [hb'] at h
  unfold srcE at hg
  generalize (bif m90 (d.ss j 0) then false else true) = c1 at hg
  generalize decide (0 ≤ fnd j d (d.ss j 0)) = c2 at hg
  generalize (bif bif m32 (d.ii j 3) 0 1000 then false else true then true else bif m32 (d.ii j 4) 0 10000000 then false else true) = c6 at hg
  by_cases z : m91 (d.ii j 1) (d.ii j 2) = 0
  ·cases c1 <;> cases c2 <;> cases c6 <;> simp [z] at hg <;> subst hg <;> simp at h
  ·cases c1 <;> cases c2 <;> cases c6 <;> simp [z] at hg <;> subst hg <;> simp [z] at h
 ·have hb' : first (srcE d) (false, default, ()) n 0 = (false, default, ()) := hb
  rw [hb'] at h
  simp only [cond_false] at h
  have row : ∀ i, i < n → m91 (d.ii i 1) (d.ii i 2) = 0 ∧ m32 (d.ii i 3) 0 1000 = true ∧ m32 (d.ii i 4) 0 10000000 = true := by
   intro i hi
   have := hall i (by omega) (by omega)
   unfold srcE at this
   generalize m90 (d.ss i 0) = c0 at this
   generalize decide (0 ≤ fnd i d (d.ss i 0)) = c1 at this
   generalize m32 (d.ii i 3) 0 1000 = c2 at this ⊢
   generalize m32 (d.ii i 4) 0 10000000 = c6 at this ⊢
   by_cases z : m91 (d.ii i 1) (d.ii i 2) = 0
   ·refine ⟨z, ?_⟩
    cases c0 <;> cases c1 <;> cases c2 <;> cases c6 <;> simp [z] at this ⊢
   ·cases c0 <;> cases c1 <;> cases c2 <;> cases c6 <;> simp [z] at this
  by_cases k1 : m26 b1 b2 b3 = 0
  ·obtain ⟨ha, hb, hc, hS, hle⟩ := e26 k1
   by_cases k2 : (bif (bif m32 T 1 10000000 then false else true) then true else decide (T < m29 b1 b2 b3)) = true
   ·simp only [k1, k2, decide_true, cond_true, cond_false] at h
    exact absurd h (by decide)
   ·simp only [Bool.not_eq_true] at k2
    by_cases k6 : m92 ol oh = 0
    ·simp only [k1, k2, k6, decide_true, cond_true, cond_false] at h
     have t : m32 T 1 10000000 = true ∧ ¬ T < m29 b1 b2 b3 := by
      cases hm : m32 T 1 10000000 <;> simp [hm] at k2 ⊢
      omega
     have t1 := m32_iff.1 t.1
     exact ⟨by omega, by omega, fun i hi => ⟨(e83s (row i hi).1).1, (e83s (row i hi).1).2.1, (e83s (row i hi).1).2.2⟩, fun i hi => m32_iff.1 (row i hi).2.1, fun i hi => m32_iff.1 (row i hi).2.2, ha.1, hb.1, hc.1, hS, by omega, t1.1, t1.2, m92_ok k6, m92_ok h⟩
    ·simp only [k1, k2, k6, decide_true, decide_false, cond_true, cond_false] at h
  ·simp [k1] at h
end Go.Proofs.Ytmndejpcpfkajaa
