/-
  Names, vessels, and fills alone: the program and the reference alike. Conditions: none.
-/
import Derived.Test.YtmndejpcpfkajaaAFGasBalanced
import Derived.Test.YtmndejpcpfkajaaAPMatches
import Derived.Test.YtmndejpcpfkajaaAPPartials
import Derived.Test.YtmndejpcpfkajaaAPLoop
import Derived.Test.YtmndejpcpfkajaaAPFactors
import Derived.Test.YtmndejpcpfkajaaAPShares
import Derived.Test.YtmndejpcpfkajaaA1
import Derived.Test.YtmndejpcpfkajaaA2
import Derived.Test.YtmndejpcpfkajaaA3
import Derived.Test.YtmndejpcpfkajaaA4
namespace Go.Proofs.Ytmndejpcpfkajaa
open Go Go.Sy
set_option linter.unusedVariables false
set_option maxRecDepth 100000
attribute [local simp] brk
/-- A byte that may not stand at a place of a name. -/
noncomputable def badC (s : ByteArray) (i : Nat) : Option (Bool × Bool × Unit) :=
  cond (bif (bif (bif (bif decide (97 ≤ byteAt s i) then decide (byteAt s i ≤ 122) else false) then true else (bif decide (65 ≤ byteAt s i) then decide (byteAt s i ≤ 90) else false)) then false else true) then (bif decide (i = 0) then true else (bif (bif decide (byteAt s i = 45) then false else true) then (bif decide (byteAt s i < 48) then true else decide (57 < byteAt s i)) else false)) else false) (some (true, false, default)) none
theorem l90_all (s : ByteArray) (hs : s.size ≤ 9223372036854775807) : o90_0 s 0 = some (first (badC s) (false, default, ()) s.size 0) :=
  loop_first (l := l90_0 s) hs (fun f i hi => by
    have e : decide ((i : Int) = 0) = decide (i = 0) := by by_cases h : i = 0 <;> simp [h]
    simp only [l90_0, cdl hi, cdd hi, cond_true, Int.toNat_natCast, e, badC]
    generalize (bif bif bif bif decide (97 ≤ byteAt s i) then decide (byteAt s i ≤ 122) else false then true else bif decide (65 ≤ byteAt s i) then decide (byteAt s i ≤ 90) else false then false else true then bif decide (i = 0) then true else bif bif decide (byteAt s i = 45) then false else true then bif decide (byteAt s i < 48) then true else decide (57 < byteAt s i) else false else false) = c
    cases c <;> rfl) (fun f => by simp only [l90_0, cdn]; rfl) s.size 0 _ (by omega) (by omega)
theorem l104_all (s : ByteArray) (hs : s.size ≤ 9223372036854775807) : o104_0 s (s.size : Int) 0 = some (first (badC s) (false, default, ()) s.size 0) :=
  loop_first (l := l104_0 s (s.size : Int)) hs (fun f i hi => by
    have e : decide ((i : Int) = 0) = decide (i = 0) := by by_cases h : i = 0 <;> simp [h]
    simp only [l104_0, cdl hi, cdd hi, cond_true, Int.toNat_natCast, e, badC, Bool.cond_self]
    generalize decide (97 ≤ byteAt s i) = c1
    generalize decide (byteAt s i ≤ 122) = c2
    generalize decide (65 ≤ byteAt s i) = c6
    generalize decide (byteAt s i ≤ 90) = c7
    generalize decide (i = 0) = c8
    generalize decide (byteAt s i = 45) = c9
    generalize decide (byteAt s i < 48) = c10
    generalize decide (57 < byteAt s i) = c11
    cases c1 <;> cases c2 <;> cases c6 <;> cases c7 <;> cases c8 <;> cases c9 <;> cases c10 <;> cases c11 <;> rfl) (fun f => by simp only [l104_0, cdn]; rfl) s.size 0 _ (by omega) (by omega)
theorem names (s : ByteArray) (hs : s.size ≤ 9223372036854775807) : n104 s = true ∧ n90 s = true ∧ m104 s = m90 s := by
  simp only [n104, n90, m104, m90, l104_all s hs, l90_all s hs, Option.getD_some]
  have hb : (first (badC s) (false, default, ()) s.size 0).1 = true → (first (badC s) (false, default, ()) s.size 0).2.1 = false := by
    rcases first_cases (g := badC s) (e := (false, (default : Bool), ())) s.size 0 with ⟨j, b, _, _, hg, _, hb⟩ | ⟨_, hb⟩
    · intro _
      have : first (badC s) (false, default, ()) s.size 0 = b := hb
      rw [this]
      unfold badC at hg
      generalize (bif bif bif bif decide (97 ≤ byteAt s j) then decide (byteAt s j ≤ 122) else false then true else bif decide (65 ≤ byteAt s j) then decide (byteAt s j ≤ 90) else false then false else true then bif decide (j = 0) then true else bif bif decide (byteAt s j = 45) then false else true then bif decide (byteAt s j < 48) then true else decide (57 < byteAt s j) else false else false) = c at hg
      cases c <;> simp at hg
      rw [← hg]
    · intro h
      have : first (badC s) (false, default, ()) s.size 0 = (false, default, ()) := hb
      rw [this] at h
      cases h
  have e0 : decide (s = { data := #[] }) = decide ((s.size : Int) < 1) := by
    apply decide_eq_decide.2
    constructor
    · intro h; subst h; decide
    · intro h
      have : s.size = 0 := by omega
      obtain ⟨d⟩ := s
      have : d.size = 0 := this
      rw [Array.size_eq_zero_iff] at this
      rw [this]
  rw [e0]
  generalize first (badC s) (false, default, ()) s.size 0 = r at *
  obtain ⟨r1, r2, r3⟩ := r
  simp only at hb ⊢
  refine ⟨rfl, ?_, ?_⟩
  · cases decide ((s.size : Int) < 1) <;> cases decide (12 < (s.size : Int)) <;> rfl
  · have e1 : decide ((s.size : Int) ≤ 12) = !decide (12 < (s.size : Int)) := by
      by_cases h : 12 < (s.size : Int)
      · have : ¬ (s.size : Int) ≤ 12 := by omega
        simp [h, this]
      · have : (s.size : Int) ≤ 12 := by omega
        simp [h, this]
    rw [e1]
    cases r1
    · cases decide ((s.size : Int) < 1) <;> cases decide (12 < (s.size : Int)) <;> rfl
    · have := hb rfl
      subst this
      cases decide ((s.size : Int) < 1) <;> cases decide (12 < (s.size : Int)) <;> rfl
/-- Where a name is. -/
noncomputable def hasN (d : Dat) (s : ByteArray) (i : Nat) : Option (Bool × Int × Unit) := cond (decide (d.ss i 0 = s)) (some (true, (i : Int), default)) none
noncomputable def fnd (n : Nat) (d : Dat) (s : ByteArray) : Int := cond (first (hasN d s) (false, default, ()) n 0).1 (first (hasN d s) (false, default, ()) n 0).2.1 (-1)
theorem l23_all (n : Nat) (hn : n ≤ 9223372036854775807) (d : Dat) (s : ByteArray) : o23_0 n d s 0 = some (first (hasN d s) (false, default, ()) n 0) :=
  loop_first (l := l23_0 n d s) hn (fun f i hi => by
    simp only [l23_0, cdl hi, cdd hi, cond_true, Int.toNat_natCast, hasN]
    cases decide (d.ss i 0 = s) <;> rfl) (fun f => by simp only [l23_0, cdn]; rfl) n 0 _ (by omega) (by omega)
theorem l142_all (n : Nat) (hn : n ≤ 9223372036854775807) (d : Dat) (s : ByteArray) : o142c143_0 n d (datC [SV.str s]) (n : Int) 0 = some (first (hasN d s) (false, default, ()) n 0) :=
  loop_first (l := l142c143_0 n d (datC [SV.str s]) (n : Int)) hn (fun f i hi => by
    have e : m143 (d.ss i 0) (d.ii i (0 + 1)) (d.ii i (0 + 1 + 1)) (datC [SV.str s]) = decide (d.ss i 0 = s) := rfl
    simp only [l142c143_0, cdl hi, cdd hi, cond_true, Int.toNat_natCast, e, hasN]
    cases decide (d.ss i 0 = s) <;> rfl) (fun f => by simp only [l142c143_0, cdn]; rfl) n 0 _ (by omega) (by omega)
theorem find43 (n : Nat) (hn : n ≤ 9223372036854775807) (d : Dat) (s : ByteArray) : n23 n d s = true ∧ m23 n d s = fnd n d s := by
  simp only [n23, m23, l23_all n hn d s, Option.getD_some, fnd]
  exact ⟨rfl, trivial⟩
theorem find79 (n : Nat) (hn : n ≤ 9223372036854775807) (d : Dat) (s : ByteArray) : n105 n d s = true ∧ m105 n d s = fnd n d s := by
  simp only [n105, m105, n142c143, m142c143, l142_all n hn d s, Option.getD_some, fnd]
  exact ⟨rfl, trivial⟩
theorem fnd_cases (n : Nat) (d : Dat) (s : ByteArray) : (∃ i, i < n ∧ fnd n d s = (i : Int) ∧ d.ss i 0 = s ∧ ∀ j, j < i → d.ss j 0 ≠ s) ∨ (fnd n d s = -1 ∧ ∀ j, j < n → d.ss j 0 ≠ s) := by
  unfold fnd
  rcases first_cases (g := hasN d s) (e := (false, (default : Int), ())) n 0 with ⟨j, b, _, hj, hg, hbef, hb⟩ | ⟨hall, hb⟩
  · left
    have hb' : first (hasN d s) (false, default, ()) n 0 = b := hb
    have hne : ∀ i, i < j → d.ss i 0 ≠ s := fun i hi h => by
      have := hbef i (by omega) hi
      simp [hasN, h] at this
    unfold hasN at hg
    by_cases h : d.ss j 0 = s
    · simp [h] at hg
      exact ⟨j, by omega, by rw [hb', ← hg]; rfl, h, hne⟩
    · simp [h] at hg
  · right
    have hb' : first (hasN d s) (false, default, ()) n 0 = (false, default, ()) := hb
    refine ⟨by rw [hb']; rfl, fun j hj h => ?_⟩
    have := hall j (by omega) (by omega)
    simp [hasN, h] at this
/-- The error of a vessel. -/
noncomputable def vesE (d : Dat) (i : Nat) : Option (Bool × Int × Unit) :=
  cond (bif m90 (d.ss i 0) then false else true) (some (true, 4, default)) (cond (decide (0 ≤ fnd i d (d.ss i 0))) (some (true, 5, default))
    (cond (bif (bif m32 (d.ii i 1) 1 1000000 then false else true) then true else (bif m32 (d.ii i 2) 1 400000 then false else true)) (some (true, 2, default)) none))
theorem fnd_lt {n : Nat} {d : Dat} {i : Nat} (hi : i < n) : decide (fnd n d (d.ss i 0) < (i : Int)) = decide (0 ≤ fnd i d (d.ss i 0)) := by
  apply decide_eq_decide.2
  rcases fnd_cases n d (d.ss i 0) with ⟨a, ha, e, hs, hbef⟩ | ⟨e, hall⟩
  · rcases fnd_cases i d (d.ss i 0) with ⟨b, hb, e', hs', hbef'⟩ | ⟨e', hall'⟩
    · rw [e, e']
      refine ⟨fun _ => by omega, fun _ => ?_⟩
      by_cases h : b < a
      · exact absurd hs' (hbef b h)
      · omega
    · rw [e, e']
      refine ⟨fun h => ?_, fun h => by omega⟩
      exact absurd hs (hall' a (by omega))
  · exact absurd rfl (hall i hi)
theorem l51_all (n : Nat) (hn : n ≤ 9223372036854775807) (d : Dat) (hs : ∀ i, i < n → (d.ss i 0).size ≤ 9223372036854775807) : o51_0 n d 0 = some (first (vesE d) (false, default, ()) n 0) :=
  loop_first (l := l51_0 n d) hn (fun f i hi => by
    have g1 : decide ((0 : Int) ≤ (0 : Int) ∧ (0 : Int) ≤ (i : Int) ∧ (i : Int) ≤ (n : Int)) = true := decide_eq_true ⟨by omega, by omega, by omega⟩
    have t1 : ((i : Int) - 0).toNat = i := by omega
    obtain ⟨f1, f2⟩ := find43 i (by omega) d (d.ss i 0)
    obtain ⟨a1, a2, a3⟩ := names (d.ss i 0) (hs i hi)
    simp only [l51_0, cdl hi, cdd hi, cond_true, Int.toNat_natCast, g1, t1, f1, f2, a2, vesE, Nat.zero_add, Nat.reduceAdd, Bool.cond_self]
    cases m90 (d.ss i 0) <;> cases decide (0 ≤ fnd i d (d.ss i 0)) <;> cases m32 (d.ii i 1) 1 1000000 <;> cases m32 (d.ii i 2) 1 400000 <;> rfl) (fun f => by simp only [l51_0, cdn]; rfl) n 0 _ (by omega) (by omega)
theorem l50_all (n : Nat) (hn : n ≤ 9223372036854775807) (d : Dat) (hs : ∀ i, i < n → (d.ss i 0).size ≤ 9223372036854775807) : o50_0 n d d (n : Int) 0 = some (first (vesE d) (false, default, ()) n 0) :=
  loop_first (l := l50_0 n d d (n : Int)) hn (fun f i hi => by
    obtain ⟨f1, f2⟩ := find79 n hn d (d.ss i 0)
    obtain ⟨a1, a2, a3⟩ := names (d.ss i 0) (hs i hi)
    have e73 : ∀ x y z, m83 x y z = m32 x y z := fun x y z => rfl
    simp only [l50_0, cdl hi, cdd hi, cond_true, Int.toNat_natCast, f1, f2, fnd_lt hi, a1, a3, e73, vesE, Nat.zero_add, Nat.reduceAdd]
    cases m90 (d.ss i 0) <;> cases decide (0 ≤ fnd i d (d.ss i 0)) <;> cases m32 (d.ii i 1) 1 1000000 <;> cases m32 (d.ii i 2) 1 400000 <;> rfl) (fun f => by simp only [l50_0, cdn]; rfl) n 0 _ (by omega) (by omega)
theorem ves_both (n : Nat) (hn : n ≤ 9223372036854775807) (d : Dat) (hs : ∀ i, i < n → (d.ss i 0).size ≤ 9223372036854775807) : n50 n d = true ∧ n51 n d = true ∧ m50 n d = m51 n d := by
  simp only [n50, n51, m50, m51, l50_all n hn d hs, l51_all n hn d hs]
  refine ⟨?_, ?_, trivial⟩ <;> cases decide ((20 : Int) < (n : Int)) <;> rfl
/-- Right vessels. -/
structure RightV (n : Nat) (d : Dat) : Prop where
  few : n ≤ 20
  vol : ∀ i, i < n → 1 ≤ d.ii i 1 ∧ d.ii i 1 ≤ 1000000
  most : ∀ i, i < n → 1 ≤ d.ii i 2 ∧ d.ii i 2 ≤ 400000
  one : ∀ i j, i < j → j < n → d.ss i 0 ≠ d.ss j 0
theorem rightV_of {n : Nat} {d : Dat} (hn : n ≤ 9223372036854775807) (hs : ∀ i, i < n → (d.ss i 0).size ≤ 9223372036854775807) (h : m51 n d = 0) : RightV n d := by
  simp only [m51, l51_all n hn d hs, Option.getD_some] at h
  by_cases h1 : (20 : Int) < (n : Int)
  · simp only [h1, decide_true, cond_true] at h
    omega
  · simp only [h1, decide_false, cond_false] at h
    rcases first_cases (g := vesE d) (e := (false, (default : Int), ())) n 0 with ⟨j, b, _, _, hg, _, hb⟩ | ⟨hall, _⟩
    · exfalso
      have hb' : first (vesE d) (false, default, ()) n 0 = b := hb
      rw [hb'] at h
      unfold vesE at hg
      generalize (bif m90 (d.ss j 0) then false else true) = c1 at hg
      generalize decide (0 ≤ fnd j d (d.ss j 0)) = c2 at hg
      generalize (bif bif m32 (d.ii j 1) 1 1000000 then false else true then true else bif m32 (d.ii j 2) 1 400000 then false else true) = c6 at hg
      cases c1 <;> cases c2 <;> cases c6 <;> simp at hg <;> subst hg <;> simp at h
    · have row : ∀ i, i < n → fnd i d (d.ss i 0) < 0 ∧ m32 (d.ii i 1) 1 1000000 = true ∧ m32 (d.ii i 2) 1 400000 = true := by
        intro i hi
        have := hall i (by omega) (by omega)
        unfold vesE at this
        generalize m90 (d.ss i 0) = c0 at this
        by_cases k1 : 0 ≤ fnd i d (d.ss i 0)
        · cases c0 <;> simp [k1] at this
        · refine ⟨by omega, ?_⟩
          generalize m32 (d.ii i 1) 1 1000000 = c1 at this ⊢
          generalize m32 (d.ii i 2) 1 400000 = c2 at this ⊢
          cases c0 <;> cases c1 <;> cases c2 <;> simp [k1] at this ⊢
      refine ⟨by omega, fun i hi => m32_iff.1 (row i hi).2.1, fun i hi => m32_iff.1 (row i hi).2.2, fun i j hij hj e => ?_⟩
      have h1 := (row j hj).1
      rcases fnd_cases j d (d.ss j 0) with ⟨a, ha, e', hs', hbef'⟩ | ⟨e', hall'⟩
      · omega
      · exact hall' i hij e
theorem alone_both (k dy : Int) (fr to : ByteArray) (ox he am : Int) (pu : Bool) : n125 k dy fr to ox he am pu = true ∧ m125 k dy fr to ox he am pu = m110 k dy fr to ox he am pu := by
  have e73 : ∀ x y z, m83 x y z = m32 x y z := fun x y z => rfl
  obtain ⟨g1, g2⟩ := e88 ox he
  simp only [n125, m125, m110, g1, g2, m126, m127, e73]
  constructor
  · cases m32 k 0 2 <;> cases decide (k = 0) <;> rfl
  · generalize m32 k 0 2 = c1
    generalize m32 dy 0 100000 = c2
    generalize m32 am 1 1000000000 = c6
    generalize decide (m91 ox he = 0) = c7
    generalize decide (ox = 0) = c8
    generalize decide (he = 0) = c9
    generalize decide (fr = { data := #[] }) = c10
    generalize decide (to = { data := #[] }) = c11
    generalize decide (fr = to) = c12
    by_cases h0 : k = 0
    · subst h0
      cases c1 <;> cases c2 <;> cases c6 <;> cases c7 <;> cases c10 <;> cases pu <;> rfl
    · by_cases h1 : k = 1
      · subst h1
        cases c1 <;> cases c2 <;> cases c6 <;> cases c8 <;> cases c9 <;> cases c12 <;> cases pu <;> rfl
      · by_cases h2 : k = 2
        · subst h2
          cases c1 <;> cases c2 <;> cases c6 <;> cases c8 <;> cases c9 <;> cases c11 <;> cases pu <;> rfl
        · simp only [h0, h1, h2, decide_false]
          cases c1 <;> cases c2 <;> cases c6 <;> cases c8 <;> cases c9 <;> cases c10 <;> cases c11 <;> cases pu <;> rfl
/-- A fill that is right alone. -/
theorem alone_right {k dy : Int} {fr to : ByteArray} {ox he am : Int} {pu : Bool} (h : m110 k dy fr to ox he am pu = 0) :
    (k = 0 ∨ k = 1 ∨ k = 2) ∧ (1 ≤ am ∧ am ≤ 1000000000) ∧ (k = 0 → m91 ox he = 0) ∧ (k = 1 → fr ≠ to) ∧ (0 ≤ dy ∧ dy ≤ 100000) := by
  simp only [m110] at h
  by_cases h1 : m32 k 0 2 = true
  · have k2 := m32_iff.1 h1
    by_cases h2 : m32 dy 0 100000 = true
    · by_cases h3 : m32 am 1 1000000000 = true
      · refine ⟨by omega, m32_iff.1 h3, fun hk => ?_, fun hk => ?_, m32_iff.1 h2⟩
        · subst hk
          by_cases h4 : m91 ox he = 0
          · exact h4
          · simp [h1, h2, h3, h4] at h
        · subst hk
          intro e
          simp only [h1, h2, h3, e] at h
          generalize decide (ox = 0) = c8 at h
          generalize decide (he = 0) = c9 at h
          cases c8 <;> cases c9 <;> simp at h
      · simp only [Bool.not_eq_true] at h3
        simp [h1, h2, h3] at h
    · simp only [Bool.not_eq_true] at h2
      simp [h1, h2] at h
  · simp only [Bool.not_eq_true] at h1
    simp [h1] at h
end Go.Proofs.Ytmndejpcpfkajaa
