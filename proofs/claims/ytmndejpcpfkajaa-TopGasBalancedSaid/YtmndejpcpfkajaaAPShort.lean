/-
  Reading: what both say; the plain laws of 'MixFills' and 'MixBalance'. Conditions: none.
-/
import Derived.Test.YtmndejpcpfkajaaSyX
import Derived.Test.YtmndejpcpfkajaaAFGasBalanced
import Derived.Test.YtmndejpcpfkajaaAPMatches
import Derived.Test.YtmndejpcpfkajaaAPPartials
import Derived.Test.YtmndejpcpfkajaaAPLoop
import Derived.Test.YtmndejpcpfkajaaAPFactors
import Derived.Test.YtmndejpcpfkajaaAPShares
import Derived.Test.YtmndejpcpfkajaaAPVessels
import Derived.Test.YtmndejpcpfkajaaAPFills
import Derived.Test.YtmndejpcpfkajaaAPRead
import Derived.Test.YtmndejpcpfkajaaAPRun
import Derived.Test.YtmndejpcpfkajaaA1
import Derived.Test.YtmndejpcpfkajaaA2
import Derived.Test.YtmndejpcpfkajaaA3
import Derived.Test.YtmndejpcpfkajaaA4
namespace Go.Proofs.Ytmndejpcpfkajaa
open Go Go.Sy
set_option linter.unusedVariables false
set_option maxRecDepth 100000
/-- Names within the lengths that there may be. -/
def SzV (nv : Nat) (dv : Dat) : Prop := ∀ i, i < nv → (dv.ss i 0).size ≤ 9223372036854775807
/-- What reading comes to. -/
inductive RdC (nv : Nat) (dv : Dat) (n : Nat) (d : Dat) : Prop where
  | bad (i e : Int) (he : e ≠ 0) (hE : rdE nv dv n d = (i, e)) (a : n79a nv dv n d = true) (m : m79a nv dv n d = (i, e)) (r : m20 nv dv n d = (i, e))
  | good (s : St) (V : RightV nv dv) (hn : n ≤ 200) (hS : rdS nv dv n d = .inr s) (R : RightS nv dv s ((n : Int) * 1000000000)) (B : Bal nv s) (hE : rdE nv dv n d = (0, 0)) (hv : m51 nv dv = 0) (a : n79a nv dv n d = false) (b : n79b nv dv n d = true)
    (m : m79b nv dv n d = (0, 0, nv, dv, nv, s.2.1.1, s.2.1.2.1, s.2.1.2.2, s.2.2.1.1, s.2.2.1.2.1, s.2.2.1.2.2, s.2.2.2, nv, s.1)) (r : m59 nv dv n d = (nv, s.1, s.2.1.1, s.2.1.2.1, s.2.1.2.2, s.2.2.1.1, s.2.2.1.2.1, s.2.2.1.2.2, s.2.2.2, 0, 0))
theorem read_all {nv n : Nat} {dv d : Dat} (hnv : nv ≤ 9223372036854775807) (hn : n ≤ 9223372036854775807) (hz : SzV nv dv) : RdC nv dv n d ∧ n20 nv dv n d = true := by
  obtain ⟨v1, v2, v3⟩ := ves_both nv hnv dv hz
  by_cases h29 : m51 nv dv = 0
  · have V := rightV_of hnv hz h29
    have few := V.few
    have h28 : m50 nv dv = 0 := by rw [v3, h29]
    have al : decide (0 ≤ (nv : Int) ∧ (nv : Int) ≤ (nv : Int) ∧ (nv : Int) ≤ 1073741824) = true := decide_eq_true ⟨by omega, by omega, by omega⟩
    by_cases h200 : 200 < n
    · have hd : decide ((200 : Int) < (n : Int)) = true := decide_eq_true (by omega)
      have e42 := m59_eq nv dv n d _ rfl
      have q59 := n59_eq nv dv n d _ rfl
      rw [hd] at e42 q59
      simp only [cond_true] at e42 q59
      have q : n59 nv dv n d = true := by rw [q59, al]; simp
      refine ⟨.bad 0 8 (by omega) ?_ ?_ ?_ ?_, ?_⟩
      · simp [rdE, h29, h200]
      · simp only [n79a, v1, h28, hd]; rfl
      · rw [m79a_eq, h28, hd]; rfl
      · simp only [m20, h29, e42]; rfl
      · simp only [n20, v2, h29, q]; rfl
    · have hd : decide ((200 : Int) < (n : Int)) = false := decide_eq_false (by omega)
      have o77 := o79_all hnv V (show n ≤ 1000 by omega) (d := d)
      have o42 := o59_all hnv V (show n ≤ 1000 by omega) (d := d)
      obtain ⟨p1, p2⟩ := rdS_right hnv V (show n ≤ 1000 by omega) (d := d)
      have tn : ((nv : Int)).toNat = nv := Int.toNat_natCast nv
      have e42 := m59_eq nv dv n d _ rfl
      have q59 := n59_eq nv dv n d _ rfl
      have e77 := m79a_eq nv dv n d
      have f77 := m79b_eq nv dv n d _ rfl
      rw [hd, tn, o42] at e42 q59
      rw [hd, tn, o77, h28] at e77
      rw [tn, o77] at f77
      simp only [Option.getD_some, Option.isSome_some, cond_false, al, Bool.true_and] at e42 q59 e77 f77
      cases hr : rdS nv dv n d with
      | inl b =>
        obtain ⟨i, e, s⟩ := b
        obtain ⟨he, hi⟩ := p1 i e s hr
        rw [hr] at e42 q59 e77
        simp only [phP, phR, decide_true, cond_true, cond_false] at e42 q59 e77
        have q : n59 nv dv n d = true := by rw [q59]; simp
        refine ⟨.bad i e he ?_ ?_ ?_ ?_, ?_⟩
        · simp [rdE, h29, h200, hr]
        · simp only [n79a, v1, h28, hd, tn, o77, hr, al]; rfl
        · exact e77
        · simp only [m20, h29, e42]; rfl
        · simp only [n20, v2, h29, q]; rfl
      | inr s =>
        obtain ⟨R, B⟩ := p2 s hr
        rw [hr] at e42 q59 f77
        simp only [phP, phR, decide_true, cond_true, cond_false] at e42 q59 f77
        have q : n59 nv dv n d = true := by rw [q59]; simp
        refine ⟨.good s V (by omega) hr R B ?_ h29 ?_ ?_ f77 e42, ?_⟩
        · simp [rdE, h29, h200, hr]
        · simp only [n79a, v1, h28, hd, tn, o77, hr, al]; rfl
        · simp only [n79b, v1, h28, hd, tn, o77, hr, al]; rfl
        · simp only [n20, v2, h29, q]; rfl
  · have h28 : ¬ m50 nv dv = 0 := by rw [v3]; exact h29
    refine ⟨.bad 0 (m51 nv dv) h29 ?_ ?_ ?_ ?_, ?_⟩
    · simp [rdE, h29]
    · simp only [n79a, v1, h28]; rfl
    · rw [m79a_eq, v3, decide_eq_false h29]; rfl
    · simp only [m20, decide_eq_false h29]; rfl
    · simp only [n20, v2, decide_eq_false h29]; rfl
theorem both24 {nv n : Nat} {dv d : Dat} (R : RdC nv dv n d) : n47 nv dv n d = true ∧ m47 nv dv n d = rdE nv dv n d ∧ m20 nv dv n d = rdE nv dv n d := by
  cases R with
  | bad i e he hE a m r => exact ⟨by simp only [n47, a]; rfl, by simp only [m47, a, m, hE]; rfl, by rw [r, hE]⟩
  | good s V hn hS R B hE hv a b m r => exact ⟨by simp only [n47, a, b]; rfl, by simp only [m47, a, m, hE]; rfl, by simp only [m20, hv, r, hE]; rfl⟩
theorem first_tf (g : Nat → Option (Bool × Bool × Unit)) (hg : ∀ i b, g i = some b → b.2.1 = false) (n : Nat) : (first g (false, default, ()) n 0).1 = true → (first g (false, default, ()) n 0).2.1 = false := by
  intro h
  rcases first_cases (g := g) (e := (false, (default : Bool), ())) n 0 with ⟨j, b, _, _, h3, _, hb⟩ | ⟨_, hb⟩
  · have hb' : first g (false, default, ()) n 0 = b := hb
    rw [hb']
    exact hg j b h3
  · have hb' : first g (false, default, ()) n 0 = (false, default, ()) := hb
    rw [hb'] at h
    cases h
theorem l19a (nv : Nat) (hnv : nv ≤ 9223372036854775807) (dv : Dat) (n : Nat) (d : Dat) : ∃ r : Bool × Bool × Unit, o19_0 nv dv n d 0 = some r ∧ (r.1 = true → r.2.1 = false) :=
  ⟨_, loop_first (l := l19_0 nv dv n d) (g := fun i => cond (decide (20 < ((dv.ss i 0).size : Int))) (some (true, false, default)) none) hnv (fun f i hi => by
    simp only [l19_0, cdl hi, cdd hi, cond_true, Int.toNat_natCast]
    cases decide (20 < ((dv.ss i 0).size : Int)) <;> rfl) (fun f => by simp only [l19_0, cdn]; rfl) nv 0 _ (by omega) (by omega), first_tf _ (fun i b h => by
    cases hc : decide (20 < ((dv.ss i 0).size : Int)) <;> rw [hc] at h <;> simp at h
    rw [← h]) nv⟩
theorem l19b (nv : Nat) (dv : Dat) (n : Nat) (hn : n ≤ 9223372036854775807) (d : Dat) : ∃ r : Bool × Bool × Unit, o19_2 nv dv n d 0 = some r ∧ (r.1 = true → r.2.1 = false) :=
  ⟨_, loop_first (l := l19_2 nv dv n d) (g := fun i => cond (bif decide (20 < ((d.ss i 2).size : Int)) then true else decide (20 < ((d.ss i 3).size : Int))) (some (true, false, default)) none) hn (fun f i hi => by
    simp only [l19_2, cdl hi, cdd hi, cond_true, Int.toNat_natCast, Nat.zero_add, Nat.reduceAdd]
    cases decide (20 < ((d.ss i 2).size : Int)) <;> cases decide (20 < ((d.ss i 3).size : Int)) <;> rfl) (fun f => by simp only [l19_2, cdn]; rfl) n 0 _ (by omega) (by omega), first_tf _ (fun i b h => by
    cases hc : (bif decide (20 < ((d.ss i 2).size : Int)) then true else decide (20 < ((d.ss i 3).size : Int))) <;> rw [hc] at h <;> simp at h
    rw [← h]) n⟩
theorem short_ok {nv n : Nat} {dv d : Dat} (hnv : nv ≤ 9223372036854775807) (hn : n ≤ 9223372036854775807) : n19 nv dv n d = true ∧ (m19 nv dv n d = true → nv ≤ 22 ∧ n ≤ 202) := by
  obtain ⟨⟨r1, r1', _⟩, h1, t1⟩ := l19a nv hnv dv n d
  obtain ⟨⟨r2, r2', _⟩, h2, t2⟩ := l19b nv dv n hn d
  simp only at t1 t2
  constructor
  · simp only [n19, h1, h2, Option.getD_some]
    cases r1 <;> rfl
  · intro h
    cases r1
    · cases r2
      · simp only [m19, h1, h2, Option.getD_some, cond_false] at h
        by_cases k1 : (nv : Int) ≤ 5
        · by_cases k2 : (n : Int) ≤ 12
          · omega
          · by_cases k6 : 200 < (n : Int)
            · by_cases k7 : (n : Int) ≤ 202
              · omega
              · simp only [k1, k2, k6, k7, decide_true, decide_false, cond_true, cond_false] at h
                cases h
            · simp only [k1, k2, k6, decide_true, decide_false, cond_true, cond_false] at h
              cases h
        · by_cases k8 : 20 < (nv : Int)
          · by_cases k9 : (nv : Int) ≤ 22
            · by_cases k2 : (n : Int) ≤ 12
              · omega
              · by_cases k6 : 200 < (n : Int)
                · by_cases k7 : (n : Int) ≤ 202
                  · omega
                  · simp only [k1, k2, k6, k7, k8, k9, decide_true, decide_false, cond_true, cond_false] at h
                    cases h
                · simp only [k1, k2, k6, k8, k9, decide_true, decide_false, cond_true, cond_false] at h
                  cases h
            · simp only [k1, k8, k9, decide_true, decide_false, cond_true, cond_false] at h
              cases h
          · simp only [k1, k8, decide_true, decide_false, cond_true, cond_false] at h
            cases h
      · have := t2 rfl
        subst this
        simp only [m19, h1, h2, Option.getD_some, cond_false, cond_true] at h
        cases h
    · have := t1 rfl
      subst this
      simp only [m19, h1, h2, Option.getD_some, cond_true] at h
      cases h
/-- The copy of what is held. -/
noncomputable def cpy (dh : Dat) : Nat → Dat
  | 0 => noDat
  | k + 1 => (cpy dh k).app k (datS [SV.int .i64 (dh.ii k 0), SV.int .i64 (dh.ii k 1), SV.int .i64 (dh.ii k 2)] 3)
theorem cpy_ii (dh : Dat) : ∀ (k i : Nat), i < k → (cpy dh k).ii i 0 = dh.ii i 0 ∧ (cpy dh k).ii i 1 = dh.ii i 1 ∧ (cpy dh k).ii i 2 = dh.ii i 2
  | 0, i, h => by omega
  | k + 1, i, h => by
    simp only [cpy, Dat.app]
    by_cases hk : i < k
    · rw [blt_t hk]
      exact cpy_ii dh k i hk
    · obtain rfl : i = k := by omega
      rw [blt_f (Nat.lt_irrefl i)]
      simp only [cond_false, Nat.sub_self]
      exact ⟨rfl, rfl, rfl⟩
theorem l22_all {nv : Nat} (hnv : nv ≤ 20) (b0 : Nat) (b1 : Dat) (i0 i1 i2 o0 o1 o2 day : Int) (dh : Dat) : o22_0 nv (nv : Int) b0 b1 i0 i1 i2 o0 o1 o2 day nv dh 0 0 noDat = some (nv, nv, cpy dh nv) := by
  have key : ∀ (k i f : Nat), i + k = nv → k < f → l22_0 nv (nv : Int) b0 b1 i0 i1 i2 o0 o1 o2 day nv dh f i (i : Int) (cpy dh i) = some (nv, nv, cpy dh nv) := by
    intro k
    induction k with
    | zero =>
      intro i f hi hf
      obtain ⟨f, rfl⟩ : ∃ f', f = f' + 1 := ⟨f - 1, by omega⟩
      obtain rfl : i = nv := by omega
      simp only [l22_0, cdn, cond_false]
    | succ k ih =>
      intro i f hi hf
      obtain ⟨f, rfl⟩ : ∃ f', f = f' + 1 := ⟨f - 1, by omega⟩
      have h1 : i < nv := by omega
      have h2 : decide (i + 1 ≤ 1073741824) = true := decide_eq_true (by omega)
      have h3 : decide (i < nv) = true := decide_eq_true h1
      have h4 : m80 (dh.ii i 0) (dh.ii i 1) (dh.ii i 2) = (dh.ii i 0, dh.ii i 1, dh.ii i 2) := rfl
      have := ih (i + 1) f (by omega) (by omega)
      simp only [l22_0, cdl h1, cdd h1, cond_true, Int.toNat_natCast, h2, h3, Nat.zero_add, Nat.reduceAdd, h4, wrS h1 (show nv ≤ 9223372036854775807 by omega)]
      exact this
  exact key nv 0 _ (by omega) (by omega)
theorem both30 {nv n : Nat} {dv d : Dat} (R : RdC nv dv n d) : n22 nv dv n d = true ∧ n31 nv dv n d = true ∧ (((rdE nv dv n d).2 ≠ 0 ∧ m22 nv dv n d = (0, noDat, (rdE nv dv n d).2) ∧ m31 nv dv n d = (0, 0, 0, 0, 0, 0, (rdE nv dv n d).2)) ∨
    ∃ s, rdS nv dv n d = .inr s ∧ (rdE nv dv n d).2 = 0 ∧ m22 nv dv n d = (nv, cpy s.1 nv, 0) ∧ m31 nv dv n d = (s.2.1.1, s.2.1.2.1, s.2.1.2.2, s.2.2.1.1, s.2.2.1.2.1, s.2.2.1.2.2, 0)) := by
  cases R with
  | bad i e he hE a m r =>
    refine ⟨?_, ?_, Or.inl ⟨by rw [hE]; exact he, ?_, ?_⟩⟩
    · simp only [n22, a, m, decide_eq_false he]; rfl
    · simp only [n31, a, m, decide_eq_false he]; rfl
    · simp only [m22, a, m, hE, cond_true]
    · simp only [m31, a, m, hE, cond_true]
  | good s V hn' hS Rr B hE hv a b m r =>
    have few := V.few
    have l := l22_all few
    refine ⟨?_, ?_, Or.inr ⟨s, hS, by rw [hE], ?_, ?_⟩⟩
    · simp only [n22, a, b, m, l, Option.getD_some, Option.isSome_some]; simp
    · simp only [n31, a, b]; rfl
    · simp only [m22, a, m, l, Option.getD_some, cond_false]; simp
    · simp only [m31, a, m, cond_false]; simp [m80]
theorem sizes {nv : Nat} {dv : Dat} {l : List Kd} (h : ∀ q, q < nv → Kd.sanL (.str :: l) dv q 0) : SzV nv dv := fun i hi => by
  have := h i hi
  simp only [Kd.sanL, Kd.san] at this
  exact Nat.le_trans this.1 (by decide)
end Go.Proofs.Ytmndejpcpfkajaa
