/-
  Fills done one after the other by shares: what the law's own loop comes to. Conditions: none.
-/
import Derived.Test.YtmndejpcpfkajaaA1
import Derived.Test.YtmndejpcpfkajaaA2
import Derived.Test.YtmndejpcpfkajaaA3
import Derived.Test.YtmndejpcpfkajaaA4
import Derived.Test.YtmndejpcpfkajaaAFGasBalanced
import Derived.Test.YtmndejpcpfkajaaAPMatches
import Derived.Test.YtmndejpcpfkajaaAPPartials
import Derived.Test.YtmndejpcpfkajaaAPLoop
import Derived.Test.YtmndejpcpfkajaaAPFactors
import Derived.Test.YtmndejpcpfkajaaAPShares
import Derived.Test.YtmndejpcpfkajaaAPVessels
import Derived.Test.YtmndejpcpfkajaaAPFills
import Derived.Test.YtmndejpcpfkajaaAPRead
import Derived.Test.YtmndejpcpfkajaaAPRun
import Derived.Test.YtmndejpcpfkajaaAPShort
import Derived.Test.YtmndejpcpfkajaaAPAdds
namespace Go.Proofs.Ytmndejpcpfkajaa
open Go Go.Sy
set_option linter.unusedVariables false
set_option linter.unusedSimpArgs false
set_option maxRecDepth 100000
section
variable {nv n : Nat} {dv d : Dat}
theorem gas_content {a b c : Int} (ha : 0 ≤ a) (hb : 0 ≤ b) (hc : 0 ≤ c) (h : a + b + c ≤ 1000000000) : m26 a b c = 0 := by
  have e1 : m32 a 0 1000000000 = true := m32_iff.2 ⟨ha, by omega⟩
  have e2 : m32 b 0 1000000000 = true := m32_iff.2 ⟨hb, by omega⟩
  have e3 : m32 c 0 1000000000 = true := m32_iff.2 ⟨hc, by omega⟩
  have e4 : m29 a b c = a + b + c := by simp only [m29]; rw [wr (n := a + b) (by omega) (by omega), wr (by omega) (by omega)]
  simp only [m26, e1, e2, e3, e4, decide_eq_false (show ¬ 1000000000 < a + b + c by omega), cond_true, cond_false]
theorem errF_zero {s : St} {x : Fi} (h : errF nv dv s x = 0) : x.al = 0 ∧ (x.k ≠ 0 → 0 ≤ fnd nv dv x.fr) ∧ (x.k ≠ 2 → 0 ≤ fnd nv dv x.to) ∧ s.2.2.2 ≤ x.dy ∧ (x.k ≠ 0 → x.am ≤ sm s.1 (x.f nv dv)) := by
  unfold errF at h
  split at h
  · rename_i h0; exact absurd h h0
  · rename_i h0
    split at h
    · omega
    · rename_i h1
      split at h
      · omega
      · rename_i h2
        split at h
        · omega
        · rename_i h3
          refine ⟨Decidable.not_not.1 h0, fun hk => ?_, fun hk => ?_, by omega, fun hk => ?_⟩
          · apply Decidable.byContradiction; intro hc; exact h1 (.inl ⟨hk, by omega⟩)
          · apply Decidable.byContradiction; intro hc; exact h1 (.inr ⟨hk, by omega⟩)
          · apply Decidable.byContradiction; intro hc; exact h3 ⟨hk, by omega⟩
theorem rdS_step {s s' : St} {i : Nat} (hi : i < n) (h : rdS nv dv i d = .inr s) (h' : rdS nv dv n d = .inr s') : errF nv dv s (fiOf d i) = 0 ∧ rdS nv dv (i + 1) d = .inr (nextF nv dv s (fiOf d i)) := by
  obtain ⟨s1, h1⟩ := rdS_begin (m := i + 1) (by omega) h'
  have := runs_more (gS nv dv d) (fun j t b hb => by
    unfold gS at hb
    split at hb
    · cases hb
    · cases hb; exact ⟨_, rfl⟩) i 0 s0 s h
  have e : rdS nv dv (i + 1) d = (match gS nv dv d (0 + i) s with | .inl b => b | .inr t => Sum.inr t) := by unfold rdS; rw [this]; cases gS nv dv d (0 + i) s <;> rfl
  rw [Nat.zero_add] at e
  unfold gS at e
  by_cases he : errF nv dv s (fiOf d i) = 0
  · rw [if_pos he] at e
    exact ⟨he, e⟩
  · rw [if_neg he] at e
    rw [h1] at e; cases e
theorem gas_share {dh : Dat} {i : Nat} {am : Int} (V : RightV nv dv) (hi : i < nv) (C : RightC dv dh i) (ha : 1 ≤ am) (hs : am ≤ sm dh i) :
    n25 (dh.ii i 0) (dh.ii i 1) (dh.ii i 2) am = true ∧ m25 (dh.ii i 0) (dh.ii i 1) (dh.ii i 2) am = ((shr (dh.ii i 0) (dh.ii i 1) (dh.ii i 2) am).1, (shr (dh.ii i 0) (dh.ii i 1) (dh.ii i 2) am).2.1, (shr (dh.ii i 0) (dh.ii i 1) (dh.ii i 2) am).2.2, 0) := by
  obtain ⟨p1, p2, p3, p4, _⟩ := share_ok V hi C ha hs
  have h := C.le V hi
  have e := (sm_w V hi C).1
  have a := C.a
  have b := C.b
  have c := C.c
  have hsm : sm dh i = dh.ii i 0 + dh.ii i 1 + dh.ii i 2 := rfl
  generalize dh.ii i 0 = x at *
  generalize dh.ii i 1 = y at *
  generalize dh.ii i 2 = z at *
  generalize shr x y z am = X at *
  have q : m83 am 0 (sm dh i) = true := by simp only [m83, decide_eq_true (show (0 : Int) ≤ am by omega), decide_eq_true hs, cond_true]
  have k : n81 x y z = true ∧ m81 x y z = 0 := ⟨(e81 x y z).2, by rw [(e81 x y z).1]; exact gas_content a b c (by omega)⟩
  constructor
  · simp only [n25, k, m82, e, q, p1, decide_true, cond_true, cond_false]; rfl
  · simp only [m25, k, m82, m80, e, q, p3, decide_true, cond_true, cond_false]
theorem minus_w {a b c : Int} {x : Int × Int × Int} (h : (0 ≤ a ∧ a ≤ 400000000) ∧ (0 ≤ b ∧ b ≤ 400000000) ∧ (0 ≤ c ∧ c ≤ 400000000)) (hx : (0 ≤ x.1 ∧ x.1 ≤ a) ∧ (0 ≤ x.2.1 ∧ x.2.1 ≤ b) ∧ (0 ≤ x.2.2 ∧ x.2.2 ≤ c)) : m27 a b c x.1 x.2.1 x.2.2 = less3 (a, b, c) x := by
  simp only [m27, less3]
  rw [wr (by omega) (by omega), wr (by omega) (by omega), wr (by omega) (by omega)]
theorem plus_w2 {a b c : Int} {x : Int × Int × Int} (h : (0 ≤ a ∧ a ≤ 400000000) ∧ (0 ≤ b ∧ b ≤ 400000000) ∧ (0 ≤ c ∧ c ≤ 400000000)) (hx : 0 ≤ x.1 ∧ 0 ≤ x.2.1 ∧ 0 ≤ x.2.2 ∧ x.1 + x.2.1 + x.2.2 ≤ 1000000000) : m28 a b c x.1 x.2.1 x.2.2 = plus3 (a, b, c) x := by
  simp only [m28, plus3]
  rw [wr (by omega) (by omega), wr (by omega) (by omega), wr (by omega) (by omega)]
theorem fnd_at {s : ByteArray} (h : 0 ≤ fnd nv dv s) : ∃ i, i < nv ∧ fnd nv dv s = (i : Int) := by
  rcases fnd_cases nv dv s with ⟨i, h1, h2, _⟩ | ⟨h1, _⟩
  · exact ⟨i, h1, h2⟩
  · omega
/-- A round of the law's own loop is a step of the reading. -/
theorem gas_round {s : St} {B : Int} {z : Dat} (hnv : nv ≤ 9223372036854775807) (V : RightV nv dv) (R : RightS nv dv s B) {i : Nat} (hi : i < n) (he : errF nv dv s (fiOf d i) = 0) (f : Nat) (t : Int) :
    l3_0 nv dv n d nv z nv (f + 1) t (i : Int) s.1 = l3_0 nv dv n d nv z nv f (fiOf d i).dy (IntKind.i64.wrap ((i : Int) + 1)) (nextF nv dv s (fiOf d i)).1 := by
  obtain ⟨e1, e2, e3, e4, e5⟩ := errF_zero he
  obtain ⟨k3, am, hox, hft, _⟩ := alone_right e1
  obtain ⟨nf, mf⟩ := find43 nv hnv dv (d.ss i 2)
  obtain ⟨nt, mt⟩ := find43 nv hnv dv (d.ss i 3)
  have c0 : decide ((i : Int) < (n : Int)) = true := cdl hi
  have c1 : decide (0 ≤ (i : Int) ∧ (i : Int) < (n : Int)) = true := cdd hi
  have x6 : (fiOf d i).am = d.ii i 6 := rfl
  have hs := R.held
  rw [x6] at am e5
  rcases k3 with hk | hk | hk
  · -- in
    have hk0 : d.ii i 0 = 0 := hk
    obtain ⟨T, hT, fT⟩ := fnd_at (e3 (by rw [hk]; decide))
    have fT' : fnd nv dv (d.ss i 3) = (T : Int) := fT
    have b1 : decide (0 ≤ (T : Int) ∧ (T : Int) < (nv : Int)) = true := cdd hT
    have b2 : decide (T < nv) = true := decide_eq_true hT
    obtain ⟨_, g2, g3, g4, g5, g6⟩ := fresh_ok (hox hk) (by omega)
    have g2' : m24 (d.ii i 4) (d.ii i 5) (d.ii i 6) = fresh (d.ii i 4) (d.ii i 5) (d.ii i 6) := g2
    have gg : (fresh (d.ii i 4) (d.ii i 5) (d.ii i 6)).1 + (fresh (d.ii i 4) (d.ii i 5) (d.ii i 6)).2.1 + (fresh (d.ii i 4) (d.ii i 5) (d.ii i 6)).2.2 ≤ 1000000000 := by
      have : (fresh (d.ii i 4) (d.ii i 5) (d.ii i 6)).1 + (fresh (d.ii i 4) (d.ii i 5) (d.ii i 6)).2.1 + (fresh (d.ii i 4) (d.ii i 5) (d.ii i 6)).2.2 = d.ii i 6 := g6
      omega
    have pl := plus_w2 (RightC.bd V hT (hs T hT)) ⟨g3, g4, g5, gg⟩
    have pl' : m28 (s.1.ii T 0) (s.1.ii T 1) (s.1.ii T 2) (fresh (d.ii i 4) (d.ii i 5) (d.ii i 6)).1 (fresh (d.ii i 4) (d.ii i 5) (d.ii i 6)).2.1 (fresh (d.ii i 4) (d.ii i 5) (d.ii i 6)).2.2 = plus3 (row3 s.1 T) (fresh (d.ii i 4) (d.ii i 5) (d.ii i 6)) := pl
    have z0 : decide ((0 : Int) = 0) = true := rfl
    have z2 : decide ((0 : Int) = 2) = false := rfl
    have hh : (nextF nv dv s (fiOf d i)).1 = set3 s.1 T (plus3 (row3 s.1 T) (fresh (d.ii i 4) (d.ii i 5) (d.ii i 6))) := by
      have t0 : (fiOf d i).t nv dv = T := by unfold Fi.t; rw [fT]; rfl
      simp only [nextF, heldF, moved, hk, t0, if_true, if_neg (show ¬ (0 : Int) = 2 by decide)]; rfl
    rw [hh]
    simp only [l3_0, c0, c1, nf, nt, mf, mt, fT', hk0, z0, z2, b1, b2, t3_0_4, t3_0_6, t3_0_7, t3_0_8, g2', pl', Int.toNat_natCast, cond_true, cond_false, Nat.reduceAdd]
    rfl
  · -- from one to another
    have hk0 : d.ii i 0 = 1 := hk
    obtain ⟨F, hF, fF⟩ := fnd_at (e2 (by rw [hk]; decide))
    have fF' : fnd nv dv (d.ss i 2) = (F : Int) := fF
    obtain ⟨T, hT, fT⟩ := fnd_at (e3 (by rw [hk]; decide))
    have fT' : fnd nv dv (d.ss i 3) = (T : Int) := fT
    have a1 : decide (0 ≤ (F : Int) ∧ (F : Int) < (nv : Int)) = true := cdd hF
    have a2 : decide (F < nv) = true := decide_eq_true hF
    have b1 : decide (0 ≤ (T : Int) ∧ (T : Int) < (nv : Int)) = true := cdd hT
    have b2 : decide (T < nv) = true := decide_eq_true hT
    have t0 : (fiOf d i).t nv dv = T := by unfold Fi.t; rw [fT]; rfl
    have f0 : (fiOf d i).f nv dv = F := by unfold Fi.f; rw [fF]; rfl
    have hsum := e5 (by rw [hk]; decide)
    rw [f0] at hsum
    obtain ⟨q1, q2⟩ := gas_share V hF (hs F hF) am.1 hsum
    obtain ⟨_, _, _, _, p5, p6, p7, p8⟩ := share_ok V hF (hs F hF) am.1 hsum
    try simp only at p5 p6 p7 p8
    have hm : moved nv dv s (fiOf d i) = shr (s.1.ii F 0) (s.1.ii F 1) (s.1.ii F 2) (d.ii i 6) := by simp only [moved, hk, f0, if_neg (show ¬ (1 : Int) = 0 by decide)]; rfl
    generalize hX : shr (s.1.ii F 0) (s.1.ii F 1) (s.1.ii F 2) (d.ii i 6) = X at *
    have ct : m26 X.1 X.2.1 X.2.2 = 0 := gas_content p6.1 p7.1 p8.1 (by omega)
    have bF := RightC.bd V hF (hs F hF)
    have bT := RightC.bd V hT (hs T hT)
    have hne : T ≠ F := by
      intro e
      subst e
      have h1 : (fiOf d i).fr ≠ (fiOf d i).to := hft hk
      rcases fnd_cases nv dv (fiOf d i).fr with ⟨j, g1, g2, g3, _⟩ | ⟨g1, _⟩
      · rcases fnd_cases nv dv (fiOf d i).to with ⟨j', g1', g2', g3', _⟩ | ⟨g1', _⟩
        · rw [fF] at g2; rw [fT] at g2'
          have : j = j' := by omega
          subst this
          exact h1 (g3.symm.trans g3')
        · omega
      · omega
    have mi := minus_w bF ⟨p6, p7, p8⟩
    have r1 : row3 (set3 s.1 F (less3 (row3 s.1 F) X)) T = row3 s.1 T := by
      unfold row3; rw [set3_off _ _ _ _ _ hne, set3_off _ _ _ _ _ hne, set3_off _ _ _ _ _ hne]
    have pl := plus_w2 bT (x := X) ⟨p6.1, p7.1, p8.1, by omega⟩
    have hh : (nextF nv dv s (fiOf d i)).1 = set3 (set3 s.1 F (less3 (row3 s.1 F) X)) T (plus3 (row3 s.1 T) X) := by
      simp only [nextF, heldF, hm, hk, t0, f0, if_neg (show ¬ (1 : Int) = 0 by decide), if_neg (show ¬ (1 : Int) = 2 by decide), r1]
    rw [hh]
    have z0 : decide ((1 : Int) = 0) = false := rfl
    have z2 : decide ((1 : Int) = 2) = false := rfl
    have z3 : decide ((0 : Int) = 0) = true := rfl
    have y5 : s.1.upd F 0 [SV.int IntKind.i64 (less3 (s.1.ii F 0, s.1.ii F 1, s.1.ii F 2) X).1, SV.int IntKind.i64 (less3 (s.1.ii F 0, s.1.ii F 1, s.1.ii F 2) X).2.1, SV.int IntKind.i64 (less3 (s.1.ii F 0, s.1.ii F 1, s.1.ii F 2) X).2.2] = set3 s.1 F (less3 (row3 s.1 F) X) := rfl
    have o0 := set3_off s.1 F T 0 (less3 (row3 s.1 F) X) hne
    have o1 := set3_off s.1 F T 1 (less3 (row3 s.1 F) X) hne
    have o2 := set3_off s.1 F T 2 (less3 (row3 s.1 F) X) hne
    simp only [l3_0, c0, c1, nf, nt, mf, mt, fF', fT', hk0, z0, z2, z3, a1, a2, b1, b2, q1, q2, ct, t3_0_0, t3_0_1, t3_0_2, t3_0_3, t3_0_4, t3_0_5, mi, y5, o0, o1, o2, pl, Int.toNat_natCast, cond_true, cond_false, Nat.reduceAdd]
    rfl
  · -- out
    have hk0 : d.ii i 0 = 2 := hk
    obtain ⟨F, hF, fF⟩ := fnd_at (e2 (by rw [hk]; decide))
    have fF' : fnd nv dv (d.ss i 2) = (F : Int) := fF
    have a1 : decide (0 ≤ (F : Int) ∧ (F : Int) < (nv : Int)) = true := cdd hF
    have a2 : decide (F < nv) = true := decide_eq_true hF
    have f0 : (fiOf d i).f nv dv = F := by unfold Fi.f; rw [fF]; rfl
    have hsum := e5 (by rw [hk]; decide)
    rw [f0] at hsum
    obtain ⟨q1, q2⟩ := gas_share V hF (hs F hF) am.1 hsum
    obtain ⟨_, _, _, _, p5, p6, p7, p8⟩ := share_ok V hF (hs F hF) am.1 hsum
    try simp only at p5 p6 p7 p8
    have hm : moved nv dv s (fiOf d i) = shr (s.1.ii F 0) (s.1.ii F 1) (s.1.ii F 2) (d.ii i 6) := by simp only [moved, hk, f0, if_neg (show ¬ (2 : Int) = 0 by decide)]; rfl
    generalize hX : shr (s.1.ii F 0) (s.1.ii F 1) (s.1.ii F 2) (d.ii i 6) = X at *
    have ct : m26 X.1 X.2.1 X.2.2 = 0 := gas_content p6.1 p7.1 p8.1 (by omega)
    have bF := RightC.bd V hF (hs F hF)
    have mi := minus_w bF ⟨p6, p7, p8⟩
    have hh : (nextF nv dv s (fiOf d i)).1 = set3 s.1 F (less3 (row3 s.1 F) X) := by
      simp only [nextF, heldF, hm, hk, f0, if_neg (show ¬ (2 : Int) = 0 by decide), if_true]
    rw [hh]
    have z0 : decide ((2 : Int) = 0) = false := rfl
    have z2 : decide ((2 : Int) = 2) = true := rfl
    have z3 : decide ((0 : Int) = 0) = true := rfl
    have y5 : s.1.upd F 0 [SV.int IntKind.i64 (less3 (s.1.ii F 0, s.1.ii F 1, s.1.ii F 2) X).1, SV.int IntKind.i64 (less3 (s.1.ii F 0, s.1.ii F 1, s.1.ii F 2) X).2.1, SV.int IntKind.i64 (less3 (s.1.ii F 0, s.1.ii F 1, s.1.ii F 2) X).2.2] = set3 s.1 F (less3 (row3 s.1 F) X) := rfl
    simp only [l3_0, c0, c1, nf, nt, mf, mt, fF', hk0, z0, z2, z3, a1, a2, q1, q2, ct, t3_0_0, t3_0_1, t3_0_2, t3_0_3, t3_0_5, mi, y5, Int.toNat_natCast, cond_true, cond_false, Nat.reduceAdd]
    rfl
end
end Go.Proofs.Ytmndejpcpfkajaa
