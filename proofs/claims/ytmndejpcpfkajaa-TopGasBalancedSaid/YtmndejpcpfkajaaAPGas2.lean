/-
  The law 'TopGasBalanced': its model is true, and its need. Conditions: none.
-/
import Derived.Test.YtmndejpcpfkajaaAFGasBalanced
import Derived.Test.YtmndejpcpfkajaaAPMatches
import Derived.Test.YtmndejpcpfkajaaAPPartials
import Derived.Test.YtmndejpcpfkajaaAPLoop
import Derived.Test.YtmndejpcpfkajaaAPFactors
import Derived.Test.YtmndejpcpfkajaaAPShares
import Derived.Test.YtmndejpcpfkajaaAPVessels
import Derived.Test.YtmndejpcpfkajaaAPFills
import Derived.Test.YtmndejpcpfkajaaAPRead
import Derived.Test.YtmndejpcpfkajaaAPRun
import Derived.Test.YtmndejpcpfkajaaAPShort
import Derived.Test.YtmndejpcpfkajaaAPAdds
import Derived.Test.YtmndejpcpfkajaaAPGas
import Derived.Test.YtmndejpcpfkajaaA1
import Derived.Test.YtmndejpcpfkajaaA2
import Derived.Test.YtmndejpcpfkajaaA3
import Derived.Test.YtmndejpcpfkajaaA4
namespace Go.Proofs.Ytmndejpcpfkajaa
open Go Go.Sy
set_option linter.unusedVariables false
set_option linter.unusedSimpArgs false
set_option maxRecDepth 100000
theorem n18_val : n18 = true := by kernel_rfl
theorem m18_val : m18 = true := by kernel_rfl
section
variable {nv n : Nat} {dv d : Dat}
theorem rdS_day : ∀ (i : Nat) (s : St), rdS nv dv i d = .inr s → 0 ≤ s.2.2.2 ∧ s.2.2.2 ≤ 100000
  | 0, s, h => by
    have : s = s0 := by cases h; rfl
    subst this
    exact ⟨by decide, by decide⟩
  | i + 1, s, h => by
    obtain ⟨s1, h1⟩ := rdS_begin (m := i) (by omega) h
    obtain ⟨he, h2⟩ := rdS_step (n := i + 1) (by omega) h1 h
    rw [h] at h2
    cases h2
    obtain ⟨_, _, _, _, hd⟩ := alone_right (errF_zero he).1
    exact hd
theorem gas_run {s' : St} {z : Dat} (hnv : nv ≤ 9223372036854775807) (V : RightV nv dv) (hn : n ≤ 200) (h' : rdS nv dv n d = .inr s') : ∀ (k i f : Nat) (s : St), i + k = n → k < f → rdS nv dv i d = .inr s →
    l3_0 nv dv n d nv z nv f s.2.2.2 (i : Int) s.1 = some (false, default, (s'.2.2.2, s'.1))
  | 0, i, f, s, hi, hf, hs => by
    obtain ⟨f, rfl⟩ : ∃ f', f = f' + 1 := ⟨f - 1, by omega⟩
    obtain rfl : i = n := by omega
    rw [hs] at h'
    cases h'
    simp only [l3_0, cdn, cond_false]
  | k + 1, i, f, s, hi, hf, hs => by
    obtain ⟨f, rfl⟩ : ∃ f', f = f' + 1 := ⟨f - 1, by omega⟩
    obtain ⟨he, h2⟩ := rdS_step (by omega) hs h'
    have R := ((rdS_right (d := d) hnv V (n := i) (by omega)).2 s hs).1
    rw [gas_round hnv V R (by omega) he f s.2.2.2, wrS (show i < n by omega) (by omega)]
    exact gas_run hnv V hn h' k (i + 1) f (nextF nv dv s (fiOf d i)) (by omega) (by omega) h2
theorem rdE_zero {s : St} (hv : m51 nv dv = 0) (hn : n ≤ 200) (hS : rdS nv dv n d = .inr s) : rdE nv dv n d = (0, 0) := by
  simp [rdE, hv, hS, show ¬ 200 < n by omega]
theorem add_fill {s : St} (hnv : nv ≤ 9223372036854775807) (hz : SzV nv dv) (hv : m51 nv dv = 0) (hn : n < 200) (hS : rdS nv dv n d = .inr s) (x : Fi) (he : errF nv dv s x = 0) :
    n30 nv dv n d x.k x.dy x.fr x.to x.ox x.he x.am x.pu = true ∧ m30 nv dv n d x.k x.dy x.fr x.to x.ox x.he x.am x.pu = (n + 1, d.app n (fi11 x), 0) := by
  obtain ⟨R, _⟩ := read_all (d := d) hnv (show n ≤ 9223372036854775807 by omega) hz
  cases R with
  | bad i e he' hE a m r => rw [rdE_zero hv (by omega) hS] at hE; cases hE; exact absurd rfl he'
  | good s1 V hn' hS1 Rr B hE hv' a b m r =>
    rw [hS] at hS1
    cases hS1
    have e8 : datS [SV.int .i64 x.k, SV.int .i64 x.dy, SV.str x.fr, SV.str x.to, SV.int .i64 x.ox, SV.int .i64 x.he, SV.int .i64 x.am, SV.bool x.pu] 8 = fi11 x := rfl
    have g1 : decide (n ≤ 1073741824) = true := decide_eq_true (by omega)
    have g2 : decide (n + 1 ≤ 1073741824) = true := decide_eq_true (by omega)
    have hd : decide ((n : Int) = 200) = false := decide_eq_false (by omega)
    have st := step_all hnv V (by omega) (by omega) Rr x
    have h1 : n86 nv dv nv nv s.1 s.2.1.1 s.2.1.2.1 s.2.1.2.2 s.2.2.1.1 s.2.2.1.2.1 s.2.2.1.2.2 s.2.2.2 x.k x.dy x.fr x.to x.ox x.he x.am x.pu = true := st.nP
    have h2 : m86 nv dv nv nv s.1 s.2.1.1 s.2.1.2.1 s.2.1.2.2 s.2.2.1.1 s.2.2.1.2.1 s.2.2.1.2.2 s.2.2.2 x.k x.dy x.fr x.to x.ox x.he x.am x.pu = _ := st.mP
    rw [if_pos he] at h2
    have ap : (((datS [] 8).app 0 d).app n (fi11 x)) = d.app n (fi11 x) := by rw [app_zero]
    exact ⟨by simp only [n30, a, b, m, hd, h1, h2, outP, g1, g2, Nat.zero_add, Nat.le_refl]; rfl, by simp only [m30, a, m, hd, h2, outP, e8]; rfl⟩
/-- All of a content is its share of its sum. -/
theorem shr_full {a b c : Int} (h : 0 < a + b + c) : shr a b c (a + b + c) = (a, b, c) := by
  have h0 : a + b + c ≠ 0 := by omega
  simp only [shr, Int.mul_ediv_cancel _ h0, Int.mul_emod_left]
  rw [show a + b + c - (a + b + c) = 0 by omega]
  rfl
theorem fnd_self {i : Nat} (V : RightV nv dv) (hi : i < nv) : fnd nv dv (dv.ss i 0) = (i : Int) := by
  rcases fnd_cases nv dv (dv.ss i 0) with ⟨j, h1, h2, h3, h4⟩ | ⟨_, h2⟩
  · rcases Nat.lt_trichotomy i j with hl | hl | hl
    · exact absurd rfl (h4 i hl)
    · rw [h2, hl]
    · exact absurd h3 (V.one j i hl hi)
  · exact absurd rfl (h2 i hi)
/-- Venting all of a vessel. -/
theorem vent_ok {s : St} {B : Int} (V : RightV nv dv) (R : RightS nv dv s B) (hd : 0 ≤ s.2.2.2 ∧ s.2.2.2 ≤ 100000) {i : Nat} (hi : i < nv) (h0 : 0 < sm s.1 i) :
    errF nv dv s ⟨2, s.2.2.2, dv.ss i 0, { data := #[] }, 0, 0, sm s.1 i, false⟩ = 0 ∧ (nextF nv dv s ⟨2, s.2.2.2, dv.ss i 0, { data := #[] }, 0, 0, sm s.1 i, false⟩).2.2.2 = s.2.2.2 ∧
    row3 (nextF nv dv s ⟨2, s.2.2.2, dv.ss i 0, { data := #[] }, 0, 0, sm s.1 i, false⟩).1 i = (0, 0, 0) ∧ ∀ q, q ≠ i → row3 (nextF nv dv s ⟨2, s.2.2.2, dv.ss i 0, { data := #[] }, 0, 0, sm s.1 i, false⟩).1 q = row3 s.1 q := by
  have le := (R.held i hi).le V hi
  have f := fnd_self V hi
  have ff : Fi.f nv dv ⟨2, s.2.2.2, dv.ss i 0, { data := #[] }, 0, 0, sm s.1 i, false⟩ = i := by unfold Fi.f; simp only [f]; rfl
  have al : Fi.al ⟨2, s.2.2.2, dv.ss i 0, { data := #[] }, 0, 0, sm s.1 i, false⟩ = 0 := by
    have e1 : m32 2 0 2 = true := rfl
    have e2 : m32 s.2.2.2 0 100000 = true := m32_iff.2 hd
    have e3 : m32 (sm s.1 i) 1 1000000000 = true := m32_iff.2 ⟨by omega, by omega⟩
    simp only [Fi.al, m110, e1, e2, e3, cond_true, cond_false]
    rfl
  have hm : moved nv dv s ⟨2, s.2.2.2, dv.ss i 0, { data := #[] }, 0, 0, sm s.1 i, false⟩ = row3 s.1 i := by
    unfold moved
    rw [if_neg (show ¬ (2 : Int) = 0 by decide), ff]
    exact shr_full h0
  have hh : (nextF nv dv s ⟨2, s.2.2.2, dv.ss i 0, { data := #[] }, 0, 0, sm s.1 i, false⟩).1 = set3 s.1 i (less3 (row3 s.1 i) (row3 s.1 i)) := by
    simp only [nextF, heldF, hm, ff, if_true, if_neg (show ¬ (2 : Int) = 0 by decide)]
  refine ⟨?_, rfl, ?_, fun q hq => ?_⟩
  · unfold errF
    rw [if_neg (by rw [al]; simp), if_neg (by simp only [f]; omega), if_neg (by simp only; omega), if_neg (by rw [ff]; simp only; omega), if_neg (by simp), if_neg (by simp)]
  · rw [hh]
    obtain ⟨g1, g2, g3⟩ := set3_at s.1 i (less3 (row3 s.1 i) (row3 s.1 i))
    unfold row3
    unfold row3 at g1 g2 g3
    rw [g1, g2, g3]
    simp only [less3, Int.sub_self]
  · rw [hh]
    unfold row3
    rw [set3_off _ _ _ _ _ hq, set3_off _ _ _ _ _ hq, set3_off _ _ _ _ _ hq]
end
end Go.Proofs.Ytmndejpcpfkajaa
