/-
  The plain law of 'MixAdds': the law's model is true, and its need. Conditions: none.
-/
import Derived.Test.YtmjcegbnbnbceaaKFAdds
import Derived.Test.YtmjcegbnbnbceaaKE1
import Derived.Test.YtmjcegbnbnbceaaKPMatches
import Derived.Test.YtmjcegbnbnbceaaKPPartials
import Derived.Test.YtmjcegbnbnbceaaKPLoop
import Derived.Test.YtmjcegbnbnbceaaKPFactors
import Derived.Test.YtmjcegbnbnbceaaKPShares
import Derived.Test.YtmjcegbnbnbceaaKPVessels
import Derived.Test.YtmjcegbnbnbceaaKPFills
import Derived.Test.YtmjcegbnbnbceaaKPRead
import Derived.Test.YtmjcegbnbnbceaaKPRun
import Derived.Test.YtmjcegbnbnbceaaKPShort
import Derived.Test.YtmjcegbnbnbceaaK1
import Derived.Test.YtmjcegbnbnbceaaK2
import Derived.Test.YtmjcegbnbnbceaaK3
import Derived.Test.YtmjcegbnbnbceaaK4
namespace Go.Proofs.Ytmjcegbnbnbceaa
open Go Go.Sy
set_option linter.unusedVariables false
set_option maxRecDepth 100000
theorem runs_congr {σ β : Type} {g g' : Nat → σ → β ⊕ σ} {e : σ → β} : ∀ (k i : Nat) (s : σ), (∀ j t, i ≤ j → j < i + k → g j t = g' j t) → runs g e k i s = runs g' e k i s
  | 0, _, _, _ => rfl
  | k + 1, i, s, h => by
    rw [runs, runs, h i s (Nat.le_refl _) (by omega)]
    split
    · rfl
    · exact runs_congr k (i + 1) _ fun j t h1 h2 => h j t (by omega) (by omega)
/-- One round more. -/
theorem runs_more {σ β : Type} (g : Nat → σ → (β ⊕ σ) ⊕ σ) (hg : ∀ j t b, g j t = Sum.inl b → ∃ b', b = Sum.inl b') : ∀ (k i : Nat) (s s' : σ), runs g Sum.inr k i s = Sum.inr s' → runs g Sum.inr (k + 1) i s = (match g (i + k) s' with | .inl b => b | .inr t => Sum.inr t)
  | 0, i, s, s', h => by
    simp only [runs] at h
    cases h
    simp only [runs, Nat.add_zero]
    cases g i s <;> rfl
  | k + 1, i, s, s', h => by
    rw [runs] at h
    rw [runs]
    cases hgi : g i s with
    | inl b =>
      rw [hgi] at h
      obtain ⟨b', rfl⟩ := hg _ _ _ hgi
      cases h
    | inr t =>
      rw [hgi] at h
      have := runs_more g hg k (i + 1) t s' h
      rw [show i + 1 + k = i + (k + 1) by omega] at this
      exact this
def fi8 (x : Fi) : Dat := datS [SV.int .i64 x.k, SV.int .i64 x.dy, SV.str x.fr, SV.str x.to, SV.int .i64 x.ox, SV.int .i64 x.he, SV.int .i64 x.am, SV.bool x.pu] 8
theorem fiOf_app (d : Dat) (n : Nat) (x : Fi) : fiOf (d.app n (fi8 x)) n = x ∧ ∀ i, i < n → fiOf (d.app n (fi8 x)) i = fiOf d i := by
  constructor
  · simp only [fiOf, Dat.app, blt_f (Nat.lt_irrefl n), cond_false, Nat.sub_self]
    rfl
  · intro i hi
    simp only [fiOf, Dat.app, blt_t hi, cond_true]
theorem rdS_more {nv n : Nat} {dv d : Dat} {s : St} (x : Fi) (h : rdS nv dv n d = .inr s) : rdS nv dv (n + 1) (d.app n (fi8 x)) = if errF nv dv s x = 0 then .inr (nextF nv dv s x) else .inl (n, errF nv dv s x, s) := by
  obtain ⟨f1, f2⟩ := fiOf_app d n x
  have h' : runs (gS nv dv (d.app n (fi8 x))) Sum.inr n 0 s0 = Sum.inr s := by
    rw [← h]
    exact runs_congr n 0 s0 fun j t _ hj => by simp only [gS, f2 j (by omega)]
  have := runs_more (gS nv dv (d.app n (fi8 x))) (fun j t b hb => by
    unfold gS at hb
    split at hb
    · cases hb
    · cases hb; exact ⟨_, rfl⟩) n 0 s0 s h'
  unfold rdS
  rw [this]
  simp only [gS, Nat.zero_add, f1]
  by_cases he : errF nv dv s x = 0
  · rw [if_pos he, if_pos he]
  · rw [if_neg he, if_neg he]
theorem same37 (n : Nat) (hn : n ≤ 9223372036854775807) (d : Dat) : n37 n d n d = true ∧ m37 n d n d = true := by
  have h := loop_first (l := l37_0 n d n d) (g := fun _ => none) (e := (false, (default : Bool), ())) hn (fun f i hi => by
    simp only [l37_0, cdl hi, cdd hi, cond_true, Int.toNat_natCast, decide_true, cond_false, brk]) (fun f => by simp only [l37_0, cdn]; rfl) n 0 (n + n + (0 : Int).toNat + 8) (by omega) (by omega)
  rw [first_none (fun _ _ _ => rfl)] at h
  have h' : o37_0 n d n d 0 = some (false, default, ()) := h
  constructor
  · simp only [n37, h']; simp
  · simp only [m37, h', Option.getD_some]; simp
theorem lawAdds (nv : Nat) (dv : Dat) (n : Nat) (d : Dat) (x : Fi) (hnv : nv ≤ 9223372036854775807) (hn : n ≤ 9223372036854775807) (hz : SzV nv dv) :
    n7 nv dv n d x.k x.dy x.fr x.to x.ox x.he x.am x.pu = true ∧ m7 nv dv n d x.k x.dy x.fr x.to x.ox x.he x.am x.pu = true := by
  obtain ⟨s1, s2⟩ := short_ok (dv := dv) (d := d) hnv hn
  by_cases hs : m23 nv dv n d = true
  · obtain ⟨b1, b2⟩ := s2 hs
    obtain ⟨c1, c2, c3, c4⟩ := copies (dv := dv) (d := d) b1 b2
    obtain ⟨R, r27⟩ := read_all (d := d) hnv hn hz
    obtain ⟨_, _, x3⟩ := both24 R
    -- both answers
    have key : ∃ (a : Nat) (D : Dat) (e : Int), a ≤ 1000 ∧ n35 nv dv n d x.k x.dy x.fr x.to x.ox x.he x.am x.pu = true ∧ n36 nv dv n d x.k x.dy x.fr x.to x.ox x.he x.am x.pu = true ∧ m35 nv dv n d x.k x.dy x.fr x.to x.ox x.he x.am x.pu = (a, D, e) ∧ m36 nv dv n d x.k x.dy x.fr x.to x.ox x.he x.am x.pu = (a, D, e) := by
      cases R with
      | bad i e he hE a m r =>
        refine ⟨0, noDat, e, by omega, ?_, ?_, ?_, ?_⟩
        · simp only [n35, a, m, decide_eq_false he]; rfl
        · simp only [n36, r27, r, decide_eq_false he]; rfl
        · simp only [m35, a, m, decide_eq_false he]; rfl
        · simp only [m36, r, decide_eq_false he]; rfl
      | good s V hn' hS Rr B hE hv a b m r =>
        have x27 : m27 nv dv n d = (0, 0) := by rw [x3, hE]
        obtain ⟨R', r27'⟩ := read_all (n := n + 1) (d := d.app n (fi8 x)) hnv (by omega) hz
        obtain ⟨_, _, x3'⟩ := both24 R'
        have ap : (((datS [] 8).app 0 d).app n (fi8 x)) = d.app n (fi8 x) := by rw [app_zero]
        have e8 : datS [SV.int .i64 x.k, SV.int .i64 x.dy, SV.str x.fr, SV.str x.to, SV.int .i64 x.ox, SV.int .i64 x.he, SV.int .i64 x.am, SV.bool x.pu] 8 = fi8 x := rfl
        have g1 : decide (n ≤ 1073741824) = true := decide_eq_true (by omega)
        have g2 : decide (n + 1 ≤ 1073741824) = true := decide_eq_true (by omega)
        have m36' : m36 nv dv n d x.k x.dy x.fr x.to x.ox x.he x.am x.pu = cond (decide ((rdE nv dv (n + 1) (d.app n (fi8 x))).2 = 0)) (n + 1, d.app n (fi8 x), 0) (0, noDat, (rdE nv dv (n + 1) (d.app n (fi8 x))).2) := by
          simp only [m36, x27, e8, Nat.zero_add, ap, x3']
          cases decide ((rdE nv dv (n + 1) (d.app n (fi8 x))).2 = 0) <;> rfl
        have n36' : n36 nv dv n d x.k x.dy x.fr x.to x.ox x.he x.am x.pu = true := by
          simp only [n36, r27, x27, e8, Nat.zero_add, ap, r27', g1, g2, Nat.le_refl]
          cases decide ((m27 nv dv (n + 1) (d.app n (fi8 x))).2 = 0) <;> rfl
        by_cases h200 : n = 200
        · have hE' : rdE nv dv (n + 1) (d.app n (fi8 x)) = (0, 8) := by
            have : 200 < n + 1 := by omega
            simp [rdE, hv, this]
          have hd : decide ((n : Int) = 200) = true := decide_eq_true (by omega)
          refine ⟨0, noDat, 8, by omega, ?_, n36', ?_, ?_⟩
          · simp only [n35, a, b, m, hd]; rfl
          · simp only [m35, a, m, hd]; rfl
          · rw [m36', hE']; rfl
        · have hd : decide ((n : Int) = 200) = false := decide_eq_false (by omega)
          have st := step_all hnv V (by omega) (by omega) Rr x
          have h1 : n84 nv dv nv nv s.1 s.2.1.1 s.2.1.2.1 s.2.1.2.2 s.2.2.1.1 s.2.2.1.2.1 s.2.2.1.2.2 s.2.2.2 x.k x.dy x.fr x.to x.ox x.he x.am x.pu = true := st.nP
          have h2 : m84 nv dv nv nv s.1 s.2.1.1 s.2.1.2.1 s.2.1.2.2 s.2.2.1.1 s.2.2.1.2.1 s.2.2.1.2.2 s.2.2.2 x.k x.dy x.fr x.to x.ox x.he x.am x.pu = _ := st.mP
          have hm := rdS_more x hS
          have h201 : ¬ 200 < n + 1 := by omega
          by_cases he : errF nv dv s x = 0
          · rw [if_pos he] at h2 hm
            have hE' : rdE nv dv (n + 1) (d.app n (fi8 x)) = (0, 0) := by simp [rdE, hv, h201, hm]
            refine ⟨n + 1, d.app n (fi8 x), 0, by omega, ?_, n36', ?_, ?_⟩
            · simp only [n35, a, b, m, hd, h1, h2, outP, g1, g2, Nat.zero_add, Nat.le_refl]; rfl
            · simp only [m35, a, m, hd, h2, outP, e8]; rfl
            · rw [m36', hE']; rfl
          · rw [if_neg he] at h2 hm
            have hE' : rdE nv dv (n + 1) (d.app n (fi8 x)) = ((n : Int), errF nv dv s x) := by simp [rdE, hv, h201, hm]
            refine ⟨0, noDat, errF nv dv s x, by omega, ?_, n36', ?_, ?_⟩
            · simp only [n35, a, b, m, hd, h1, h2, outP, decide_eq_false he]; rfl
            · simp only [m35, a, m, hd, h2, outP, decide_eq_false he]; rfl
            · rw [m36', hE', decide_eq_false he]; rfl
    obtain ⟨a, D, e, ha, k1, k2, k3, k4⟩ := key
    obtain ⟨q1, q2⟩ := same37 a (by omega) D
    simp only [n7, m7, n15_true, m15_true, s1, hs, c1, c2, c3, c4, k1, k2, k3, k4, q1, q2]
    generalize decide ((20 : Int) < (x.fr.size : Int)) = y1
    generalize decide ((20 : Int) < (x.to.size : Int)) = y2
    cases y1 <;> cases y2 <;> simp
  · simp only [Bool.not_eq_true] at hs
    simp only [n7, m7, n15_true, m15_true, s1, hs]
    simp
end Go.Proofs.Ytmjcegbnbnbceaa
