/-
  Windows of the minutes that have something: as a list, in the program, in the reference. Conditions: none.
-/
import Derived.Test.YtbhldggbjjailaaA1
import Derived.Test.YtbhldggbjjailaaA2
import Derived.Test.YtbhldggbjjailaaA3
import Derived.Test.YtbhldggbjjailaaA4
import Derived.Test.YtbhldggbjjailaaA5
import Derived.Test.YtbhldggbjjailaaAFDiveWindows
import Derived.Test.YtbhldggbjjailaaAPApt
import Derived.Test.YtbhldggbjjailaaAPLoop
import Derived.Test.YtbhldggbjjailaaAPAng
import Derived.Test.YtbhldggbjjailaaAPCheckW
import Derived.Test.YtbhldggbjjailaaAPFits
import Derived.Test.YtbhldggbjjailaaAPCirc
import Derived.Test.YtbhldggbjjailaaAPRay
import Derived.Test.YtbhldggbjjailaaAPCos
import Derived.Test.YtbhldggbjjailaaAPTide
import Derived.Test.YtbhldggbjjailaaAPLevels
namespace Go.Proofs.Ytbhldggbjjailaa
open Go Go.Sy
set_option linter.unusedVariables false
set_option linter.unusedSimpArgs false
set_option maxRecDepth 100000
attribute [local simp] brk
/-- The windows of the first k minutes from lo, the last one first. -/
def wl (P : Int → Bool) (lo : Int) : Nat → List (Int × Int)
  | 0 => []
  | k + 1 => if P (lo + (k : Int)) = true then (match wl P lo k with
    | [] => [(lo + (k : Int), lo + (k : Int))]
    | (a, b) :: T => if b + 1 = lo + (k : Int) then (a, lo + (k : Int)) :: T else (lo + (k : Int), lo + (k : Int)) :: (a, b) :: T) else wl P lo k
structure WF (P : Int → Bool) (lo : Int) (k : Nat) (L : List (Int × Int)) : Prop where
  rng : ∀ w ∈ L, lo ≤ w.1 ∧ w.1 ≤ w.2 ∧ w.2 < lo + (k : Int)
  sat : ∀ w ∈ L, ∀ m, w.1 ≤ m → m ≤ w.2 → P m = true
  cov : ∀ a b, lo ≤ a → a ≤ b → b < lo + (k : Int) → (∀ m, a ≤ m → m ≤ b → P m = true) → ∃ w ∈ L, w.1 ≤ a ∧ b ≤ w.2
  head : ∀ a b T, L = (a, b) :: T → ∀ w ∈ T, w.2 < b
  len : L.length ≤ k
theorem wl_ok (P : Int → Bool) (lo : Int) : ∀ k, WF P lo k (wl P lo k)
  | 0 => ⟨fun w h => by simp [wl] at h, fun w h => by simp [wl] at h, fun a b h1 h2 h3 => by simp at h3; omega, fun a b T h => by simp [wl] at h, by simp [wl]⟩
  | k + 1 => by
    have ih := wl_ok P lo k
    have hk : ((k + 1 : Nat) : Int) = (k : Int) + 1 := by omega
    obtain ⟨m, hm⟩ : ∃ m, m = lo + (k : Int) := ⟨_, rfl⟩
    by_cases hp : P m = true
    · cases hL : wl P lo k with
      | nil =>
        rw [hL] at ih
        have e : wl P lo (k + 1) = [(m, m)] := by simp only [wl, ← hm, hp, if_true, hL]
        rw [e]
        have none_ : ∀ a b, lo ≤ a → a ≤ b → b < m → (∀ x, a ≤ x → x ≤ b → P x = true) → False := fun a b h1 h2 h3 h4 => by
          obtain ⟨w, hw, _⟩ := ih.cov a b h1 h2 (by omega) h4
          simp at hw
        refine ⟨fun w h => ?_, fun w h x h1 h2 => ?_, fun a b h1 h2 h3 h4 => ?_, fun a b T h w hw => ?_, by simp⟩
        · simp at h; subst h; simp only; omega
        · simp at h; subst h; simp only at h1 h2; obtain rfl : x = m := by omega
          exact hp
        · by_cases hb : b < m
          · exact (none_ a b h1 h2 hb h4).elim
          · by_cases ha : a < m
            · exact (none_ a (m - 1) h1 (by omega) (by omega) fun x y z => h4 x y (by omega)).elim
            · exact ⟨(m, m), by simp, by simp only; omega, by simp only; omega⟩
        · cases h; simp at hw
      | cons p T =>
        obtain ⟨a0, b0⟩ := p
        rw [hL] at ih
        obtain ⟨r1, r2, r3⟩ := ih.rng (a0, b0) (by simp)
        simp only at r1 r2 r3
        have hT := ih.head a0 b0 T rfl
        by_cases hb0 : b0 + 1 = m
        · have e : wl P lo (k + 1) = (a0, m) :: T := by simp only [wl, ← hm, hp, if_true, hL, hb0]
          rw [e]
          refine ⟨fun w h => ?_, fun w h x h1 h2 => ?_, fun a b h1 h2 h3 h4 => ?_, fun a b T' h w hw => ?_, ?_⟩
          · rcases List.mem_cons.1 h with rfl | h
            · simp only; omega
            · have := ih.rng w (List.mem_cons_of_mem _ h); omega
          · rcases List.mem_cons.1 h with rfl | h
            · simp only at h1 h2
              by_cases hx : x = m
              · subst hx; exact hp
              · exact ih.sat (a0, b0) (by simp) x h1 (by simp only; omega)
            · exact ih.sat w (List.mem_cons_of_mem _ h) x h1 h2
          · by_cases hb : b < m
            · obtain ⟨w, hw, g1, g2⟩ := ih.cov a b h1 h2 (by omega) h4
              rcases List.mem_cons.1 hw with rfl | hw
              · exact ⟨(a0, m), by simp, g1, by simp only at g2 ⊢; omega⟩
              · exact ⟨w, List.mem_cons_of_mem _ hw, g1, g2⟩
            · by_cases ha : a < m
              · obtain ⟨w, hw, g1, g2⟩ := ih.cov a (m - 1) h1 (by omega) (by omega) fun x y z => h4 x y (by omega)
                rcases List.mem_cons.1 hw with rfl | hw
                · exact ⟨(a0, m), by simp, g1, by simp only; omega⟩
                · have := hT w hw; omega
              · exact ⟨(a0, m), by simp, by simp only; omega, by simp only; omega⟩
          · cases h; have := hT w hw; omega
          · have := ih.len; simp at this ⊢; omega
        · have e : wl P lo (k + 1) = (m, m) :: (a0, b0) :: T := by simp only [wl, ← hm, hp, if_true, hL, hb0, if_false]
          rw [e]
          refine ⟨fun w h => ?_, fun w h x h1 h2 => ?_, fun a b h1 h2 h3 h4 => ?_, fun a b T' h w hw => ?_, ?_⟩
          · rcases List.mem_cons.1 h with rfl | h
            · simp only; omega
            · have := ih.rng w h; omega
          · rcases List.mem_cons.1 h with rfl | h
            · simp only at h1 h2; obtain rfl : x = m := by omega
              exact hp
            · exact ih.sat w h x h1 h2
          · by_cases hb : b < m
            · obtain ⟨w, hw, g1, g2⟩ := ih.cov a b h1 h2 (by omega) h4
              exact ⟨w, List.mem_cons_of_mem _ hw, g1, g2⟩
            · by_cases ha : a < m
              · obtain ⟨w, hw, g1, g2⟩ := ih.cov a (m - 1) h1 (by omega) (by omega) fun x y z => h4 x y (by omega)
                rcases List.mem_cons.1 hw with rfl | hw
                · simp only at g2; omega
                · have := hT w hw; omega
              · exact ⟨(m, m), by simp, by simp only; omega, by simp only; omega⟩
          · cases h
            rcases List.mem_cons.1 hw with rfl | hw
            · simp only; omega
            · have := hT w hw; omega
          · have := ih.len; simp at this ⊢; omega
    · have e : wl P lo (k + 1) = wl P lo k := by simp [wl, ← hm, hp]
      rw [e]
      refine ⟨fun w h => ?_, ih.sat, fun a b h1 h2 h3 h4 => ?_, ih.head, by have := ih.len; omega⟩
      · have := ih.rng w h; omega
      · refine ih.cov a b h1 h2 ?_ h4
        apply Decidable.byContradiction
        intro hb
        exact hp (h4 m (by omega) (by omega))
/-- Data that hold a list of windows, the last one first. -/
def Rep (n : Nat) (d : Dat) (L : List (Int × Int)) : Prop := n = L.length ∧ ∀ i w, L[i]? = some w → d.ii (n - 1 - i) 0 = w.1 ∧ d.ii (n - 1 - i) 1 = w.2
theorem rep_nil : Rep 0 noDat [] := ⟨rfl, fun i w h => by simp at h⟩
theorem rep_app {n : Nat} {d : Dat} {L : List (Int × Int)} (h : Rep n d L) (a b : Int) : Rep (n + 1) (d.app n (datS [.int .i64 a, .int .i64 b] 2)) ((a, b) :: L) := by
  obtain ⟨h1, h2⟩ := h
  refine ⟨by simp [h1], fun i w hw => ?_⟩
  cases i with
  | zero =>
    simp at hw; subst hw
    have e : Nat.blt n n = false := blt_f (Nat.lt_irrefl n)
    have e0 : n + 1 - 1 - 0 = n := by omega
    rw [e0]
    constructor
    · show cond (Nat.blt n n) _ _ = a; rw [e, Nat.sub_self]; rfl
    · show cond (Nat.blt n n) _ _ = b; rw [e, Nat.sub_self]; rfl
  | succ i =>
    have hw' : L[i]? = some w := by simpa using hw
    obtain ⟨g1, g2⟩ := h2 i w hw'
    have hi : i < n := by rw [h1]; exact (List.getElem?_eq_some_iff.1 hw').1
    have e0 : n + 1 - 1 - (i + 1) = n - 1 - i := by omega
    have e : Nat.blt (n - 1 - i) n = true := blt_t (by omega)
    rw [e0]
    constructor
    · show cond (Nat.blt (n - 1 - i) n) _ _ = w.1; rw [e]; exact g1
    · show cond (Nat.blt (n - 1 - i) n) _ _ = w.2; rw [e]; exact g2
theorem rep_upd {n : Nat} {d : Dat} {a b : Int} {T : List (Int × Int)} (h : Rep n d ((a, b) :: T)) (x : Int) : Rep n (d.upd (n - 1) 1 [.int .i64 x]) ((a, x) :: T) := by
  obtain ⟨h1, h2⟩ := h
  refine ⟨by simpa using h1, fun i w hw => ?_⟩
  cases i with
  | zero =>
    simp at hw; subst hw
    obtain ⟨g1, g2⟩ := h2 0 (a, b) rfl
    rw [Nat.sub_zero] at g1 g2 ⊢
    simp only [Dat.upd, if_true]
    exact ⟨by simpa using g1, by simp⟩
  | succ i =>
    have hw' : T[i]? = some w := by simpa using hw
    obtain ⟨g1, g2⟩ := h2 (i + 1) w (by simpa using hw')
    have hi : i < T.length := (List.getElem?_eq_some_iff.1 hw').1
    have hn : n - 1 - (i + 1) ≠ n - 1 := by simp at h1; omega
    simp only [Dat.upd, if_neg hn]
    exact ⟨g1, g2⟩
theorem rep_head {n : Nat} {d : Dat} {a b : Int} {T : List (Int × Int)} (h : Rep n d ((a, b) :: T)) : 0 < n ∧ d.ii (n - 1) 0 = a ∧ d.ii (n - 1) 1 = b := by
  obtain ⟨h1, h2⟩ := h
  obtain ⟨g1, g2⟩ := h2 0 (a, b) rfl
  rw [Nat.sub_zero] at g1 g2
  exact ⟨by simp at h1; omega, g1, g2⟩
theorem add_ok {P : Int → Bool} {lo : Int} {i c : Nat} {D : Dat} (R : Rep c D (wl P lo i)) (h0 : 0 ≤ lo) (h1 : lo + (i : Int) ≤ 1000000) (hi : i ≤ 3000) (hp : P (lo + (i : Int)) = true) :
    n92 c c D (lo + (i : Int)) (lo + (i : Int)) = true ∧ ∃ c' D', m92 c c D (lo + (i : Int)) (lo + (i : Int)) = (c', c', D') ∧ Rep c' D' (wl P lo (i + 1)) := by
  have W := wl_ok P lo i
  obtain ⟨m, hm⟩ : ∃ m, m = lo + (i : Int) := ⟨_, rfl⟩
  rw [← hm] at hp ⊢
  have hc : c ≤ 3000 := by have := R.1; have := W.len; omega
  have s1 : decide (c ≤ c) = true := decide_eq_true (Nat.le_refl c)
  have s2 : decide (c + 1 ≤ 1073741824) = true := decide_eq_true (by omega)
  cases hL : wl P lo i with
  | nil =>
    rw [hL] at R
    have hc0 : c = 0 := R.1
    subst hc0
    have e : wl P lo (i + 1) = [(m, m)] := by simp only [wl, ← hm, hp, if_true, hL]
    have z : decide ((0 : Int) < ((0 : Nat) : Int)) = false := rfl
    refine ⟨?_, 0 + 1, D.app 0 (datS [.int .i64 m, .int .i64 m] 2), ?_, ?_⟩
    · simp only [n92, z, s1, s2, cond_true, cond_false]; rfl
    · simp only [m92, z, cond_true, cond_false]
    · rw [e]; exact rep_app R m m
  | cons p T =>
    obtain ⟨a0, b0⟩ := p
    rw [hL] at R W
    obtain ⟨hc0, g1, g2⟩ := rep_head R
    obtain ⟨r1, r2, r3⟩ := W.rng (a0, b0) (by simp)
    simp only at r1 r2 r3
    have z : decide ((0 : Int) < (c : Int)) = true := decide_eq_true (by omega)
    have w1 : IntKind.i64.wrap ((c : Int) - 1) = (c : Int) - 1 := wr (by omega) (by omega)
    have w2 : ((c : Int) - 1).toNat = c - 1 := by omega
    have s3 : decide (0 ≤ (c : Int) - 1 ∧ (c : Int) - 1 < (c : Int)) = true := decide_eq_true ⟨by omega, by omega⟩
    have s4 : decide (c - 1 < c) = true := decide_eq_true (by omega)
    have w3 : IntKind.i64.wrap (b0 + 1) = b0 + 1 := wr (by omega) (by omega)
    by_cases hb : b0 + 1 = m
    · have e : wl P lo (i + 1) = (a0, m) :: T := by simp only [wl, ← hm, hp, if_true, hL, hb]
      have s5 : decide (m ≤ b0 + 1) = true := decide_eq_true (by omega)
      have mx : imax b0 m = m := by unfold imax; split <;> omega
      refine ⟨?_, c, D.upd (c - 1) 1 [.int .i64 m], ?_, ?_⟩
      · simp only [n92, z, w1, w2, s3, s4, g2, w3, s5, cond_true, cond_false]; rfl
      · simp only [m92, z, w1, w2, g2, w3, s5, mx, cond_true, cond_false]
      · rw [e]; exact rep_upd R m
    · have e : wl P lo (i + 1) = (m, m) :: (a0, b0) :: T := by simp only [wl, ← hm, hp, if_true, hL, hb, if_false]
      have s5 : decide (m ≤ b0 + 1) = false := decide_eq_false (by omega)
      refine ⟨?_, c + 1, D.app c (datS [.int .i64 m, .int .i64 m] 2), ?_, ?_⟩
      · simp only [n92, z, w1, w2, s1, s2, s3, s4, g2, w3, s5, cond_true, cond_false]; rfl
      · simp only [m92, z, w1, w2, g2, w3, s5, cond_true, cond_false]
      · rw [e]; exact rep_app R m m
/-- Is the current slack, as it is asked? -/
noncomputable def hasW (M : Int) (n : Nat) (d : Dat) (l : Int) (s : Bool) (m : Int) : Bool := bif decide (slk M n d m l = 2) then true else (bif decide (slk M n d m l = 1) then (bif s then false else true) else false)
section
variable {M : Int} {n : Nat} {d : Dat} {l : Int} {s : Bool}
theorem m85_ok (T : Tab M n d) (l0 : 0 ≤ l) (l1 : l ≤ 10000000) {m : Int} (m0 : 0 ≤ m) (m1 : m ≤ 1000000) (x y : Int) : n85 m M n d m118 l x y s = true ∧ m85 m M n d m118 l x y s = (hasW M n d l s m, M, n, d, m118, l, x, y, s) := by
  obtain ⟨b1, b2⟩ := m86_eq T m0 m1 l0 l1
  constructor
  · simp only [n85, b1]; rfl
  · simp only [m85, b2]; rfl
theorem l84_run (T : Tab M n d) (l0 : 0 ≤ l) (l1 : l ≤ 10000000) {lo hi : Int} (h0 : 0 ≤ lo) (h1 : hi ≤ 1000000) (x y : Int) : ∀ (k i f c : Nat) (D : Dat), lo + ((i + k : Nat) : Int) = hi + 1 → i + k ≤ 3000 → k < f → Rep c D (wl (hasW M n d l s) lo i) →
    ∃ c' D', Rep c' D' (wl (hasW M n d l s) lo (i + k)) ∧ l84c85_0 lo hi f (lo + (i : Int)) M n d m118 l x y s c c D = some (M, n, d, m118, l, x, y, s, c', c', D')
  | 0, i, f, c, D, he, hk, hf, R => by
    obtain ⟨f, rfl⟩ : ∃ f', f = f' + 1 := ⟨f - 1, by omega⟩
    refine ⟨c, D, R, ?_⟩
    have : decide (lo + (i : Int) ≤ hi) = false := decide_eq_false (by omega)
    simp only [l84c85_0, this, cond_false]
  | k + 1, i, f, c, D, he, hk, hf, R => by
    obtain ⟨f, rfl⟩ : ∃ f', f = f' + 1 := ⟨f - 1, by omega⟩
    have z : decide (lo + (i : Int) ≤ hi) = true := decide_eq_true (by omega)
    obtain ⟨g1, g2⟩ := m85_ok (s := s) T l0 l1 (m := lo + (i : Int)) (by omega) (by omega) x y
    have w : IntKind.i64.wrap (lo + (i : Int) + 1) = lo + ((i + 1 : Nat) : Int) := by rw [wr (by omega) (by omega)]; omega
    cases hp : hasW M n d l s (lo + (i : Int)) with
    | true =>
      obtain ⟨a1, c', D', a2, a3⟩ := add_ok R h0 (by omega) (by omega) hp
      obtain ⟨c2, D2, R2, e2⟩ := l84_run T l0 l1 h0 h1 x y k (i + 1) f c' D' (by rw [← he]; omega) (by omega) (by omega) a3
      refine ⟨c2, D2, by rwa [show i + 1 + k = i + (k + 1) by omega] at R2, ?_⟩
      simp only [l84c85_0, z, g1, g2, hp, a1, a2, w, cond_true]
      exact e2
    | false =>
      have e : wl (hasW M n d l s) lo (i + 1) = wl (hasW M n d l s) lo i := by simp [wl, hp]
      obtain ⟨c2, D2, R2, e2⟩ := l84_run T l0 l1 h0 h1 x y k (i + 1) f c D (by rw [← he]; omega) (by omega) (by omega) (by rw [e]; exact R)
      refine ⟨c2, D2, by rwa [show i + 1 + k = i + (k + 1) by omega] at R2, ?_⟩
      simp only [l84c85_0, z, g1, g2, hp, w, cond_true, cond_false]
      exact e2
end
end Go.Proofs.Ytbhldggbjjailaa
