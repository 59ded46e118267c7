/-
 Linear tasks with bounds in three equations: a plan of a cost, or weights (Farkas); rays; corners. Conditions: none.
-/
import Derived.KernelRfl
import Derived.Test.YtmndejpcpfkajaaBPChecks
namespace Go.Proofs.Ytmndejpcpfkajaa
namespace Lin
set_option linter.unusedVariables false
abbrev W := Nat → Int
def mix (a b : Int) (x y : W) : W := fun i => a * x i + b * y i
def IsLin (f : W → Int) : Prop := ∀ a b x y, f (mix a b x y) = a * f x + b * f y
def comb : List Int → List (W → Int) → W → Int
 | k :: ks, f :: fs, x => k * f x + comb ks fs x
 | _, _, _ => 0
theorem comb_map (α : Int) (a : W → Int) (x0 x : W) : ∀ (ks : List Int) (fs : List (W → Int)), comb ks (fs.map fun f x => α * f x - f x0 * a x) x = comb (ks.map (α * ·)) fs x - comb ks fs x0 * a x
 | [], _ => by simp [comb]
 | _ :: _, [] => by simp [comb]
 | k :: ks, f :: fs => by
  simp only [List.map_cons, comb, comb_map α a x0 x ks fs]
  grind
theorem comb_np : ∀ (ks : List Int) (fs : List (W → Int)) (x : W), (∀ k ∈ ks, 0 ≤ k) → (∀ f ∈ fs, f x ≤ 0) → comb ks fs x ≤ 0
 | [], _, _, _, _ => by simp [comb]
 | _ :: _, [], _, _, _ => by simp [comb]
 | k :: ks, f :: fs, x, hk, hf => by
  have h1 := comb_np ks fs x (fun k h => hk k (List.mem_cons_of_mem _ h)) (fun f h => hf f (List.mem_cons_of_mem _ h))
  have h2 : k * f x ≤ 0 := Int.mul_nonpos_of_nonneg_of_nonpos (hk k (by simp)) (hf f (by simp))
  simp only [comb]; omega
theorem farkas : ∀ (n : Nat) (fs : List (W → Int)) (γ : W → Int), fs.length = n → (∀ f ∈ fs, IsLin f) → IsLin γ → (∀ x, (∀ f ∈ fs, f x ≤ 0) → γ x ≤ 0) →
  ∃ (D : Int) (ks : List Int), 0 < D ∧ ks.length = fs.length ∧ (∀ k ∈ ks, 0 ≤ k) ∧ ∀ x, D * γ x = comb ks fs x
 | 0, fs, γ, hn, _, hγ, h => by
  obtain rfl : fs = [] := List.eq_nil_of_length_eq_zero hn
  refine ⟨1, [], by omega, rfl, by simp, fun x => ?_⟩
  have h1 := h x (by simp)
  have h2 := h (mix (-1) 0 x x) (by simp)
  rw [hγ] at h2
  simp only [comb]; omega
 | n + 1, a :: fs, γ, hn, hf, hγ, h => by
  have hlen : fs.length = n := by simpa using hn
  by_cases hc : ∀ x, (∀ f ∈ fs, f x ≤ 0) → γ x ≤ 0
  ·obtain ⟨D, ks, h1, h2, h3, h4⟩ := farkas n fs γ hlen (fun f hm => hf f (List.mem_cons_of_mem _ hm)) hγ hc
   refine ⟨D, 0 :: ks, h1, by simp [h2], ?_, fun x => ?_⟩
   ·intro k hk; rcases List.mem_cons.1 hk with rfl | hk
    ·omega
    ·exact h3 k hk
   ·simp only [comb, Int.zero_mul, Int.zero_add, h4]
  ·simp only [Classical.not_forall, Int.not_le] at hc
   obtain ⟨x0, hx0, hγ0⟩ := hc
   have ha : 0 < a x0 := by
    rcases Int.lt_or_le 0 (a x0) with h1 | h1
    ·exact h1
    ·have := h x0 (by
      intro f hm
      rcases List.mem_cons.1 hm with rfl | hm
      ·exact h1
      ·exact hx0 f hm)
     omega
   have hla := hf a (by simp)
   have lin' : ∀ f, IsLin f → IsLin (fun x => a x0 * f x - f x0 * a x) := fun f hl p q x y => by
    show a x0 * f (mix p q x y) - f x0 * a (mix p q x y) = _
    rw [hl, hla]; grind
   obtain ⟨D, ks, h1, h2, h3, h4⟩ := farkas n (fs.map fun f x => a x0 * f x - f x0 * a x) (fun x => a x0 * γ x - γ x0 * a x) (by simpa using hlen) (by
    intro f hm
    obtain ⟨g, hg, rfl⟩ := List.mem_map.1 hm
    exact lin' g (hf g (List.mem_cons_of_mem _ hg))) (lin' γ hγ) (by
    intro x hx
    have key := h (mix (a x0) (- a x) x x0) (by
     intro f hm
     rcases List.mem_cons.1 hm with rfl | hm
     ·rw [hla]; have : f x0 * f x + -f x * f x0 = 0 := by grind
      omega
     ·have := hx _ (List.mem_map.2 ⟨f, hm, rfl⟩)
      rw [hf f (List.mem_cons_of_mem _ hm)]
      have e : a x0 * f x + -a x * f x0 = a x0 * f x - f x0 * a x := by grind
      omega)
    rw [hγ] at key
    have e : a x0 * γ x + -a x * γ x0 = a x0 * γ x - γ x0 * a x := by grind
    show a x0 * γ x - γ x0 * a x ≤ 0
    omega)
   have hlk : ks.length = fs.length := by simpa using h2
   refine ⟨D * a x0, (D * γ x0 - comb ks fs x0) :: ks.map (a x0 * ·), Int.mul_pos h1 ha, by simp [hlk], ?_, fun x => ?_⟩
   ·intro k hk
    rcases List.mem_cons.1 hk with rfl | hk
    ·have := comb_np ks fs x0 h3 hx0
     have := Int.mul_pos h1 hγ0
     omega
    ·obtain ⟨k', hk', rfl⟩ := List.mem_map.1 hk
     exact Int.mul_nonneg (by omega) (h3 k' hk')
   ·have := h4 x
    rw [comb_map] at this
    simp only [comb]
    grind
def sm (f : Nat → Int) : Nat → Int
 | 0 => 0
 | n + 1 => sm f n + f n
theorem sm_congr {f g : Nat → Int} : ∀ {n : Nat}, (∀ j, j < n → f j = g j) → sm f n = sm g n
 | 0, _ => rfl
 | n + 1, h => by simp only [sm, sm_congr (n := n) fun j hj => h j (by omega), h n (by omega)]
theorem sm_add (f g : Nat → Int) : ∀ n, sm (fun j => f j + g j) n = sm f n + sm g n
 | 0 => rfl
 | n + 1 => by simp only [sm, sm_add f g n]; omega
theorem sm_mul (k : Int) (f : Nat → Int) : ∀ n, sm (fun j => k * f j) n = k * sm f n
 | 0 => by simp [sm]
 | n + 1 => by simp only [sm, sm_mul k f n]; grind
theorem sm_le {f g : Nat → Int} : ∀ {n : Nat}, (∀ j, j < n → f j ≤ g j) → sm f n ≤ sm g n
 | 0, _ => Int.le_refl _
 | n + 1, h => by
  have := sm_le (n := n) fun j hj => h j (by omega)
  have := h n (by omega)
  simp only [sm]; omega
theorem sm_zero {f : Nat → Int} {n : Nat} (h : ∀ j, j < n → f j = 0) : sm f n = 0 := by
 rw [sm_congr (g := fun j => 0 * f j) (fun j hj => by rw [h j hj]; omega), sm_mul]; omega
theorem sm_one {f : Nat → Int} {k : Nat} : ∀ {n : Nat}, k < n → (∀ j, j < n → j ≠ k → f j = 0) → sm f n = f k
 | n + 1, hk, h => by
  simp only [sm]
  rcases Nat.lt_or_ge k n with h1 | h1
  ·rw [sm_one h1 fun j hj => h j (by omega), h n (by omega) (by omega)]; omega
  ·obtain rfl : k = n := by omega
   rw [sm_zero fun j hj => h j (by omega) (by omega)]; omega
structure Lp where
 n : Nat
 a : Nat → Nat → Int
 c : Nat → Int
 l : Nat → Int
 u : Nat → Int
 b : Nat → Int
namespace Lp
variable (T : Lp)
def yl (y0 y1 y2 : Int) (j : Nat) : Int := y0 * T.a j 0 + y1 * T.a j 1 + y2 * T.a j 2
def phi (l u r : Int) : Int := max (l * r) (u * r)
def H (y0 y1 y2 s : Int) : Int := y0 * T.b 0 + y1 * T.b 1 + y2 * T.b 2 - sm (fun j => phi (T.l j) (T.u j) (T.yl y0 y1 y2 j - s * T.c j)) T.n
def Plan (D : Int) (X : Nat → Int) : Prop := 0 < D ∧ (∀ j, j < T.n → D * T.l j ≤ X j ∧ X j ≤ D * T.u j) ∧ ∀ i, i < 3 → sm (fun j => X j * T.a j i) T.n = D * T.b i
def cost (X : Nat → Int) : Int := sm (fun j => X j * T.c j) T.n

theorem phi_ge {l u r D x : Int} (h1 : D * l ≤ x) (h2 : x ≤ D * u) (hD : 0 < D) : x * r ≤ D * phi l u r := by
 unfold phi
 rcases Int.le_total 0 r with h | h
 ·have a1 : x * r ≤ D * u * r := Int.mul_le_mul_of_nonneg_right h2 h
  have a2 : D * (u * r) ≤ D * max (l * r) (u * r) := Int.mul_le_mul_of_nonneg_left (by omega) (by omega)
  rw [Int.mul_assoc] at a1
  omega
 ·have a1 : x * r ≤ D * l * r := Int.mul_le_mul_of_nonpos_right h1 h
  have a2 : D * (l * r) ≤ D * max (l * r) (u * r) := Int.mul_le_mul_of_nonneg_left (by omega) (by omega)
  rw [Int.mul_assoc] at a1
  omega
theorem weak {D : Int} {X : Nat → Int} (h : T.Plan D X) (y0 y1 y2 s : Int) : D * T.H y0 y1 y2 s ≤ s * T.cost X := by
 obtain ⟨hD, hb, he⟩ := h
 have e0 := he 0 (by omega)
 have e1 := he 1 (by omega)
 have e2 := he 2 (by omega)
 have h1 : sm (fun j => X j * (T.yl y0 y1 y2 j - s * T.c j)) T.n ≤ sm (fun j => D * phi (T.l j) (T.u j) (T.yl y0 y1 y2 j - s * T.c j)) T.n := sm_le fun j hj => phi_ge (hb j hj).1 (hb j hj).2 hD
 rw [sm_mul] at h1
 have h2 : sm (fun j => X j * (T.yl y0 y1 y2 j - s * T.c j)) T.n = y0 * sm (fun j => X j * T.a j 0) T.n + y1 * sm (fun j => X j * T.a j 1) T.n + y2 * sm (fun j => X j * T.a j 2) T.n + -s * sm (fun j => X j * T.c j) T.n := by
  rw [← sm_mul, ← sm_mul, ← sm_mul, ← sm_mul, ← sm_add, ← sm_add, ← sm_add]
  exact sm_congr fun j _ => by simp only [yl]; grind
 rw [h2, e0, e1, e2] at h1
 unfold H cost
 generalize sm (fun j => phi (T.l j) (T.u j) (T.yl y0 y1 y2 j - s * T.c j)) T.n = P at h1 ⊢
 grind

def fs (kd : Int) : Nat → List (W → Int)
 | 0 => [fun x => x 3]
 | j + 1 => (fun x => T.yl (x 0) (x 1) (x 2) j + x (4 + j) + kd * T.c j * x 3) :: (fun x => x (4 + j)) :: fs kd j
theorem fs_lin (kd : Int) : ∀ n, ∀ f ∈ T.fs kd n, IsLin f
 | 0, f, h => by
  simp only [fs, List.mem_singleton] at h
  subst h
  intro a b x y
  rfl
 | n + 1, f, h => by
  simp only [fs, List.mem_cons] at h
  rcases h with rfl | rfl | h
  ·intro a b x y
   simp only [mix, yl]; grind
  ·intro a b x y
   rfl
  ·exact fs_lin kd n f h
theorem fs_comb (kd : Int) : ∀ (n : Nat) (ks : List Int), ks.length = (T.fs kd n).length → (∀ k ∈ ks, 0 ≤ k) → ∃ (p q : Nat → Int) (τ : Int), (∀ j, 0 ≤ p j) ∧ (∀ j, 0 ≤ q j) ∧ 0 ≤ τ ∧
  ∀ x, comb ks (T.fs kd n) x = sm (fun j => p j * (T.yl (x 0) (x 1) (x 2) j + x (4 + j) + kd * T.c j * x 3) + q j * x (4 + j)) n + τ * x 3
 | 0, [k], _, hk => ⟨fun _ => 0, fun _ => 0, k, fun _ => Int.le_refl _, fun _ => Int.le_refl _, hk k (by simp), fun x => by simp [fs, comb, sm]⟩
 | n + 1, k1 :: k2 :: ks, hl, hk => by
  obtain ⟨p, q, τ, h1, h2, h3, h4⟩ := fs_comb kd n ks (by simpa [fs] using hl) (fun k h => hk k (by simp [h]))
  refine ⟨fun j => if j = n then k1 else p j, fun j => if j = n then k2 else q j, τ, fun j => ?_, fun j => ?_, h3, fun x => ?_⟩
  ·show 0 ≤ if j = n then k1 else p j
   split
   ·exact hk _ (by simp)
   ·exact h1 j
  ·show 0 ≤ if j = n then k2 else q j
   split
   ·exact hk _ (by simp)
   ·exact h2 j
  ·simp only [fs, comb, h4, sm]
   have e : sm (fun j => (if j = n then k1 else p j) * (T.yl (x 0) (x 1) (x 2) j + x (4 + j) + kd * T.c j * x 3) + (if j = n then k2 else q j) * x (4 + j)) n =
     sm (fun j => p j * (T.yl (x 0) (x 1) (x 2) j + x (4 + j) + kd * T.c j * x 3) + q j * x (4 + j)) n := sm_congr fun j hj => by rw [if_neg (by omega), if_neg (by omega)]
   rw [e, if_true, if_true]
   omega
 | 0, [], hl, _ => by simp [fs] at hl
 | 0, _ :: _ :: _, hl, _ => by simp [fs] at hl
 | n + 1, [], hl, _ => by simp [fs] at hl
 | n + 1, [_], hl, _ => by simp [fs] at hl
def un (k : Nat) : W := fun i => if i = k then 1 else 0
def gam (kd kn : Int) : W → Int := fun x =>
 x 0 * (T.b 0 - sm (fun j => T.l j * T.a j 0) T.n) + x 1 * (T.b 1 - sm (fun j => T.l j * T.a j 1) T.n) + x 2 * (T.b 2 - sm (fun j => T.l j * T.a j 2) T.n) +
  sm (fun j => x (4 + j) * (T.u j - T.l j)) T.n + x 3 * (kn - kd * sm (fun j => T.l j * T.c j) T.n)
theorem gam_lin (kd kn : Int) : IsLin (T.gam kd kn) := by
 intro a b x y
 have e : sm (fun j => mix a b x y (4 + j) * (T.u j - T.l j)) T.n = a * sm (fun j => x (4 + j) * (T.u j - T.l j)) T.n + b * sm (fun j => y (4 + j) * (T.u j - T.l j)) T.n := by
  rw [← sm_mul, ← sm_mul, ← sm_add]
  exact sm_congr fun j _ => by simp only [mix]; grind
 simp only [gam, e]
 simp only [mix]; grind
theorem altern (hlu : ∀ j, j < T.n → T.l j ≤ T.u j) (kn kd : Int) :
  (∃ D X, T.Plan D X ∧ kd * T.cost X ≤ D * kn) ∨ ∃ y0 y1 y2 s, 0 ≤ s ∧ s * kn < T.H y0 y1 y2 (kd * s) := by
 by_cases hc : ∀ x, (∀ f ∈ T.fs kd T.n, f x ≤ 0) → T.gam kd kn x ≤ 0
 ·left
  obtain ⟨D, ks, hD, hlk, hk, he⟩ := farkas _ (T.fs kd T.n) (T.gam kd kn) rfl (T.fs_lin kd _) (T.gam_lin kd kn) hc
  obtain ⟨p, q, τ, hp, hq, hτ, hcb⟩ := T.fs_comb kd T.n ks hlk hk
  have he : ∀ x, D * T.gam kd kn x = sm (fun j => p j * (T.yl (x 0) (x 1) (x 2) j + x (4 + j) + kd * T.c j * x 3) + q j * x (4 + j)) T.n + τ * x 3 := fun x => by rw [he, hcb]
  have z : ∀ (k : Nat), k < 4 → ∀ j, un k (4 + j) = 0 := fun k hk j => if_neg (by omega)
  have hi : ∀ i, i < 3 → D * (T.b i - sm (fun j => T.l j * T.a j i) T.n) = sm (fun j => p j * T.a j i) T.n := by
   intro i hi
   have h := he (un i)
   have e1 : T.gam kd kn (un i) = T.b i - sm (fun j => T.l j * T.a j i) T.n := by
    unfold gam
    have z4 : sm (fun j => un i (4 + j) * (T.u j - T.l j)) T.n = 0 := sm_zero fun j _ => by rw [z i (by omega)]; omega
    rw [z4]
    rcases (by omega : i = 0 ∨ i = 1 ∨ i = 2) with rfl | rfl | rfl <;> simp [un]
   rw [e1] at h
   rw [h]
   have e3 : un i 3 = 0 := if_neg (by omega)
   rw [e3, Int.mul_zero, Int.add_zero]
   refine sm_congr fun j _ => ?_
   rw [z i (by omega), yl]
   rcases (by omega : i = 0 ∨ i = 1 ∨ i = 2) with rfl | rfl | rfl <;> simp [un]
  have h3 : D * (kn - kd * sm (fun j => T.l j * T.c j) T.n) = kd * sm (fun j => p j * T.c j) T.n + τ := by
   have h := he (un 3)
   have e1 : T.gam kd kn (un 3) = kn - kd * sm (fun j => T.l j * T.c j) T.n := by
    unfold gam
    have z4 : sm (fun j => un 3 (4 + j) * (T.u j - T.l j)) T.n = 0 := sm_zero fun j _ => by rw [z 3 (by omega)]; omega
    rw [z4]
    simp [un]
   rw [e1] at h
   rw [h, ← sm_mul]
   congr 1
   ·refine sm_congr fun j _ => ?_
    rw [z 3 (by omega), yl]
    simp [un]; grind
   ·simp [un]
  have h4 : ∀ k, k < T.n → D * (T.u k - T.l k) = p k + q k := by
   intro k hk
   have h := he (un (4 + k))
   have zz : ∀ i, i < 4 → un (4 + k) i = 0 := fun i hi => if_neg (by omega)
   have one : un (4 + k) (4 + k) = 1 := if_pos rfl
   have e1 : T.gam kd kn (un (4 + k)) = T.u k - T.l k := by
    unfold gam
    have z4 : sm (fun j => un (4 + k) (4 + j) * (T.u j - T.l j)) T.n = un (4 + k) (4 + k) * (T.u k - T.l k) := sm_one hk fun j hj hne => by
     have : un (4 + k) (4 + j) = 0 := if_neg (by omega)
     rw [this]; omega
    rw [zz 0 (by omega), zz 1 (by omega), zz 2 (by omega), zz 3 (by omega), z4, one]; omega
   rw [e1] at h
   rw [h, zz 3 (by omega), sm_one hk fun j hj hne => by
    have : un (4 + k) (4 + j) = 0 := if_neg (by omega)
    rw [zz 0 (by omega), zz 1 (by omega), zz 2 (by omega), this]; simp [yl]]
   rw [zz 0 (by omega), zz 1 (by omega), zz 2 (by omega), one]
   simp [yl]
  refine ⟨D, fun j => D * T.l j + p j, ⟨hD, fun j hj => ?_, fun i hi3 => ?_⟩, ?_⟩
  ·have := h4 j hj
   have := hp j
   have := hq j
   rw [Int.mul_sub] at *
   show D * T.l j ≤ D * T.l j + p j ∧ D * T.l j + p j ≤ D * T.u j
   constructor <;> omega
  ·have h := hi i hi3
   have e : sm (fun j => (D * T.l j + p j) * T.a j i) T.n = D * sm (fun j => T.l j * T.a j i) T.n + sm (fun j => p j * T.a j i) T.n := by
    rw [← sm_mul, ← sm_add]; exact sm_congr fun j _ => by grind
   rw [e, ← h]; grind
  ·have e : T.cost (fun j => D * T.l j + p j) = D * sm (fun j => T.l j * T.c j) T.n + sm (fun j => p j * T.c j) T.n := by
    unfold cost
    rw [← sm_mul, ← sm_add]; exact sm_congr fun j _ => by grind
   rw [e]
   generalize sm (fun j => T.l j * T.c j) T.n = S1 at *
   generalize sm (fun j => p j * T.c j) T.n = S2 at *
   have : kd * (D * S1 + S2) = D * kn - τ := by grind
   omega
 ·right
  simp only [Classical.not_forall, Int.not_le] at hc
  obtain ⟨x, hx, hg⟩ := hc
  have hfs : ∀ n, (∀ f ∈ T.fs kd n, f x ≤ 0) → x 3 ≤ 0 ∧ ∀ j, j < n → x (4 + j) ≤ 0 ∧ T.yl (x 0) (x 1) (x 2) j + x (4 + j) + kd * T.c j * x 3 ≤ 0 := by
   intro n
   induction n with
   | zero => intro h; exact ⟨h (fun x => x 3) (by simp [fs]), fun j hj => by omega⟩
   | succ n ih =>
    intro h
    obtain ⟨h1, h2⟩ := ih fun f hf => h f (by simp [fs, hf])
    refine ⟨h1, fun j hj => ?_⟩
    rcases Nat.lt_or_ge j n with h3 | h3
    ·exact h2 j h3
    ·obtain rfl : j = n := by omega
     exact ⟨h (fun x => x (4 + j)) (by simp [fs]), h (fun x => T.yl (x 0) (x 1) (x 2) j + x (4 + j) + kd * T.c j * x 3) (by simp [fs])⟩
  obtain ⟨h3, hz⟩ := hfs T.n hx
  refine ⟨x 0, x 1, x 2, - x 3, by omega, ?_⟩
  have key : sm (fun j => phi (T.l j) (T.u j) (T.yl (x 0) (x 1) (x 2) j - kd * - x 3 * T.c j)) T.n ≤
    sm (fun j => T.l j * (T.yl (x 0) (x 1) (x 2) j + kd * x 3 * T.c j) + - (x (4 + j) * (T.u j - T.l j))) T.n := by
   refine sm_le fun j hj => ?_
   obtain ⟨z1, z2⟩ := hz j hj
   have hw := hlu j hj
   have er : T.yl (x 0) (x 1) (x 2) j - kd * - x 3 * T.c j = T.yl (x 0) (x 1) (x 2) j + kd * x 3 * T.c j := by grind
   rw [er]
   generalize hr : T.yl (x 0) (x 1) (x 2) j + kd * x 3 * T.c j = r
   have z3 : r ≤ - x (4 + j) := by
    have : T.yl (x 0) (x 1) (x 2) j + x (4 + j) + kd * T.c j * x 3 = r + x (4 + j) := by rw [← hr]; grind
    omega
   unfold phi
   have g1 : 0 ≤ (- x (4 + j)) * (T.u j - T.l j) := Int.mul_nonneg (by omega) (by omega)
   have g2 : r * (T.u j - T.l j) ≤ (- x (4 + j)) * (T.u j - T.l j) := Int.mul_le_mul_of_nonneg_right z3 (by omega)
   have g3 : (- x (4 + j)) * (T.u j - T.l j) = - (x (4 + j) * (T.u j - T.l j)) := Int.neg_mul _ _
   have g4 : r * (T.u j - T.l j) = T.u j * r - T.l j * r := by grind
   omega
  have e : sm (fun j => T.l j * (T.yl (x 0) (x 1) (x 2) j + kd * x 3 * T.c j) + - (x (4 + j) * (T.u j - T.l j))) T.n =
    x 0 * sm (fun j => T.l j * T.a j 0) T.n + x 1 * sm (fun j => T.l j * T.a j 1) T.n + x 2 * sm (fun j => T.l j * T.a j 2) T.n + kd * x 3 * sm (fun j => T.l j * T.c j) T.n + -1 * sm (fun j => x (4 + j) * (T.u j - T.l j)) T.n := by
   rw [← sm_mul, ← sm_mul, ← sm_mul, ← sm_mul, ← sm_mul, ← sm_add, ← sm_add, ← sm_add, ← sm_add]
   exact sm_congr fun j _ => by simp only [yl]; grind
  rw [e] at key
  unfold H
  unfold gam at hg
  generalize sm (fun j => phi (T.l j) (T.u j) (T.yl (x 0) (x 1) (x 2) j - kd * - x 3 * T.c j)) T.n = P at *
  generalize sm (fun j => T.l j * T.a j 0) T.n = S0 at *
  generalize sm (fun j => T.l j * T.a j 1) T.n = S1 at *
  generalize sm (fun j => T.l j * T.a j 2) T.n = S2 at *
  generalize sm (fun j => T.l j * T.c j) T.n = S3 at *
  generalize sm (fun j => x (4 + j) * (T.u j - T.l j)) T.n = S4 at *
  grind
end Lp
def cnt (r : Nat → W → Int) (v : W) : Nat → Nat
 | 0 => 0
 | m + 1 => cnt r v m + if r m v = 0 then 0 else 1
theorem cnt_le {r : Nat → W → Int} {v d : W} : ∀ {m : Nat}, (∀ j, j < m → r j v = 0 → r j d = 0) → cnt r d m ≤ cnt r v m
 | 0, _ => Nat.le_refl _
 | m + 1, h => by
  have := cnt_le (m := m) fun j hj => h j (by omega)
  have h1 := h m (by omega)
  simp only [cnt]
  by_cases e : r m v = 0
  ·rw [if_pos e, if_pos (h1 e)]; omega
  ·rw [if_neg e]; split <;> omega
theorem cnt_lt {r : Nat → W → Int} {v d : W} {i : Nat} : ∀ {m : Nat}, (∀ j, j < m → r j v = 0 → r j d = 0) → i < m → r i v ≠ 0 → r i d = 0 → cnt r d m < cnt r v m
 | m + 1, h, hi, h1, h2 => by
  simp only [cnt]
  have h3 := cnt_le (m := m) fun j hj => h j (by omega)
  rcases Nat.lt_or_ge i m with h4 | h4
  ·have := cnt_lt (m := m) (fun j hj => h j (by omega)) h4 h1 h2
   have h5 := h m (by omega)
   by_cases e : r m v = 0
   ·rw [if_pos e, if_pos (h5 e)]; omega
   ·rw [if_neg e]; split <;> omega
  ·obtain rfl : i = m := by omega
   rw [if_neg h1, if_pos h2]; omega
theorem least (p q : Nat → Int) : ∀ m, (∃ j, j < m ∧ 0 < q j) → ∃ i, i < m ∧ 0 < q i ∧ ∀ j, j < m → 0 < q j → p i * q j ≤ p j * q i
 | 0, ⟨j, hj, _⟩ => by omega
 | m + 1, h => by
  by_cases hm : ∃ j, j < m ∧ 0 < q j
  ·obtain ⟨i, hi, hq, hl⟩ := least p q m hm
   by_cases hc : 0 < q m ∧ p m * q i < p i * q m
   ·refine ⟨m, by omega, hc.1, fun j hj hqj => ?_⟩
    rcases Nat.lt_or_ge j m with h1 | h1
    ·have h2 := hl j h1 hqj
     have a1 : (p m * q i) * q j ≤ (p i * q m) * q j := Int.mul_le_mul_of_nonneg_right (by omega) (by omega)
     have a2 : (p i * q j) * q m ≤ (p j * q i) * q m := Int.mul_le_mul_of_nonneg_right h2 (by omega)
     refine Int.le_of_mul_le_mul_right ?_ hq
     have e1 : p m * q j * q i = p m * q i * q j := by grind
     have e2 : p j * q m * q i = p j * q i * q m := by grind
     have e3 : p i * q m * q j = p i * q j * q m := by grind
     omega
    ·obtain rfl : j = m := by omega
     exact Int.le_refl _
   ·refine ⟨i, by omega, hq, fun j hj hqj => ?_⟩
    rcases Nat.lt_or_ge j m with h1 | h1
    ·exact hl j h1 hqj
    ·obtain rfl : j = m := by omega
     rcases Int.lt_or_le (p j * q i) (p i * q j) with h2 | h2
     ·exact absurd ⟨hqj, h2⟩ hc
     ·exact h2
  ·obtain ⟨j, hj, hq⟩ := h
   have hj : j = m := by
    rcases Nat.lt_or_ge j m with h1 | h1
    ·exact absurd ⟨j, h1, hq⟩ hm
    ·omega
   subst hj
   refine ⟨j, by omega, hq, fun k hk hqk => ?_⟩
   rcases Nat.lt_or_ge k j with h1 | h1
   ·exact absurd ⟨k, h1, hqk⟩ hm
   ·obtain rfl : k = j := by omega
    exact Int.le_refl _
structure Straight (r : Nat → W → Int) (m : Nat) (H : W → Int) : Prop where
 add : ∀ a b x y, 0 ≤ a → 0 ≤ b → (∀ j, j < m → (0 ≤ r j x ∧ 0 ≤ r j y) ∨ (r j x ≤ 0 ∧ r j y ≤ 0)) → H (mix a b x y) = a * H x + b * H y
theorem ray {r : Nat → W → Int} {m : Nat} {H : W → Int} (hl : ∀ j, IsLin (r j)) (hH : Straight r m H) : ∀ (n : Nat) (v : W), cnt r v m = n → 0 < H v →
  ∃ v', 0 < H v' ∧ (∀ j, j < m → r j v = 0 → r j v' = 0) ∧ (∀ j, j < m → 0 ≤ r j v → 0 ≤ r j v') ∧ ∀ d, (∀ j, j < m → r j v' = 0 → r j d = 0) → ∃ p q, p ≠ 0 ∧ ∀ j, j < m → p * r j d = q * r j v' := by
 intro n
 induction n using Nat.strongRecOn with
 | ind n ih =>
 intro v hn hv
 by_cases hc : ∀ d, (∀ j, j < m → r j v = 0 → r j d = 0) → ∃ p q, p ≠ 0 ∧ ∀ j, j < m → p * r j d = q * r j v
 ·exact ⟨v, hv, fun _ _ h => h, fun _ _ h => h, hc⟩
 ·simp only [Classical.not_forall] at hc
  obtain ⟨d, hd, hnp⟩ := hc
  have hsq : ∀ j, r j v ≠ 0 → 0 < r j v * r j v := fun j h => by
   rcases Int.lt_or_lt_of_ne h with h1 | h1
   ·exact Int.mul_pos_of_neg_of_neg h1 h1
   ·exact Int.mul_pos h1 h1
  have hS : ∃ j, j < m ∧ 0 < r j v * r j v := by
   apply Classical.byContradiction
   intro h
   refine hnp ⟨1, 0, by omega, fun j hj => ?_⟩
   have : r j v = 0 := by
    apply Classical.byContradiction
    intro h1
    exact h ⟨j, hj, hsq j h1⟩
   rw [hd j hj this]; omega
  obtain ⟨i, hi, hqi, hil⟩ := least (fun j => r j d * r j v) (fun j => r j v * r j v) m hS
  obtain ⟨k, hk, hqk, hkl⟩ := least (fun j => - (r j d * r j v)) (fun j => r j v * r j v) m hS
  have ni : r i v ≠ 0 := fun e => by rw [e] at hqi; omega
  have nk : r k v ≠ 0 := fun e => by rw [e] at hqk; omega
  let d1 := mix (r i v * r i v) (- (r i d * r i v)) d v
  let d2 := mix (r k d * r k v) (- (r k v * r k v)) v d
  have e1 : ∀ j, r j d1 = (r i v * r i v) * r j d - (r i d * r i v) * r j v := fun j => by rw [hl j]; grind
  have e2 : ∀ j, r j d2 = (r k d * r k v) * r j v - (r k v * r k v) * r j d := fun j => by rw [hl j]; grind
  have z1 : ∀ j, j < m → r j v = 0 → r j d1 = 0 := fun j hj h => by rw [e1, hd j hj h, h]; omega
  have z2 : ∀ j, j < m → r j v = 0 → r j d2 = 0 := fun j hj h => by rw [e2, hd j hj h, h]; omega
  have s1 : ∀ j, j < m → 0 ≤ r j d1 * r j v := fun j hj => by
   by_cases h : r j v = 0
   ·rw [h]; omega
   ·have := hil j hj (hsq j h)
    rw [e1]
    have e : (r i v * r i v * r j d - r i d * r i v * r j v) * r j v = r j d * r j v * (r i v * r i v) - r i d * r i v * (r j v * r j v) := by grind
    omega
  have s2 : ∀ j, j < m → 0 ≤ r j d2 * r j v := fun j hj => by
   by_cases h : r j v = 0
   ·rw [h]; omega
   ·have := hkl j hj (hsq j h)
    rw [e2]
    have e : (r k d * r k v * r j v - r k v * r k v * r j d) * r j v = - (r j d * r j v) * (r k v * r k v) - - (r k d * r k v) * (r j v * r j v) := by grind
    omega
  have sgn : ∀ (a b : Int), a ≠ 0 → 0 ≤ b * a → (0 < a → 0 ≤ b) ∧ (a < 0 → b ≤ 0) := fun a b ha hb => by
   refine ⟨fun h => ?_, fun h => ?_⟩
   ·rcases Int.lt_or_le b 0 with h1 | h1
    ·have := Int.mul_neg_of_neg_of_pos h1 h; omega
    ·exact h1
   ·rcases Int.lt_or_le 0 b with h1 | h1
    ·have := Int.mul_neg_of_pos_of_neg h1 h; omega
    ·exact h1
  have sg : ∀ (x : W), (∀ j, j < m → r j v = 0 → r j x = 0) → (∀ j, j < m → 0 ≤ r j x * r j v) → ∀ j, j < m → (0 ≤ r j v → 0 ≤ r j x) ∧ (r j v ≤ 0 → r j x ≤ 0) := fun x hz hs j hj => by
   by_cases h : r j v = 0
   ·rw [hz j hj h]; exact ⟨fun _ => Int.le_refl _, fun _ => Int.le_refl _⟩
   ·obtain ⟨a1, a2⟩ := sgn _ _ h (hs j hj)
    exact ⟨fun h' => a1 (by omega), fun h' => a2 (by omega)⟩
  have g1 := sg d1 z1 s1
  have g2 := sg d2 z2 s2
  -- both together are along v
  let M := r i v * r i v * (r k d * r k v) - r k v * r k v * (r i d * r i v)
  have hM0 : 0 ≤ M := by
   have := hil k hk hqk
   have e : r i d * r i v * (r k v * r k v) = r k v * r k v * (r i d * r i v) := by grind
   have e' : r k d * r k v * (r i v * r i v) = r i v * r i v * (r k d * r k v) := by grind
   show 0 ≤ r i v * r i v * (r k d * r k v) - r k v * r k v * (r i d * r i v)
   omega
  have hM : M ≠ 0 := by
   intro hz
   have hz : r i v * r i v * (r k d * r k v) - r k v * r k v * (r i d * r i v) = 0 := hz
   refine hnp ⟨r i v * r i v, r i d * r i v, by omega, fun j hj => ?_⟩
   by_cases h : r j v = 0
   ·rw [h, hd j hj h]; omega
   ·have h1 := hil j hj (hsq j h)
    have h2 := hkl j hj (hsq j h)
    -- the quotients lie between equal ones
    have a1 : r j d * r j v * (r k v * r k v) ≤ r k d * r k v * (r j v * r j v) := by
     have x1 : - (r k d * r k v) * (r j v * r j v) = - (r k d * r k v * (r j v * r j v)) := by grind
     have x2 : - (r j d * r j v) * (r k v * r k v) = - (r j d * r j v * (r k v * r k v)) := by grind
     omega
    have a2 : (r j d * r j v * (r k v * r k v)) * (r i v * r i v) ≤ (r k d * r k v * (r j v * r j v)) * (r i v * r i v) := Int.mul_le_mul_of_nonneg_right a1 (by omega)
    have a3 : (r k d * r k v * (r j v * r j v)) * (r i v * r i v) = (r i d * r i v * (r j v * r j v)) * (r k v * r k v) := by grind
    have a4 : (r j d * r j v * (r i v * r i v)) * (r k v * r k v) ≤ (r i d * r i v * (r j v * r j v)) * (r k v * r k v) := by
     have : (r j d * r j v * (r k v * r k v)) * (r i v * r i v) = (r j d * r j v * (r i v * r i v)) * (r k v * r k v) := by grind
     omega
    have a5 := Int.le_of_mul_le_mul_right a4 hqk
    have a6 : r j d * r j v * (r i v * r i v) = r i d * r i v * (r j v * r j v) := by omega
    have a7 : (r i v * r i v * r j d) * r j v = (r i d * r i v * r j v) * r j v := by grind
    exact Int.eq_of_mul_eq_mul_right h a7
  have hmix : H (mix (r k v * r k v) (r i v * r i v) d1 d2) = (r k v * r k v) * H d1 + (r i v * r i v) * H d2 := by
   refine hH.add _ _ _ _ (by omega) (by omega) fun j hj => ?_
   rcases Int.le_total 0 (r j v) with h | h
   ·exact .inl ⟨(g1 j hj).1 h, (g2 j hj).1 h⟩
   ·exact .inr ⟨(g1 j hj).2 h, (g2 j hj).2 h⟩
  have hal : mix (r k v * r k v) (r i v * r i v) d1 d2 = mix M 0 v v := by
   funext t
   show (r k v * r k v) * ((r i v * r i v) * d t + (- (r i d * r i v)) * v t) + (r i v * r i v) * ((r k d * r k v) * v t + (- (r k v * r k v)) * d t) = (r i v * r i v * (r k d * r k v) - r k v * r k v * (r i d * r i v)) * v t + 0 * v t
   grind
  have hMv : H (mix M 0 v v) = M * H v + 0 * H v := hH.add _ _ _ _ hM0 (by omega) fun j hj => by omega
  have hpos : 0 < M * H v := Int.mul_pos (by omega) hv
  rw [hal, hMv] at hmix
  have step : ∀ (x : W), (∀ j, j < m → r j v = 0 → r j x = 0) → (∀ j, j < m → (0 ≤ r j v → 0 ≤ r j x) ∧ (r j v ≤ 0 → r j x ≤ 0)) → (∃ t, t < m ∧ r t v ≠ 0 ∧ r t x = 0) → 0 < H x →
    ∃ v', 0 < H v' ∧ (∀ j, j < m → r j v = 0 → r j v' = 0) ∧ (∀ j, j < m → 0 ≤ r j v → 0 ≤ r j v') ∧ ∀ d, (∀ j, j < m → r j v' = 0 → r j d = 0) → ∃ p q, p ≠ 0 ∧ ∀ j, j < m → p * r j d = q * r j v' := by
   rintro x hz hs ⟨t, ht, h1, h2⟩ hx
   obtain ⟨v', w1, w2, w3, w4⟩ := ih (cnt r x m) (by rw [← hn]; exact cnt_lt hz ht h1 h2) x rfl hx
   exact ⟨v', w1, fun j hj h => w2 j hj (hz j hj h), fun j hj h => w3 j hj ((hs j hj).1 h), w4⟩
  rcases Int.lt_or_le 0 (H d1) with h | h
  ·exact step d1 z1 g1 ⟨i, hi, ni, by rw [e1]; grind⟩ h
  ·refine step d2 z2 g2 ⟨k, hk, nk, by rw [e2]; grind⟩ ?_
   rcases Int.lt_or_le 0 (H d2) with h' | h'
   ·exact h'
   ·have a1 : (r k v * r k v) * H d1 ≤ 0 := Int.mul_nonpos_of_nonneg_of_nonpos (by omega) h
    have a2 : (r i v * r i v) * H d2 ≤ 0 := Int.mul_nonpos_of_nonneg_of_nonpos (by omega) h'
    omega
namespace Lp
variable (T : Lp)
def cx0 (i j : Nat) : Int := T.a i 1 * T.a j 2 - T.a i 2 * T.a j 1
def cx1 (i j : Nat) : Int := T.a i 2 * T.a j 0 - T.a i 0 * T.a j 2
def cx2 (i j : Nat) : Int := T.a i 0 * T.a j 1 - T.a i 1 * T.a j 0
def dt (i j k : Nat) : Int := T.a i 0 * T.cx0 j k + T.a i 1 * T.cx1 j k + T.a i 2 * T.cx2 j k
def yv0 (i j k : Nat) : Int := T.c i * T.cx0 j k + T.c j * T.cx0 k i + T.c k * T.cx0 i j
def yv1 (i j k : Nat) : Int := T.c i * T.cx1 j k + T.c j * T.cx1 k i + T.c k * T.cx1 i j
def yv2 (i j k : Nat) : Int := T.c i * T.cx2 j k + T.c j * T.cx2 k i + T.c k * T.cx2 i j
def Span : Prop := ∃ e0 e1 e2, e0 < T.n ∧ e1 < T.n ∧ e2 < T.n ∧ T.a e0 0 = 1 ∧ T.a e1 0 = 0 ∧ T.a e1 1 = -1 ∧ T.a e1 2 = 0 ∧ T.a e2 0 = 0 ∧ T.a e2 1 = 0 ∧ T.a e2 2 = -1
def rr (j : Nat) : W → Int := fun x => if j < T.n then T.yl (x 0) (x 1) (x 2) j - x 3 * T.c j else x 3
def HH (kn kd : Int) : W → Int := fun x => kd * T.H (x 0) (x 1) (x 2) (x 3) - kn * x 3
theorem rr_lin (j : Nat) : IsLin (T.rr j) := by
 intro a b x y
 unfold rr
 split
 ·simp only [mix, yl]; grind
 ·rfl
theorem phi_pos {l u r : Int} (h : l ≤ u) (hr : 0 ≤ r) : phi l u r = u * r := by
 have := Int.mul_le_mul_of_nonneg_right h hr
 unfold phi; omega
theorem phi_neg {l u r : Int} (h : l ≤ u) (hr : r ≤ 0) : phi l u r = l * r := by
 have := Int.mul_le_mul_of_nonpos_right h hr
 unfold phi; omega
theorem phi_add {l u p q a b : Int} (h : l ≤ u) (ha : 0 ≤ a) (hb : 0 ≤ b) (hs : (0 ≤ p ∧ 0 ≤ q) ∨ (p ≤ 0 ∧ q ≤ 0)) : phi l u (a * p + b * q) = a * phi l u p + b * phi l u q := by
 rcases hs with ⟨hp, hq⟩ | ⟨hp, hq⟩
 ·have := Int.mul_nonneg ha hp
  have := Int.mul_nonneg hb hq
  rw [phi_pos h hp, phi_pos h hq, phi_pos h (by omega)]; grind
 ·have := Int.mul_nonpos_of_nonneg_of_nonpos ha hp
  have := Int.mul_nonpos_of_nonneg_of_nonpos hb hq
  rw [phi_neg h hp, phi_neg h hq, phi_neg h (by omega)]; grind
theorem straight (hlu : ∀ j, j < T.n → T.l j ≤ T.u j) (kn kd : Int) : Straight T.rr (T.n + 1) (T.HH kn kd) := by
 constructor
 intro a b x y ha hb hs
 have e : sm (fun j => phi (T.l j) (T.u j) (T.yl (mix a b x y 0) (mix a b x y 1) (mix a b x y 2) j - mix a b x y 3 * T.c j)) T.n =
   a * sm (fun j => phi (T.l j) (T.u j) (T.yl (x 0) (x 1) (x 2) j - x 3 * T.c j)) T.n + b * sm (fun j => phi (T.l j) (T.u j) (T.yl (y 0) (y 1) (y 2) j - y 3 * T.c j)) T.n := by
  rw [← sm_mul, ← sm_mul, ← sm_add]
  refine sm_congr fun j hj => ?_
  have h1 := hs j (by omega)
  simp only [rr, if_pos hj] at h1
  rw [← phi_add (hlu j hj) ha hb h1]
  congr 1
  simp only [mix, yl]; grind
 unfold HH H
 rw [e]
 generalize sm (fun j => phi (T.l j) (T.u j) (T.yl (x 0) (x 1) (x 2) j - x 3 * T.c j)) T.n = S1
 generalize sm (fun j => phi (T.l j) (T.u j) (T.yl (y 0) (y 1) (y 2) j - y 3 * T.c j)) T.n = S2
 simp only [mix]; grind
theorem sq0 {a b c : Int} (h : a * a + b * b + c * c = 0) : a = 0 ∧ b = 0 ∧ c = 0 := by
 have sqn : ∀ x : Int, 0 ≤ x * x := fun x => by
  rcases Int.le_total 0 x with h | h
  ·exact Int.mul_nonneg h h
  ·exact Int.mul_nonneg_of_nonpos_of_nonpos h h
 have h1 := sqn a
 have h2 := sqn b
 have h3 := sqn c
 refine ⟨?_, ?_, ?_⟩
 ·exact (Int.mul_eq_zero.1 (by omega : a * a = 0)).elim id id
 ·exact (Int.mul_eq_zero.1 (by omega : b * b = 0)).elim id id
 ·exact (Int.mul_eq_zero.1 (by omega : c * c = 0)).elim id id
theorem span0 (hs : T.Span) {x0 x1 x2 : Int} (h : ∀ j, j < T.n → T.yl x0 x1 x2 j = 0) : x0 = 0 ∧ x1 = 0 ∧ x2 = 0 := by
 obtain ⟨e0, e1, e2, h0, h1, h2, a0, b0, b1, b2, c0, c1, c2⟩ := hs
 have g0 := h e0 h0
 have g1 := h e1 h1
 have g2 := h e2 h2
 unfold yl at g0 g1 g2
 rw [b0, b1, b2] at g1
 rw [c0, c1, c2] at g2
 obtain rfl : x1 = 0 := by omega
 obtain rfl : x2 = 0 := by omega
 rw [a0] at g0
 omega
def w4 (x0 x1 x2 x3 : Int) : W := fun i => if i = 0 then x0 else if i = 1 then x1 else if i = 2 then x2 else x3
theorem rays (hlu : ∀ j, j < T.n → T.l j ≤ T.u j) (hsp : T.Span) {kn kd : Int} {y0 y1 y2 s : Int} (hs : 0 ≤ s) (hv : 0 < kd * T.H y0 y1 y2 s - kn * s) :
  (∃ i k σ, i < T.n ∧ k < T.n ∧ (σ = 1 ∨ σ = -1) ∧ 0 < kd * T.H (σ * T.cx0 i k) (σ * T.cx1 i k) (σ * T.cx2 i k) 0) ∨
  (0 < s ∧ ∃ i j k σ, i < T.n ∧ j < T.n ∧ k < T.n ∧ (σ = 1 ∨ σ = -1) ∧ 0 < σ * T.dt i j k ∧ kn * (σ * T.dt i j k) < kd * T.H (σ * T.yv0 i j k) (σ * T.yv1 i j k) (σ * T.yv2 i j k) (σ * T.dt i j k)) := by
 obtain ⟨v, hv1, hz, hn, hr⟩ := ray (fun j => T.rr_lin j) (T.straight hlu kn kd) _ (w4 y0 y1 y2 s) rfl hv
 have hlast : ∀ x : W, T.rr T.n x = x 3 := fun x => if_neg (by omega)
 have hcol : ∀ j, j < T.n → ∀ x : W, T.rr j x = T.yl (x 0) (x 1) (x 2) j - x 3 * T.c j := fun j hj x => if_pos hj
 have hs3 : 0 ≤ v 3 := by
  have := hn T.n (by omega) (by rw [hlast]; exact hs)
  rwa [hlast] at this
 have hom : ∀ (k : Int) (x : W), 0 ≤ k → T.HH kn kd (mix k 0 x x) = k * T.HH kn kd x := fun k x hk => by
  rw [(T.straight hlu kn kd).add _ _ _ _ hk (Int.le_refl 0) fun j _ => by omega]; omega
 have hsame : ∀ x y : W, x 0 = y 0 → x 1 = y 1 → x 2 = y 2 → x 3 = y 3 → T.HH kn kd x = T.HH kn kd y := fun x y h0 h1 h2 h3 => by
  unfold HH; rw [h0, h1, h2, h3]
 rcases Int.lt_or_eq_of_le hs3 with h3 | h3
 ·-- three columns
  right
  have hs' : 0 < s := by
   rcases Int.lt_or_eq_of_le hs with h | h
   ·exact h
   ·have := hz T.n (by omega) (by rw [hlast]; exact h.symm)
    rw [hlast] at this
    omega
  refine ⟨hs', ?_⟩
  -- what is orthogonal to all that are tight is nothing
  have claim : ∀ d0 d1 d2 : Int, (∀ j, j < T.n → T.rr j v = 0 → T.yl d0 d1 d2 j = 0) → d0 = 0 ∧ d1 = 0 ∧ d2 = 0 := by
   intro d0 d1 d2 hd
   obtain ⟨p, q, hp, hpq⟩ := hr (w4 d0 d1 d2 0) (by
    intro j hj h
    rcases Nat.lt_or_ge j T.n with h1 | h1
    ·rw [hcol j h1]
     have := hd j h1 h
     show T.yl d0 d1 d2 j - 0 * T.c j = 0
     omega
    ·obtain rfl : j = T.n := by omega
     rw [hlast] at h; omega)
   have e1 := hpq T.n (by omega)
   rw [hlast, hlast] at e1
   have hq : q = 0 := by
    have e1 : p * 0 = q * v 3 := e1
    rw [Int.mul_zero] at e1
    rcases Int.mul_eq_zero.1 e1.symm with h | h
    ·exact h
    ·omega
   refine T.span0 hsp fun j hj => ?_
   have e2 := hpq j (by omega)
   rw [hq, hcol j hj] at e2
   have e2 : p * (T.yl d0 d1 d2 j - 0 * T.c j) = 0 * T.rr j v := e2
   rw [Int.zero_mul, Int.zero_mul, Int.sub_zero] at e2
   rcases Int.mul_eq_zero.1 e2 with h | h
   ·exact absurd h hp
   ·exact h
  -- a column
  have k1 : ∃ i, i < T.n ∧ T.rr i v = 0 ∧ ¬ (T.a i 0 = 0 ∧ T.a i 1 = 0 ∧ T.a i 2 = 0) := by
   apply Classical.byContradiction
   intro hno
   have := claim 1 0 0 fun j hj h => by
    have : T.a j 0 = 0 ∧ T.a j 1 = 0 ∧ T.a j 2 = 0 := Classical.byContradiction fun h1 => hno ⟨j, hj, h, h1⟩
    simp [yl, this]
   omega
  obtain ⟨i, hi, ti, ni⟩ := k1
  -- a second one
  have k2 : ∃ j, j < T.n ∧ T.rr j v = 0 ∧ ¬ (T.cx0 i j = 0 ∧ T.cx1 i j = 0 ∧ T.cx2 i j = 0) := by
   apply Classical.byContradiction
   intro hno
   have par : ∀ j, j < T.n → T.rr j v = 0 → T.cx0 i j = 0 ∧ T.cx1 i j = 0 ∧ T.cx2 i j = 0 := fun j hj h => Classical.byContradiction fun h1 => hno ⟨j, hj, h, h1⟩
   have c0 := claim 0 (T.a i 2) (- T.a i 1) fun j hj h => by
    obtain ⟨g0, g1, g2⟩ := par j hj h
    unfold cx0 at g0; unfold yl; grind
   have c1 := claim (- T.a i 2) 0 (T.a i 0) fun j hj h => by
    obtain ⟨g0, g1, g2⟩ := par j hj h
    unfold cx1 at g1; unfold yl; grind
   exact ni ⟨c1.2.2, by omega, c0.2.1⟩
  obtain ⟨j, hj, tj, nj⟩ := k2
  have k3 : ∃ k, k < T.n ∧ T.rr k v = 0 ∧ T.dt i j k ≠ 0 := by
   apply Classical.byContradiction
   intro hno
   refine nj (claim (T.cx0 i j) (T.cx1 i j) (T.cx2 i j) fun k hk h => ?_)
   have : T.dt i j k = 0 := Classical.byContradiction fun h1 => hno ⟨k, hk, h, h1⟩
   unfold dt cx0 cx1 cx2 at this
   unfold yl cx0 cx1 cx2
   grind
  obtain ⟨k, hk, tk, nk⟩ := k3
  rw [hcol _ hi] at ti
  rw [hcol _ hj] at tj
  rw [hcol _ hk] at tk
  -- Cramer
  have q0 : T.dt i j k * v 0 = v 3 * T.yv0 i j k := by unfold dt yv0 cx0 cx1 cx2; unfold yl at ti tj tk; grind
  have q1 : T.dt i j k * v 1 = v 3 * T.yv1 i j k := by unfold dt yv1 cx0 cx1 cx2; unfold yl at ti tj tk; grind
  have q2 : T.dt i j k * v 2 = v 3 * T.yv2 i j k := by unfold dt yv2 cx0 cx1 cx2; unfold yl at ti tj tk; grind
  have fin : ∀ σ : Int, (σ = 1 ∨ σ = -1) → 0 < σ * T.dt i j k → kn * (σ * T.dt i j k) < kd * T.H (σ * T.yv0 i j k) (σ * T.yv1 i j k) (σ * T.yv2 i j k) (σ * T.dt i j k) := by
   intro σ _ hd
   have e1 := hom (σ * T.dt i j k) v (by omega)
   have e2 := hom (v 3) (w4 (σ * T.yv0 i j k) (σ * T.yv1 i j k) (σ * T.yv2 i j k) (σ * T.dt i j k)) (by omega)
   have e3 : T.HH kn kd (mix (σ * T.dt i j k) 0 v v) = T.HH kn kd (mix (v 3) 0 (w4 (σ * T.yv0 i j k) (σ * T.yv1 i j k) (σ * T.yv2 i j k) (σ * T.dt i j k)) (w4 (σ * T.yv0 i j k) (σ * T.yv1 i j k) (σ * T.yv2 i j k) (σ * T.dt i j k))) := by
    apply hsame
    ·show σ * T.dt i j k * v 0 + 0 * v 0 = v 3 * (σ * T.yv0 i j k) + 0 * (σ * T.yv0 i j k)
     grind
    ·show σ * T.dt i j k * v 1 + 0 * v 1 = v 3 * (σ * T.yv1 i j k) + 0 * (σ * T.yv1 i j k)
     grind
    ·show σ * T.dt i j k * v 2 + 0 * v 2 = v 3 * (σ * T.yv2 i j k) + 0 * (σ * T.yv2 i j k)
     grind
    ·show σ * T.dt i j k * v 3 + 0 * v 3 = v 3 * (σ * T.dt i j k) + 0 * (σ * T.dt i j k)
     grind
   rw [e1, e2] at e3
   have p1 : 0 < σ * T.dt i j k * T.HH kn kd v := Int.mul_pos hd hv1
   rw [e3] at p1
   have p2 : 0 < T.HH kn kd (w4 (σ * T.yv0 i j k) (σ * T.yv1 i j k) (σ * T.yv2 i j k) (σ * T.dt i j k)) := by
    rcases Int.lt_or_le 0 (T.HH kn kd (w4 (σ * T.yv0 i j k) (σ * T.yv1 i j k) (σ * T.yv2 i j k) (σ * T.dt i j k))) with h | h
    ·exact h
    ·have := Int.mul_nonpos_of_nonneg_of_nonpos (Int.le_of_lt h3) h; omega
   have p3 : 0 < kd * T.H (σ * T.yv0 i j k) (σ * T.yv1 i j k) (σ * T.yv2 i j k) (σ * T.dt i j k) - kn * (σ * T.dt i j k) := p2
   omega
  rcases Int.lt_or_lt_of_ne nk with h | h
  ·exact ⟨i, j, k, -1, hi, hj, hk, .inr rfl, by omega, fin (-1) (.inr rfl) (by omega)⟩
  ·exact ⟨i, j, k, 1, hi, hj, hk, .inl rfl, by omega, fin 1 (.inl rfl) (by omega)⟩
 ·-- two columns
  left
  have h3 : v 3 = 0 := h3.symm
  have ny : ¬ (v 0 = 0 ∧ v 1 = 0 ∧ v 2 = 0) := by
   rintro ⟨g0, g1, g2⟩
   have e := hom 0 v (Int.le_refl 0)
   have e' : T.HH kn kd (mix 0 0 v v) = T.HH kn kd v := hsame _ _ (by show 0 * v 0 + 0 * v 0 = v 0; omega) (by show 0 * v 1 + 0 * v 1 = v 1; omega) (by show 0 * v 2 + 0 * v 2 = v 2; omega) (by show 0 * v 3 + 0 * v 3 = v 3; omega)
   rw [e] at e'; omega
  have claim : ∀ d0 d1 d2 : Int, (∀ j, j < T.n → T.rr j v = 0 → T.yl d0 d1 d2 j = 0) → d0 * v 0 + d1 * v 1 + d2 * v 2 = 0 → d0 = 0 ∧ d1 = 0 ∧ d2 = 0 := by
   intro d0 d1 d2 hd ho
   obtain ⟨p, q, hp, hpq⟩ := hr (w4 d0 d1 d2 0) (by
    intro j hj h
    rcases Nat.lt_or_ge j T.n with h1 | h1
    ·rw [hcol j h1]
     have := hd j h1 h
     show T.yl d0 d1 d2 j - 0 * T.c j = 0
     omega
    ·obtain rfl : j = T.n := by omega
     rw [hlast]; rfl)
   have g := T.span0 hsp (x0 := p * d0 - q * v 0) (x1 := p * d1 - q * v 1) (x2 := p * d2 - q * v 2) fun j hj => by
    have e2 := hpq j (by omega)
    rw [hcol j hj, hcol j hj, h3] at e2
    have e2 : p * (T.yl d0 d1 d2 j - 0 * T.c j) = q * (T.yl (v 0) (v 1) (v 2) j - 0 * T.c j) := e2
    unfold yl at e2 ⊢
    grind
   obtain ⟨g0, g1, g2⟩ := g
   have : p * (d0 * d0 + d1 * d1 + d2 * d2) = 0 := by grind
   rcases Int.mul_eq_zero.1 this with h | h
   ·exact absurd h hp
   ·exact sq0 h
  have k1 : ∃ i, i < T.n ∧ T.rr i v = 0 ∧ ¬ (T.a i 0 = 0 ∧ T.a i 1 = 0 ∧ T.a i 2 = 0) := by
   apply Classical.byContradiction
   intro hno
   have nul : ∀ j, j < T.n → T.rr j v = 0 → T.a j 0 = 0 ∧ T.a j 1 = 0 ∧ T.a j 2 = 0 := fun j hj h => Classical.byContradiction fun h1 => hno ⟨j, hj, h, h1⟩
   have c0 := claim 0 (v 2) (- v 1) (fun j hj h => by simp [yl, nul j hj h]) (by grind)
   have c1 := claim (- v 2) 0 (v 0) (fun j hj h => by simp [yl, nul j hj h]) (by grind)
   exact ny ⟨c1.2.2, by omega, c0.2.1⟩
  obtain ⟨i, hi, ti, ni⟩ := k1
  have ti' := ti
  rw [hcol _ hi, h3] at ti'
  have k2 : ∃ j, j < T.n ∧ T.rr j v = 0 ∧ ¬ (T.cx0 i j = 0 ∧ T.cx1 i j = 0 ∧ T.cx2 i j = 0) := by
   apply Classical.byContradiction
   intro hno
   have par : ∀ j, j < T.n → T.rr j v = 0 → T.cx0 i j = 0 ∧ T.cx1 i j = 0 ∧ T.cx2 i j = 0 := fun j hj h => Classical.byContradiction fun h1 => hno ⟨j, hj, h, h1⟩
   have c := claim (T.a i 1 * v 2 - T.a i 2 * v 1) (T.a i 2 * v 0 - T.a i 0 * v 2) (T.a i 0 * v 1 - T.a i 1 * v 0) (fun j hj h => by
    obtain ⟨g0, g1, g2⟩ := par j hj h
    unfold cx0 at g0; unfold cx1 at g1; unfold cx2 at g2; unfold yl; grind) (by grind)
   obtain ⟨g0, g1, g2⟩ := c
   unfold yl at ti'
   have : (T.a i 0 * T.a i 0 + T.a i 1 * T.a i 1 + T.a i 2 * T.a i 2) * (v 0 * v 0 + v 1 * v 1 + v 2 * v 2) = 0 := by grind
   rcases Int.mul_eq_zero.1 this with h | h
   ·exact ni (sq0 h)
   ·exact ny (sq0 h)
  obtain ⟨k, hk, tk, nk⟩ := k2
  rw [hcol _ hk, h3] at tk
  unfold yl at ti' tk
  let C := T.cx0 i k * T.cx0 i k + T.cx1 i k * T.cx1 i k + T.cx2 i k * T.cx2 i k
  let e := v 0 * T.cx0 i k + v 1 * T.cx1 i k + v 2 * T.cx2 i k
  have q0 : C * v 0 = e * T.cx0 i k := by
   show (T.cx0 i k * T.cx0 i k + T.cx1 i k * T.cx1 i k + T.cx2 i k * T.cx2 i k) * v 0 = (v 0 * T.cx0 i k + v 1 * T.cx1 i k + v 2 * T.cx2 i k) * T.cx0 i k
   unfold cx0 cx1 cx2; grind
  have q1 : C * v 1 = e * T.cx1 i k := by
   show (T.cx0 i k * T.cx0 i k + T.cx1 i k * T.cx1 i k + T.cx2 i k * T.cx2 i k) * v 1 = (v 0 * T.cx0 i k + v 1 * T.cx1 i k + v 2 * T.cx2 i k) * T.cx1 i k
   unfold cx0 cx1 cx2; grind
  have q2 : C * v 2 = e * T.cx2 i k := by
   show (T.cx0 i k * T.cx0 i k + T.cx1 i k * T.cx1 i k + T.cx2 i k * T.cx2 i k) * v 2 = (v 0 * T.cx0 i k + v 1 * T.cx1 i k + v 2 * T.cx2 i k) * T.cx2 i k
   unfold cx0 cx1 cx2; grind
  have hC : 0 < C := by
   have sqn : ∀ x : Int, 0 ≤ x * x := fun x => by
    rcases Int.le_total 0 x with h | h
    ·exact Int.mul_nonneg h h
    ·exact Int.mul_nonneg_of_nonpos_of_nonpos h h
   have h1 := sqn (T.cx0 i k)
   have h2 := sqn (T.cx1 i k)
   have h4 := sqn (T.cx2 i k)
   have hne : C ≠ 0 := fun h => nk (sq0 h)
   have : 0 ≤ C := by show 0 ≤ T.cx0 i k * T.cx0 i k + T.cx1 i k * T.cx1 i k + T.cx2 i k * T.cx2 i k; omega
   omega
  have fin : ∀ σ : Int, 0 < σ * e → σ * σ = 1 → 0 < kd * T.H (σ * T.cx0 i k) (σ * T.cx1 i k) (σ * T.cx2 i k) 0 := by
   intro σ he hσ
   have e1 := hom C v (by omega)
   have e2 := hom (σ * e) (w4 (σ * T.cx0 i k) (σ * T.cx1 i k) (σ * T.cx2 i k) 0) (by omega)
   have e3 : T.HH kn kd (mix C 0 v v) = T.HH kn kd (mix (σ * e) 0 (w4 (σ * T.cx0 i k) (σ * T.cx1 i k) (σ * T.cx2 i k) 0) (w4 (σ * T.cx0 i k) (σ * T.cx1 i k) (σ * T.cx2 i k) 0)) := by
    apply hsame
    ·show C * v 0 + 0 * v 0 = σ * e * (σ * T.cx0 i k) + 0 * (σ * T.cx0 i k)
     rw [q0]; grind
    ·show C * v 1 + 0 * v 1 = σ * e * (σ * T.cx1 i k) + 0 * (σ * T.cx1 i k)
     rw [q1]; grind
    ·show C * v 2 + 0 * v 2 = σ * e * (σ * T.cx2 i k) + 0 * (σ * T.cx2 i k)
     rw [q2]; grind
    ·show C * v 3 + 0 * v 3 = σ * e * 0 + 0 * 0
     rw [h3]; omega
   rw [e1, e2] at e3
   have p1 : 0 < C * T.HH kn kd v := Int.mul_pos hC hv1
   rw [e3] at p1
   have p2 : 0 < T.HH kn kd (w4 (σ * T.cx0 i k) (σ * T.cx1 i k) (σ * T.cx2 i k) 0) := by
    rcases Int.lt_or_le 0 (T.HH kn kd (w4 (σ * T.cx0 i k) (σ * T.cx1 i k) (σ * T.cx2 i k) 0)) with h | h
    ·exact h
    ·have := Int.mul_nonpos_of_nonneg_of_nonpos (Int.le_of_lt he) h; omega
   have p3 : 0 < kd * T.H (σ * T.cx0 i k) (σ * T.cx1 i k) (σ * T.cx2 i k) 0 - kn * 0 := p2
   omega
  have hne : e ≠ 0 := by
   intro h
   have z : ∀ x : Int, C * x = 0 → x = 0 := fun x hx => by
    rcases Int.mul_eq_zero.1 hx with h' | h'
    ·omega
    ·exact h'
   rw [h] at q0 q1 q2
   exact ny ⟨z _ (by rw [q0]; omega), z _ (by rw [q1]; omega), z _ (by rw [q2]; omega)⟩
  rcases Int.lt_or_lt_of_ne hne with h | h
  ·exact ⟨i, k, -1, hi, hk, .inr rfl, fin (-1) (by omega) rfl⟩
  ·exact ⟨i, k, 1, hi, hk, .inl rfl, fin 1 (by omega) rfl⟩
end Lp
namespace Lp
variable (T : Lp)
def Ins (D : Int) (X : Nat → Int) (j : Nat) : Prop := D * T.l j < X j ∧ X j < D * T.u j
open Classical in
noncomputable def cin (D : Int) (X : Nat → Int) : Nat → Nat
 | 0 => 0
 | m + 1 => cin D X m + if T.Ins D X m then 1 else 0
theorem cin_le {D D' : Int} {X X' : Nat → Int} : ∀ {m : Nat}, (∀ j, j < m → T.Ins D' X' j → T.Ins D X j) → T.cin D' X' m ≤ T.cin D X m
 | 0, _ => Nat.le_refl _
 | m + 1, h => by
  have := cin_le (m := m) fun j hj => h j (by omega)
  have h1 := h m (by omega)
  simp only [cin]
  by_cases e : T.Ins D' X' m
  ·rw [if_pos e, if_pos (h1 e)]; omega
  ·rw [if_neg e]; split <;> omega
theorem cin_lt {D D' : Int} {X X' : Nat → Int} {i : Nat} : ∀ {m : Nat}, (∀ j, j < m → T.Ins D' X' j → T.Ins D X j) → i < m → T.Ins D X i → ¬ T.Ins D' X' i → T.cin D' X' m < T.cin D X m
 | m + 1, h, hi, h1, h2 => by
  simp only [cin]
  have h3 := T.cin_le (m := m) fun j hj => h j (by omega)
  rcases Nat.lt_or_ge i m with h4 | h4
  ·have := cin_lt (m := m) (fun j hj => h j (by omega)) h4 h1 h2
   have h5 := h m (by omega)
   by_cases e : T.Ins D' X' m
   ·rw [if_pos e, if_pos (h5 e)]; omega
   ·rw [if_neg e]; split <;> omega
  ·obtain rfl : i = m := by omega
   rw [if_pos h1, if_neg h2]; omega
def Dep (D : Int) (X : Nat → Int) (d : Nat → Int) : Prop := (∀ j, j < T.n → d j ≠ 0 → T.Ins D X j) ∧ ∀ i, i < 3 → sm (fun j => d j * T.a j i) T.n = 0
theorem corner_of {kn kd : Int} (hkd : 0 ≤ kd) : ∀ (N : Nat) (D : Int) (X : Nat → Int), T.cin D X T.n = N → T.Plan D X → kd * T.cost X ≤ D * kn →
  ∃ D' X', T.Plan D' X' ∧ kd * T.cost X' ≤ D' * kn ∧ ∀ d, T.Dep D' X' d → ∀ j, j < T.n → d j = 0 := by
 intro N
 induction N using Nat.strongRecOn with
 | ind N ih =>
 intro D X hN hP hc
 by_cases hcase : ∀ d, T.Dep D X d → ∀ j, j < T.n → d j = 0
 ·exact ⟨D, X, hP, hc, hcase⟩
 ·have hex : ∃ d, T.Dep D X d ∧ (∃ j, j < T.n ∧ d j ≠ 0) ∧ sm (fun j => d j * T.c j) T.n ≤ 0 := by
   simp only [Classical.not_forall] at hcase
   obtain ⟨d, hd, j, hj, hne⟩ := hcase
   rcases Int.le_total (sm (fun j => d j * T.c j) T.n) 0 with h | h
   ·exact ⟨d, hd, ⟨j, hj, hne⟩, h⟩
   ·refine ⟨fun t => - d t, ⟨fun j hj h => hd.1 j hj (by have h : - d j ≠ 0 := h; omega), fun i hi => ?_⟩, ⟨j, hj, by show - d j ≠ 0; omega⟩, ?_⟩
    ·have := hd.2 i hi
     rw [sm_congr (g := fun j => -1 * (d j * T.a j i)) (fun j _ => by grind), sm_mul, this]; omega
    ·rw [sm_congr (g := fun j => -1 * (d j * T.c j)) (fun j _ => by grind), sm_mul]; omega
  obtain ⟨d, ⟨hdi, hde⟩, ⟨j0, hj0, hn0⟩, hdc⟩ := hex
  obtain ⟨hD, hb, he⟩ := hP
  let room : Nat → Int := fun j => if 0 < d j then D * T.u j - X j else X j - D * T.l j
  let q : Nat → Int := fun j => if 0 < d j then d j else - d j
  have hq0 : ∀ j, d j ≠ 0 → 0 < q j := fun j h => by
   show 0 < if 0 < d j then d j else - d j
   split <;> omega
  have hqn : ∀ j, 0 < q j → d j ≠ 0 := fun j h h0 => by
   have h : 0 < if 0 < d j then d j else - d j := h
   rw [h0] at h; simp at h
  obtain ⟨i, hi, hqi, hmin⟩ := least room q T.n ⟨j0, hj0, hq0 j0 hn0⟩
  have hdi0 := hqn i hqi
  have hroom : 0 < room i := by
   have := hdi i hi hdi0
   unfold Ins at this
   show 0 < if 0 < d i then D * T.u i - X i else X i - D * T.l i
   split <;> omega
  have hD' : 0 < q i * D := Int.mul_pos hqi hD
  have dpos : ∀ j, 0 < d j → room j = D * T.u j - X j ∧ q j = d j := fun j h => ⟨if_pos h, if_pos h⟩
  have dneg : ∀ j, d j < 0 → room j = X j - D * T.l j ∧ q j = - d j := fun j h => ⟨if_neg (by omega), if_neg (by omega)⟩
  have hsum : ∀ f : Nat → Int, sm (fun j => (q i * X j + room i * d j) * f j) T.n = q i * sm (fun j => X j * f j) T.n + room i * sm (fun j => d j * f j) T.n := fun f => by
   rw [← sm_mul, ← sm_mul, ← sm_add]; exact sm_congr fun j _ => by grind
  have hbnd : ∀ j, j < T.n → q i * D * T.l j ≤ q i * X j + room i * d j ∧ q i * X j + room i * d j ≤ q i * D * T.u j := by
   intro j hj
   have hl : q i * (D * T.l j) ≤ q i * X j := Int.mul_le_mul_of_nonneg_left (hb j hj).1 (by omega)
   have hu : q i * X j ≤ q i * (D * T.u j) := Int.mul_le_mul_of_nonneg_left (hb j hj).2 (by omega)
   rw [← Int.mul_assoc] at hl hu
   rcases Int.lt_trichotomy (d j) 0 with h | h | h
   ·have hm := hmin j hj (hq0 j (by omega))
    rw [(dneg j h).1, (dneg j h).2] at hm
    have e1 : room i * -d j = - (room i * d j) := by grind
    have e2 : (X j - D * T.l j) * q i = q i * X j - q i * D * T.l j := by grind
    have e3 : room i * d j ≤ 0 := Int.mul_nonpos_of_nonneg_of_nonpos (by omega) (by omega)
    omega
   ·rw [h]; omega
   ·have hm := hmin j hj (hq0 j (by omega))
    rw [(dpos j h).1, (dpos j h).2] at hm
    have e2 : (D * T.u j - X j) * q i = q i * D * T.u j - q i * X j := by grind
    have e3 : 0 ≤ room i * d j := Int.mul_nonneg (by omega) (by omega)
    omega
  have hins : ∀ j, j < T.n → T.Ins (q i * D) (fun j => q i * X j + room i * d j) j → T.Ins D X j := by
   intro j hj hI
   by_cases h : d j = 0
   ·obtain ⟨g1, g2⟩ := hI
    simp only [h] at g1 g2
    rw [Int.mul_assoc] at g1 g2
    exact ⟨Int.lt_of_mul_lt_mul_left (a := q i) (by omega) (by omega), Int.lt_of_mul_lt_mul_left (a := q i) (by omega) (by omega)⟩
   ·exact hdi j hj h
  have hni : ¬ T.Ins (q i * D) (fun j => q i * X j + room i * d j) i := by
   rintro ⟨g1, g2⟩
   have g1 : q i * D * T.l i < q i * X i + room i * d i := g1
   have g2 : q i * X i + room i * d i < q i * D * T.u i := g2
   rcases Int.lt_or_lt_of_ne hdi0 with h | h
   ·rw [(dneg i h).1, (dneg i h).2] at g1
    have : - d i * X i + (X i - D * T.l i) * d i = - d i * D * T.l i := by grind
    omega
   ·rw [(dpos i h).1, (dpos i h).2] at g2
    have : d i * X i + (D * T.u i - X i) * d i = d i * D * T.u i := by grind
    omega
  refine ih _ ?_ (q i * D) (fun j => q i * X j + room i * d j) rfl ⟨hD', hbnd, fun i' hi' => ?_⟩ ?_
  ·rw [← hN]; exact T.cin_lt hins hi (hdi i hi hdi0) hni
  ·rw [hsum, he i' hi', hde i' hi', Int.mul_zero, Int.add_zero, Int.mul_assoc]
  ·have e : T.cost (fun j => q i * X j + room i * d j) = q i * T.cost X + room i * sm (fun j => d j * T.c j) T.n := hsum T.c
   rw [e]
   have a1 : q i * (kd * T.cost X) ≤ q i * (D * kn) := Int.mul_le_mul_of_nonneg_left hc (by omega)
   have a2 : kd * (room i * sm (fun j => d j * T.c j) T.n) ≤ 0 := Int.mul_nonpos_of_nonneg_of_nonpos hkd (Int.mul_nonpos_of_nonneg_of_nonpos (by omega) hdc)
   have e1 : kd * (q i * T.cost X + room i * sm (fun j => d j * T.c j) T.n) = q i * (kd * T.cost X) + kd * (room i * sm (fun j => d j * T.c j) T.n) := by grind
   have e2 : q i * D * kn = q i * (D * kn) := by grind
   omega
def dl (k : Nat) : Nat → Int := fun j => if j = k then 1 else 0
theorem dl_self (k : Nat) : dl k k = 1 := if_pos rfl
theorem dl_ne {j k : Nat} (h : j ≠ k) : dl k j = 0 := if_neg h
theorem sm_dl {k n : Nat} (hk : k < n) (α : Int) (f : Nat → Int) : sm (fun j => α * dl k j * f j) n = α * f k := by
 rw [sm_one hk fun j _ hne => by rw [dl_ne hne]; simp]
 rw [dl_self]; grind
theorem dep4 {D : Int} {X : Nat → Int} (hind : ∀ d, T.Dep D X d → ∀ j, j < T.n → d j = 0) {i j k m : Nat} {p q r s : Int} (hi : i < T.n) (hj : j < T.n) (hk : k < T.n) (hm : m < T.n)
  (Ii : T.Ins D X i) (Ij : T.Ins D X j) (Ik : T.Ins D X k) (Im : T.Ins D X m) (h : ∀ c, c < 3 → p * T.a i c + q * T.a j c + r * T.a k c + s * T.a m c = 0) :
  ∀ t, t < T.n → p * dl i t + q * dl j t + r * dl k t + s * dl m t = 0 := by
 refine hind (fun t => p * dl i t + q * dl j t + r * dl k t + s * dl m t) ⟨fun t ht hne => ?_, fun c hc => ?_⟩
 ·have hne : p * dl i t + q * dl j t + r * dl k t + s * dl m t ≠ 0 := hne
  by_cases e1 : t = i
  ·exact e1 ▸ Ii
  by_cases e2 : t = j
  ·exact e2 ▸ Ij
  by_cases e3 : t = k
  ·exact e3 ▸ Ik
  by_cases e4 : t = m
  ·exact e4 ▸ Im
  rw [dl_ne e1, dl_ne e2, dl_ne e3, dl_ne e4] at hne
  omega
 ·rw [sm_congr (g := fun t => p * dl i t * T.a t c + q * dl j t * T.a t c + r * dl k t * T.a t c + s * dl m t * T.a t c) (fun t _ => by grind), sm_add, sm_add, sm_add]
  rw [sm_dl hi p fun t => T.a t c, sm_dl hj q fun t => T.a t c, sm_dl hk r fun t => T.a t c, sm_dl hm s fun t => T.a t c]
  exact h c hc
theorem basis_of (hsp : T.Span) {D : Int} {X : Nat → Int} (hind : ∀ d, T.Dep D X d → ∀ j, j < T.n → d j = 0) :
  ∃ i j k, i < T.n ∧ j < T.n ∧ k < T.n ∧ T.dt i j k ≠ 0 ∧ ∀ t, t < T.n → T.Ins D X t → t = i ∨ t = j ∨ t = k := by
 obtain ⟨e0, e1, e2, h0, h1, h2, a0, b0, b1, b2, c0, c1, c2⟩ := hsp
 have c3 : ∀ {P : Nat → Prop}, P 0 → P 1 → P 2 → ∀ c, c < 3 → P c := fun p0 p1 p2 c hc => by
  rcases (by omega : c = 0 ∨ c = 1 ∨ c = 2) with rfl | rfl | rfl
  ·exact p0
  ·exact p1
  ·exact p2
 by_cases n1 : ∃ i, i < T.n ∧ T.Ins D X i
 ·obtain ⟨i, hi, Ii⟩ := n1
  have ni : ¬ (T.a i 0 = 0 ∧ T.a i 1 = 0 ∧ T.a i 2 = 0) := by
   rintro ⟨z0, z1, z2⟩
   have := T.dep4 hind (p := 1) (q := 0) (r := 0) (s := 0) hi hi hi hi Ii Ii Ii Ii (c3 (by omega) (by omega) (by omega)) i hi
   rw [dl_self] at this; omega
  by_cases n2 : ∃ j, j < T.n ∧ T.Ins D X j ∧ j ≠ i
  ·obtain ⟨j, hj, Ij, hji⟩ := n2
   have nj : ¬ (T.cx0 i j = 0 ∧ T.cx1 i j = 0 ∧ T.cx2 i j = 0) := by
    rintro ⟨z0, z1, z2⟩
    unfold cx0 at z0
    unfold cx1 at z1
    unfold cx2 at z2
    have key : ∀ c, c < 3 → T.a i c = 0 := fun c hc => by
     have := T.dep4 hind (p := T.a j c) (q := - T.a i c) (r := 0) (s := 0) hi hj hj hj Ii Ij Ij Ij (c3 (by
      revert hc; revert c; exact c3 (by grind) (by grind) (by grind)) (by
      revert hc; revert c; exact c3 (by grind) (by grind) (by grind)) (by
      revert hc; revert c; exact c3 (by grind) (by grind) (by grind))) j hj
     rw [dl_self, dl_ne hji] at this
     omega
    exact ni ⟨key 0 (by omega), key 1 (by omega), key 2 (by omega)⟩
   by_cases n3 : ∃ k, k < T.n ∧ T.Ins D X k ∧ k ≠ i ∧ k ≠ j
   ·obtain ⟨k, hk, Ik, hki, hkj⟩ := n3
    have nk : T.dt i j k ≠ 0 := by
     intro hz
     unfold dt cx0 cx1 cx2 at hz
     have key : ∀ w0 w1 w2 : Int, w0 * T.cx0 i j + w1 * T.cx1 i j + w2 * T.cx2 i j = 0 := fun w0 w1 w2 => by
      have := T.dep4 hind (p := w0 * T.cx0 j k + w1 * T.cx1 j k + w2 * T.cx2 j k) (q := w0 * T.cx0 k i + w1 * T.cx1 k i + w2 * T.cx2 k i) (r := w0 * T.cx0 i j + w1 * T.cx1 i j + w2 * T.cx2 i j) (s := 0) hi hj hk hk Ii Ij Ik Ik
       (c3 (by unfold cx0 cx1 cx2; grind) (by unfold cx0 cx1 cx2; grind) (by unfold cx0 cx1 cx2; grind)) k hk
      rw [dl_self, dl_ne hki, dl_ne hkj] at this
      omega
     have g0 := key 1 0 0
     have g1 := key 0 1 0
     have g2 := key 0 0 1
     exact nj ⟨by omega, by omega, by omega⟩
    refine ⟨i, j, k, hi, hj, hk, nk, fun t ht It => Classical.byContradiction fun hno => ?_⟩
    simp only [not_or] at hno
    have := T.dep4 hind (p := T.a t 0 * T.cx0 j k + T.a t 1 * T.cx1 j k + T.a t 2 * T.cx2 j k) (q := T.a t 0 * T.cx0 k i + T.a t 1 * T.cx1 k i + T.a t 2 * T.cx2 k i) (r := T.a t 0 * T.cx0 i j + T.a t 1 * T.cx1 i j + T.a t 2 * T.cx2 i j) (s := - T.dt i j k) hi hj hk ht Ii Ij Ik It
     (c3 (by unfold dt cx0 cx1 cx2; grind) (by unfold dt cx0 cx1 cx2; grind) (by unfold dt cx0 cx1 cx2; grind)) t ht
    rw [dl_self, dl_ne hno.1, dl_ne hno.2.1, dl_ne hno.2.2] at this
    omega
   ·have hall : ∀ t, t < T.n → T.Ins D X t → t = i ∨ t = j := fun t ht It => Classical.byContradiction fun h => n3 ⟨t, ht, It, fun e => h (.inl e), fun e => h (.inr e)⟩
    by_cases d1 : T.dt i j e1 = 0
    ·by_cases d2 : T.dt i j e2 = 0
     ·refine ⟨i, j, e0, hi, hj, h0, fun d0 => ?_, fun t ht It => (hall t ht It).elim .inl fun h => .inr (.inl h)⟩
      unfold dt cx0 cx1 cx2 at d0 d1 d2
      unfold cx0 cx1 cx2 at nj
      rw [b0, b1, b2] at d1
      rw [c0, c1, c2] at d2
      rw [a0] at d0
      have q2 : T.a i 0 * T.a j 1 - T.a i 1 * T.a j 0 = 0 := by grind
      have q1 : T.a i 2 * T.a j 0 - T.a i 0 * T.a j 2 = 0 := by grind
      exact nj ⟨by grind, q1, q2⟩
     ·exact ⟨i, j, e2, hi, hj, h2, d2, fun t ht It => (hall t ht It).elim .inl fun h => .inr (.inl h)⟩
    ·exact ⟨i, j, e1, hi, hj, h1, d1, fun t ht It => (hall t ht It).elim .inl fun h => .inr (.inl h)⟩
  ·have hall : ∀ t, t < T.n → T.Ins D X t → t = i := fun t ht It => Classical.byContradiction fun h => n2 ⟨t, ht, It, h⟩
   by_cases d1 : T.dt i e1 e2 = 0
   ·by_cases d2 : T.dt i e0 e1 = 0
    ·refine ⟨i, e0, e2, hi, h0, h2, fun d0 => ?_, fun t ht It => .inl (hall t ht It)⟩
     unfold dt cx0 cx1 cx2 at d0 d1 d2
     rw [b0, b1, b2, c0, c1, c2] at d1
     rw [a0, b0, b1, b2] at d2
     rw [a0, c0, c1, c2] at d0
     have z0 : T.a i 0 = 0 := by grind
     have z1 : T.a i 1 = 0 := by rw [z0] at d0; grind
     have z2 : T.a i 2 = 0 := by rw [z0] at d2; grind
     exact ni ⟨z0, z1, z2⟩
    ·exact ⟨i, e0, e1, hi, h0, h1, d2, fun t ht It => .inl (hall t ht It)⟩
   ·exact ⟨i, e1, e2, hi, h1, h2, d1, fun t ht It => .inl (hall t ht It)⟩
 ·refine ⟨e0, e1, e2, h0, h1, h2, ?_, fun t ht It => absurd ⟨t, ht, It⟩ n1⟩
  unfold dt cx0 cx1 cx2
  rw [a0, b0, b1, b2, c0, c1, c2]
  omega
end Lp
end Lin
end Go.Proofs.Ytmndejpcpfkajaa
