/-
  The way with the least minutes: the search as a whole. Conditions: none.
-/
import Derived.Test.YtlaogoojkfjgoaaTFCharts
import Derived.Test.YtlaogoojkfjgoaaTPLoop
import Derived.Test.YtlaogoojkfjgoaaTPAng
import Derived.Test.YtlaogoojkfjgoaaTPChart
import Derived.Test.YtlaogoojkfjgoaaTPFlat
import Derived.Test.YtlaogoojkfjgoaaTPWay
import Derived.Test.YtlaogoojkfjgoaaT1
import Derived.Test.YtlaogoojkfjgoaaT2
import Derived.Test.YtlaogoojkfjgoaaT3
namespace Go.Proofs.Ytlaogoojkfjgoaa
open Go Go.Sy
set_option linter.unusedVariables false
set_option linter.unusedSimpArgs false
set_option maxRecDepth 100000
section
variable {n : Nat} {d' : Dat} {src : Nat}
/-- How many places are not known. -/
def unk (D : Dat) : Nat → Nat
  | 0 => 0
  | k + 1 => unk D k + (if knD D k = true then 0 else 1)
theorem unk_mark {D E : Dat} {b : Nat} (h : ∀ q, knD E q = if q = b then true else knD D q) (hb : knD D b = false) : ∀ K, (b < K → unk E K + 1 = unk D K) ∧ (K ≤ b → unk E K = unk D K)
  | 0 => ⟨fun h => absurd h (Nat.not_lt_zero b), fun _ => rfl⟩
  | K + 1 => by
    obtain ⟨h1, h2⟩ := unk_mark h hb K
    refine ⟨fun hk => ?_, fun hk => ?_⟩
    · by_cases e : b = K
      · subst e
        have := h2 (Nat.le_refl _)
        simp only [unk, h b, if_true, hb]
        simp
        omega
      · have := h1 (by omega)
        have e2 : knD E K = knD D K := by rw [h K, if_neg (fun x => e x.symm)]
        simp only [unk, e2]
        omega
    · have := h2 (by omega)
      have e2 : knD E K = knD D K := by rw [h K, if_neg (by omega)]
      simp only [unk, e2]
      omega
structure Inv (n : Nat) (d' : Dat) (src c : Nat) (rk : Nat → Nat) (D : Dat) : Prop where
  ks : ∀ q, q < n → knD D q = true → snD D q = true
  s0 : snD D src = true
  s1 : dsD D src = 0
  tri : ∀ i k, i < n → k < n → knD D i = true → 0 ≤ mn d' i k → snD D k = true ∧ dsD D k ≤ dsD D i + mn d' i k
  ord : ∀ i k, i < n → k < n → knD D i = true → snD D k = true → knD D k = false → dsD D i ≤ dsD D k
  lo : ∀ q, q < n → snD D q = true → 0 ≤ dsD D q
  hi : ∀ q, q < n → snD D q = true → dsD D q ≤ 10000 * (c : Int)
  by_ : ∀ q, q < n → snD D q = true → (byD D q = -1 ∧ q = src ∧ dsD D q = 0) ∨ ∃ j : Nat, byD D q = (j : Int) ∧ j < n ∧ knD D j = true ∧ 0 ≤ mn d' j q ∧ dsD D q = dsD D j + mn d' j q ∧ (knD D q = true → rk j < rk q)
  rkb : ∀ q, q < n → knD D q = true → rk q < c
  cnt : c + unk D n = n
theorem inv_step {c b : Nat} {rk : Nat → Nat} {D E : Dat} (C : Cht n n d') (I : Inv n d' src c rk D) (hs : src < n) (hb : b < n) (hc : Cand D b) (hmin : ∀ q, q < n → Cand D q → dsD D b ≤ dsD D q) (R : Rlx n d' b n (D.upd b 3 [SV.bool true]) E) :
    Inv n d' src (c + 1) (fun q => if q = b then c else rk q) E ∧ unk E n + 1 = unk D n := by
  obtain ⟨b1, b2⟩ := hc
  obtain ⟨q1, q2, q3, q4⟩ := mark_same D b
  have oth : ∀ q, q ≠ b → byD (D.upd b 3 [SV.bool true]) q = byD D q ∧ dsD (D.upd b 3 [SV.bool true]) q = dsD D q ∧ snD (D.upd b 3 [SV.bool true]) q = snD D q ∧ knD (D.upd b 3 [SV.bool true]) q = knD D q := fun q h => put_other D h 3 _
  -- marking keeps all but what is known
  have mB : ∀ q, byD (D.upd b 3 [SV.bool true]) q = byD D q := fun q => by
    by_cases h : q = b
    · subst h; exact q1
    · exact (oth q h).1
  have mD : ∀ q, dsD (D.upd b 3 [SV.bool true]) q = dsD D q := fun q => by
    by_cases h : q = b
    · subst h; exact q2
    · exact (oth q h).2.1
  have mS : ∀ q, snD (D.upd b 3 [SV.bool true]) q = snD D q := fun q => by
    by_cases h : q = b
    · subst h; exact q3
    · exact (oth q h).2.2.1
  have kE : ∀ q, knD E q = if q = b then true else knD D q := fun q => by
    rw [R.kn q]
    by_cases h : q = b
    · subst h; rw [if_pos rfl]; exact q4
    · rw [if_neg h]; exact (oth q h).2.2.2
  have kOf : ∀ q, knD E q = true → q = b ∨ (q ≠ b ∧ knD D q = true) := fun q h => by
    rw [kE q] at h
    by_cases e : q = b
    · exact .inl e
    · rw [if_neg e] at h; exact .inr ⟨e, h⟩
  have oldB : dsD E b = dsD D b ∧ snD E b = true ∧ byD E b = byD D b := by
    obtain ⟨x, y, z⟩ := R.old b q4
    exact ⟨x.trans (mD b), (y.trans (mS b)).trans b1, z.trans (mB b)⟩
  have oldK : ∀ q, knD D q = true → dsD E q = dsD D q ∧ snD E q = snD D q ∧ byD E q = byD D q := fun q h => by
    have hq : q ≠ b := fun e => by subst e; rw [b2] at h; cases h
    obtain ⟨x, y, z⟩ := R.old q (by rw [(oth q hq).2.2.2]; exact h)
    exact ⟨x.trans (mD q), y.trans (mS q), z.trans (mB q)⟩
  have mono : ∀ q, snD D q = true → snD E q = true ∧ dsD E q ≤ dsD D q := fun q h => by
    obtain ⟨x, y⟩ := R.mono q (by rw [mS q]; exact h)
    exact ⟨x, by rw [mD q] at y; exact y⟩
  have ways : ∀ q, snD E q = true → (snD D q = true ∧ dsD E q = dsD D q ∧ byD E q = byD D q) ∨ (q < n ∧ knD E q = false ∧ q ≠ b ∧ knD D q = false ∧ 0 ≤ mn d' b q ∧ dsD E q = dsD D b + mn d' b q ∧ byD E q = (b : Int)) := fun q h => by
    rcases R.ways q h with ⟨x, y, z⟩ | ⟨x, y, z, u, v⟩
    · exact .inl ⟨by rw [mS q] at x; exact x, y.trans (mD q), z.trans (mB q)⟩
    · have hq : q ≠ b := fun e => by subst e; rw [q4] at y; cases y
      exact .inr ⟨x, by rw [R.kn q]; exact y, hq, by rw [(oth q hq).2.2.2] at y; exact y, z, by rw [u, mD b], v⟩
  have hbd := I.hi b hb b1
  have hb0 := I.lo b hb b1
  refine ⟨⟨fun q hq h => ?_, ?_, ?_, fun i k hi hk h hm => ?_, fun i k hi hk h h2 h3 => ?_, fun q hq h => ?_, fun q hq h => ?_, fun q hq h => ?_, fun q hq h => ?_, ?_⟩, (unk_mark kE b2 n).1 hb⟩
  · rcases kOf q h with rfl | ⟨_, h⟩
    · exact oldB.2.1
    · rw [(oldK q h).2.1]; exact I.ks q hq h
  · exact (mono src I.s0).1
  · have h1 := (mono src I.s0)
    rcases ways src h1.1 with ⟨_, x, _⟩ | ⟨_, _, _, _, x, y, _⟩
    · rw [x]; exact I.s1
    · have := I.s1; omega
  · rcases kOf i h with rfl | ⟨hib, h⟩
    · by_cases hkb : knD E k = true
      · rcases kOf k hkb with rfl | ⟨_, h'⟩
        · exact ⟨oldB.2.1, by omega⟩
        · have := I.ord k i hk hi h' b1 b2
          exact ⟨by rw [(oldK k h').2.1]; exact I.ks k hk h', by rw [(oldK k h').1, oldB.1]; omega⟩
      · have hkf : knD (D.upd i 3 [SV.bool true]) k = false := by
          rw [← R.kn k]; cases hh : knD E k with
          | false => rfl
          | true => exact absurd hh hkb
        obtain ⟨x, y⟩ := R.done k hk hm hkf
        exact ⟨x, by rw [mD i] at y; rw [oldB.1]; exact y⟩
    · obtain ⟨x, y⟩ := I.tri i k hi hk h hm
      obtain ⟨z, u⟩ := mono k x
      exact ⟨z, by rw [(oldK i h).1]; omega⟩
  · rcases ways k h2 with ⟨x, y, _⟩ | ⟨_, _, _, _, x, y, _⟩
    · have hkb : k ≠ b := fun e => by subst e; rw [kE k, if_pos rfl] at h3; cases h3
      have hkD : knD D k = false := by rw [kE k, if_neg hkb] at h3; exact h3
      have hm := hmin k hk ⟨x, hkD⟩
      rcases kOf i h with rfl | ⟨_, h⟩
      · rw [oldB.1, y]; exact hm
      · rw [(oldK i h).1, y]; exact I.ord i k hi hk h x hkD
    · rcases kOf i h with rfl | ⟨_, h⟩
      · rw [oldB.1, y]; omega
      · have := I.ord i b hi hb h b1 b2
        rw [(oldK i h).1, y]; omega
  · rcases ways q h with ⟨x, y, _⟩ | ⟨_, _, _, _, x, y, _⟩
    · rw [y]; exact I.lo q hq x
    · omega
  · rcases ways q h with ⟨x, y, _⟩ | ⟨_, _, _, _, x, y, _⟩
    · have := I.hi q hq x; rw [y]; omega
    · have := C.hi b q hb hq; omega
  · rcases ways q h with ⟨x, y, z⟩ | ⟨_, kf, qb, _, x, y, z⟩
    · rcases I.by_ q hq x with ⟨u, v, w⟩ | ⟨j, u, v, w, r, s, t⟩
      · exact .inl ⟨z.trans u, v, y.trans w⟩
      · have hjb : j ≠ b := fun e => by subst e; rw [b2] at w; cases w
        refine .inr ⟨j, z.trans u, v, by rw [kE j, if_neg hjb]; exact w, r, by rw [y, (oldK j w).1]; exact s, fun hk => ?_⟩
        rcases kOf q hk with rfl | ⟨hqb, hk⟩
        · simp only [if_neg hjb, if_true]; exact I.rkb j v w
        · simp only [if_neg hjb, if_neg hqb]; exact t hk
    · exact .inr ⟨b, z, hb, by rw [kE b, if_pos rfl], x, by rw [y, oldB.1], fun hk => by rw [kf] at hk; cases hk⟩
  · rcases kOf q h with rfl | ⟨hqb, h⟩
    · simp only [if_true]; omega
    · simp only [if_neg hqb]; have := I.rkb q hq h; omega
  · have := (unk_mark kE b2 n).1 hb
    have := I.cnt
    omega
/-- The search's end. -/
theorem search_run (C : Cht n n d') (hs : src < n) (t2 : Int) (dd : Dat) : ∀ (u f c : Nat) (rk : Nat → Nat) (D : Dat), Inv n d' src c rk D → unk D n ≤ u → u < f →
    ∃ c' rk' E, Inv n d' src c' rk' E ∧ (∀ q, q < n → ¬ Cand E q) ∧ l25_0 t2 n n dd n d' f (m86 n D) D = some E := by
  have few := C.few
  intro u
  induction u with
  | zero =>
    intro f c rk D I hu hf
    obtain ⟨f, rfl⟩ : ∃ g, f = g + 1 := ⟨f - 1, by omega⟩
    obtain ⟨_, ⟨e, h⟩ | ⟨b, e, hb, hc, hmin⟩⟩ := near_ok (show n ≤ 1000 by omega) D
    · exact ⟨c, rk, D, I, h, by simp only [l25_0, e, decide_eq_false (show ¬ (0 : Int) ≤ -1 by omega), cond_false]⟩
    · exfalso
      have : ∀ K, b < K → 0 < unk D K := by
        intro K
        induction K with
        | zero => intro h; omega
        | succ K ih =>
          intro h
          by_cases hK : b = K
          · subst hK; simp only [unk, hc.2]; simp
          · have := ih (by omega); simp only [unk]; omega
      have := this n hb
      omega
  | succ u ih =>
    intro f c rk D I hu hf
    obtain ⟨f, rfl⟩ : ∃ g, f = g + 1 := ⟨f - 1, by omega⟩
    obtain ⟨_, ⟨e, h⟩ | ⟨b, e, hb, hc, hmin⟩⟩ := near_ok (show n ≤ 1000 by omega) D
    · exact ⟨c, rk, D, I, h, by simp only [l25_0, e, decide_eq_false (show ¬ (0 : Int) ≤ -1 by omega), cond_false]⟩
    · obtain ⟨q1, q2, q3, q4⟩ := mark_same D b
      have hbd := I.hi b hb hc.1
      have hb0 := I.lo b hb hc.1
      have hcn := I.cnt
      obtain ⟨E, R, e2⟩ := rlx_run (D := D.upd b 3 [SV.bool true]) C hb q4 (by rw [q2]; exact hb0) (by rw [q2]; omega) t2 n dd n 0 (t2.toNat + n + (b : Int).toNat + n + (n : Int).toNat + (0 : Int).toNat + n + n + n + 8) (D.upd b 3 [SV.bool true]) (by omega) (by omega)
        ⟨fun _ => rfl, fun _ _ => ⟨rfl, rfl, rfl⟩, fun _ _ => ⟨rfl, rfl, rfl⟩, fun q hq => absurd hq (Nat.not_lt_zero q), fun _ h => ⟨h, Int.le_refl _⟩, fun _ h => .inl ⟨h, rfl, rfl⟩⟩
      have o : o25_2 t2 n (b : Int) n (d'.sub b 0) (n : Int) n dd n d' n 0 (D.upd b 3 [SV.bool true]) = some E := e2
      obtain ⟨I2, hu2⟩ := inv_step C I hs hb hc hmin R
      obtain ⟨c', rk', F, I3, h3, e3⟩ := ih f (c + 1) _ E I2 (by omega) (by omega)
      refine ⟨c', rk', F, I3, h3, ?_⟩
      obtain ⟨n86, _⟩ := near_ok (show n ≤ 1000 by omega) E
      have z0 : decide ((0 : Int) ≤ (b : Int)) = true := decide_eq_true (by omega)
      simp only [l25_0, e, z0, cdd hb, Int.toNat_natCast, decide_eq_true hb, C.row b hb, o, Option.isSome_some, Option.getD_some, Nat.zero_add, decide_eq_true (Nat.le_refl n), n86, cond_true]
      exact e3
/-- A way, its end first. -/
def isCh (n : Nat) (d' : Dat) (src : Nat) (rk : Nat → Nat) (E : Dat) : List Nat → Prop
  | [] => False
  | [a] => a < n ∧ a = src ∧ dsD E a = 0
  | a :: b :: l => a < n ∧ 0 ≤ mn d' b a ∧ dsD E a = dsD E b + mn d' b a ∧ rk b < rk a ∧ isCh n d' src rk E (b :: l)
/-- Data that hold a list from a place on. -/
def Holds (Y : Dat) (c : Nat) (L : List Nat) : Prop := ∀ (j x : Nat), L[j]? = some x → Y.ii (c + j) 0 = (x : Int)
theorem back_run {c0 : Nat} {rk : Nat → Nat} {E : Dat} (hn : n ≤ 1000) (I : Inv n d' src c0 rk E) (t2 : Int) (dd : Dat) : ∀ (r q f c : Nat) (X : Dat), q < n → knD E q = true → rk q < r → r + 1 < f → c + r ≤ 2000 →
    ∃ L Y, isCh n d' src rk E (q :: L) ∧ L.length < r ∧ Holds Y c (q :: L) ∧ (∀ j, j < c → Y.ii j 0 = X.ii j 0) ∧ l25_4 t2 n n dd n d' E f c (q : Int) X = some (c + (L.length + 1), c + (L.length + 1), Y)
  | 0, q, f, c, X, hq, hk, hr, hf, hc => absurd hr (Nat.not_lt_zero _)
  | r + 1, q, f, c, X, hq, hk, hr, hf, hc => by
    obtain ⟨f, rfl⟩ : ∃ g, f = g + 1 := ⟨f - 1, by omega⟩
    have hs := I.ks q hq hk
    have z0 : decide ((0 : Int) ≤ (q : Int)) = true := decide_eq_true (by omega)
    have z1 : decide (c + 1 ≤ 1073741824) = true := decide_eq_true (by omega)
    have eb : E.ii q 0 = byD E q := rfl
    have atc : (X.app c (datS [SV.int IntKind.i64 (q : Int)] 1)).ii c 0 = (q : Int) := by
      show cond (Nat.blt c c) _ _ = _; rw [blt_f (Nat.lt_irrefl c), Nat.sub_self]; rfl
    have atj : ∀ j, j < c → (X.app c (datS [SV.int IntKind.i64 (q : Int)] 1)).ii j 0 = X.ii j 0 := fun j hj => by
      show cond (Nat.blt j c) _ _ = _; rw [blt_t hj]; rfl
    rcases I.by_ q hq hs with ⟨u, v, w⟩ | ⟨j, u, v, w, x, y, z⟩
    · obtain ⟨f, rfl⟩ : ∃ g, f = g + 1 := ⟨f - 1, by omega⟩
      refine ⟨[], _, ⟨hq, v, w⟩, by simp, fun j x hx => ?_, atj, ?_⟩
      · cases j with
        | zero => simp at hx; subst hx; exact atc
        | succ j => simp at hx
      · simp only [l25_4, z0, z1, cdd hq, Int.toNat_natCast, decide_eq_true hq, eb, u, decide_eq_false (show ¬ (0 : Int) ≤ -1 by omega), cond_true, cond_false, List.length_nil, Nat.zero_add]
    · have hlt := z hk
      obtain ⟨L, Y, h1, h2, h3, h4, h5⟩ := back_run hn I t2 dd r j f (c + 1) (X.app c (datS [SV.int IntKind.i64 (q : Int)] 1)) v w (by omega) (by omega) (by omega)
      refine ⟨j :: L, Y, ⟨hq, x, y, hlt, h1⟩, by simp; omega, fun t p hp => ?_, fun t ht => ?_, ?_⟩
      · cases t with
        | zero => simp at hp; subst hp; rw [Nat.add_zero, h4 c (by omega)]; exact atc
        | succ t => have := h3 t p (by simpa using hp); rwa [show c + 1 + t = c + (t + 1) by omega] at this
      · rw [h4 t (by omega)]; exact atj t ht
      · simp only [l25_4, z0, z1, cdd hq, Int.toNat_natCast, decide_eq_true hq, eb, u, cond_true]
        rw [h5]
        simp only [List.length_cons, Option.some.injEq, Prod.mk.injEq, and_true]
        omega
theorem rev_run {m : Nat} (hm : m ≤ 1000) (Y : Dat) : ∀ (k i f : Nat) (Z : Dat), 2 * i + k = m → k < f → (∀ q, q < m → Z.ii q 0 = if q < i ∨ m - i ≤ q then Y.ii (m - 1 - q) 0 else Y.ii q 0) →
    ∃ Z', (∀ q, q < m → Z'.ii q 0 = Y.ii (m - 1 - q) 0) ∧ l87_0 m m f (i : Int) ((m : Int) - 1 - (i : Int)) Z = some Z' := by
  intro k
  induction k using Nat.strongRecOn with
  | _ k ih =>
    intro i f Z hk hf h
    obtain ⟨f, rfl⟩ : ∃ g, f = g + 1 := ⟨f - 1, by omega⟩
    by_cases hlt : (i : Int) < (m : Int) - 1 - (i : Int)
    · have zt : decide ((i : Int) < (m : Int) - 1 - (i : Int)) = true := decide_eq_true hlt
      have ti : ((i : Int)).toNat = i := by omega
      have tj : ((m : Int) - 1 - (i : Int)).toNat = m - 1 - i := by omega
      have z0 : decide (0 ≤ (m : Int) - 1 - (i : Int) ∧ (m : Int) - 1 - (i : Int) < (m : Int)) = true := decide_eq_true ⟨by omega, by omega⟩
      have z1 : decide (m - 1 - i < m) = true := decide_eq_true (by omega)
      have z2 : decide (0 ≤ (i : Int) ∧ (i : Int) < (m : Int)) = true := decide_eq_true ⟨by omega, by omega⟩
      have z3 : decide (i < m) = true := decide_eq_true (by omega)
      have w1 : IntKind.i64.wrap ((i : Int) + 1) = ((i + 1 : Nat) : Int) := by rw [wr (by omega) (by omega)]; omega
      have w2 : IntKind.i64.wrap ((m : Int) - 1 - (i : Int) - 1) = (m : Int) - 1 - ((i + 1 : Nat) : Int) := by rw [wr (by omega) (by omega)]; omega
      obtain ⟨Z', h1, h2⟩ := ih (k - 2) (by omega) (i + 1) f ((Z.upd i 0 [SV.int IntKind.i64 (Z.ii (m - 1 - i) 0)]).upd (m - 1 - i) 0 [SV.int IntKind.i64 (Z.ii i 0)]) (by omega) (by omega) (fun q hq => by
        have ei := h i (by omega)
        have ej := h (m - 1 - i) (by omega)
        rw [if_neg (by omega)] at ei ej
        by_cases q1 : q = m - 1 - i
        · subst q1
          rw [if_pos (by omega)]
          have : (((Z.upd i 0 [SV.int IntKind.i64 (Z.ii (m - 1 - i) 0)]).upd (m - 1 - i) 0 [SV.int IntKind.i64 (Z.ii i 0)]).ii (m - 1 - i) 0) = Z.ii i 0 := by simp [Dat.upd]
          rw [this, ei]; congr 1; omega
        · by_cases q2 : q = i
          · subst q2
            rw [if_pos (by omega)]
            have : (((Z.upd q 0 [SV.int IntKind.i64 (Z.ii (m - 1 - q) 0)]).upd (m - 1 - q) 0 [SV.int IntKind.i64 (Z.ii q 0)]).ii q 0) = Z.ii (m - 1 - q) 0 := by
              have hne : q ≠ m - 1 - q := q1
              simp [Dat.upd, hne]
            rw [this, ej]
          · have : (((Z.upd i 0 [SV.int IntKind.i64 (Z.ii (m - 1 - i) 0)]).upd (m - 1 - i) 0 [SV.int IntKind.i64 (Z.ii i 0)]).ii q 0) = Z.ii q 0 := by simp [Dat.upd, q1, q2]
            rw [this, h q hq]
            by_cases hc : q < i ∨ m - i ≤ q
            · rw [if_pos hc, if_pos (by omega)]
            · rw [if_neg hc, if_neg (by omega)])
      refine ⟨Z', h1, ?_⟩
      simp only [l87_0, zt, z0, z1, z2, z3, ti, tj, w1, w2, cond_true]
      exact h2
    · have zt : decide ((i : Int) < (m : Int) - 1 - (i : Int)) = false := decide_eq_false hlt
      refine ⟨Z, fun q hq => ?_, by simp only [l87_0, zt, cond_false]⟩
      rw [h q hq]
      by_cases hc : q < i ∨ m - i ≤ q
      · rw [if_pos hc]
      · rw [if_neg hc]; congr 1; omega
theorem rev_ok {m : Nat} (h0 : 0 < m) (hm : m ≤ 1000) (Y : Dat) : n87 m m Y = true ∧ ∃ Z, (∀ q, q < m → Z.ii q 0 = Y.ii (m - 1 - q) 0) ∧ m87 m m Y = (m, Z) := by
  obtain ⟨Z, h1, h2⟩ := rev_run hm Y m 0 (m + (0 : Int).toNat + ((m : Int) - 1).toNat + m + 8) Y (by omega) (by omega) (fun q hq => by rw [if_neg (by omega)])
  have w : IntKind.i64.wrap ((m : Int) - 1) = (m : Int) - 1 := wr (by omega) (by omega)
  rw [show (m : Int) - 1 - ((0 : Nat) : Int) = (m : Int) - 1 by omega] at h2
  have o : o87_0 m m 0 ((m : Int) - 1) Y = some Z := h2
  exact ⟨by simp only [n87, w, o]; rfl, Z, h1, by simp only [m87, w, o, Option.getD_some]⟩
end
end Go.Proofs.Ytlaogoojkfjgoaa
