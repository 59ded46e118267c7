/-
  Fills: the program and the reference do alike, fill by fill. Conditions: none.
-/
import Derived.Test.YtmjcegbnbnbceaaLFContents
import Derived.Test.YtmjcegbnbnbceaaLE1
import Derived.Test.YtmjcegbnbnbceaaLPMatches
import Derived.Test.YtmjcegbnbnbceaaLPPartials
import Derived.Test.YtmjcegbnbnbceaaLPLoop
import Derived.Test.YtmjcegbnbnbceaaLPFactors
import Derived.Test.YtmjcegbnbnbceaaLPShares
import Derived.Test.YtmjcegbnbnbceaaLPVessels
import Derived.Test.YtmjcegbnbnbceaaL1
import Derived.Test.YtmjcegbnbnbceaaL2
import Derived.Test.YtmjcegbnbnbceaaL3
import Derived.Test.YtmjcegbnbnbceaaL4
namespace Go.Proofs.Ytmjcegbnbnbceaa
open Go Go.Sy
set_option linter.unusedVariables false
set_option maxRecDepth 100000
attribute [local simp] brk
theorem upd_at (d : Dat) (k : Nat) (x y z : Int) : (d.upd k 0 [SV.int .i64 x, SV.int .i64 y, SV.int .i64 z]).ii k 0 = x ∧ (d.upd k 0 [SV.int .i64 x, SV.int .i64 y, SV.int .i64 z]).ii k 1 = y ∧ (d.upd k 0 [SV.int .i64 x, SV.int .i64 y, SV.int .i64 z]).ii k 2 = z := by
  simp [Dat.upd]
theorem upd_off (d : Dat) (k q c : Nat) (l : List SV) (h : q ≠ k) : (d.upd k 0 l).ii q c = d.ii q c := by simp [Dat.upd, h]
theorem upd_comm (d : Dat) (k q : Nat) (l m : List SV) (h : q ≠ k) : (d.upd k 0 l).upd q 0 m = (d.upd q 0 m).upd k 0 l := by
  have h' : ∀ x : Nat, x = q → x ≠ k := fun x e => by subst e; exact h
  unfold Dat.upd
  congr 1 <;> funext x c <;> by_cases h1 : x = q <;> by_cases h2 : x = k <;> simp_all
/-- The sum of a row. -/
def sm (d : Dat) (i : Nat) : Int := d.ii i 0 + d.ii i 1 + d.ii i 2
/-- A right content. -/
structure RightC (dv dh : Dat) (i : Nat) : Prop where
  a : 0 ≤ dh.ii i 0
  b : 0 ≤ dh.ii i 1
  c : 0 ≤ dh.ii i 2
  p : 1000 * sm dh i ≤ dv.ii i 2 * dv.ii i 1
theorem RightC.le {nv : Nat} {dv dh : Dat} {i : Nat} (V : RightV nv dv) (hi : i < nv) (C : RightC dv dh i) : sm dh i ≤ 400000000 := by
  have v := V.vol i hi
  have m := V.most i hi
  have := mulb (show 0 ≤ dv.ii i 2 by omega) m.2 (show 0 ≤ dv.ii i 1 by omega) v.2
  have := C.p
  omega
theorem sm_w {nv : Nat} {dv dh : Dat} {i : Nat} (V : RightV nv dv) (hi : i < nv) (C : RightC dv dh i) : m74 (dh.ii i 0) (dh.ii i 1) (dh.ii i 2) = sm dh i ∧ m19 (dh.ii i 0) (dh.ii i 1) (dh.ii i 2) = sm dh i := by
  have h := C.le V hi
  have a := C.a
  have b := C.b
  have c := C.c
  unfold sm at h ⊢
  have e : m19 (dh.ii i 0) (dh.ii i 1) (dh.ii i 2) = dh.ii i 0 + dh.ii i 1 + dh.ii i 2 := (cc17 a b c (by omega)).1
  exact ⟨e, e⟩
/-- An amount of a gas from outside. -/
def fresh (ox he am : Int) : Int × Int × Int := (am * ox / 1000, am * he / 1000, am - am * ox / 1000 - am * he / 1000)
theorem fresh_ok {ox he am : Int} (h : m83 ox he = 0) (ha : 1 ≤ am ∧ am ≤ 1000000000) : m123 ox he am = fresh ox he am ∧ m126 ox he am = fresh ox he am ∧ 0 ≤ (fresh ox he am).1 ∧ 0 ≤ (fresh ox he am).2.1 ∧ 0 ≤ (fresh ox he am).2.2 ∧ (fresh ox he am).1 + (fresh ox he am).2.1 + (fresh ox he am).2.2 = am := by
  obtain ⟨⟨o0, o1⟩, ⟨h0, h1⟩, oh⟩ := e83s h
  have p := mulb (show 0 ≤ am by omega) ha.2 o0 o1
  have q := mulb (show 0 ≤ am by omega) ha.2 h0 h1
  have s : am * ox + am * he ≤ am * 1000 := by
    rw [← Int.mul_add]
    exact Int.mul_le_mul_of_nonneg_left oh (by omega)
  have w1 : IntKind.i64.wrap (am * ox) = am * ox := wr (by omega) (by omega)
  have w2 : IntKind.i64.wrap (am * he) = am * he := wr (by omega) (by omega)
  have t1 : (am * ox).tdiv 1000 = am * ox / 1000 := Int.tdiv_eq_ediv_of_nonneg p.1
  have t2 : (am * he).tdiv 1000 = am * he / 1000 := Int.tdiv_eq_ediv_of_nonneg q.1
  have e126 : m126 ox he am = m123 ox he am := rfl
  have key : m123 ox he am = fresh ox he am := by
    simp only [m123, fresh, w1, w2, t1, t2]
    generalize am * ox = u at *
    generalize am * he = v at *
    have v1 : IntKind.i64.wrap (u / 1000) = u / 1000 := wr (by omega) (by omega)
    have v2 : IntKind.i64.wrap (v / 1000) = v / 1000 := wr (by omega) (by omega)
    rw [v1, v2, wr (n := am - u / 1000) (by omega) (by omega), wr (n := am - u / 1000 - v / 1000) (by omega) (by omega)]
  refine ⟨key, e126.trans key, ?_, ?_, ?_, ?_⟩ <;> simp only [fresh] <;> omega
/-- The share that is moved. -/
theorem share_ok {nv : Nat} {dv dh : Dat} {i : Nat} {am : Int} (V : RightV nv dv) (hi : i < nv) (C : RightC dv dh i) (ha : 1 ≤ am) (hs : am ≤ sm dh i) :
    let X := shr (dh.ii i 0) (dh.ii i 1) (dh.ii i 2) am
    n75 (dh.ii i 0) (dh.ii i 1) (dh.ii i 2) am = true ∧ n20 (dh.ii i 0) (dh.ii i 1) (dh.ii i 2) am = true ∧ m75 (dh.ii i 0) (dh.ii i 1) (dh.ii i 2) am = X ∧ m20 (dh.ii i 0) (dh.ii i 1) (dh.ii i 2) am = X ∧
    X.1 + X.2.1 + X.2.2 = am ∧ (0 ≤ X.1 ∧ X.1 ≤ dh.ii i 0) ∧ (0 ≤ X.2.1 ∧ X.2.1 ≤ dh.ii i 1) ∧ (0 ≤ X.2.2 ∧ X.2.2 ≤ dh.ii i 2) := by
  have h := C.le V hi
  have e := (sm_w V hi C).1
  unfold sm at h hs e
  obtain ⟨p1, p2, p3, p4⟩ := share_both C.a C.b C.c (by omega) e (by omega) (show 0 ≤ am by omega) hs
  obtain ⟨q1, q2, q3, q4, _⟩ := shr_ok C.a C.b C.c (show 0 < dh.ii i 0 + dh.ii i 1 + dh.ii i 2 by omega) (show 0 ≤ am by omega) hs
  exact ⟨p1, p2, p3, p4, q1, q2, q3, q4⟩
/-- What is held, what came in, what was vented, and the last day. -/
abbrev St := Dat × (Int × Int × Int) × (Int × Int × Int) × Int
def plus3 (a b : Int × Int × Int) : Int × Int × Int := (a.1 + b.1, a.2.1 + b.2.1, a.2.2 + b.2.2)
def row3 (d : Dat) (i : Nat) : Int × Int × Int := (d.ii i 0, d.ii i 1, d.ii i 2)
def set3 (d : Dat) (i : Nat) (x : Int × Int × Int) : Dat := d.upd i 0 [SV.int .i64 x.1, SV.int .i64 x.2.1, SV.int .i64 x.2.2]
/-- A fill. -/
structure Fi where
  k : Int
  dy : Int
  fr : ByteArray
  to : ByteArray
  ox : Int
  he : Int
  am : Int
  pu : Bool
def Fi.al (x : Fi) : Int := m90 x.k x.dy x.fr x.to x.ox x.he x.am x.pu
noncomputable def Fi.f (nv : Nat) (dv : Dat) (x : Fi) : Nat := (fnd nv dv x.fr).toNat
noncomputable def Fi.t (nv : Nat) (dv : Dat) (x : Fi) : Nat := (fnd nv dv x.to).toNat
/-- The error of a fill. -/
noncomputable def errF (nv : Nat) (dv : Dat) (s : St) (x : Fi) : Int :=
  if x.al ≠ 0 then x.al
  else if (x.k ≠ 0 ∧ fnd nv dv x.fr < 0) ∨ (x.k ≠ 2 ∧ fnd nv dv x.to < 0) then 6
  else if x.dy < s.2.2.2 then 9
  else if x.k ≠ 0 ∧ sm s.1 (x.f nv dv) < x.am then 20
  else if x.k ≠ 2 ∧ dv.ii (x.t nv dv) 2 * dv.ii (x.t nv dv) 1 < 1000 * (sm s.1 (x.t nv dv) + x.am) then 16
  else if x.k = 1 ∧ x.pu = false ∧ (sm s.1 (x.f nv dv) - x.am) * dv.ii (x.t nv dv) 1 < (sm s.1 (x.t nv dv) + x.am) * dv.ii (x.f nv dv) 1 then 24 else 0
/-- What is moved. -/
noncomputable def moved (nv : Nat) (dv : Dat) (s : St) (x : Fi) : Int × Int × Int := if x.k = 0 then fresh x.ox x.he x.am else shr (s.1.ii (x.f nv dv) 0) (s.1.ii (x.f nv dv) 1) (s.1.ii (x.f nv dv) 2) x.am
def less3 (a b : Int × Int × Int) : Int × Int × Int := (a.1 - b.1, a.2.1 - b.2.1, a.2.2 - b.2.2)
/-- What is held behind a fill. -/
noncomputable def heldF (nv : Nat) (dv : Dat) (s : St) (x : Fi) : Dat :=
  let h1 := if x.k = 0 then s.1 else set3 s.1 (x.f nv dv) (less3 (row3 s.1 (x.f nv dv)) (moved nv dv s x))
  if x.k = 2 then h1 else set3 h1 (x.t nv dv) (plus3 (row3 h1 (x.t nv dv)) (moved nv dv s x))
noncomputable def nextF (nv : Nat) (dv : Dat) (s : St) (x : Fi) : St :=
  (heldF nv dv s x, if x.k = 0 then plus3 s.2.1 (moved nv dv s x) else s.2.1, if x.k = 2 then plus3 s.2.2.1 (moved nv dv s x) else s.2.2.1, x.dy)
def bd3 (B : Int) (x : Int × Int × Int) : Prop := (0 ≤ x.1 ∧ x.1 ≤ B) ∧ (0 ≤ x.2.1 ∧ x.2.1 ≤ B) ∧ (0 ≤ x.2.2 ∧ x.2.2 ≤ B)
/-- A right state. -/
structure RightS (nv : Nat) (dv : Dat) (s : St) (B : Int) : Prop where
  held : ∀ i, i < nv → RightC dv s.1 i
  inn : bd3 B s.2.1
  ven : bd3 B s.2.2.1
theorem fnd_in {nv : Nat} {dv : Dat} {s : ByteArray} (h : ¬ fnd nv dv s < 0) : ∃ i, i < nv ∧ fnd nv dv s = (i : Int) ∧ dv.ss i 0 = s := by
  rcases fnd_cases nv dv s with ⟨i, h1, h2, h3, _⟩ | ⟨h1, _⟩
  · exact ⟨i, h1, h2, h3⟩
  · omega
/-- The result of the program's step, as a tuple. -/
def outP (e : Int) (nv : Nat) (dv : Dat) (nh cap : Nat) (s : St) : Int × Nat × Dat × Nat × Int × Int × Int × Int × Int × Int × Int × Nat × Dat :=
  (e, nv, dv, nh, s.2.1.1, s.2.1.2.1, s.2.1.2.2, s.2.2.1.1, s.2.2.1.2.1, s.2.2.1.2.2, s.2.2.2, cap, s.1)
def outR (e : Int) (nh cap : Nat) (s : St) : Int × Nat × Int × Int × Int × Int × Int × Int × Int × Nat × Dat :=
  (e, nh, s.2.1.1, s.2.1.2.1, s.2.1.2.2, s.2.2.1.1, s.2.2.1.2.1, s.2.2.1.2.2, s.2.2.2, cap, s.1)
section one
variable (nv : Nat) (dv : Dat) (nh cap : Nat) (dh : Dat) (i0 i1 i2 o0 o1 o2 day dy : Int) (fr to : ByteArray) (ox he am : Int) (pu : Bool)
theorem p84_bad (k : Int) (h : m119 k dy fr to ox he am pu ≠ 0) (hn : n119 k dy fr to ox he am pu = true) : m84 nv dv nh cap dh i0 i1 i2 o0 o1 o2 day k dy fr to ox he am pu = outP (m119 k dy fr to ox he am pu) nv dv nh cap (dh, (i0, i1, i2), (o0, o1, o2), day) ∧ n84 nv dv nh cap dh i0 i1 i2 o0 o1 o2 day k dy fr to ox he am pu = true := by
  have e1 : m84 nv dv nh cap dh i0 i1 i2 o0 o1 o2 day k dy fr to ox he am pu = w84 nv dv nh cap dh i0 i1 i2 o0 o1 o2 day k dy fr to ox he am pu (m119 k dy fr to ox he am pu) _ _ _ _ _ _ _ _ _ _ _ _ _ _ _ _ _ _ _ _ _ := rfl
  have e2 : n84 nv dv nh cap dh i0 i1 i2 o0 o1 o2 day k dy fr to ox he am pu = v84 nv dv nh cap dh i0 i1 i2 o0 o1 o2 day k dy fr to ox he am pu (m119 k dy fr to ox he am pu) _ _ _ _ _ _ _ _ _ _ _ _ _ _ _ _ _ _ _ _ _ := rfl
  rw [e1, e2]
  unfold w84 v84
  simp only [hn, decide_eq_false h, cond_false, cond_true, Bool.true_and, outP]
  exact ⟨trivial, trivial⟩
/-- Into a vessel. -/
theorem p84_0 (T : Int) (hT : m79 nv dv to = T) : m84 nv dv nh cap dh i0 i1 i2 o0 o1 o2 day 0 dy fr to ox he am pu =
    cond (bif decide (m119 0 dy fr to ox he am pu = 0) then false else true) (outP (m119 0 dy fr to ox he am pu) nv dv nh cap (dh, (i0, i1, i2), (o0, o1, o2), day))
    (cond (decide (T < 0)) (outP 6 nv dv nh cap (dh, (i0, i1, i2), (o0, o1, o2), day)) (cond (decide (dy < day)) (outP 9 nv dv nh cap (dh, (i0, i1, i2), (o0, o1, o2), day))
    (cond (decide (IntKind.i64.wrap (dv.ii T.toNat 2 * dv.ii T.toNat 1) < IntKind.i64.wrap (1000 * IntKind.i64.wrap (m74 (dh.ii T.toNat 0) (dh.ii T.toNat 1) (dh.ii T.toNat 2) + am)))) (outP 16 nv dv nh cap (dh, (i0, i1, i2), (o0, o1, o2), day))
    (outP 0 nv dv nh cap (set3 dh T.toNat (m125 (dh.ii T.toNat 0) (dh.ii T.toNat 1) (dh.ii T.toNat 2) (m123 ox he am).1 (m123 ox he am).2.1 (m123 ox he am).2.2), m125 i0 i1 i2 (m123 ox he am).1 (m123 ox he am).2.1 (m123 ox he am).2.2, (o0, o1, o2), dy))))) := by
  subst hT
  kernel_rfl
theorem q84_0 (T : Int) (hT : m79 nv dv to = T) : n84 nv dv nh cap dh i0 i1 i2 o0 o1 o2 day 0 dy fr to ox he am pu =
    (n119 0 dy fr to ox he am pu && (cond (bif decide (m119 0 dy fr to ox he am pu = 0) then false else true) true (n79 nv dv fr && (n79 nv dv to && (cond (decide (T < 0)) true (cond (decide (dy < day)) true
    (decide (0 ≤ T ∧ T < (nh : Int)) && (decide (T.toNat < cap) && (decide (0 ≤ T ∧ T < (nv : Int)) && (cond (decide (IntKind.i64.wrap (dv.ii T.toNat 2 * dv.ii T.toNat 1) < IntKind.i64.wrap (1000 * IntKind.i64.wrap (m74 (dh.ii T.toNat 0) (dh.ii T.toNat 1) (dh.ii T.toNat 2) + am)))) true
    (decide (0 ≤ T ∧ T < (nh : Int)) && (decide (T.toNat < cap) && (decide (0 ≤ T ∧ T < (nh : Int)) && (decide (T.toNat < cap) && true)))))))))))))) := by
  subst hT
  kernel_rfl
/-- From one vessel into another one. -/
theorem p84_1 (F T : Int) (hF : m79 nv dv fr = F) (hT : m79 nv dv to = T) (X Y : Int × Int × Int) (hX : m75 (dh.ii F.toNat 0) (dh.ii F.toNat 1) (dh.ii F.toNat 2) am = X) (hY : m124 (dh.ii F.toNat 0) (dh.ii F.toNat 1) (dh.ii F.toNat 2) X.1 X.2.1 X.2.2 = Y) : m84 nv dv nh cap dh i0 i1 i2 o0 o1 o2 day 1 dy fr to ox he am pu =
    cond (bif decide (m119 1 dy fr to ox he am pu = 0) then false else true) (outP (m119 1 dy fr to ox he am pu) nv dv nh cap (dh, (i0, i1, i2), (o0, o1, o2), day))
    (cond (bif decide (F < 0) then true else decide (T < 0)) (outP 6 nv dv nh cap (dh, (i0, i1, i2), (o0, o1, o2), day)) (cond (decide (dy < day)) (outP 9 nv dv nh cap (dh, (i0, i1, i2), (o0, o1, o2), day))
    (cond (decide (m74 (dh.ii F.toNat 0) (dh.ii F.toNat 1) (dh.ii F.toNat 2) < am)) (outP 20 nv dv nh cap (dh, (i0, i1, i2), (o0, o1, o2), day))
    (cond (decide (IntKind.i64.wrap (dv.ii T.toNat 2 * dv.ii T.toNat 1) < IntKind.i64.wrap (1000 * IntKind.i64.wrap (m74 (dh.ii T.toNat 0) (dh.ii T.toNat 1) (dh.ii T.toNat 2) + am)))) (outP 16 nv dv nh cap (dh, (i0, i1, i2), (o0, o1, o2), day))
    (cond (bif (bif pu then false else true) then decide (IntKind.i64.wrap (IntKind.i64.wrap (m74 (dh.ii F.toNat 0) (dh.ii F.toNat 1) (dh.ii F.toNat 2) - am) * dv.ii T.toNat 1) < IntKind.i64.wrap (IntKind.i64.wrap (m74 (dh.ii T.toNat 0) (dh.ii T.toNat 1) (dh.ii T.toNat 2) + am) * dv.ii F.toNat 1)) else false) (outP 24 nv dv nh cap (dh, (i0, i1, i2), (o0, o1, o2), day))
    (outP 0 nv dv nh cap (set3 (set3 dh F.toNat Y) T.toNat (m125 ((set3 dh F.toNat Y).ii T.toNat 0) ((set3 dh F.toNat Y).ii T.toNat 1) ((set3 dh F.toNat Y).ii T.toNat 2) X.1 X.2.1 X.2.2), (i0, i1, i2), (o0, o1, o2), dy))))))) := by
  subst hF hT hX hY
  kernel_rfl
theorem q84_1 (F T : Int) (hF : m79 nv dv fr = F) (hT : m79 nv dv to = T) : n84 nv dv nh cap dh i0 i1 i2 o0 o1 o2 day 1 dy fr to ox he am pu =
    (n119 1 dy fr to ox he am pu && (cond (bif decide (m119 1 dy fr to ox he am pu = 0) then false else true) true (n79 nv dv fr && (n79 nv dv to && (cond (bif decide (F < 0) then true else decide (T < 0)) true (cond (decide (dy < day)) true
    (decide (0 ≤ F ∧ F < (nh : Int)) && (decide (F.toNat < cap) && (cond (decide (m74 (dh.ii F.toNat 0) (dh.ii F.toNat 1) (dh.ii F.toNat 2) < am)) true
    (decide (0 ≤ T ∧ T < (nh : Int)) && (decide (T.toNat < cap) && (decide (0 ≤ T ∧ T < (nv : Int)) && (cond (decide (IntKind.i64.wrap (dv.ii T.toNat 2 * dv.ii T.toNat 1) < IntKind.i64.wrap (1000 * IntKind.i64.wrap (m74 (dh.ii T.toNat 0) (dh.ii T.toNat 1) (dh.ii T.toNat 2) + am)))) true
    ((bif (bif (bif pu then false else true) then false else true) then true else decide (0 ≤ F ∧ F < (nh : Int))) && ((bif (bif (bif pu then false else true) then false else true) then true else decide (F.toNat < cap)) && ((bif (bif (bif pu then false else true) then false else true) then true else decide (0 + nh ≤ cap)) && ((bif (bif (bif pu then false else true) then false else true) then true else (decide (0 ≤ F ∧ F < (nv : Int)) && (decide (0 ≤ T ∧ T < (nv : Int)) && true))) &&
    (cond (bif (bif pu then false else true) then decide (IntKind.i64.wrap (IntKind.i64.wrap (m74 (dh.ii F.toNat 0) (dh.ii F.toNat 1) (dh.ii F.toNat 2) - am) * dv.ii T.toNat 1) < IntKind.i64.wrap (IntKind.i64.wrap (m74 (dh.ii T.toNat 0) (dh.ii T.toNat 1) (dh.ii T.toNat 2) + am) * dv.ii F.toNat 1)) else false) true
    (decide (0 ≤ F ∧ F < (nh : Int)) && (decide (F.toNat < cap) && (n75 (dh.ii F.toNat 0) (dh.ii F.toNat 1) (dh.ii F.toNat 2) am && (decide (0 ≤ F ∧ F < (nh : Int)) && (decide (F.toNat < cap) && (decide (0 ≤ F ∧ F < (nh : Int)) && (decide (F.toNat < cap) && (decide (0 ≤ T ∧ T < (nh : Int)) && (decide (T.toNat < cap) && (decide (0 ≤ T ∧ T < (nh : Int)) && (decide (T.toNat < cap) && true))))))))))))))))))))))))))))) := by
  subst hF hT
  kernel_rfl
/-- Out of a vessel. -/
theorem p84_2 (F : Int) (hF : m79 nv dv fr = F) (X Y : Int × Int × Int) (hX : m75 (dh.ii F.toNat 0) (dh.ii F.toNat 1) (dh.ii F.toNat 2) am = X) (hY : m124 (dh.ii F.toNat 0) (dh.ii F.toNat 1) (dh.ii F.toNat 2) X.1 X.2.1 X.2.2 = Y) : m84 nv dv nh cap dh i0 i1 i2 o0 o1 o2 day 2 dy fr to ox he am pu =
    cond (bif decide (m119 2 dy fr to ox he am pu = 0) then false else true) (outP (m119 2 dy fr to ox he am pu) nv dv nh cap (dh, (i0, i1, i2), (o0, o1, o2), day))
    (cond (bif decide (F < 0) then true else false) (outP 6 nv dv nh cap (dh, (i0, i1, i2), (o0, o1, o2), day)) (cond (decide (dy < day)) (outP 9 nv dv nh cap (dh, (i0, i1, i2), (o0, o1, o2), day))
    (cond (decide (m74 (dh.ii F.toNat 0) (dh.ii F.toNat 1) (dh.ii F.toNat 2) < am)) (outP 20 nv dv nh cap (dh, (i0, i1, i2), (o0, o1, o2), day))
    (outP 0 nv dv nh cap (set3 dh F.toNat Y, (i0, i1, i2), m125 o0 o1 o2 X.1 X.2.1 X.2.2, dy))))) := by
  subst hF hX hY
  kernel_rfl
theorem q84_2 (F : Int) (hF : m79 nv dv fr = F) : n84 nv dv nh cap dh i0 i1 i2 o0 o1 o2 day 2 dy fr to ox he am pu =
    (n119 2 dy fr to ox he am pu && (cond (bif decide (m119 2 dy fr to ox he am pu = 0) then false else true) true (n79 nv dv fr && (n79 nv dv to && (cond (bif decide (F < 0) then true else false) true (cond (decide (dy < day)) true
    (decide (0 ≤ F ∧ F < (nh : Int)) && (decide (F.toNat < cap) && (cond (decide (m74 (dh.ii F.toNat 0) (dh.ii F.toNat 1) (dh.ii F.toNat 2) < am)) true
    (decide (0 ≤ F ∧ F < (nh : Int)) && (decide (F.toNat < cap) && (n75 (dh.ii F.toNat 0) (dh.ii F.toNat 1) (dh.ii F.toNat 2) am && (decide (0 ≤ F ∧ F < (nh : Int)) && (decide (F.toNat < cap) && (decide (0 ≤ F ∧ F < (nh : Int)) && (decide (F.toNat < cap) && true)))))))))))))))) := by
  subst hF
  kernel_rfl
theorem p91_0 (T : Int) (hT : m43 nv dv to = T) : m91 nv dv nh cap dh i0 i1 i2 o0 o1 o2 day 0 dy fr to ox he am pu =
    cond (decide (T < 0)) (outR 6 nh cap (dh, (i0, i1, i2), (o0, o1, o2), day)) (cond (decide (dy < day)) (outR 9 nh cap (dh, (i0, i1, i2), (o0, o1, o2), day))
    (cond (decide (IntKind.i64.wrap (dv.ii T.toNat 2 * dv.ii T.toNat 1) < IntKind.i64.wrap (1000 * IntKind.i64.wrap (m19 (dh.ii T.toNat 0) (dh.ii T.toNat 1) (dh.ii T.toNat 2) + am)))) (outR 16 nh cap (dh, (i0, i1, i2), (o0, o1, o2), day))
    (outR 0 nh cap (set3 dh T.toNat (m32 (dh.ii T.toNat 0) (dh.ii T.toNat 1) (dh.ii T.toNat 2) (m126 ox he am).1 (m126 ox he am).2.1 (m126 ox he am).2.2), m32 i0 i1 i2 (m126 ox he am).1 (m126 ox he am).2.1 (m126 ox he am).2.2, (o0, o1, o2), dy)))) := by
  subst hT
  kernel_rfl
theorem q91_0 (T : Int) (hT : m43 nv dv to = T) : n91 nv dv nh cap dh i0 i1 i2 o0 o1 o2 day 0 dy fr to ox he am pu =
    (n43 nv dv fr && (n43 nv dv to && (cond (decide (T < 0)) true (cond (decide (dy < day)) true
    (decide (0 ≤ T ∧ T < (nh : Int)) && (decide (T.toNat < cap) && (decide (0 ≤ T ∧ T < (nv : Int)) && (decide (0 ≤ T ∧ T < (nv : Int)) && (cond (decide (IntKind.i64.wrap (dv.ii T.toNat 2 * dv.ii T.toNat 1) < IntKind.i64.wrap (1000 * IntKind.i64.wrap (m19 (dh.ii T.toNat 0) (dh.ii T.toNat 1) (dh.ii T.toNat 2) + am)))) true
    (true && (true && (true && (true && (decide (0 ≤ T ∧ T < (nh : Int)) && (decide (T.toNat < cap) && (decide (0 ≤ T ∧ T < (nh : Int)) && (decide (T.toNat < cap) && true))))))))))))))))) := by
  subst hT
  kernel_rfl
theorem w91_1 (z0 : Int) (z1 : Int) (z2 : Int) (z4 : Int) (z9 : Int) (z10 : Int) (z11 : Int) (z14 : Int) (z15 : Int) (z16 : Int) (z17 : Int) (z18 : Int) (z19 : Int) (z20 : Dat) (z24 : Dat) (z25 : Dat) (z26 : Int) (z27 : Int) (z28 : Int) (z29 : Int) (z30 : Int) (z31 : Int) (z32 : Dat) (z36 : Dat) (z37 : Dat) : w91 nv dv nh cap dh i0 i1 i2 o0 o1 o2 day 1 dy fr to ox he am pu z0 z1 z2 z4 z9 z10 z11 z14 z15 z16 z17 z18 z19 z20 z24 z25 z26 z27 z28 z29 z30 z31 z32 z36 z37 =
    cond (bif decide (m43 nv dv fr < 0) then true else decide (m43 nv dv to < 0)) (outR 6 nh cap (dh, (i0, i1, i2), (o0, o1, o2), day)) (cond (decide (dy < day)) (outR 9 nh cap (dh, (i0, i1, i2), (o0, o1, o2), day))
    (cond (decide (m19 z0 z1 z2 < am)) (outR 20 nh cap (dh, (i0, i1, i2), (o0, o1, o2), day)) (cond (decide (z4 < z9)) (outR 16 nh cap (dh, (i0, i1, i2), (o0, o1, o2), day))
    (cond (bif (bif pu then false else true) then decide (z10 < z11) else false) (outR 24 nh cap (dh, (i0, i1, i2), (o0, o1, o2), day)) (outR 0 nh cap (z24, (i0, i1, i2), (o0, o1, o2), dy)))))) := by kernel_rfl
theorem v91_a : m91 nv dv nh cap dh i0 i1 i2 o0 o1 o2 day 1 dy fr to ox he am pu = w91 nv dv nh cap dh i0 i1 i2 o0 o1 o2 day 1 dy fr to ox he am pu (t91_0 nv dv nh cap dh i0 i1 i2 o0 o1 o2 day 1 dy fr to ox he am pu) (t91_1 nv dv nh cap dh i0 i1 i2 o0 o1 o2 day 1 dy fr to ox he am pu) (t91_2 nv dv nh cap dh i0 i1 i2 o0 o1 o2 day 1 dy fr to ox he am pu) (t91_4 nv dv nh cap dh i0 i1 i2 o0 o1 o2 day 1 dy fr to ox he am pu) (t91_9 nv dv nh cap dh i0 i1 i2 o0 o1 o2 day 1 dy fr to ox he am pu) (t91_10 nv dv nh cap dh i0 i1 i2 o0 o1 o2 day 1 dy fr to ox he am pu) (t91_11 nv dv nh cap dh i0 i1 i2 o0 o1 o2 day 1 dy fr to ox he am pu) (t91_14 nv dv nh cap dh i0 i1 i2 o0 o1 o2 day 1 dy fr to ox he am pu) (t91_15 nv dv nh cap dh i0 i1 i2 o0 o1 o2 day 1 dy fr to ox he am pu) (t91_16 nv dv nh cap dh i0 i1 i2 o0 o1 o2 day 1 dy fr to ox he am pu) (t91_17 nv dv nh cap dh i0 i1 i2 o0 o1 o2 day 1 dy fr to ox he am pu) (t91_18 nv dv nh cap dh i0 i1 i2 o0 o1 o2 day 1 dy fr to ox he am pu) (t91_19 nv dv nh cap dh i0 i1 i2 o0 o1 o2 day 1 dy fr to ox he am pu) (t91_20 nv dv nh cap dh i0 i1 i2 o0 o1 o2 day 1 dy fr to ox he am pu) (t91_24 nv dv nh cap dh i0 i1 i2 o0 o1 o2 day 1 dy fr to ox he am pu) (t91_25 nv dv nh cap dh i0 i1 i2 o0 o1 o2 day 1 dy fr to ox he am pu) (t91_26 nv dv nh cap dh i0 i1 i2 o0 o1 o2 day 1 dy fr to ox he am pu) (t91_27 nv dv nh cap dh i0 i1 i2 o0 o1 o2 day 1 dy fr to ox he am pu) (t91_28 nv dv nh cap dh i0 i1 i2 o0 o1 o2 day 1 dy fr to ox he am pu) (t91_29 nv dv nh cap dh i0 i1 i2 o0 o1 o2 day 1 dy fr to ox he am pu) (t91_30 nv dv nh cap dh i0 i1 i2 o0 o1 o2 day 1 dy fr to ox he am pu) (t91_31 nv dv nh cap dh i0 i1 i2 o0 o1 o2 day 1 dy fr to ox he am pu) (t91_32 nv dv nh cap dh i0 i1 i2 o0 o1 o2 day 1 dy fr to ox he am pu) (t91_36 nv dv nh cap dh i0 i1 i2 o0 o1 o2 day 1 dy fr to ox he am pu) (t91_37 nv dv nh cap dh i0 i1 i2 o0 o1 o2 day 1 dy fr to ox he am pu) := rfl
theorem v91_4 : t91_4 nv dv nh cap dh i0 i1 i2 o0 o1 o2 day 1 dy fr to ox he am pu = IntKind.i64.wrap (dv.ii (m43 nv dv to).toNat 2 * dv.ii (m43 nv dv to).toNat 1) := rfl
theorem v91_9 : t91_9 nv dv nh cap dh i0 i1 i2 o0 o1 o2 day 1 dy fr to ox he am pu = IntKind.i64.wrap (1000 * IntKind.i64.wrap (m19 (dh.ii (m43 nv dv to).toNat 0) (dh.ii (m43 nv dv to).toNat 1) (dh.ii (m43 nv dv to).toNat 2) + am)) := rfl
theorem v91_10 : t91_10 nv dv nh cap dh i0 i1 i2 o0 o1 o2 day 1 dy fr to ox he am pu = IntKind.i64.wrap (IntKind.i64.wrap (m19 (dh.ii (m43 nv dv fr).toNat 0) (dh.ii (m43 nv dv fr).toNat 1) (dh.ii (m43 nv dv fr).toNat 2) - am) * dv.ii (m43 nv dv to).toNat 1) := rfl
theorem v91_11 : t91_11 nv dv nh cap dh i0 i1 i2 o0 o1 o2 day 1 dy fr to ox he am pu = IntKind.i64.wrap (IntKind.i64.wrap (m19 (dh.ii (m43 nv dv to).toNat 0) (dh.ii (m43 nv dv to).toNat 1) (dh.ii (m43 nv dv to).toNat 2) + am) * dv.ii (m43 nv dv fr).toNat 1) := rfl
theorem v91_20 (F T : Int) (hF : m43 nv dv fr = F) (hT : m43 nv dv to = T) (X : Int × Int × Int) (hX : m20 (dh.ii F.toNat 0) (dh.ii F.toNat 1) (dh.ii F.toNat 2) am = X) :
   t91_20 nv dv nh cap dh i0 i1 i2 o0 o1 o2 day 1 dy fr to ox he am pu = set3 dh T.toNat (m32 (dh.ii T.toNat 0) (dh.ii T.toNat 1) (dh.ii T.toNat 2) X.1 X.2.1 X.2.2) := by subst hF hT hX; rfl
theorem v91_24 (F T : Int) (hF : m43 nv dv fr = F) (hT : m43 nv dv to = T) (X : Int × Int × Int) (hX : m20 (dh.ii F.toNat 0) (dh.ii F.toNat 1) (dh.ii F.toNat 2) am = X) (D : Dat) (hD : t91_20 nv dv nh cap dh i0 i1 i2 o0 o1 o2 day 1 dy fr to ox he am pu = D) :
   t91_24 nv dv nh cap dh i0 i1 i2 o0 o1 o2 day 1 dy fr to ox he am pu = set3 D F.toNat (m21 (D.ii F.toNat 0) (D.ii F.toNat 1) (D.ii F.toNat 2) X.1 X.2.1 X.2.2) := by subst hF hT hX hD; rfl
theorem p91_1 (F T : Int) (hF : m43 nv dv fr = F) (hT : m43 nv dv to = T) (X Z : Int × Int × Int) (hX : m20 (dh.ii F.toNat 0) (dh.ii F.toNat 1) (dh.ii F.toNat 2) am = X) (hZ : m32 (dh.ii T.toNat 0) (dh.ii T.toNat 1) (dh.ii T.toNat 2) X.1 X.2.1 X.2.2 = Z) : m91 nv dv nh cap dh i0 i1 i2 o0 o1 o2 day 1 dy fr to ox he am pu =
    cond (bif decide (F < 0) then true else decide (T < 0)) (outR 6 nh cap (dh, (i0, i1, i2), (o0, o1, o2), day)) (cond (decide (dy < day)) (outR 9 nh cap (dh, (i0, i1, i2), (o0, o1, o2), day))
    (cond (decide (m19 (dh.ii F.toNat 0) (dh.ii F.toNat 1) (dh.ii F.toNat 2) < am)) (outR 20 nh cap (dh, (i0, i1, i2), (o0, o1, o2), day))
    (cond (decide (IntKind.i64.wrap (dv.ii T.toNat 2 * dv.ii T.toNat 1) < IntKind.i64.wrap (1000 * IntKind.i64.wrap (m19 (dh.ii T.toNat 0) (dh.ii T.toNat 1) (dh.ii T.toNat 2) + am)))) (outR 16 nh cap (dh, (i0, i1, i2), (o0, o1, o2), day))
    (cond (bif (bif pu then false else true) then decide (IntKind.i64.wrap (IntKind.i64.wrap (m19 (dh.ii F.toNat 0) (dh.ii F.toNat 1) (dh.ii F.toNat 2) - am) * dv.ii T.toNat 1) < IntKind.i64.wrap (IntKind.i64.wrap (m19 (dh.ii T.toNat 0) (dh.ii T.toNat 1) (dh.ii T.toNat 2) + am) * dv.ii F.toNat 1)) else false) (outR 24 nh cap (dh, (i0, i1, i2), (o0, o1, o2), day))
    (outR 0 nh cap (set3 (set3 dh T.toNat Z) F.toNat (m21 ((set3 dh T.toNat Z).ii F.toNat 0) ((set3 dh T.toNat Z).ii F.toNat 1) ((set3 dh T.toNat Z).ii F.toNat 2) X.1 X.2.1 X.2.2), (i0, i1, i2), (o0, o1, o2), dy)))))) := by
  rw [v91_a, w91_1, v91_4, v91_9, v91_10, v91_11, v91_24 _ _ _ _ _ _ _ _ _ _ _ _ _ _ _ _ _ _ _ F T hF hT X hX _ rfl, v91_20 _ _ _ _ _ _ _ _ _ _ _ _ _ _ _ _ _ _ _ F T hF hT X hX, hZ, hF, hT]
  subst hF
  rfl
theorem q91_1 (F T : Int) (hF : m43 nv dv fr = F) (hT : m43 nv dv to = T) : n91 nv dv nh cap dh i0 i1 i2 o0 o1 o2 day 1 dy fr to ox he am pu =
    (n43 nv dv fr && (n43 nv dv to && (cond (bif decide (F < 0) then true else decide (T < 0)) true (cond (decide (dy < day)) true
    (decide (0 ≤ F ∧ F < (nh : Int)) && (decide (F.toNat < cap) && (cond (decide (m19 (dh.ii F.toNat 0) (dh.ii F.toNat 1) (dh.ii F.toNat 2) < am)) true
    (decide (0 ≤ F ∧ F < (nh : Int)) && (decide (F.toNat < cap) && (n20 (dh.ii F.toNat 0) (dh.ii F.toNat 1) (dh.ii F.toNat 2) am &&
    (decide (0 ≤ T ∧ T < (nh : Int)) && (decide (T.toNat < cap) && (decide (0 ≤ T ∧ T < (nv : Int)) && (decide (0 ≤ T ∧ T < (nv : Int)) && (cond (decide (IntKind.i64.wrap (dv.ii T.toNat 2 * dv.ii T.toNat 1) < IntKind.i64.wrap (1000 * IntKind.i64.wrap (m19 (dh.ii T.toNat 0) (dh.ii T.toNat 1) (dh.ii T.toNat 2) + am)))) true
    ((bif (bif (bif pu then false else true) then false else true) then true else decide (0 ≤ F ∧ F < (nh : Int))) && ((bif (bif (bif pu then false else true) then false else true) then true else decide (F.toNat < cap)) && ((bif (bif (bif pu then false else true) then false else true) then true else decide (0 ≤ T ∧ T < (nv : Int))) && ((bif (bif (bif pu then false else true) then false else true) then true else decide (0 ≤ F ∧ F < (nv : Int))) &&
    (cond (bif (bif pu then false else true) then decide (IntKind.i64.wrap (IntKind.i64.wrap (m19 (dh.ii F.toNat 0) (dh.ii F.toNat 1) (dh.ii F.toNat 2) - am) * dv.ii T.toNat 1) < IntKind.i64.wrap (IntKind.i64.wrap (m19 (dh.ii T.toNat 0) (dh.ii T.toNat 1) (dh.ii T.toNat 2) + am) * dv.ii F.toNat 1)) else false) true
    (decide (0 ≤ T ∧ T < (nh : Int)) && (decide (T.toNat < cap) && (decide (0 ≤ T ∧ T < (nh : Int)) && (decide (T.toNat < cap) && (decide (0 ≤ F ∧ F < (nh : Int)) && (decide (F.toNat < cap) && (decide (0 ≤ F ∧ F < (nh : Int)) && (decide (F.toNat < cap) && true)))))))))))))))))))))))))))) := by
  subst hF hT
  kernel_rfl
theorem p91_2 (F : Int) (hF : m43 nv dv fr = F) (X : Int × Int × Int) (hX : m20 (dh.ii F.toNat 0) (dh.ii F.toNat 1) (dh.ii F.toNat 2) am = X) : m91 nv dv nh cap dh i0 i1 i2 o0 o1 o2 day 2 dy fr to ox he am pu =
    cond (bif decide (F < 0) then true else false) (outR 6 nh cap (dh, (i0, i1, i2), (o0, o1, o2), day)) (cond (decide (dy < day)) (outR 9 nh cap (dh, (i0, i1, i2), (o0, o1, o2), day))
    (cond (decide (m19 (dh.ii F.toNat 0) (dh.ii F.toNat 1) (dh.ii F.toNat 2) < am)) (outR 20 nh cap (dh, (i0, i1, i2), (o0, o1, o2), day))
    (outR 0 nh cap (set3 dh F.toNat (m21 (dh.ii F.toNat 0) (dh.ii F.toNat 1) (dh.ii F.toNat 2) X.1 X.2.1 X.2.2), (i0, i1, i2), m32 o0 o1 o2 X.1 X.2.1 X.2.2, dy)))) := by
  subst hF hX
  kernel_rfl
theorem q91_2 (F : Int) (hF : m43 nv dv fr = F) : n91 nv dv nh cap dh i0 i1 i2 o0 o1 o2 day 2 dy fr to ox he am pu =
    (n43 nv dv fr && (n43 nv dv to && (cond (bif decide (F < 0) then true else false) true (cond (decide (dy < day)) true
    (decide (0 ≤ F ∧ F < (nh : Int)) && (decide (F.toNat < cap) && (cond (decide (m19 (dh.ii F.toNat 0) (dh.ii F.toNat 1) (dh.ii F.toNat 2) < am)) true
    (decide (0 ≤ F ∧ F < (nh : Int)) && (decide (F.toNat < cap) && (n20 (dh.ii F.toNat 0) (dh.ii F.toNat 1) (dh.ii F.toNat 2) am && (decide (0 ≤ F ∧ F < (nh : Int)) && (decide (F.toNat < cap) && (decide (0 ≤ F ∧ F < (nh : Int)) && (decide (F.toNat < cap) && true)))))))))))))) := by
  subst hF
  kernel_rfl
end one
end Go.Proofs.Ytmjcegbnbnbceaa
