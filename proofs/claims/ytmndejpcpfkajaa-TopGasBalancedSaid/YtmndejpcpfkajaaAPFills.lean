/-
  Fills: the program and the reference do alike, fill by fill. Conditions: none.
-/
import Derived.Test.YtmndejpcpfkajaaAFGasBalanced
import Derived.Test.YtmndejpcpfkajaaAPMatches
import Derived.Test.YtmndejpcpfkajaaAPPartials
import Derived.Test.YtmndejpcpfkajaaAPLoop
import Derived.Test.YtmndejpcpfkajaaAPFactors
import Derived.Test.YtmndejpcpfkajaaAPShares
import Derived.Test.YtmndejpcpfkajaaAPVessels
import Derived.Test.YtmndejpcpfkajaaA1
import Derived.Test.YtmndejpcpfkajaaA2
import Derived.Test.YtmndejpcpfkajaaA3
import Derived.Test.YtmndejpcpfkajaaA4
namespace Go.Proofs.Ytmndejpcpfkajaa
open Go Go.Sy
set_option linter.unusedVariables false
set_option maxRecDepth 100000
attribute [local simp] brk
theorem upd_at (d : Dat) (k : Nat) (x y z : Int) : (d.upd k 0 [SV.int .i64 x, SV.int .i64 y, SV.int .i64 z]).ii k 0 = x ∧ (d.upd k 0 [SV.int .i64 x, SV.int .i64 y, SV.int .i64 z]).ii k 1 = y ∧ (d.upd k 0 [SV.int .i64 x, SV.int .i64 y, SV.int .i64 z]).ii k 2 = z := by
  simp [Dat.upd]
theorem upd_off (d : Dat) (k q c : Nat) (l : List SV) (h : q ≠ k) : (d.upd k 0 l).ii q c = d.ii q c := by simp [Dat.upd, h]
theorem upd_comm (d : Dat) (k q : Nat) (l m : List SV) (h : q ≠ k) : (d.upd k 0 l).upd q 0 m = (d.upd q 0 m).upd k 0 l := by
  have h' : ∀ x : Nat, x = q → x ≠ k := fun x e => by subst e; exact h
  unfold Dat.upd
  congr 1 <;> funext x c <;> by_cases h1 : x = q <;> by_cases h2 : x = k <;> simp_all
/-- The sum of a row. -/
def sm (d : Dat) (i : Nat) : Int := d.ii i 0 + d.ii i 1 + d.ii i 2
/-- A right content. -/
structure RightC (dv dh : Dat) (i : Nat) : Prop where
  a : 0 ≤ dh.ii i 0
  b : 0 ≤ dh.ii i 1
  c : 0 ≤ dh.ii i 2
  p : 1000 * sm dh i ≤ dv.ii i 2 * dv.ii i 1
theorem RightC.le {nv : Nat} {dv dh : Dat} {i : Nat} (V : RightV nv dv) (hi : i < nv) (C : RightC dv dh i) : sm dh i ≤ 400000000 := by
  have v := V.vol i hi
  have m := V.most i hi
  have := mulb (show 0 ≤ dv.ii i 2 by omega) m.2 (show 0 ≤ dv.ii i 1 by omega) v.2
  have := C.p
  omega
theorem sm_w {nv : Nat} {dv dh : Dat} {i : Nat} (V : RightV nv dv) (hi : i < nv) (C : RightC dv dh i) : m84 (dh.ii i 0) (dh.ii i 1) (dh.ii i 2) = sm dh i ∧ m29 (dh.ii i 0) (dh.ii i 1) (dh.ii i 2) = sm dh i := by
  have h := C.le V hi
  have a := C.a
  have b := C.b
  have c := C.c
  unfold sm at h ⊢
  have e : m29 (dh.ii i 0) (dh.ii i 1) (dh.ii i 2) = dh.ii i 0 + dh.ii i 1 + dh.ii i 2 := (cc26 a b c (by omega)).1
  exact ⟨e, e⟩
/-- An amount of a gas from outside. -/
def fresh (ox he am : Int) : Int × Int × Int := (am * ox / 1000, am * he / 1000, am - am * ox / 1000 - am * he / 1000)
theorem fresh_ok {ox he am : Int} (h : m91 ox he = 0) (ha : 1 ≤ am ∧ am ≤ 1000000000) : m129 ox he am = fresh ox he am ∧ m24 ox he am = fresh ox he am ∧ 0 ≤ (fresh ox he am).1 ∧ 0 ≤ (fresh ox he am).2.1 ∧ 0 ≤ (fresh ox he am).2.2 ∧ (fresh ox he am).1 + (fresh ox he am).2.1 + (fresh ox he am).2.2 = am := by
  obtain ⟨⟨o0, o1⟩, ⟨h0, h1⟩, oh⟩ := e83s h
  have p := mulb (show 0 ≤ am by omega) ha.2 o0 o1
  have q := mulb (show 0 ≤ am by omega) ha.2 h0 h1
  have s : am * ox + am * he ≤ am * 1000 := by
    rw [← Int.mul_add]
    exact Int.mul_le_mul_of_nonneg_left oh (by omega)
  have w1 : IntKind.i64.wrap (am * ox) = am * ox := wr (by omega) (by omega)
  have w2 : IntKind.i64.wrap (am * he) = am * he := wr (by omega) (by omega)
  have t1 : (am * ox).tdiv 1000 = am * ox / 1000 := Int.tdiv_eq_ediv_of_nonneg p.1
  have t2 : (am * he).tdiv 1000 = am * he / 1000 := Int.tdiv_eq_ediv_of_nonneg q.1
  have e126 : m24 ox he am = m129 ox he am := rfl
  have key : m129 ox he am = fresh ox he am := by
    simp only [m129, fresh, w1, w2, t1, t2]
    generalize am * ox = u at *
    generalize am * he = v at *
    have v1 : IntKind.i64.wrap (u / 1000) = u / 1000 := wr (by omega) (by omega)
    have v2 : IntKind.i64.wrap (v / 1000) = v / 1000 := wr (by omega) (by omega)
    rw [v1, v2, wr (n := am - u / 1000) (by omega) (by omega), wr (n := am - u / 1000 - v / 1000) (by omega) (by omega)]
  refine ⟨key, e126.trans key, ?_, ?_, ?_, ?_⟩ <;> simp only [fresh] <;> omega
/-- The share that is moved. -/
theorem share_ok {nv : Nat} {dv dh : Dat} {i : Nat} {am : Int} (V : RightV nv dv) (hi : i < nv) (C : RightC dv dh i) (ha : 1 ≤ am) (hs : am ≤ sm dh i) :
    let X := shr (dh.ii i 0) (dh.ii i 1) (dh.ii i 2) am
    n85 (dh.ii i 0) (dh.ii i 1) (dh.ii i 2) am = true ∧ n45 (dh.ii i 0) (dh.ii i 1) (dh.ii i 2) am = true ∧ m85 (dh.ii i 0) (dh.ii i 1) (dh.ii i 2) am = X ∧ m45 (dh.ii i 0) (dh.ii i 1) (dh.ii i 2) am = X ∧
    X.1 + X.2.1 + X.2.2 = am ∧ (0 ≤ X.1 ∧ X.1 ≤ dh.ii i 0) ∧ (0 ≤ X.2.1 ∧ X.2.1 ≤ dh.ii i 1) ∧ (0 ≤ X.2.2 ∧ X.2.2 ≤ dh.ii i 2) := by
  have h := C.le V hi
  have e := (sm_w V hi C).1
  unfold sm at h hs e
  obtain ⟨p1, p2, p6, p7⟩ := share_both C.a C.b C.c (by omega) e (by omega) (show 0 ≤ am by omega) hs
  obtain ⟨q1, q2, q6, q7, _⟩ := shr_ok C.a C.b C.c (show 0 < dh.ii i 0 + dh.ii i 1 + dh.ii i 2 by omega) (show 0 ≤ am by omega) hs
  exact ⟨p1, p2, p6, p7, q1, q2, q6, q7⟩
/-- What is held, what came in, what was vented, and the last day. -/
abbrev St := Dat × (Int × Int × Int) × (Int × Int × Int) × Int
def plus3 (a b : Int × Int × Int) : Int × Int × Int := (a.1 + b.1, a.2.1 + b.2.1, a.2.2 + b.2.2)
def row3 (d : Dat) (i : Nat) : Int × Int × Int := (d.ii i 0, d.ii i 1, d.ii i 2)
def set3 (d : Dat) (i : Nat) (x : Int × Int × Int) : Dat := d.upd i 0 [SV.int .i64 x.1, SV.int .i64 x.2.1, SV.int .i64 x.2.2]
/-- A fill. -/
structure Fi where
  k : Int
  dy : Int
  fr : ByteArray
  to : ByteArray
  ox : Int
  he : Int
  am : Int
  pu : Bool
def Fi.al (x : Fi) : Int := m110 x.k x.dy x.fr x.to x.ox x.he x.am x.pu
noncomputable def Fi.f (nv : Nat) (dv : Dat) (x : Fi) : Nat := (fnd nv dv x.fr).toNat
noncomputable def Fi.t (nv : Nat) (dv : Dat) (x : Fi) : Nat := (fnd nv dv x.to).toNat
/-- The error of a fill. -/
noncomputable def errF (nv : Nat) (dv : Dat) (s : St) (x : Fi) : Int :=
  if x.al ≠ 0 then x.al
  else if (x.k ≠ 0 ∧ fnd nv dv x.fr < 0) ∨ (x.k ≠ 2 ∧ fnd nv dv x.to < 0) then 6
  else if x.dy < s.2.2.2 then 9
  else if x.k ≠ 0 ∧ sm s.1 (x.f nv dv) < x.am then 20
  else if x.k ≠ 2 ∧ dv.ii (x.t nv dv) 2 * dv.ii (x.t nv dv) 1 < 1000 * (sm s.1 (x.t nv dv) + x.am) then 16
  else if x.k = 1 ∧ x.pu = false ∧ (sm s.1 (x.f nv dv) - x.am) * dv.ii (x.t nv dv) 1 < (sm s.1 (x.t nv dv) + x.am) * dv.ii (x.f nv dv) 1 then 24 else 0
/-- What is moved. -/
noncomputable def moved (nv : Nat) (dv : Dat) (s : St) (x : Fi) : Int × Int × Int := if x.k = 0 then fresh x.ox x.he x.am else shr (s.1.ii (x.f nv dv) 0) (s.1.ii (x.f nv dv) 1) (s.1.ii (x.f nv dv) 2) x.am
def less3 (a b : Int × Int × Int) : Int × Int × Int := (a.1 - b.1, a.2.1 - b.2.1, a.2.2 - b.2.2)
/-- What is held behind a fill. -/
noncomputable def heldF (nv : Nat) (dv : Dat) (s : St) (x : Fi) : Dat :=
  let h1 := if x.k = 0 then s.1 else set3 s.1 (x.f nv dv) (less3 (row3 s.1 (x.f nv dv)) (moved nv dv s x))
  if x.k = 2 then h1 else set3 h1 (x.t nv dv) (plus3 (row3 h1 (x.t nv dv)) (moved nv dv s x))
noncomputable def nextF (nv : Nat) (dv : Dat) (s : St) (x : Fi) : St :=
  (heldF nv dv s x, if x.k = 0 then plus3 s.2.1 (moved nv dv s x) else s.2.1, if x.k = 2 then plus3 s.2.2.1 (moved nv dv s x) else s.2.2.1, x.dy)
def bd6 (B : Int) (x : Int × Int × Int) : Prop := (0 ≤ x.1 ∧ x.1 ≤ B) ∧ (0 ≤ x.2.1 ∧ x.2.1 ≤ B) ∧ (0 ≤ x.2.2 ∧ x.2.2 ≤ B)
/-- A right state. -/
structure RightS (nv : Nat) (dv : Dat) (s : St) (B : Int) : Prop where
  held : ∀ i, i < nv → RightC dv s.1 i
  inn : bd6 B s.2.1
  ven : bd6 B s.2.2.1
theorem fnd_in {nv : Nat} {dv : Dat} {s : ByteArray} (h : ¬ fnd nv dv s < 0) : ∃ i, i < nv ∧ fnd nv dv s = (i : Int) ∧ dv.ss i 0 = s := by
  rcases fnd_cases nv dv s with ⟨i, h1, h2, h3, _⟩ | ⟨h1, _⟩
  · exact ⟨i, h1, h2, h3⟩
  · omega
/-- The result of the program's step, as a tuple. -/
def outP (e : Int) (nv : Nat) (dv : Dat) (nh cap : Nat) (s : St) : Int × Nat × Dat × Nat × Int × Int × Int × Int × Int × Int × Int × Nat × Dat :=
  (e, nv, dv, nh, s.2.1.1, s.2.1.2.1, s.2.1.2.2, s.2.2.1.1, s.2.2.1.2.1, s.2.2.1.2.2, s.2.2.2, cap, s.1)
def outR (e : Int) (nh cap : Nat) (s : St) : Int × Nat × Int × Int × Int × Int × Int × Int × Int × Nat × Dat :=
  (e, nh, s.2.1.1, s.2.1.2.1, s.2.1.2.2, s.2.2.1.1, s.2.2.1.2.1, s.2.2.1.2.2, s.2.2.2, cap, s.1)
section one
variable (nv : Nat) (dv : Dat) (nh cap : Nat) (dh : Dat) (i0 i1 i2 o0 o1 o2 day dy : Int) (fr to : ByteArray) (ox he am : Int) (pu : Bool)
theorem p86_bad (k : Int) (h : m125 k dy fr to ox he am pu ≠ 0) (hn : n125 k dy fr to ox he am pu = true) : m86 nv dv nh cap dh i0 i1 i2 o0 o1 o2 day k dy fr to ox he am pu = outP (m125 k dy fr to ox he am pu) nv dv nh cap (dh, (i0, i1, i2), (o0, o1, o2), day) ∧ n86 nv dv nh cap dh i0 i1 i2 o0 o1 o2 day k dy fr to ox he am pu = true := by
  have e1 : m86 nv dv nh cap dh i0 i1 i2 o0 o1 o2 day k dy fr to ox he am pu = w86 nv dv nh cap dh i0 i1 i2 o0 o1 o2 day k dy fr to ox he am pu (m125 k dy fr to ox he am pu) _ _ _ _ _ _ _ _ _ _ _ _ _ _ _ _ _ _ _ _ _ := rfl
  have e2 : n86 nv dv nh cap dh i0 i1 i2 o0 o1 o2 day k dy fr to ox he am pu = v86 nv dv nh cap dh i0 i1 i2 o0 o1 o2 day k dy fr to ox he am pu (m125 k dy fr to ox he am pu) _ _ _ _ _ _ _ _ _ _ _ _ _ _ _ _ _ _ _ _ _ := rfl
  rw [e1, e2]
  unfold w86 v86
  simp only [hn, decide_eq_false h, cond_false, cond_true, Bool.true_and, outP]
  exact ⟨trivial, trivial⟩
/-- Into a vessel. -/
theorem p86_0 (T : Int) (hT : m105 nv dv to = T) : m86 nv dv nh cap dh i0 i1 i2 o0 o1 o2 day 0 dy fr to ox he am pu =
    cond (bif decide (m125 0 dy fr to ox he am pu = 0) then false else true) (outP (m125 0 dy fr to ox he am pu) nv dv nh cap (dh, (i0, i1, i2), (o0, o1, o2), day))
    (cond (decide (T < 0)) (outP 6 nv dv nh cap (dh, (i0, i1, i2), (o0, o1, o2), day)) (cond (decide (dy < day)) (outP 9 nv dv nh cap (dh, (i0, i1, i2), (o0, o1, o2), day))
    (cond (decide (IntKind.i64.wrap (dv.ii T.toNat 2 * dv.ii T.toNat 1) < IntKind.i64.wrap (1000 * IntKind.i64.wrap (m84 (dh.ii T.toNat 0) (dh.ii T.toNat 1) (dh.ii T.toNat 2) + am)))) (outP 16 nv dv nh cap (dh, (i0, i1, i2), (o0, o1, o2), day))
    (outP 0 nv dv nh cap (set3 dh T.toNat (m131 (dh.ii T.toNat 0) (dh.ii T.toNat 1) (dh.ii T.toNat 2) (m129 ox he am).1 (m129 ox he am).2.1 (m129 ox he am).2.2), m131 i0 i1 i2 (m129 ox he am).1 (m129 ox he am).2.1 (m129 ox he am).2.2, (o0, o1, o2), dy))))) := by
  subst hT
  kernel_rfl
theorem q86_0 (T : Int) (hT : m105 nv dv to = T) : n86 nv dv nh cap dh i0 i1 i2 o0 o1 o2 day 0 dy fr to ox he am pu =
    (n125 0 dy fr to ox he am pu && (cond (bif decide (m125 0 dy fr to ox he am pu = 0) then false else true) true (n105 nv dv fr && (n105 nv dv to && (cond (decide (T < 0)) true (cond (decide (dy < day)) true
    (decide (0 ≤ T ∧ T < (nh : Int)) && (decide (T.toNat < cap) && (decide (0 ≤ T ∧ T < (nv : Int)) && (cond (decide (IntKind.i64.wrap (dv.ii T.toNat 2 * dv.ii T.toNat 1) < IntKind.i64.wrap (1000 * IntKind.i64.wrap (m84 (dh.ii T.toNat 0) (dh.ii T.toNat 1) (dh.ii T.toNat 2) + am)))) true
    (decide (0 ≤ T ∧ T < (nh : Int)) && (decide (T.toNat < cap) && (decide (0 ≤ T ∧ T < (nh : Int)) && (decide (T.toNat < cap) && true)))))))))))))) := by
  subst hT
  kernel_rfl
/-- From one vessel into another one. -/
theorem p86_1 (F T : Int) (hF : m105 nv dv fr = F) (hT : m105 nv dv to = T) (X Y : Int × Int × Int) (hX : m85 (dh.ii F.toNat 0) (dh.ii F.toNat 1) (dh.ii F.toNat 2) am = X) (hY : m130 (dh.ii F.toNat 0) (dh.ii F.toNat 1) (dh.ii F.toNat 2) X.1 X.2.1 X.2.2 = Y) : m86 nv dv nh cap dh i0 i1 i2 o0 o1 o2 day 1 dy fr to ox he am pu =
    cond (bif decide (m125 1 dy fr to ox he am pu = 0) then false else true) (outP (m125 1 dy fr to ox he am pu) nv dv nh cap (dh, (i0, i1, i2), (o0, o1, o2), day))
    (cond (bif decide (F < 0) then true else decide (T < 0)) (outP 6 nv dv nh cap (dh, (i0, i1, i2), (o0, o1, o2), day)) (cond (decide (dy < day)) (outP 9 nv dv nh cap (dh, (i0, i1, i2), (o0, o1, o2), day))
    (cond (decide (m84 (dh.ii F.toNat 0) (dh.ii F.toNat 1) (dh.ii F.toNat 2) < am)) (outP 20 nv dv nh cap (dh, (i0, i1, i2), (o0, o1, o2), day))
    (cond (decide (IntKind.i64.wrap (dv.ii T.toNat 2 * dv.ii T.toNat 1) < IntKind.i64.wrap (1000 * IntKind.i64.wrap (m84 (dh.ii T.toNat 0) (dh.ii T.toNat 1) (dh.ii T.toNat 2) + am)))) (outP 16 nv dv nh cap (dh, (i0, i1, i2), (o0, o1, o2), day))
    (cond (bif (bif pu then false else true) then decide (IntKind.i64.wrap (IntKind.i64.wrap (m84 (dh.ii F.toNat 0) (dh.ii F.toNat 1) (dh.ii F.toNat 2) - am) * dv.ii T.toNat 1) < IntKind.i64.wrap (IntKind.i64.wrap (m84 (dh.ii T.toNat 0) (dh.ii T.toNat 1) (dh.ii T.toNat 2) + am) * dv.ii F.toNat 1)) else false) (outP 24 nv dv nh cap (dh, (i0, i1, i2), (o0, o1, o2), day))
    (outP 0 nv dv nh cap (set3 (set3 dh F.toNat Y) T.toNat (m131 ((set3 dh F.toNat Y).ii T.toNat 0) ((set3 dh F.toNat Y).ii T.toNat 1) ((set3 dh F.toNat Y).ii T.toNat 2) X.1 X.2.1 X.2.2), (i0, i1, i2), (o0, o1, o2), dy))))))) := by
  subst hF hT hX hY
  kernel_rfl
theorem q86_1 (F T : Int) (hF : m105 nv dv fr = F) (hT : m105 nv dv to = T) : n86 nv dv nh cap dh i0 i1 i2 o0 o1 o2 day 1 dy fr to ox he am pu =
    (n125 1 dy fr to ox he am pu && (cond (bif decide (m125 1 dy fr to ox he am pu = 0) then false else true) true (n105 nv dv fr && (n105 nv dv to && (cond (bif decide (F < 0) then true else decide (T < 0)) true (cond (decide (dy < day)) true
    (decide (0 ≤ F ∧ F < (nh : Int)) && (decide (F.toNat < cap) && (cond (decide (m84 (dh.ii F.toNat 0) (dh.ii F.toNat 1) (dh.ii F.toNat 2) < am)) true
    (decide (0 ≤ T ∧ T < (nh : Int)) && (decide (T.toNat < cap) && (decide (0 ≤ T ∧ T < (nv : Int)) && (cond (decide (IntKind.i64.wrap (dv.ii T.toNat 2 * dv.ii T.toNat 1) < IntKind.i64.wrap (1000 * IntKind.i64.wrap (m84 (dh.ii T.toNat 0) (dh.ii T.toNat 1) (dh.ii T.toNat 2) + am)))) true
    ((bif (bif (bif pu then false else true) then false else true) then true else decide (0 ≤ F ∧ F < (nh : Int))) && ((bif (bif (bif pu then false else true) then false else true) then true else decide (F.toNat < cap)) && ((bif (bif (bif pu then false else true) then false else true) then true else decide (0 + nh ≤ cap)) && ((bif (bif (bif pu then false else true) then false else true) then true else (decide (0 ≤ F ∧ F < (nv : Int)) && (decide (0 ≤ T ∧ T < (nv : Int)) && true))) &&
    (cond (bif (bif pu then false else true) then decide (IntKind.i64.wrap (IntKind.i64.wrap (m84 (dh.ii F.toNat 0) (dh.ii F.toNat 1) (dh.ii F.toNat 2) - am) * dv.ii T.toNat 1) < IntKind.i64.wrap (IntKind.i64.wrap (m84 (dh.ii T.toNat 0) (dh.ii T.toNat 1) (dh.ii T.toNat 2) + am) * dv.ii F.toNat 1)) else false) true
    (decide (0 ≤ F ∧ F < (nh : Int)) && (decide (F.toNat < cap) && (n85 (dh.ii F.toNat 0) (dh.ii F.toNat 1) (dh.ii F.toNat 2) am && (decide (0 ≤ F ∧ F < (nh : Int)) && (decide (F.toNat < cap) && (decide (0 ≤ F ∧ F < (nh : Int)) && (decide (F.toNat < cap) && (decide (0 ≤ T ∧ T < (nh : Int)) && (decide (T.toNat < cap) && (decide (0 ≤ T ∧ T < (nh : Int)) && (decide (T.toNat < cap) && true))))))))))))))))))))))))))))) := by
  subst hF hT
  kernel_rfl
/-- Out of a vessel. -/
theorem p86_2 (F : Int) (hF : m105 nv dv fr = F) (X Y : Int × Int × Int) (hX : m85 (dh.ii F.toNat 0) (dh.ii F.toNat 1) (dh.ii F.toNat 2) am = X) (hY : m130 (dh.ii F.toNat 0) (dh.ii F.toNat 1) (dh.ii F.toNat 2) X.1 X.2.1 X.2.2 = Y) : m86 nv dv nh cap dh i0 i1 i2 o0 o1 o2 day 2 dy fr to ox he am pu =
    cond (bif decide (m125 2 dy fr to ox he am pu = 0) then false else true) (outP (m125 2 dy fr to ox he am pu) nv dv nh cap (dh, (i0, i1, i2), (o0, o1, o2), day))
    (cond (bif decide (F < 0) then true else false) (outP 6 nv dv nh cap (dh, (i0, i1, i2), (o0, o1, o2), day)) (cond (decide (dy < day)) (outP 9 nv dv nh cap (dh, (i0, i1, i2), (o0, o1, o2), day))
    (cond (decide (m84 (dh.ii F.toNat 0) (dh.ii F.toNat 1) (dh.ii F.toNat 2) < am)) (outP 20 nv dv nh cap (dh, (i0, i1, i2), (o0, o1, o2), day))
    (outP 0 nv dv nh cap (set3 dh F.toNat Y, (i0, i1, i2), m131 o0 o1 o2 X.1 X.2.1 X.2.2, dy))))) := by
  subst hF hX hY
  kernel_rfl
theorem q86_2 (F : Int) (hF : m105 nv dv fr = F) : n86 nv dv nh cap dh i0 i1 i2 o0 o1 o2 day 2 dy fr to ox he am pu =
    (n125 2 dy fr to ox he am pu && (cond (bif decide (m125 2 dy fr to ox he am pu = 0) then false else true) true (n105 nv dv fr && (n105 nv dv to && (cond (bif decide (F < 0) then true else false) true (cond (decide (dy < day)) true
    (decide (0 ≤ F ∧ F < (nh : Int)) && (decide (F.toNat < cap) && (cond (decide (m84 (dh.ii F.toNat 0) (dh.ii F.toNat 1) (dh.ii F.toNat 2) < am)) true
    (decide (0 ≤ F ∧ F < (nh : Int)) && (decide (F.toNat < cap) && (n85 (dh.ii F.toNat 0) (dh.ii F.toNat 1) (dh.ii F.toNat 2) am && (decide (0 ≤ F ∧ F < (nh : Int)) && (decide (F.toNat < cap) && (decide (0 ≤ F ∧ F < (nh : Int)) && (decide (F.toNat < cap) && true)))))))))))))))) := by
  subst hF
  kernel_rfl
theorem p111_0 (T : Int) (hT : m23 nv dv to = T) : m111 nv dv nh cap dh i0 i1 i2 o0 o1 o2 day 0 dy fr to ox he am pu =
    cond (decide (T < 0)) (outR 6 nh cap (dh, (i0, i1, i2), (o0, o1, o2), day)) (cond (decide (dy < day)) (outR 9 nh cap (dh, (i0, i1, i2), (o0, o1, o2), day))
    (cond (decide (IntKind.i64.wrap (dv.ii T.toNat 2 * dv.ii T.toNat 1) < IntKind.i64.wrap (1000 * IntKind.i64.wrap (m29 (dh.ii T.toNat 0) (dh.ii T.toNat 1) (dh.ii T.toNat 2) + am)))) (outR 16 nh cap (dh, (i0, i1, i2), (o0, o1, o2), day))
    (outR 0 nh cap (set3 dh T.toNat (m28 (dh.ii T.toNat 0) (dh.ii T.toNat 1) (dh.ii T.toNat 2) (m24 ox he am).1 (m24 ox he am).2.1 (m24 ox he am).2.2), m28 i0 i1 i2 (m24 ox he am).1 (m24 ox he am).2.1 (m24 ox he am).2.2, (o0, o1, o2), dy)))) := by
  subst hT
  kernel_rfl
theorem q111_0 (T : Int) (hT : m23 nv dv to = T) : n111 nv dv nh cap dh i0 i1 i2 o0 o1 o2 day 0 dy fr to ox he am pu =
    (n23 nv dv fr && (n23 nv dv to && (cond (decide (T < 0)) true (cond (decide (dy < day)) true
    (decide (0 ≤ T ∧ T < (nh : Int)) && (decide (T.toNat < cap) && (decide (0 ≤ T ∧ T < (nv : Int)) && (decide (0 ≤ T ∧ T < (nv : Int)) && (cond (decide (IntKind.i64.wrap (dv.ii T.toNat 2 * dv.ii T.toNat 1) < IntKind.i64.wrap (1000 * IntKind.i64.wrap (m29 (dh.ii T.toNat 0) (dh.ii T.toNat 1) (dh.ii T.toNat 2) + am)))) true
    (true && (true && (true && (true && (decide (0 ≤ T ∧ T < (nh : Int)) && (decide (T.toNat < cap) && (decide (0 ≤ T ∧ T < (nh : Int)) && (decide (T.toNat < cap) && true))))))))))))))))) := by
  subst hT
  kernel_rfl
theorem w111_1 (z0 : Int) (z1 : Int) (z2 : Int) (z4 : Int) (z9 : Int) (z10 : Int) (z11 : Int) (z14 : Int) (z15 : Int) (z16 : Int) (z17 : Int) (z18 : Int) (z19 : Int) (z20 : Dat) (z24 : Dat) (z25 : Dat) (z26 : Int) (z27 : Int) (z28 : Int) (z29 : Int) (z30 : Int) (z31 : Int) (z32 : Dat) (z36 : Dat) (z37 : Dat) : w111 nv dv nh cap dh i0 i1 i2 o0 o1 o2 day 1 dy fr to ox he am pu z0 z1 z2 z4 z9 z10 z11 z14 z15 z16 z17 z18 z19 z20 z24 z25 z26 z27 z28 z29 z30 z31 z32 z36 z37 =
    cond (bif decide (m23 nv dv fr < 0) then true else decide (m23 nv dv to < 0)) (outR 6 nh cap (dh, (i0, i1, i2), (o0, o1, o2), day)) (cond (decide (dy < day)) (outR 9 nh cap (dh, (i0, i1, i2), (o0, o1, o2), day))
    (cond (decide (m29 z0 z1 z2 < am)) (outR 20 nh cap (dh, (i0, i1, i2), (o0, o1, o2), day)) (cond (decide (z4 < z9)) (outR 16 nh cap (dh, (i0, i1, i2), (o0, o1, o2), day))
    (cond (bif (bif pu then false else true) then decide (z10 < z11) else false) (outR 24 nh cap (dh, (i0, i1, i2), (o0, o1, o2), day)) (outR 0 nh cap (z24, (i0, i1, i2), (o0, o1, o2), dy)))))) := by kernel_rfl
theorem v111_a : m111 nv dv nh cap dh i0 i1 i2 o0 o1 o2 day 1 dy fr to ox he am pu = w111 nv dv nh cap dh i0 i1 i2 o0 o1 o2 day 1 dy fr to ox he am pu (t111_0 nv dv nh cap dh i0 i1 i2 o0 o1 o2 day 1 dy fr to ox he am pu) (t111_1 nv dv nh cap dh i0 i1 i2 o0 o1 o2 day 1 dy fr to ox he am pu) (t111_2 nv dv nh cap dh i0 i1 i2 o0 o1 o2 day 1 dy fr to ox he am pu) (t111_4 nv dv nh cap dh i0 i1 i2 o0 o1 o2 day 1 dy fr to ox he am pu) (t111_9 nv dv nh cap dh i0 i1 i2 o0 o1 o2 day 1 dy fr to ox he am pu) (t111_10 nv dv nh cap dh i0 i1 i2 o0 o1 o2 day 1 dy fr to ox he am pu) (t111_11 nv dv nh cap dh i0 i1 i2 o0 o1 o2 day 1 dy fr to ox he am pu) (t111_14 nv dv nh cap dh i0 i1 i2 o0 o1 o2 day 1 dy fr to ox he am pu) (t111_15 nv dv nh cap dh i0 i1 i2 o0 o1 o2 day 1 dy fr to ox he am pu) (t111_16 nv dv nh cap dh i0 i1 i2 o0 o1 o2 day 1 dy fr to ox he am pu) (t111_17 nv dv nh cap dh i0 i1 i2 o0 o1 o2 day 1 dy fr to ox he am pu) (t111_18 nv dv nh cap dh i0 i1 i2 o0 o1 o2 day 1 dy fr to ox he am pu) (t111_19 nv dv nh cap dh i0 i1 i2 o0 o1 o2 day 1 dy fr to ox he am pu) (t111_20 nv dv nh cap dh i0 i1 i2 o0 o1 o2 day 1 dy fr to ox he am pu) (t111_24 nv dv nh cap dh i0 i1 i2 o0 o1 o2 day 1 dy fr to ox he am pu) (t111_25 nv dv nh cap dh i0 i1 i2 o0 o1 o2 day 1 dy fr to ox he am pu) (t111_26 nv dv nh cap dh i0 i1 i2 o0 o1 o2 day 1 dy fr to ox he am pu) (t111_27 nv dv nh cap dh i0 i1 i2 o0 o1 o2 day 1 dy fr to ox he am pu) (t111_28 nv dv nh cap dh i0 i1 i2 o0 o1 o2 day 1 dy fr to ox he am pu) (t111_29 nv dv nh cap dh i0 i1 i2 o0 o1 o2 day 1 dy fr to ox he am pu) (t111_30 nv dv nh cap dh i0 i1 i2 o0 o1 o2 day 1 dy fr to ox he am pu) (t111_31 nv dv nh cap dh i0 i1 i2 o0 o1 o2 day 1 dy fr to ox he am pu) (t111_32 nv dv nh cap dh i0 i1 i2 o0 o1 o2 day 1 dy fr to ox he am pu) (t111_36 nv dv nh cap dh i0 i1 i2 o0 o1 o2 day 1 dy fr to ox he am pu) (t111_37 nv dv nh cap dh i0 i1 i2 o0 o1 o2 day 1 dy fr to ox he am pu) := rfl
theorem v111_4 : t111_4 nv dv nh cap dh i0 i1 i2 o0 o1 o2 day 1 dy fr to ox he am pu = IntKind.i64.wrap (dv.ii (m23 nv dv to).toNat 2 * dv.ii (m23 nv dv to).toNat 1) := rfl
theorem v111_9 : t111_9 nv dv nh cap dh i0 i1 i2 o0 o1 o2 day 1 dy fr to ox he am pu = IntKind.i64.wrap (1000 * IntKind.i64.wrap (m29 (dh.ii (m23 nv dv to).toNat 0) (dh.ii (m23 nv dv to).toNat 1) (dh.ii (m23 nv dv to).toNat 2) + am)) := rfl
theorem v111_10 : t111_10 nv dv nh cap dh i0 i1 i2 o0 o1 o2 day 1 dy fr to ox he am pu = IntKind.i64.wrap (IntKind.i64.wrap (m29 (dh.ii (m23 nv dv fr).toNat 0) (dh.ii (m23 nv dv fr).toNat 1) (dh.ii (m23 nv dv fr).toNat 2) - am) * dv.ii (m23 nv dv to).toNat 1) := rfl
theorem v111_11 : t111_11 nv dv nh cap dh i0 i1 i2 o0 o1 o2 day 1 dy fr to ox he am pu = IntKind.i64.wrap (IntKind.i64.wrap (m29 (dh.ii (m23 nv dv to).toNat 0) (dh.ii (m23 nv dv to).toNat 1) (dh.ii (m23 nv dv to).toNat 2) + am) * dv.ii (m23 nv dv fr).toNat 1) := rfl
theorem v111_20 (F T : Int) (hF : m23 nv dv fr = F) (hT : m23 nv dv to = T) (X : Int × Int × Int) (hX : m45 (dh.ii F.toNat 0) (dh.ii F.toNat 1) (dh.ii F.toNat 2) am = X) :
   t111_20 nv dv nh cap dh i0 i1 i2 o0 o1 o2 day 1 dy fr to ox he am pu = set3 dh T.toNat (m28 (dh.ii T.toNat 0) (dh.ii T.toNat 1) (dh.ii T.toNat 2) X.1 X.2.1 X.2.2) := by subst hF hT hX; rfl
theorem v111_24 (F T : Int) (hF : m23 nv dv fr = F) (hT : m23 nv dv to = T) (X : Int × Int × Int) (hX : m45 (dh.ii F.toNat 0) (dh.ii F.toNat 1) (dh.ii F.toNat 2) am = X) (D : Dat) (hD : t111_20 nv dv nh cap dh i0 i1 i2 o0 o1 o2 day 1 dy fr to ox he am pu = D) :
   t111_24 nv dv nh cap dh i0 i1 i2 o0 o1 o2 day 1 dy fr to ox he am pu = set3 D F.toNat (m27 (D.ii F.toNat 0) (D.ii F.toNat 1) (D.ii F.toNat 2) X.1 X.2.1 X.2.2) := by subst hF hT hX hD; rfl
theorem p111_1 (F T : Int) (hF : m23 nv dv fr = F) (hT : m23 nv dv to = T) (X Z : Int × Int × Int) (hX : m45 (dh.ii F.toNat 0) (dh.ii F.toNat 1) (dh.ii F.toNat 2) am = X) (hZ : m28 (dh.ii T.toNat 0) (dh.ii T.toNat 1) (dh.ii T.toNat 2) X.1 X.2.1 X.2.2 = Z) : m111 nv dv nh cap dh i0 i1 i2 o0 o1 o2 day 1 dy fr to ox he am pu =
    cond (bif decide (F < 0) then true else decide (T < 0)) (outR 6 nh cap (dh, (i0, i1, i2), (o0, o1, o2), day)) (cond (decide (dy < day)) (outR 9 nh cap (dh, (i0, i1, i2), (o0, o1, o2), day))
    (cond (decide (m29 (dh.ii F.toNat 0) (dh.ii F.toNat 1) (dh.ii F.toNat 2) < am)) (outR 20 nh cap (dh, (i0, i1, i2), (o0, o1, o2), day))
    (cond (decide (IntKind.i64.wrap (dv.ii T.toNat 2 * dv.ii T.toNat 1) < IntKind.i64.wrap (1000 * IntKind.i64.wrap (m29 (dh.ii T.toNat 0) (dh.ii T.toNat 1) (dh.ii T.toNat 2) + am)))) (outR 16 nh cap (dh, (i0, i1, i2), (o0, o1, o2), day))
    (cond (bif (bif pu then false else true) then decide (IntKind.i64.wrap (IntKind.i64.wrap (m29 (dh.ii F.toNat 0) (dh.ii F.toNat 1) (dh.ii F.toNat 2) - am) * dv.ii T.toNat 1) < IntKind.i64.wrap (IntKind.i64.wrap (m29 (dh.ii T.toNat 0) (dh.ii T.toNat 1) (dh.ii T.toNat 2) + am) * dv.ii F.toNat 1)) else false) (outR 24 nh cap (dh, (i0, i1, i2), (o0, o1, o2), day))
    (outR 0 nh cap (set3 (set3 dh T.toNat Z) F.toNat (m27 ((set3 dh T.toNat Z).ii F.toNat 0) ((set3 dh T.toNat Z).ii F.toNat 1) ((set3 dh T.toNat Z).ii F.toNat 2) X.1 X.2.1 X.2.2), (i0, i1, i2), (o0, o1, o2), dy)))))) := by
  rw [v111_a, w111_1, v111_4, v111_9, v111_10, v111_11, v111_24 _ _ _ _ _ _ _ _ _ _ _ _ _ _ _ _ _ _ _ F T hF hT X hX _ rfl, v111_20 _ _ _ _ _ _ _ _ _ _ _ _ _ _ _ _ _ _ _ F T hF hT X hX, hZ, hF, hT]
  subst hF
  rfl
theorem q111_1 (F T : Int) (hF : m23 nv dv fr = F) (hT : m23 nv dv to = T) : n111 nv dv nh cap dh i0 i1 i2 o0 o1 o2 day 1 dy fr to ox he am pu =
    (n23 nv dv fr && (n23 nv dv to && (cond (bif decide (F < 0) then true else decide (T < 0)) true (cond (decide (dy < day)) true
    (decide (0 ≤ F ∧ F < (nh : Int)) && (decide (F.toNat < cap) && (cond (decide (m29 (dh.ii F.toNat 0) (dh.ii F.toNat 1) (dh.ii F.toNat 2) < am)) true
    (decide (0 ≤ F ∧ F < (nh : Int)) && (decide (F.toNat < cap) && (n45 (dh.ii F.toNat 0) (dh.ii F.toNat 1) (dh.ii F.toNat 2) am &&
    (decide (0 ≤ T ∧ T < (nh : Int)) && (decide (T.toNat < cap) && (decide (0 ≤ T ∧ T < (nv : Int)) && (decide (0 ≤ T ∧ T < (nv : Int)) && (cond (decide (IntKind.i64.wrap (dv.ii T.toNat 2 * dv.ii T.toNat 1) < IntKind.i64.wrap (1000 * IntKind.i64.wrap (m29 (dh.ii T.toNat 0) (dh.ii T.toNat 1) (dh.ii T.toNat 2) + am)))) true
    ((bif (bif (bif pu then false else true) then false else true) then true else decide (0 ≤ F ∧ F < (nh : Int))) && ((bif (bif (bif pu then false else true) then false else true) then true else decide (F.toNat < cap)) && ((bif (bif (bif pu then false else true) then false else true) then true else decide (0 ≤ T ∧ T < (nv : Int))) && ((bif (bif (bif pu then false else true) then false else true) then true else decide (0 ≤ F ∧ F < (nv : Int))) &&
    (cond (bif (bif pu then false else true) then decide (IntKind.i64.wrap (IntKind.i64.wrap (m29 (dh.ii F.toNat 0) (dh.ii F.toNat 1) (dh.ii F.toNat 2) - am) * dv.ii T.toNat 1) < IntKind.i64.wrap (IntKind.i64.wrap (m29 (dh.ii T.toNat 0) (dh.ii T.toNat 1) (dh.ii T.toNat 2) + am) * dv.ii F.toNat 1)) else false) true
    (decide (0 ≤ T ∧ T < (nh : Int)) && (decide (T.toNat < cap) && (decide (0 ≤ T ∧ T < (nh : Int)) && (decide (T.toNat < cap) && (decide (0 ≤ F ∧ F < (nh : Int)) && (decide (F.toNat < cap) && (decide (0 ≤ F ∧ F < (nh : Int)) && (decide (F.toNat < cap) && true)))))))))))))))))))))))))))) := by
  subst hF hT
  kernel_rfl
theorem p111_2 (F : Int) (hF : m23 nv dv fr = F) (X : Int × Int × Int) (hX : m45 (dh.ii F.toNat 0) (dh.ii F.toNat 1) (dh.ii F.toNat 2) am = X) : m111 nv dv nh cap dh i0 i1 i2 o0 o1 o2 day 2 dy fr to ox he am pu =
    cond (bif decide (F < 0) then true else false) (outR 6 nh cap (dh, (i0, i1, i2), (o0, o1, o2), day)) (cond (decide (dy < day)) (outR 9 nh cap (dh, (i0, i1, i2), (o0, o1, o2), day))
    (cond (decide (m29 (dh.ii F.toNat 0) (dh.ii F.toNat 1) (dh.ii F.toNat 2) < am)) (outR 20 nh cap (dh, (i0, i1, i2), (o0, o1, o2), day))
    (outR 0 nh cap (set3 dh F.toNat (m27 (dh.ii F.toNat 0) (dh.ii F.toNat 1) (dh.ii F.toNat 2) X.1 X.2.1 X.2.2), (i0, i1, i2), m28 o0 o1 o2 X.1 X.2.1 X.2.2, dy)))) := by
  subst hF hX
  kernel_rfl
theorem q111_2 (F : Int) (hF : m23 nv dv fr = F) : n111 nv dv nh cap dh i0 i1 i2 o0 o1 o2 day 2 dy fr to ox he am pu =
    (n23 nv dv fr && (n23 nv dv to && (cond (bif decide (F < 0) then true else false) true (cond (decide (dy < day)) true
    (decide (0 ≤ F ∧ F < (nh : Int)) && (decide (F.toNat < cap) && (cond (decide (m29 (dh.ii F.toNat 0) (dh.ii F.toNat 1) (dh.ii F.toNat 2) < am)) true
    (decide (0 ≤ F ∧ F < (nh : Int)) && (decide (F.toNat < cap) && (n45 (dh.ii F.toNat 0) (dh.ii F.toNat 1) (dh.ii F.toNat 2) am && (decide (0 ≤ F ∧ F < (nh : Int)) && (decide (F.toNat < cap) && (decide (0 ≤ F ∧ F < (nh : Int)) && (decide (F.toNat < cap) && true)))))))))))))) := by
  subst hF
  kernel_rfl
end one
end Go.Proofs.Ytmndejpcpfkajaa
