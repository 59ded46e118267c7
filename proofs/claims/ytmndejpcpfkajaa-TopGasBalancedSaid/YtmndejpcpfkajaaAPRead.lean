/-
  Reading fills: the program and the reference run alike; what holds of the store. Conditions: none.
-/
import Derived.Test.YtmndejpcpfkajaaAFGasBalanced
import Derived.Test.YtmndejpcpfkajaaAPMatches
import Derived.Test.YtmndejpcpfkajaaAPPartials
import Derived.Test.YtmndejpcpfkajaaAPLoop
import Derived.Test.YtmndejpcpfkajaaAPFactors
import Derived.Test.YtmndejpcpfkajaaAPShares
import Derived.Test.YtmndejpcpfkajaaAPVessels
import Derived.Test.YtmndejpcpfkajaaAPFills
import Derived.Test.YtmndejpcpfkajaaA1
import Derived.Test.YtmndejpcpfkajaaA2
import Derived.Test.YtmndejpcpfkajaaA3
import Derived.Test.YtmndejpcpfkajaaA4
namespace Go.Proofs.Ytmndejpcpfkajaa
open Go Go.Sy
set_option linter.unusedVariables false
set_option maxRecDepth 100000
attribute [local simp] brk
def tot (d : Dat) (c : Nat) : Nat → Int
  | 0 => 0
  | n + 1 => tot d c n + d.ii n c
theorem tot_set (d d' : Dat) (c k : Nat) (v : Int) (h1 : d'.ii k c = v) (h2 : ∀ i, i ≠ k → d'.ii i c = d.ii i c) : ∀ n, tot d' c n = if k < n then tot d c n - d.ii k c + v else tot d c n
  | 0 => by simp [tot]
  | n + 1 => by
    simp only [tot, tot_set d d' c k v h1 h2 n]
    by_cases hk : n = k
    · subst hk
      rw [h1]
      have a : ¬ n < n := by omega
      have b : n < n + 1 := by omega
      simp only [a, b, if_true, if_false]
      omega
    · rw [h2 n hk]
      by_cases h : k < n
      · have : k < n + 1 := by omega
        simp only [h, this, if_true]
        omega
      · have : ¬ k < n + 1 := by omega
        simp only [h, this, if_false]
theorem set3_at (d : Dat) (k : Nat) (x : Int × Int × Int) : (set3 d k x).ii k 0 = x.1 ∧ (set3 d k x).ii k 1 = x.2.1 ∧ (set3 d k x).ii k 2 = x.2.2 := upd_at d k _ _ _
theorem set3_off (d : Dat) (k q c : Nat) (x : Int × Int × Int) (h : q ≠ k) : (set3 d k x).ii q c = d.ii q c := upd_off d k q c _ h
theorem tot3 (d : Dat) (k n : Nat) (x : Int × Int × Int) (h : k < n) : tot (set3 d k x) 0 n = tot d 0 n - d.ii k 0 + x.1 ∧ tot (set3 d k x) 1 n = tot d 1 n - d.ii k 1 + x.2.1 ∧ tot (set3 d k x) 2 n = tot d 2 n - d.ii k 2 + x.2.2 := by
  obtain ⟨a, b, c⟩ := set3_at d k x
  have o : ∀ i c, i ≠ k → (set3 d k x).ii i c = d.ii i c := fun i c h => set3_off d k i c x h
  rw [tot_set d _ 0 k _ a (fun i h => o i 0 h), tot_set d _ 1 k _ b (fun i h => o i 1 h), tot_set d _ 2 k _ c (fun i h => o i 2 h)]
  simp [h]
/-- Gas by gas, what came in is held or was vented. -/
def Bal (nv : Nat) (s : St) : Prop := s.2.1.1 = s.2.2.1.1 + tot s.1 0 nv ∧ s.2.1.2.1 = s.2.2.1.2.1 + tot s.1 1 nv ∧ s.2.1.2.2 = s.2.2.1.2.2 + tot s.1 2 nv
theorem plus_w {a b c : Int} {x : Int × Int × Int} {B : Int} (hB : B ≤ 1000000000000) (h : bd6 B (a, b, c)) (hx : 0 ≤ x.1 ∧ 0 ≤ x.2.1 ∧ 0 ≤ x.2.2 ∧ x.1 + x.2.1 + x.2.2 ≤ 1000000000) :
    m131 a b c x.1 x.2.1 x.2.2 = plus3 (a, b, c) x ∧ m28 a b c x.1 x.2.1 x.2.2 = plus3 (a, b, c) x ∧ bd6 (B + 1000000000) (plus3 (a, b, c) x) := by
  obtain ⟨⟨h1, h2⟩, ⟨h3, h4⟩, ⟨h5, h6⟩⟩ := h
  simp only at h1 h2 h3 h4 h5 h6
  have e : m131 a b c x.1 x.2.1 x.2.2 = plus3 (a, b, c) x := by
    simp only [m131, plus3]
    rw [wr (n := a + x.1) (by omega) (by omega), wr (n := b + x.2.1) (by omega) (by omega), wr (n := c + x.2.2) (by omega) (by omega)]
  refine ⟨e, e, ?_⟩
  simp only [plus3, bd6]
  omega
theorem less_w {a b c : Int} {x : Int × Int × Int} (h : (0 ≤ a ∧ a ≤ 400000000) ∧ (0 ≤ b ∧ b ≤ 400000000) ∧ (0 ≤ c ∧ c ≤ 400000000)) (hx : (0 ≤ x.1 ∧ x.1 ≤ a) ∧ (0 ≤ x.2.1 ∧ x.2.1 ≤ b) ∧ (0 ≤ x.2.2 ∧ x.2.2 ≤ c)) :
    m130 a b c x.1 x.2.1 x.2.2 = less3 (a, b, c) x ∧ m27 a b c x.1 x.2.1 x.2.2 = less3 (a, b, c) x := by
  have e : m130 a b c x.1 x.2.1 x.2.2 = less3 (a, b, c) x := by
    simp only [m130, less3]
    rw [wr (n := a - x.1) (by omega) (by omega), wr (n := b - x.2.1) (by omega) (by omega), wr (n := c - x.2.2) (by omega) (by omega)]
  exact ⟨e, e⟩
noncomputable def callP (nv : Nat) (dv : Dat) (s : St) (x : Fi) : Int × Nat × Dat × Nat × Int × Int × Int × Int × Int × Int × Int × Nat × Dat :=
  m86 nv dv nv nv s.1 s.2.1.1 s.2.1.2.1 s.2.1.2.2 s.2.2.1.1 s.2.2.1.2.1 s.2.2.1.2.2 s.2.2.2 x.k x.dy x.fr x.to x.ox x.he x.am x.pu
noncomputable def needP (nv : Nat) (dv : Dat) (s : St) (x : Fi) : Bool :=
  n86 nv dv nv nv s.1 s.2.1.1 s.2.1.2.1 s.2.1.2.2 s.2.2.1.1 s.2.2.1.2.1 s.2.2.1.2.2 s.2.2.2 x.k x.dy x.fr x.to x.ox x.he x.am x.pu
noncomputable def callR (nv : Nat) (dv : Dat) (s : St) (x : Fi) : Int × Nat × Int × Int × Int × Int × Int × Int × Int × Nat × Dat :=
  m111 nv dv nv nv s.1 s.2.1.1 s.2.1.2.1 s.2.1.2.2 s.2.2.1.1 s.2.2.1.2.1 s.2.2.1.2.2 s.2.2.2 x.k x.dy x.fr x.to x.ox x.he x.am x.pu
noncomputable def needR (nv : Nat) (dv : Dat) (s : St) (x : Fi) : Bool :=
  n111 nv dv nv nv s.1 s.2.1.1 s.2.1.2.1 s.2.1.2.2 s.2.2.1.1 s.2.2.1.2.1 s.2.2.1.2.2 s.2.2.2 x.k x.dy x.fr x.to x.ox x.he x.am x.pu
theorem RightC.bd {nv : Nat} {dv dh : Dat} {i : Nat} (V : RightV nv dv) (hi : i < nv) (C : RightC dv dh i) : (0 ≤ dh.ii i 0 ∧ dh.ii i 0 ≤ 400000000) ∧ (0 ≤ dh.ii i 1 ∧ dh.ii i 1 ≤ 400000000) ∧ (0 ≤ dh.ii i 2 ∧ dh.ii i 2 ≤ 400000000) := by
  have h := C.le V hi
  have a := C.a
  have b := C.b
  have c := C.c
  unfold sm at h
  omega
theorem vw {nv : Nat} {dv : Dat} {i : Nat} (V : RightV nv dv) (hi : i < nv) : IntKind.i64.wrap (dv.ii i 2 * dv.ii i 1) = dv.ii i 2 * dv.ii i 1 ∧ dv.ii i 2 * dv.ii i 1 ≤ 400000000000 := by
  have v := V.vol i hi
  have m := V.most i hi
  have h := mulb (show 0 ≤ dv.ii i 2 by omega) m.2 (show 0 ≤ dv.ii i 1 by omega) v.2
  exact ⟨wr (by omega) (by omega), by omega⟩
/-- What a step of both comes to. -/
structure Step (nv : Nat) (dv : Dat) (s : St) (x : Fi) (B : Int) : Prop where
  nP : needP nv dv s x = true
  mP : callP nv dv s x = if errF nv dv s x = 0 then outP 0 nv dv nv nv (nextF nv dv s x) else outP (errF nv dv s x) nv dv nv nv s
  al : x.al ≠ 0 → errF nv dv s x = x.al
  nR : x.al = 0 → needR nv dv s x = true
  mR : x.al = 0 → callR nv dv s x = if errF nv dv s x = 0 then outR 0 nv nv (nextF nv dv s x) else outR (errF nv dv s x) nv nv s
  right : errF nv dv s x = 0 → RightS nv dv (nextF nv dv s x) (B + 1000000000)
  bal : errF nv dv s x = 0 → Bal nv s → Bal nv (nextF nv dv s x)
theorem step_in {nv : Nat} {dv : Dat} (hn : nv ≤ 9223372036854775807) (V : RightV nv dv) {dh : Dat} {i0 i1 i2 o0 o1 o2 day B : Int} (hB : B ≤ 1000000000000) (S : RightS nv dv (dh, (i0, i1, i2), (o0, o1, o2), day) B)
    {dy : Int} {fr to : ByteArray} {ox he am : Int} {pu : Bool} (hal : m110 0 dy fr to ox he am pu = 0) : Step nv dv (dh, (i0, i1, i2), (o0, o1, o2), day) ⟨0, dy, fr, to, ox, he, am, pu⟩ B := by
  obtain ⟨_, ha, h83, _, _⟩ := alone_right hal
  obtain ⟨a1, a2⟩ := alone_both 0 dy fr to ox he am pu
  rw [hal] at a2
  obtain ⟨nf79, mf79⟩ := find79 nv hn dv fr
  obtain ⟨nt79, mt79⟩ := find79 nv hn dv to
  obtain ⟨nf43, mf43⟩ := find43 nv hn dv fr
  obtain ⟨nt43, mt43⟩ := find43 nv hn dv to
  obtain ⟨f1, f2, f3, f4, f5, f6⟩ := fresh_ok (h83 rfl) ha
  have eP := p86_0 nv dv nv nv dh i0 i1 i2 o0 o1 o2 day dy fr to ox he am pu _ mt79
  have eQ := q86_0 nv dv nv nv dh i0 i1 i2 o0 o1 o2 day dy fr to ox he am pu _ mt79
  have rP := p111_0 nv dv nv nv dh i0 i1 i2 o0 o1 o2 day dy fr to ox he am pu _ mt43
  have rQ := q111_0 nv dv nv nv dh i0 i1 i2 o0 o1 o2 day dy fr to ox he am pu _ mt43
  simp only [a2] at eP eQ
  simp only [a1, nf79, nt79] at eQ
  simp only [nf43, nt43] at rQ
  have eE : errF nv dv (dh, (i0, i1, i2), (o0, o1, o2), day) ⟨0, dy, fr, to, ox, he, am, pu⟩ = if fnd nv dv to < 0 then 6 else if dy < day then 9 else if dv.ii (fnd nv dv to).toNat 2 * dv.ii (fnd nv dv to).toNat 1 < 1000 * (sm dh (fnd nv dv to).toNat + am) then 16 else 0 := by
    simp [errF, Fi.al, hal, Fi.t]
  have eN : nextF nv dv (dh, (i0, i1, i2), (o0, o1, o2), day) ⟨0, dy, fr, to, ox, he, am, pu⟩ = (set3 dh (fnd nv dv to).toNat (plus3 (row3 dh (fnd nv dv to).toNat) (fresh ox he am)), plus3 (i0, i1, i2) (fresh ox he am), (o0, o1, o2), dy) := by
    simp [nextF, heldF, moved, Fi.t]
  generalize hT : fnd nv dv to = T at *
  by_cases c1 : T < 0
  · refine ⟨?_, ?_, ?_, fun _ => ?_, fun _ => ?_, ?_, ?_⟩
    · simp only [needP, eQ, c1]; simp
    · simp only [callP, eP, eE, c1]; simp
    · intro h; exact absurd hal h
    · simp only [needR, rQ, c1]; simp
    · simp only [callR, rP, eE, c1]; simp
    · intro h; simp [eE, c1] at h
    · intro h; simp [eE, c1] at h
  · obtain ⟨t, ht, hTt, hsn⟩ := fnd_in (s := to) (nv := nv) (dv := dv) (by rw [hT]; exact c1)
    rw [hT] at hTt
    subst hTt
    simp only [Int.toNat_natCast] at eP eQ rP rQ eE eN
    have C := S.held t ht
    have cle := C.le V ht
    have cb := C.bd V ht
    obtain ⟨s74, s19⟩ := sm_w V ht C
    simp only at cle cb s74 s19
    obtain ⟨v1, v2⟩ := vw V ht
    have sm0 : 0 ≤ sm dh t := by unfold sm; omega
    have w1 : IntKind.i64.wrap (sm dh t + am) = sm dh t + am := wr (by omega) (by omega)
    have w2 : IntKind.i64.wrap (1000 * (sm dh t + am)) = 1000 * (sm dh t + am) := wr (by omega) (by omega)
    have g1 : decide ((0 : Int) ≤ (t : Int) ∧ (t : Int) < (nv : Int)) = true := cdd ht
    have g2 : decide (t < nv) = true := decide_eq_true ht
    simp only [s74, w1, v1, w2] at eP eQ
    simp only [s19, w1, v1, w2] at rP rQ
    obtain ⟨u1, u2, u3⟩ := plus_w (a := dh.ii t 0) (b := dh.ii t 1) (c := dh.ii t 2) (x := fresh ox he am) (B := 400000000) (by omega) cb ⟨f3, f4, f5, by omega⟩
    obtain ⟨y1, y2, y3⟩ := plus_w (a := i0) (b := i1) (c := i2) (x := fresh ox he am) (B := B) hB S.inn ⟨f3, f4, f5, by omega⟩
    simp only [f1, u1, y1] at eP
    simp only [f2, u2, y2] at rP
    by_cases c2 : dy < day
    · refine ⟨?_, ?_, ?_, fun _ => ?_, fun _ => ?_, ?_, ?_⟩
      · simp only [needP, eQ, c1, c2]; simp
      · simp only [callP, eP, eE, c1, c2]; simp
      · intro h; exact absurd hal h
      · simp only [needR, rQ, c1, c2]; simp
      · simp only [callR, rP, eE, c1, c2]; simp
      · intro h; simp [eE, c1, c2] at h
      · intro h; simp [eE, c1, c2] at h
    · by_cases c6 : dv.ii t 2 * dv.ii t 1 < 1000 * (sm dh t + am)
      · refine ⟨?_, ?_, ?_, fun _ => ?_, fun _ => ?_, ?_, ?_⟩
        · simp only [needP, eQ, c1, c2, c6, g1, g2]; simp
        · simp only [callP, eP, eE, c1, c2, c6]; simp
        · intro h; exact absurd hal h
        · simp only [needR, rQ, c1, c2, c6, g1, g2]; simp
        · simp only [callR, rP, eE, c1, c2, c6]; simp
        · intro h; simp [eE, c1, c2, c6] at h
        · intro h; simp [eE, c1, c2, c6] at h
      · refine ⟨?_, ?_, ?_, fun _ => ?_, fun _ => ?_, ?_, ?_⟩
        · simp only [needP, eQ, c1, c2, c6, g1, g2]; simp
        · simp only [callP, eP, eE, eN, c1, c2, c6]; simp [row3]
        · intro h; exact absurd hal h
        · simp only [needR, rQ, c1, c2, c6, g1, g2]; simp
        · simp only [callR, rP, eE, eN, c1, c2, c6]; simp [row3]
        · intro _
          rw [eN]
          refine ⟨fun i hi => ?_, y3, ?_⟩
          · by_cases hit : i = t
            · subst hit
              obtain ⟨q1, q2, q6⟩ := set3_at dh i (plus3 (row3 dh i) (fresh ox he am))
              refine ⟨?_, ?_, ?_, ?_⟩
              · simp only [q1]; simp only [plus3, row3]; omega
              · simp only [q2]; simp only [plus3, row3]; omega
              · simp only [q6]; simp only [plus3, row3]; omega
              · simp only [sm, q1, q2, q6]; simp only [sm, plus3, row3] at c6 ⊢; omega
            · have o : ∀ c, (set3 dh t (plus3 (row3 dh t) (fresh ox he am))).ii i c = dh.ii i c := fun c => set3_off _ _ _ _ _ hit
              have Ci := S.held i hi
              refine ⟨?_, ?_, ?_, ?_⟩
              · simp only [o]; exact Ci.a
              · simp only [o]; exact Ci.b
              · simp only [o]; exact Ci.c
              · simp only [sm, o]; exact Ci.p
          · obtain ⟨⟨z1, z2⟩, ⟨z3, z4⟩, z5, z6⟩ := S.ven
            simp only [bd6] at z1 z2 z3 z4 z5 z6 ⊢
            omega
        · intro _ hb
          rw [eN]
          obtain ⟨b1, b2, b3⟩ := hb
          obtain ⟨k1, k2, k6⟩ := tot3 dh t nv (plus3 (row3 dh t) (fresh ox he am)) ht
          simp only [Bal, k1, k2, k6]
          simp only [plus3, row3] at b1 b2 b3 ⊢
          omega
theorem step_out {nv : Nat} {dv : Dat} (hn : nv ≤ 9223372036854775807) (V : RightV nv dv) {dh : Dat} {i0 i1 i2 o0 o1 o2 day B : Int} (hB : B ≤ 1000000000000) (S : RightS nv dv (dh, (i0, i1, i2), (o0, o1, o2), day) B)
    {dy : Int} {fr to : ByteArray} {ox he am : Int} {pu : Bool} (hal : m110 2 dy fr to ox he am pu = 0) : Step nv dv (dh, (i0, i1, i2), (o0, o1, o2), day) ⟨2, dy, fr, to, ox, he, am, pu⟩ B := by
  obtain ⟨_, ha, _, _, _⟩ := alone_right hal
  obtain ⟨a1, a2⟩ := alone_both 2 dy fr to ox he am pu
  rw [hal] at a2
  obtain ⟨nf79, mf79⟩ := find79 nv hn dv fr
  obtain ⟨nt79, mt79⟩ := find79 nv hn dv to
  obtain ⟨nf43, mf43⟩ := find43 nv hn dv fr
  obtain ⟨nt43, mt43⟩ := find43 nv hn dv to
  have eP := p86_2 nv dv nv nv dh i0 i1 i2 o0 o1 o2 day dy fr to ox he am pu _ mf79 _ _ rfl rfl
  have eQ := q86_2 nv dv nv nv dh i0 i1 i2 o0 o1 o2 day dy fr to ox he am pu _ mf79
  have rP := p111_2 nv dv nv nv dh i0 i1 i2 o0 o1 o2 day dy fr to ox he am pu _ mf43 _ rfl
  have rQ := q111_2 nv dv nv nv dh i0 i1 i2 o0 o1 o2 day dy fr to ox he am pu _ mf43
  simp only [a2] at eP eQ
  simp only [a1, nf79, nt79] at eQ
  simp only [nf43, nt43] at rQ
  have eE : errF nv dv (dh, (i0, i1, i2), (o0, o1, o2), day) ⟨2, dy, fr, to, ox, he, am, pu⟩ = if fnd nv dv fr < 0 then 6 else if dy < day then 9 else if sm dh (fnd nv dv fr).toNat < am then 20 else 0 := by
    simp [errF, Fi.al, hal, Fi.f]
  have eN : nextF nv dv (dh, (i0, i1, i2), (o0, o1, o2), day) ⟨2, dy, fr, to, ox, he, am, pu⟩ = (set3 dh (fnd nv dv fr).toNat (less3 (row3 dh (fnd nv dv fr).toNat) (shr (dh.ii (fnd nv dv fr).toNat 0) (dh.ii (fnd nv dv fr).toNat 1) (dh.ii (fnd nv dv fr).toNat 2) am)), (i0, i1, i2), plus3 (o0, o1, o2) (shr (dh.ii (fnd nv dv fr).toNat 0) (dh.ii (fnd nv dv fr).toNat 1) (dh.ii (fnd nv dv fr).toNat 2) am), dy) := by
    simp [nextF, heldF, moved, Fi.f]
  generalize hT : fnd nv dv fr = T at *
  by_cases c1 : T < 0
  · refine ⟨?_, ?_, ?_, fun _ => ?_, fun _ => ?_, ?_, ?_⟩
    · simp only [needP, eQ, c1]; simp
    · simp only [callP, eP, eE, c1]; simp
    · intro h; exact absurd hal h
    · simp only [needR, rQ, c1]; simp
    · simp only [callR, rP, eE, c1]; simp
    · intro h; simp [eE, c1] at h
    · intro h; simp [eE, c1] at h
  · obtain ⟨t, ht, hTt, hsn⟩ := fnd_in (s := fr) (nv := nv) (dv := dv) (by rw [hT]; exact c1)
    rw [hT] at hTt
    subst hTt
    simp only [Int.toNat_natCast] at eP eQ rP rQ eE eN
    have C := S.held t ht
    have cb := C.bd V ht
    obtain ⟨s74, s19⟩ := sm_w V ht C
    simp only at cb s74 s19
    have g1 : decide ((0 : Int) ≤ (t : Int) ∧ (t : Int) < (nv : Int)) = true := cdd ht
    have g2 : decide (t < nv) = true := decide_eq_true ht
    simp only [s74] at eP eQ
    simp only [s19] at rP rQ
    by_cases c2 : dy < day
    · refine ⟨?_, ?_, ?_, fun _ => ?_, fun _ => ?_, ?_, ?_⟩
      · simp only [needP, eQ, c1, c2]; simp
      · simp only [callP, eP, eE, c1, c2]; simp
      · intro h; exact absurd hal h
      · simp only [needR, rQ, c1, c2]; simp
      · simp only [callR, rP, eE, c1, c2]; simp
      · intro h; simp [eE, c1, c2] at h
      · intro h; simp [eE, c1, c2] at h
    · by_cases c6 : sm dh t < am
      · refine ⟨?_, ?_, ?_, fun _ => ?_, fun _ => ?_, ?_, ?_⟩
        · simp only [needP, eQ, c1, c2, c6, g1, g2]; simp
        · simp only [callP, eP, eE, c1, c2, c6]; simp
        · intro h; exact absurd hal h
        · simp only [needR, rQ, c1, c2, c6, g1, g2]; simp
        · simp only [callR, rP, eE, c1, c2, c6]; simp
        · intro h; simp [eE, c1, c2, c6] at h
        · intro h; simp [eE, c1, c2, c6] at h
      · obtain ⟨h1, h2, h3, h4, h5, h6, h7, h8⟩ := share_ok V ht C ha.1 (show am ≤ sm dh t by omega)
        simp only at h1 h2 h3 h4 h5 h6 h7 h8
        simp only [h3] at eP
        simp only [h4] at rP
        generalize shr (dh.ii t 0) (dh.ii t 1) (dh.ii t 2) am = X at *
        obtain ⟨l1, l2⟩ := less_w (x := X) cb ⟨h6, h7, h8⟩
        obtain ⟨y1, y2, y3⟩ := plus_w (a := o0) (b := o1) (c := o2) (x := X) (B := B) hB S.ven ⟨h6.1, h7.1, h8.1, by omega⟩
        simp only [l1, y1] at eP
        simp only [l2, y2] at rP
        refine ⟨?_, ?_, ?_, fun _ => ?_, fun _ => ?_, ?_, ?_⟩
        · simp only [needP, eQ, c1, c2, c6, g1, g2, h1]; simp
        · simp only [callP, eP, eE, eN, c1, c2, c6]; simp [row3]
        · intro h; exact absurd hal h
        · simp only [needR, rQ, c1, c2, c6, g1, g2, h2]; simp
        · simp only [callR, rP, eE, eN, c1, c2, c6]; simp [row3]
        · intro _
          rw [eN]
          refine ⟨fun i hi => ?_, ?_, y3⟩
          · by_cases hit : i = t
            · subst hit
              obtain ⟨q1, q2, q6⟩ := set3_at dh i (less3 (row3 dh i) X)
              have cp := C.p
              simp only at cp
              refine ⟨?_, ?_, ?_, ?_⟩
              · simp only [q1]; simp only [less3, row3]; omega
              · simp only [q2]; simp only [less3, row3]; omega
              · simp only [q6]; simp only [less3, row3]; omega
              · simp only [sm, q1, q2, q6]; simp only [sm, less3, row3] at cp ⊢; omega
            · have o : ∀ c, (set3 dh t (less3 (row3 dh t) X)).ii i c = dh.ii i c := fun c => set3_off _ _ _ _ _ hit
              have Ci := S.held i hi
              refine ⟨?_, ?_, ?_, ?_⟩
              · simp only [o]; exact Ci.a
              · simp only [o]; exact Ci.b
              · simp only [o]; exact Ci.c
              · simp only [sm, o]; exact Ci.p
          · obtain ⟨⟨z1, z2⟩, ⟨z3, z4⟩, z5, z6⟩ := S.inn
            simp only [bd6] at z1 z2 z3 z4 z5 z6 ⊢
            omega
        · intro _ hb
          rw [eN]
          obtain ⟨b1, b2, b3⟩ := hb
          obtain ⟨k1, k2, k6⟩ := tot3 dh t nv (less3 (row3 dh t) X) ht
          simp only [Bal, k1, k2, k6]
          simp only [plus3, less3, row3] at b1 b2 b3 ⊢
          omega
theorem step_move {nv : Nat} {dv : Dat} (hn : nv ≤ 9223372036854775807) (V : RightV nv dv) {dh : Dat} {i0 i1 i2 o0 o1 o2 day B : Int} (hB0 : 0 ≤ B) (hB : B ≤ 1000000000000) (S : RightS nv dv (dh, (i0, i1, i2), (o0, o1, o2), day) B)
    {dy : Int} {fr to : ByteArray} {ox he am : Int} {pu : Bool} (hal : m110 1 dy fr to ox he am pu = 0) : Step nv dv (dh, (i0, i1, i2), (o0, o1, o2), day) ⟨1, dy, fr, to, ox, he, am, pu⟩ B := by
  obtain ⟨_, ha, _, hft, _⟩ := alone_right hal
  have hft := hft rfl
  obtain ⟨a1, a2⟩ := alone_both 1 dy fr to ox he am pu
  rw [hal] at a2
  obtain ⟨nf79, mf79⟩ := find79 nv hn dv fr
  obtain ⟨nt79, mt79⟩ := find79 nv hn dv to
  obtain ⟨nf43, mf43⟩ := find43 nv hn dv fr
  obtain ⟨nt43, mt43⟩ := find43 nv hn dv to
  have eP := p86_1 nv dv nv nv dh i0 i1 i2 o0 o1 o2 day dy fr to ox he am pu _ _ mf79 mt79 _ _ rfl rfl
  have eQ := q86_1 nv dv nv nv dh i0 i1 i2 o0 o1 o2 day dy fr to ox he am pu _ _ mf79 mt79
  have rP := p111_1 nv dv nv nv dh i0 i1 i2 o0 o1 o2 day dy fr to ox he am pu _ _ mf43 mt43 _ _ rfl rfl
  have rQ := q111_1 nv dv nv nv dh i0 i1 i2 o0 o1 o2 day dy fr to ox he am pu _ _ mf43 mt43
  simp only [a2] at eP eQ
  simp only [a1, nf79, nt79] at eQ
  simp only [nf43, nt43] at rQ
  have eE : errF nv dv (dh, (i0, i1, i2), (o0, o1, o2), day) ⟨1, dy, fr, to, ox, he, am, pu⟩ = if fnd nv dv fr < 0 ∨ fnd nv dv to < 0 then 6 else if dy < day then 9 else if sm dh (fnd nv dv fr).toNat < am then 20 else if dv.ii (fnd nv dv to).toNat 2 * dv.ii (fnd nv dv to).toNat 1 < 1000 * (sm dh (fnd nv dv to).toNat + am) then 16 else
      if pu = false ∧ (sm dh (fnd nv dv fr).toNat - am) * dv.ii (fnd nv dv to).toNat 1 < (sm dh (fnd nv dv to).toNat + am) * dv.ii (fnd nv dv fr).toNat 1 then 24 else 0 := by
    simp [errF, Fi.al, hal, Fi.f, Fi.t]
  have eN : nextF nv dv (dh, (i0, i1, i2), (o0, o1, o2), day) ⟨1, dy, fr, to, ox, he, am, pu⟩ = (let X := shr (dh.ii (fnd nv dv fr).toNat 0) (dh.ii (fnd nv dv fr).toNat 1) (dh.ii (fnd nv dv fr).toNat 2) am
      let h1 := set3 dh (fnd nv dv fr).toNat (less3 (row3 dh (fnd nv dv fr).toNat) X)
      (set3 h1 (fnd nv dv to).toNat (plus3 (row3 h1 (fnd nv dv to).toNat) X), (i0, i1, i2), (o0, o1, o2), dy)) := by
    simp [nextF, heldF, moved, Fi.f, Fi.t]
  generalize hF : fnd nv dv fr = F at *
  generalize hT : fnd nv dv to = T at *
  by_cases c1 : F < 0 ∨ T < 0
  · have c1b : (bif decide (F < 0) then true else decide (T < 0)) = true := by
      rcases c1 with h | h
      · simp [h]
      · by_cases h' : F < 0 <;> simp [h, h']
    refine ⟨?_, ?_, ?_, fun _ => ?_, fun _ => ?_, ?_, ?_⟩
    · simp only [needP, eQ, c1b]; simp
    · simp only [callP, eP, eE, c1, c1b]; simp
    · intro h; exact absurd hal h
    · simp only [needR, rQ, c1b]; simp
    · simp only [callR, rP, eE, c1, c1b]; simp
    · intro h; simp [eE, c1] at h
    · intro h; simp [eE, c1] at h
  · have c1b : (bif decide (F < 0) then true else decide (T < 0)) = false := by
      have h1 : ¬ F < 0 := fun h => c1 (Or.inl h)
      have h2 : ¬ T < 0 := fun h => c1 (Or.inr h)
      simp [h1, h2]
    obtain ⟨t, ht, hTt, hsn⟩ := fnd_in (s := to) (nv := nv) (dv := dv) (by rw [hT]; exact fun h => c1 (Or.inr h))
    obtain ⟨f, hf, hFf, hfn⟩ := fnd_in (s := fr) (nv := nv) (dv := dv) (by rw [hF]; exact fun h => c1 (Or.inl h))
    rw [hT] at hTt
    rw [hF] at hFf
    subst hTt hFf
    have ne : t ≠ f := fun e => hft (by rw [← hfn, ← hsn, e])
    simp only [c1b] at eP eQ rP rQ
    have c1' : ((f : Int) < 0 ∨ (t : Int) < 0) = False := eq_false c1
    simp only [Int.toNat_natCast, c1', if_false] at eP eQ rP rQ eE eN
    have Cf := S.held f hf
    have Ct := S.held t ht
    have lf := Cf.le V hf
    have lt := Ct.le V ht
    have bf := Cf.bd V hf
    have bt := Ct.bd V ht
    obtain ⟨f74, f19⟩ := sm_w V hf Cf
    obtain ⟨t74, t19⟩ := sm_w V ht Ct
    simp only at lf lt bf bt f74 f19 t74 t19
    obtain ⟨v1, v2⟩ := vw V ht
    have smf : 0 ≤ sm dh f := by unfold sm; omega
    have smt : 0 ≤ sm dh t := by unfold sm; omega
    have w1 : IntKind.i64.wrap (sm dh t + am) = sm dh t + am := wr (by omega) (by omega)
    have w2 : IntKind.i64.wrap (1000 * (sm dh t + am)) = 1000 * (sm dh t + am) := wr (by omega) (by omega)
    have g1 : decide ((0 : Int) ≤ (t : Int) ∧ (t : Int) < (nv : Int)) = true := cdd ht
    have g2 : decide (t < nv) = true := decide_eq_true ht
    have g6 : decide ((0 : Int) ≤ (f : Int) ∧ (f : Int) < (nv : Int)) = true := cdd hf
    have g7 : decide (f < nv) = true := decide_eq_true hf
    simp only [f74, t74, w1, v1, w2] at eP eQ
    simp only [f19, t19, w1, v1, w2] at rP rQ
    by_cases c2 : dy < day
    · refine ⟨?_, ?_, ?_, fun _ => ?_, fun _ => ?_, ?_, ?_⟩
      · simp only [needP, eQ, c2]; simp
      · simp only [callP, eP, eE, c2]; simp
      · intro h; exact absurd hal h
      · simp only [needR, rQ, c2]; simp
      · simp only [callR, rP, eE, c2]; simp
      · intro h; simp [eE, c2] at h
      · intro h; simp [eE, c2] at h
    · by_cases c6 : sm dh f < am
      · refine ⟨?_, ?_, ?_, fun _ => ?_, fun _ => ?_, ?_, ?_⟩
        · simp only [needP, eQ, c2, c6, g1, g2, g6, g7]; simp
        · simp only [callP, eP, eE, c2, c6]; simp
        · intro h; exact absurd hal h
        · simp only [needR, rQ, c2, c6, g1, g2, g6, g7]; simp
        · simp only [callR, rP, eE, c2, c6]; simp
        · intro h; simp [eE, c2, c6] at h
        · intro h; simp [eE, c2, c6] at h
      · obtain ⟨h1, h2, h3, h4, h5, h6, h7, h8⟩ := share_ok V hf Cf ha.1 (show am ≤ sm dh f by omega)
        simp only at h1 h2 h3 h4 h5 h6 h7 h8
        have w3 : IntKind.i64.wrap (sm dh f - am) = sm dh f - am := wr (by omega) (by omega)
        have vt := V.vol t ht
        have vf := V.vol f hf
        have pt := mulb (show 0 ≤ sm dh f - am by omega) (show sm dh f - am ≤ 1000000000 by omega) (show 0 ≤ dv.ii t 1 by omega) vt.2
        have pf := mulb (show 0 ≤ sm dh t + am by omega) (show sm dh t + am ≤ 2000000000 by omega) (show 0 ≤ dv.ii f 1 by omega) vf.2
        have w4 : IntKind.i64.wrap ((sm dh f - am) * dv.ii t 1) = (sm dh f - am) * dv.ii t 1 := wr (by omega) (by omega)
        have w5 : IntKind.i64.wrap ((sm dh t + am) * dv.ii f 1) = (sm dh t + am) * dv.ii f 1 := wr (by omega) (by omega)
        simp only [h3, w3, w4, w5] at eP
        simp only [h4, w3, w4, w5] at rP
        simp only [w3, w4, w5] at eQ rQ
        generalize shr (dh.ii f 0) (dh.ii f 1) (dh.ii f 2) am = X at *
        by_cases c7 : dv.ii t 2 * dv.ii t 1 < 1000 * (sm dh t + am)
        · refine ⟨?_, ?_, ?_, fun _ => ?_, fun _ => ?_, ?_, ?_⟩
          · simp only [needP, eQ, c2, c6, c7, g1, g2, g6, g7]; simp
          · simp only [callP, eP, eE, c2, c6, c7]; simp
          · intro h; exact absurd hal h
          · simp only [needR, rQ, c2, c6, c7, g1, g2, g6, g7, h2]; simp
          · simp only [callR, rP, eE, c2, c6, c7]; simp
          · intro h; simp [eE, c2, c6, c7] at h
          · intro h; simp [eE, c2, c6, c7] at h
        · by_cases c8 : pu = false ∧ (sm dh f - am) * dv.ii t 1 < (sm dh t + am) * dv.ii f 1
          · obtain ⟨rfl, c9⟩ := c8
            refine ⟨?_, ?_, ?_, fun _ => ?_, fun _ => ?_, ?_, ?_⟩
            · simp only [needP, eQ, c2, c6, c7, c9, g1, g2, g6, g7]; simp
            · simp only [callP, eP, eE, c2, c6, c7, c9]; simp
            · intro h; exact absurd hal h
            · simp only [needR, rQ, c2, c6, c7, c9, g1, g2, g6, g7, h2]; simp
            · simp only [callR, rP, eE, c2, c6, c7, c9]; simp
            · intro h; simp [eE, c2, c6, c7, c9] at h
            · intro h; simp [eE, c2, c6, c7, c9] at h
          · have c5b : (bif (bif pu then false else true) then decide ((sm dh f - am) * dv.ii t 1 < (sm dh t + am) * dv.ii f 1) else false) = false := by
              cases pu
              · have : ¬ (sm dh f - am) * dv.ii t 1 < (sm dh t + am) * dv.ii f 1 := fun h => c8 ⟨rfl, h⟩
                simp [this]
              · rfl
            simp only [c5b] at eP eQ rP rQ
            obtain ⟨l1, l2⟩ := less_w (x := X) bf ⟨h6, h7, h8⟩
            obtain ⟨y1, y2, y3⟩ := plus_w (a := dh.ii t 0) (b := dh.ii t 1) (c := dh.ii t 2) (x := X) (B := 400000000) (by omega) bt ⟨h6.1, h7.1, h8.1, by omega⟩
            have off1 : ∀ c, (set3 dh f (less3 (dh.ii f 0, dh.ii f 1, dh.ii f 2) X)).ii t c = dh.ii t c := fun c => set3_off _ _ _ _ _ ne
            have off2 : ∀ c, (set3 dh t (plus3 (dh.ii t 0, dh.ii t 1, dh.ii t 2) X)).ii f c = dh.ii f c := fun c => set3_off _ _ _ _ _ (Ne.symm ne)
            simp only [l1] at eP
            simp only [off1] at eP
            simp only [y1] at eP
            simp only [y2] at rP
            simp only [off2] at rP
            simp only [l2] at rP
            have comm : set3 (set3 dh t (plus3 (dh.ii t 0, dh.ii t 1, dh.ii t 2) X)) f (less3 (dh.ii f 0, dh.ii f 1, dh.ii f 2) X) = set3 (set3 dh f (less3 (dh.ii f 0, dh.ii f 1, dh.ii f 2) X)) t (plus3 (dh.ii t 0, dh.ii t 1, dh.ii t 2) X) := upd_comm dh t f _ _ (Ne.symm ne)
            simp only [comm] at rP
            simp only [row3, off1] at eN
            refine ⟨?_, ?_, ?_, fun _ => ?_, fun _ => ?_, ?_, ?_⟩
            · simp only [needP, eQ, c2, c6, c7, g1, g2, g6, g7, h1]; simp
            · simp only [callP, eP, eE, eN, c2, c6, c7, c8]; simp
            · intro h; exact absurd hal h
            · simp only [needR, rQ, c2, c6, c7, g1, g2, g6, g7, h2]; simp
            · simp only [callR, rP, eE, eN, c2, c6, c7, c8]; simp
            · intro _
              rw [eN]
              have cpf := Cf.p
              simp only at cpf
              refine ⟨fun i hi => ?_, ?_, ?_⟩
              · by_cases hit : i = t
                · subst hit
                  obtain ⟨q1, q2, q6⟩ := set3_at (set3 dh f (less3 (dh.ii f 0, dh.ii f 1, dh.ii f 2) X)) i (plus3 (dh.ii i 0, dh.ii i 1, dh.ii i 2) X)
                  refine ⟨?_, ?_, ?_, ?_⟩
                  · simp only [q1]; simp only [plus3]; omega
                  · simp only [q2]; simp only [plus3]; omega
                  · simp only [q6]; simp only [plus3]; omega
                  · simp only [sm, q1, q2, q6]; simp only [sm, plus3] at c7 ⊢; omega
                · have o : ∀ c, (set3 (set3 dh f (less3 (dh.ii f 0, dh.ii f 1, dh.ii f 2) X)) t (plus3 (dh.ii t 0, dh.ii t 1, dh.ii t 2) X)).ii i c = (set3 dh f (less3 (dh.ii f 0, dh.ii f 1, dh.ii f 2) X)).ii i c := fun c => set3_off _ _ _ _ _ hit
                  by_cases hif : i = f
                  · subst hif
                    obtain ⟨q1, q2, q6⟩ := set3_at dh i (less3 (dh.ii i 0, dh.ii i 1, dh.ii i 2) X)
                    refine ⟨?_, ?_, ?_, ?_⟩
                    · simp only [o, q1]; simp only [less3]; omega
                    · simp only [o, q2]; simp only [less3]; omega
                    · simp only [o, q6]; simp only [less3]; omega
                    · simp only [sm, o, q1, q2, q6]; simp only [sm, less3] at cpf ⊢; omega
                  · have o2 : ∀ c, (set3 dh f (less3 (dh.ii f 0, dh.ii f 1, dh.ii f 2) X)).ii i c = dh.ii i c := fun c => set3_off _ _ _ _ _ hif
                    have Ci := S.held i hi
                    refine ⟨?_, ?_, ?_, ?_⟩
                    · simp only [o, o2]; exact Ci.a
                    · simp only [o, o2]; exact Ci.b
                    · simp only [o, o2]; exact Ci.c
                    · simp only [sm, o, o2]; exact Ci.p
              · obtain ⟨⟨z1, z2⟩, ⟨z3, z4⟩, z5, z6⟩ := S.inn
                simp only [bd6] at z1 z2 z3 z4 z5 z6 ⊢
                omega
              · obtain ⟨⟨z1, z2⟩, ⟨z3, z4⟩, z5, z6⟩ := S.ven
                simp only [bd6] at z1 z2 z3 z4 z5 z6 ⊢
                omega
            · intro _ hb
              rw [eN]
              obtain ⟨b1, b2, b3⟩ := hb
              obtain ⟨k1, k2, k6⟩ := tot3 (set3 dh f (less3 (dh.ii f 0, dh.ii f 1, dh.ii f 2) X)) t nv (plus3 (dh.ii t 0, dh.ii t 1, dh.ii t 2) X) ht
              obtain ⟨j1, j2, j3⟩ := tot3 dh f nv (less3 (dh.ii f 0, dh.ii f 1, dh.ii f 2) X) hf
              simp only [Bal, k1, k2, k6, j1, j2, j3, off1]
              simp only [plus3, less3] at b1 b2 b3 ⊢
              omega
/-- A step of both, whatever the fill. -/
theorem step_all {nv : Nat} {dv : Dat} (hn : nv ≤ 9223372036854775807) (V : RightV nv dv) {s : St} {B : Int} (hB0 : 0 ≤ B) (hB : B ≤ 1000000000000) (S : RightS nv dv s B) (x : Fi) : Step nv dv s x B := by
  obtain ⟨dh, ⟨i0, i1, i2⟩, ⟨o0, o1, o2⟩, day⟩ := s
  obtain ⟨k, dy, fr, to, ox, he, am, pu⟩ := x
  by_cases hal : m110 k dy fr to ox he am pu = 0
  · obtain ⟨hk, _⟩ := alone_right hal
    rcases hk with rfl | rfl | rfl
    · exact step_in hn V hB S hal
    · exact step_move hn V hB0 hB S hal
    · exact step_out hn V hB S hal
  · obtain ⟨a1, a2⟩ := alone_both k dy fr to ox he am pu
    have hal' : m125 k dy fr to ox he am pu ≠ 0 := by rw [a2]; exact hal
    obtain ⟨b1, b2⟩ := p86_bad nv dv nv nv dh i0 i1 i2 o0 o1 o2 day dy fr to ox he am pu k hal' a1
    have e : errF nv dv (dh, (i0, i1, i2), (o0, o1, o2), day) ⟨k, dy, fr, to, ox, he, am, pu⟩ = m110 k dy fr to ox he am pu := by simp [errF, Fi.al, hal]
    refine ⟨b2, ?_, fun _ => e, fun h => absurd h hal, fun h => absurd h hal, fun h => ?_, fun h => ?_⟩
    · rw [e, if_neg hal]
      show m86 nv dv nv nv dh i0 i1 i2 o0 o1 o2 day k dy fr to ox he am pu = _
      rw [b1, a2]
    · rw [e] at h; exact absurd h hal
    · rw [e] at h; exact absurd h hal
end Go.Proofs.Ytmndejpcpfkajaa
