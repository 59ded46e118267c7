/-
  A symbolic executor for the model's code: the summary of a block that is no loop. Conditions: none.
-/
import Derived.Test.YtlaogoojkfjgoaaBSyV
namespace Go.Sy
set_option linter.unusedVariables false
variable {P : Program}
theorem lam_sub1 {c : Code} {Λ : Lam} (h : LamOk P c Λ) (j : Nat) : LamOk P (bodyAt c j) Λ := by
  intro id b g hb hg
  refine h id b g ?_ hg
  rw [blkL_of] at hb ⊢
  unfold bodyAt at hb
  rcases lookB_mem (l := blkL c) (id := j) with e | e
  · rw [e] at hb; simp [blkL] at hb
  · exact blkL_trans e hb
theorem blk_one {ι : Type} {L : Tab} (hL : TabOk P L) (hmix : P.follows .mixedOrders = true) {Λ : Lam} {fuel : Nat} {c : Code} {id : Nat} (hΛ : LamOk P c Λ) {na nt nx : Nat} {Lh Le : List Nat} {gl : List GL} (G : Nat → ι → XR → Prop) (va : ι → List SV) (ba : ι → List Blk) (h0 : ∀ x K, ¬ G 0 x K)
    (hs : ∀ f x K, G (f + 1) x K → exec P L Λ fuel (bodyAt c id) (mkSt na nt Lh (va x) nx (ba x)) (canonK na nt Le Le nx gl K))
    {g : LSum} (hg : ∀ s k, g s k → ∃ r, czv na nt Lh nx gl s = some r ∧ ∃ f x, r.1 = va x ∧ r.2 = ba x ∧ G f x fun e vs bs => inBlk id k e (mkSt na nt Le vs nx bs)) :
    LOk P g (.block id (bodyAt c id)) := by
  have hin : LOk P (fun s k => cz na nt Lh nx gl s fun vs bs => ∃ f x, vs = va x ∧ bs = ba x ∧ G f x fun e vs bs => k e (mkSt na nt Le vs nx bs)) (bodyAt c id) := by
    intro rd nn B M w0 s k ρ a w Q hr0 hd hg hk
    obtain ⟨r, hr, f, x, e1, e2, hG⟩ := cz_get hg
    obtain ⟨ρ1, hd1⟩ := cz_ok hd hr
    rw [e1, e2] at hd1
    clear e1 e2 hd hg hr
    cases f with
    | zero => exact (h0 x _ hG).elim
    | succ f =>
      refine exec_wp hL hmix _ (lam_sub1 hΛ id) rd nn B M w0 _ _ ρ1 a w _ hr0 hd1 (hs f x _ hG) fun e s' ρ' a' w' hs' hk' => ?_
      cases e with
      | normal =>
        have hk2 := hk'
        simp only [canonK] at hk2
        obtain ⟨r, hr, h2⟩ := cz_get hk2
        obtain ⟨ρ2, h1⟩ := cz_ok hs' hr
        exact hk .normal _ ρ2 a' w' h1 h2
      | exit j =>
        have hk2 := hk'
        simp only [canonK] at hk2
        obtain ⟨r, hr, h2⟩ := cz_get hk2
        obtain ⟨ρ2, h1⟩ := cz_ok hs' hr
        exact hk (.exit j) _ ρ2 a' w' h1 h2
      | ret =>
        have hk2 := hk'
        simp only [canonK] at hk2
        obtain ⟨r, hr, h2⟩ := cz_get hk2
        obtain ⟨ρ2, h1⟩ := cz_ok hs' hr
        exact hk .ret _ ρ2 a' w' h1 h2
  refine lok_mono (blk_ok hin) fun s k h => ?_
  obtain ⟨r, hr, f, x, h1, h2, h3⟩ := hg s k h
  unfold cz
  rw [hr]
  exact ⟨f, x, h1, h2, h3⟩
end Go.Sy
