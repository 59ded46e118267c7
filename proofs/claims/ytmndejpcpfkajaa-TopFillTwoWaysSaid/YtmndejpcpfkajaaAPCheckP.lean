/-
  Plans and proofs: the program and the reference alike. Conditions: none.
-/
import Derived.Test.YtmndejpcpfkajaaAPCheckT
namespace Go.Proofs.Ytmndejpcpfkajaa
open Go Go.Sy
set_option linter.unusedVariables false
set_option linter.unusedSimpArgs false
set_option maxRecDepth 100000
set_option maxHeartbeats 2000000 in
noncomputable def valE (d : Dat) (W a b c e : Int) (price : Nat → Int) (i : Nat) (s : Int) : Int ⊕ Int :=
  .inr (IntKind.i64.wrap (s - IntKind.i64.wrap (d.ii i 4 * imax 0 (IntKind.i64.wrap (IntKind.i64.wrap (IntKind.i64.wrap (W + IntKind.i64.wrap (d.ii i 1 * IntKind.i64.wrap (a - b))) + IntKind.i64.wrap (d.ii i 2 * IntKind.i64.wrap (c - e))) - price i)))))
theorem val_prog {n : Nat} (hn : n ≤ 9223372036854775807) {d : Dat} (W a b c e den times s0 : Int) :
    o99_0 times n d (n : Int) W a b c e den s0 0 = some (runs (valE d W a b c e fun i => IntKind.i64.wrap (IntKind.i64.wrap (times * den) * d.ii i 3)) id n 0 s0) :=
  loop_runs (l := fun f i s => l99_0 times n d (n : Int) W a b c e den f s i) (fun _ _ => True) hn
    (fun f i s hi _ => by
      simp only [l99_0, cdl hi, cdd hi, cond_true, Int.toNat_natCast, Nat.zero_add, Nat.reduceAdd, valE, brs])
    (fun _ _ _ _ _ _ => trivial) (fun f s _ => by simp only [l99_0, cdn]; rfl) n 0 _ s0 (by omega) (ltp (by repeat (first | exact Nat.le_refl _ | exact Nat.le_add_left _ _ | apply Nat.le_add_right_of_le)) (by decide)) trivial
theorem runs_i64 (d : Dat) (W a b c e : Int) (price : Nat → Int) : ∀ (k i : Nat) (s : Int), (-9223372036854775808 ≤ s ∧ s ≤ 9223372036854775807) →
    -9223372036854775808 ≤ runs (valE d W a b c e price) id k i s ∧ runs (valE d W a b c e price) id k i s ≤ 9223372036854775807
  | 0, i, s, h => h
  | k + 1, i, s, h => by
    rw [runs]
    refine runs_i64 d W a b c e price k (i + 1) _ ?_
    generalize s - _ = y
    simp [IntKind.wrap, IntKind.bits, IntKind.signed]; omega
end Go.Proofs.Ytmndejpcpfkajaa
