/-
 Contracts of functions: models, equations by the kernel, contracts. Conditions: none.
-/
import Derived.Test.YtmndejpcpfkajaaB7
import Derived.KernelRfl
namespace Go.Proofs.Ytmndejpcpfkajaa
open Go Go.Sy
noncomputable section
set_option linter.unusedVariables false
set_option linter.unusedSimpArgs false
set_option maxRecDepth 100000
set_option maxHeartbeats 2000000
/-! ### shotline/gas.divisor -/
def gcdF : Nat → Int → Int → Int
 | 0, a, _ => a
 | k + 1, a, b => cond (decide (b = 0)) a (gcdF k b (a.tmod b))
def q103 (r : Int) : SV × List Blk × List Blk := (.int .i64 r, [], [])
def gk103 (k : Nat) : List SV → List Blk → Option OpRes := fun vs bs => match vs, bs with
 | [.int .i64 a0, .int .i64 a1], [] => some (resOf 0 (q103 (gcdF k a0 a1)) [decide (a1.natAbs < k)])
 | _, _ => none
def ck103 (k : Nat) : Ctr := genC [.k, .k] (gk103 k)
theorem xk103 (k : Nat) (a0 a1 : Int) (R : SV → List Blk → List Blk → Prop) : exec Try.prog [(103, ck103 k)] (fun _ => none) 8 (Try.f103.body.getD .skip) (initS Try.f103.ntmps [.int .i64 a0, .int .i64 a1] 0 (memOf [])) (retK Try.prog Try.f103.results.toList (outK 0 (List.range 0) [] (.k) fun v U N => R v U N)) =
 cnd (decide (a1 = 0)) (R (.int .i64 a0) [] []) (cnd (bif (decide (a1 = 0)) then false else true) (cnd (decide ((a0.tmod a1).natAbs < k)) (R (.int .i64 (gcdF k a1 (a0.tmod a1))) [] []) False) False) := by kernel_rfl
theorem kk103 : ∀ k, CtrOk Try.prog (ck103 k) 103
 | 0 => ctr_of tabOk_nil mix_ok 8 (fn := Try.f103) (c := (Try.f103.body.getD .skip)) (grs := []) (rh := .k) (Λ := (fun _ => none)) Try.func103 rfl (by kernel_rfl) noLam fun vs bs q h hn => by
   unfold gk103 at h
   split at h <;> cases h
   have := hn _ (List.mem_singleton.2 rfl)
   simp at this
 | k + 1 => ctr_of (tabOk_cons (kk103 k) tabOk_nil) mix_ok 8 (fn := Try.f103) (c := (Try.f103.body.getD .skip)) (grs := []) (rh := .k) (Λ := (fun _ => none)) Try.func103 rfl (by kernel_rfl) noLam fun vs bs q h hn => by
   unfold gk103 at h
   split at h <;> cases h
   rename_i a b
   have hb : b.natAbs < k + 1 := by have := hn _ (List.mem_singleton.2 rfl); simpa using this
   refine ⟨_, rfl, propOf (xk103 k a b _) ?_⟩
   by_cases h0 : b = 0
   ·simp [h0, cnd, gcdF]; rfl
   ·have ht : (a.tmod b).natAbs < k := by
     have h1 : (a.tmod b).natAbs < b.natAbs := by
      rw [Int.natAbs_tmod]
      exact Nat.mod_lt _ (by omega)
     omega
    rw [Int.natAbs_tmod] at ht
    simp [h0, cnd, gcdF, ht]; rfl
def m103 (a0 : Int) (a1 : Int) : Int := gcdF 9223372036854775809 a0 a1
def n103 (a0 : Int) (a1 : Int) : Bool := decide (a1.natAbs < 9223372036854775809)
def g103 : List SV → List Blk → Option OpRes := fun vs bs => match vs, bs with
 | [.int .i64 a0, .int .i64 a1], [] => some (resOf 0 (q103 (m103 a0 a1)) [n103 a0 a1])
 | _, _ => none
def c103 : Ctr := genC [.k, .k] g103
theorem k103 : CtrOk Try.prog c103 103 := kk103 9223372036854775809
end
end Go.Proofs.Ytmndejpcpfkajaa
