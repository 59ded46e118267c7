/-
  Rays of the first quarter: program and reference alike, their bounds. Conditions: none.
-/
import Derived.Test.YtbhldggbjjailaaAFDiveWindows
import Derived.Test.YtbhldggbjjailaaAPApt
import Derived.Test.YtbhldggbjjailaaAPLoop
import Derived.Test.YtbhldggbjjailaaAPAng
import Derived.Test.YtbhldggbjjailaaAPCheckW
import Derived.Test.YtbhldggbjjailaaAPFits
import Derived.Test.YtbhldggbjjailaaAPCirc
import Derived.Test.YtbhldggbjjailaaA1
import Derived.Test.YtbhldggbjjailaaA2
import Derived.Test.YtbhldggbjjailaaA3
import Derived.Test.YtbhldggbjjailaaA4
import Derived.Test.YtbhldggbjjailaaA5
namespace Go.Proofs.Ytbhldggbjjailaa
open Go Go.Sy
set_option linter.unusedVariables false
set_option linter.unusedSimpArgs false
set_option maxRecDepth 100000
noncomputable def rayB (r : Int × Int × Int × Int) : Bool :=
  decide (0 ≤ r.1) && (decide (r.1 ≤ r.2.1) && (decide (r.2.1 ≤ 100000000) && (decide (0 ≤ r.2.2.1) && (decide (r.2.2.1 ≤ r.2.2.2) && (decide (r.2.2.2 ≤ 100000000) && (decide (r.2.1 - r.1 ≤ 1000) && (decide (r.2.2.2 - r.2.2.1 ≤ 1000) &&
  (decide (r.1 * r.1 + r.2.2.1 * r.2.2.1 ≤ 10000000000000000) && decide (10000000000000000 ≤ r.2.1 * r.2.1 + r.2.2.2 * r.2.2.2)))))))))
noncomputable def rayF (r s : Int × Int × Int × Int) : Bool := decide (imax r.1 s.2.2.1 ≤ imin r.2.1 s.2.2.2) && decide (imax r.2.2.1 s.1 ≤ imin r.2.2.2 s.2.1)
noncomputable def rayC (b : Nat) : Bool := n138 m118 (b : Int) && (n120 (b : Int) && (decide (m138 m118 (b : Int) = m120 (b : Int)) && (rayB (m120 (b : Int)) && (Nat.beq b 0 || rayF (m120 (b : Int)) (m120 ((1024 - b : Nat) : Int))))))
theorem ray_0 : ((List.range 64).all fun i => rayC (0 + i)) = true := by kernel_rfl
theorem ray_1 : ((List.range 64).all fun i => rayC (64 + i)) = true := by kernel_rfl
theorem ray_2 : ((List.range 64).all fun i => rayC (128 + i)) = true := by kernel_rfl
theorem ray_3 : ((List.range 64).all fun i => rayC (192 + i)) = true := by kernel_rfl
theorem ray_4 : ((List.range 64).all fun i => rayC (256 + i)) = true := by kernel_rfl
theorem ray_5 : ((List.range 64).all fun i => rayC (320 + i)) = true := by kernel_rfl
theorem ray_6 : ((List.range 64).all fun i => rayC (384 + i)) = true := by kernel_rfl
theorem ray_7 : ((List.range 64).all fun i => rayC (448 + i)) = true := by kernel_rfl
theorem ray_8 : ((List.range 64).all fun i => rayC (512 + i)) = true := by kernel_rfl
theorem ray_9 : ((List.range 64).all fun i => rayC (576 + i)) = true := by kernel_rfl
theorem ray_10 : ((List.range 64).all fun i => rayC (640 + i)) = true := by kernel_rfl
theorem ray_11 : ((List.range 64).all fun i => rayC (704 + i)) = true := by kernel_rfl
theorem ray_12 : ((List.range 64).all fun i => rayC (768 + i)) = true := by kernel_rfl
theorem ray_13 : ((List.range 64).all fun i => rayC (832 + i)) = true := by kernel_rfl
theorem ray_14 : ((List.range 64).all fun i => rayC (896 + i)) = true := by kernel_rfl
theorem ray_15 : ((List.range 64).all fun i => rayC (960 + i)) = true := by kernel_rfl
theorem ray_all {b : Nat} (h : b < 1024) : rayC b = true := by
  have key : ∀ k, ((List.range 64).all fun i => rayC (k + i)) = true → k ≤ b → b < k + 64 → rayC b = true := fun k hk h1 h2 => by
    have := List.all_eq_true.1 hk (b - k) (List.mem_range.2 (by omega))
    rwa [show k + (b - k) = b by omega] at this
  by_cases h0 : b < 64
  · exact key 0 ray_0 (by omega) h0
  by_cases h1 : b < 128
  · exact key 64 ray_1 (by omega) h1
  by_cases h2 : b < 192
  · exact key 128 ray_2 (by omega) h2
  by_cases h3 : b < 256
  · exact key 192 ray_3 (by omega) h3
  by_cases h4 : b < 320
  · exact key 256 ray_4 (by omega) h4
  by_cases h5 : b < 384
  · exact key 320 ray_5 (by omega) h5
  by_cases h6 : b < 448
  · exact key 384 ray_6 (by omega) h6
  by_cases h7 : b < 512
  · exact key 448 ray_7 (by omega) h7
  by_cases h8 : b < 576
  · exact key 512 ray_8 (by omega) h8
  by_cases h9 : b < 640
  · exact key 576 ray_9 (by omega) h9
  by_cases h10 : b < 704
  · exact key 640 ray_10 (by omega) h10
  by_cases h11 : b < 768
  · exact key 704 ray_11 (by omega) h11
  by_cases h12 : b < 832
  · exact key 768 ray_12 (by omega) h12
  by_cases h13 : b < 896
  · exact key 832 ray_13 (by omega) h13
  by_cases h14 : b < 960
  · exact key 896 ray_14 (by omega) h14
  by_cases h15 : b < 1024
  · exact key 960 ray_15 (by omega) h15
  omega
structure RayOk (b : Int) (r : Int × Int × Int × Int) : Prop where
  m138 : m138 m118 b = r
  m120 : m120 b = r
  n138 : n138 m118 b = true
  n120 : n120 b = true
  c0 : 0 ≤ r.1
  c1 : r.1 ≤ r.2.1
  c2 : r.2.1 ≤ 100000000
  s0 : 0 ≤ r.2.2.1
  s1 : r.2.2.1 ≤ r.2.2.2
  s2 : r.2.2.2 ≤ 100000000
  wc : r.2.1 - r.1 ≤ 1000
  ws : r.2.2.2 - r.2.2.1 ≤ 1000
  lo : r.1 * r.1 + r.2.2.1 * r.2.2.1 ≤ 10000000000000000
  hi : 10000000000000000 ≤ r.2.1 * r.2.1 + r.2.2.2 * r.2.2.2
  fc : b ≠ 0 → imax r.1 (Go.Proofs.Ytbhldggbjjailaa.m120 (1024 - b)).2.2.1 ≤ imin r.2.1 (Go.Proofs.Ytbhldggbjjailaa.m120 (1024 - b)).2.2.2
  fs : b ≠ 0 → imax r.2.2.1 (Go.Proofs.Ytbhldggbjjailaa.m120 (1024 - b)).1 ≤ imin r.2.2.2 (Go.Proofs.Ytbhldggbjjailaa.m120 (1024 - b)).2.1
theorem ray_ok {b : Int} (h0 : 0 ≤ b) (h1 : b < 1024) : RayOk b (m120 b) := by
  obtain ⟨k, rfl⟩ : ∃ k : Nat, b = (k : Int) := ⟨b.toNat, by omega⟩
  have h := ray_all (b := k) (by omega)
  simp only [rayC, rayB, Bool.and_eq_true, decide_eq_true_eq] at h
  obtain ⟨a1, a2, a3, ⟨b1, b2, b3, b4, b5, b6, b7, b8, b9, b10⟩, a5⟩ := h
  have key : (k : Int) ≠ 0 → rayF (m120 (k : Int)) (m120 (1024 - (k : Int))) = true := fun hk => by
    rw [show ((1024 - k : Nat) : Int) = 1024 - (k : Int) by omega] at a5
    have : Nat.beq k 0 = false := by
      cases hh : Nat.beq k 0 with
      | false => rfl
      | true => exact absurd (by have := Nat.eq_of_beq_eq_true hh; omega) hk
    rw [this, Bool.false_or] at a5
    exact a5
  refine ⟨a3, rfl, a1, a2, b1, b2, b3, b4, b5, b6, b7, b8, b9, b10, fun hk => ?_, fun hk => ?_⟩
  · have := key hk
    simp only [rayF, Bool.and_eq_true, decide_eq_true_eq] at this
    exact this.1
  · have := key hk
    simp only [rayF, Bool.and_eq_true, decide_eq_true_eq] at this
    exact this.2
end Go.Proofs.Ytbhldggbjjailaa
