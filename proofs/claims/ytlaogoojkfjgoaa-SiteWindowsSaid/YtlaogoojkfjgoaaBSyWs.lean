/-
  slices.SortFunc over windows, at whatever length: the kit's contract, at this program. Conditions: none.
-/
import Derived.Shelf.SlSortCmp.WholeK
import Derived.Test.YtlaogoojkfjgoaaProg
import Derived.KernelRfl
namespace Go.Proofs.Ytlaogoojkfjgoaa
open Go Go.RowKit Go.Lib Go.Sort
set_option linter.unusedVariables false
set_option linter.unusedSimpArgs false
def sortR_ren : Go.Shelf.Ren := ⟨fun | 6 => 108 | 15 => 138 | 14 => 137 | 28 => 155 | 29 => 156 | 20 => 147 | 21 => 148 | 22 => 149 | 23 => 150 | 24 => 151 | 25 => 152 | 26 => 153 | 27 => 154 | 46 => 159 | 47 => 160 | 48 => 161 | 49 => 162 | 50 => 163 | 57 => 164 | n => n, fun | 22 => 65 | 24 => 28 | 25 => 156 | 3 => 3 | 39 => 182 | 0 => 0 | 53 => 199 | 55 => 201 | 4 => 4 | 46 => 192 | 45 => 191 | 50 => 196 | 5 => 5 | 9 => 9 | 66 => 204 | 70 => 208 | 76 => 210 | 77 => 87 | n => n, fun | n => n⟩
theorem sortR : Go.Proofs.SlLaysF0.n6 Try.prog sortR_ren := {
  mixed := (by kernel_rfl),
  f6 := ⟨Try.f108.name, by decide, Try.func108.trans (congrArg some (by kernel_rfl))⟩,
  f14 := ⟨Try.f137.name, by decide, Try.func137.trans (congrArg some (by kernel_rfl))⟩,
  f15 := Try.func138.trans (congrArg some (by kernel_rfl)),
  f20 := ⟨Try.f147.name, by decide, Try.func147.trans (congrArg some (by kernel_rfl))⟩,
  f21 := ⟨Try.f148.name, by decide, Try.func148.trans (congrArg some (by kernel_rfl))⟩,
  f22 := ⟨Try.f149.name, by decide, Try.func149.trans (congrArg some (by kernel_rfl))⟩,
  f23 := ⟨Try.f150.name, by decide, Try.func150.trans (congrArg some (by kernel_rfl))⟩,
  f24 := ⟨Try.f151.name, by decide, Try.func151.trans (congrArg some (by kernel_rfl))⟩,
  f25 := ⟨Try.f152.name, by decide, Try.func152.trans (congrArg some (by kernel_rfl))⟩,
  f26 := ⟨Try.f153.name, by decide, Try.func153.trans (congrArg some (by kernel_rfl))⟩,
  f27 := ⟨Try.f154.name, by decide, Try.func154.trans (congrArg some (by kernel_rfl))⟩,
  f28 := Try.func155.trans (congrArg some (by kernel_rfl)),
  f29 := Try.func156.trans (congrArg some (by kernel_rfl)),
  f46 := ⟨Try.f159.name, by decide, Try.func159.trans (congrArg some (by kernel_rfl))⟩,
  f47 := Try.func160.trans (congrArg some (by kernel_rfl)),
  f48 := Try.func161.trans (congrArg some (by kernel_rfl)),
  f49 := ⟨Try.f162.name, by decide, Try.func162.trans (congrArg some (by kernel_rfl))⟩,
  f50 := ⟨Try.f163.name, by decide, Try.func163.trans (congrArg some (by kernel_rfl))⟩,
  f57 := ⟨Try.f164.name, by decide, Try.func164.trans (congrArg some (by kernel_rfl))⟩,
  t0 := Try.underlying0,
  a0 := Try.isAgg0,
  z0 := Try.sizeOf0,
  v0 := Try.zeroValue0,
  t3 := Try.underlying3,
  a3 := Try.isAgg3,
  z3 := Try.sizeOf3,
  v3 := Try.zeroValue3,
  t4 := Try.underlying4,
  a4 := Try.isAgg4,
  z4 := Try.sizeOf4,
  v4 := Try.zeroValue4,
  t5 := Try.underlying5,
  a5 := Try.isAgg5,
  z5 := Try.sizeOf5,
  v5 := Try.zeroValue5,
  t9 := Try.underlying9,
  a9 := Try.isAgg9,
  z9 := Try.sizeOf9,
  v9 := Try.zeroValue9,
  t22 := Try.underlying65,
  a22 := Try.isAgg65,
  z22 := Try.sizeOf65,
  v22 := Try.zeroValue65,
  t25 := Try.underlying156,
  a25 := Try.isAgg156,
  z25 := Try.sizeOf156,
  v25 := Try.zeroValue156,
  t39 := Try.underlying182,
  a39 := Try.isAgg182,
  z39 := Try.sizeOf182,
  v39 := Try.zeroValue182,
  t45 := Try.underlying191,
  a45 := Try.isAgg191,
  z45 := Try.sizeOf191,
  v45 := Try.zeroValue191,
  t46 := Try.underlying192,
  a46 := Try.isAgg192,
  z46 := Try.sizeOf192,
  v46 := Try.zeroValue192,
  t50 := Try.underlying196,
  a50 := Try.isAgg196,
  z50 := Try.sizeOf196,
  v50 := Try.zeroValue196,
  t53 := Try.underlying199,
  a53 := Try.isAgg199,
  z53 := Try.sizeOf199,
  v53 := Try.zeroValue199,
  t55 := Try.underlying201,
  a55 := Try.isAgg201,
  z55 := Try.sizeOf201,
  v55 := Try.zeroValue201,
  t66 := Try.underlying204,
  a66 := Try.isAgg204,
  z66 := Try.sizeOf204,
  v66 := Try.zeroValue204,
  t70 := Try.underlying208,
  a70 := Try.isAgg208,
  z70 := Try.sizeOf208,
  v70 := Try.zeroValue208,
  t76 := Try.underlying210,
  a76 := Try.isAgg210,
  z76 := Try.sizeOf210,
  v76 := Try.zeroValue210,
  t77 := Try.underlying87,
  a77 := Try.isAgg87,
  z77 := Try.sizeOf87,
  v77 := Try.zeroValue87 }
abbrev Wn := {p : Int × Int // 0 ≤ p.1 ∧ p.1 ≤ 1000000000}
instance : Inhabited Wn := ⟨⟨(0, 0), by decide⟩⟩
def encW (x : Wn) : List Value := [.int .i64 x.1.1, .int .i64 x.1.2]
def cfW (x y : Wn) : Int := x.1.1 - y.1.1
theorem ltW (x y : Wn) : ltOf cfW x y = decide (x.1.1 < y.1.1) := by unfold ltOf cfW; exact decide_eq_decide.2 (by omega)
theorem swoW : SWO (ltOf cfW) where
  irrefl x := by rw [ltW]; simp
  trans x y z h1 h2 := by rw [ltW] at *; simp at *; omega
  ntrans x y z h1 h2 := by rw [ltW] at *; simp at *; omega
set_option maxHeartbeats 1000000 in
theorem closure109 (x y : Wn) (W : World) : Calls Try.prog 109 #[.agg #[.int .i64 x.1.1, .int .i64 x.1.2], .agg #[.int .i64 y.1.1, .int .i64 y.1.2]] W fun e w' => e = .returned (.int .i64 (cfW x y)) ∧ ∃ q os', w' = grow (W.drewN q) os' := by
  obtain ⟨⟨a, b⟩, ha⟩ := x
  obtain ⟨⟨c, d⟩, hc⟩ := y
  have hw : IntKind.i64.wrap (a - c) = a - c := by simp [IntKind.wrap, IntKind.bits, IntKind.signed]; simp at ha hc; omega
  go_enter Try.func109, Try.ntmps109
  go_wp2
  go_ret
  exact ⟨rfl, 0, _, by rw [alloc_eq_grow, alloc_eq_grow, grow_grow]; rfl⟩
theorem cmpLays109 (blk off size : Nat) (w : World) : CmpLays Try.prog 109 #[] encW 2 cfW blk off size w := fun _ _ _ _ x y => closure109 x y _
theorem sortF (blk cap : Nat) (d : Array Wn) (w : World) (hH : HoldsK encW 2 w blk 0 d) (hblk : blk < w.heap.size) (hsz : d.size < 4611686018427387904) :
    Calls Try.prog 108 #[.slice (some ⟨blk, 0, none⟩) d.size cap, .func (.func 109) #[] #[]] w fun e w' => e = .returned (.tuple #[]) ∧ ∃ n os, w' = sortWorldK encW 2 w blk 0 n (pdq (ltOf cfW) d 0 d.size (Lib.bitLen d.size) true true) os := by
  have eg : ∀ args w, (callFunc 109 args).run Try.prog w = .ok (.enter 109 args) w := enters_of Try.func109 (by kernel_rfl) rfl
  have hcon := AnyQ.slices_SortFunc_eq sortR 2 Try.isAgg28 Try.sizeOf28 encW (fun _ => rfl) (fun x v hv => by simp [encW] at hv; rcases hv with rfl | rfl <;> rfl) cfW swoW 109 #[] blk 0 cap d w eg (cmpLays109 blk 0 d.size w) hH hblk hsz
  exact hcon
end Go.Proofs.Ytlaogoojkfjgoaa
