/-
  Contracts of functions: models, equations by the kernel, contracts. Conditions: none.
-/
import Derived.Test.YtchhhoamnagbfaaDoorC7
import Derived.KernelRfl
namespace Go.Proofs.YtchhhoamnagbfaaDoor
open Go Go.Sy
set_option linter.unusedVariables false
set_option linter.unusedSimpArgs false
set_option maxRecDepth 100000
set_option maxHeartbeats 2000000
/-! ### strings.Join -/
def wordsL (n : Nat) (d : Dat) : List ByteArray := (List.range n).map fun q => d.ss q 0
noncomputable def m87 (n : Nat) (d : Dat) (s : ByteArray) : ByteArray := ⟨(Lib.join ((wordsL n d).map (·.data.toList)) s.data.toList).toArray⟩
noncomputable def n87 (n : Nat) (d : Dat) (s : ByteArray) : Bool := decide (0 < n) && (decide (n ≤ 1000000) && decide ((m87 n d s).size ≤ 1073741824))
noncomputable def q87 (r : ByteArray) : SV × List Blk × List Blk := (.str r, [], [])
noncomputable def g87 : List SV → List Blk → Option OpRes := fun vs bs => match vs, bs with
  | [.ro [.str] n d, .str s], [] => some (resOf 0 (q87 (m87 n d s)) [n87 n d s])
  | _, _ => none
noncomputable def c87 : Ctr := genC [.ro [.str], .k] g87
theorem k87 : CtrOk Tryd.prog c87 87 := by
  refine ctr_gen ⟨Tryd.f87, Tryd.func87, rfl, by kernel_rfl⟩ fun vs bs q hq hn ρ1 M xs w hd hm hfr hMb => ?_
  unfold g87 at hq
  split at hq <;> cases hq
  rename_i n d s
  have hr := hn _ (List.mem_singleton.2 rfl)
  simp only [n87, Bool.and_eq_true, decide_eq_true_eq] at hr
  obtain ⟨h0, hle, hsz⟩ := hr
  match xs, hd with
  | [x, y], ⟨⟨A, cap, hx, hc, hA⟩, hy, _⟩ =>
  subst hx
  obtain rfl : y = .string s := hy
  obtain ⟨b, o, rfl, hq⟩ := hA h0
  have hlen : (wordsL n d).length = n := by simp [wordsL]
  have hcells : ∀ (j : Nat) x, (wordsL n d)[j]? = some x → w.cell? ⟨b, o + j, none⟩ = some (.string x) := fun j x hj => by
    have hlt : j < n := by have := (List.getElem?_eq_some_iff.1 hj).1; omega
    have h := hq j hlt
    simp only [Kd.denL, Kd.den, List.length_singleton, Nat.mul_one] at h
    obtain ⟨⟨v, k0, e0⟩, _⟩ := h
    have e : x = d.ss j 0 := by
      simp [wordsL, List.getElem?_range hlt] at hj
      exact hj.symm
    rw [e]
    subst e0
    exact hm.seal_ _ _ _ k0
  have hblk := World.block_lt_of_cell? w _ (hcells 0 _ (List.getElem?_eq_getElem (by omega)))
  have hsz' : (Lib.join ((wordsL n d).map (·.data.toList)) s.data.toList).length ≤ 140737488355328 := by
    have : (m87 n d s).size = (Lib.join ((wordsL n d).map (·.data.toList)) s.data.toList).length := by
      unfold m87
      show Array.size _ = _
      simp
    omega
  have := Any.strings_Join joinR joinRX b o cap (wordsL n d) s w hcells hblk (by omega) (by have := hc.1; omega) hsz'
  rw [hlen] at this
  refine this.mono ?_
  rintro e w' ⟨rfl, hB⟩
  exact ⟨_, ρ1, rfl, post_val rfl hB⟩
attribute [irreducible] m87
end Go.Proofs.YtchhhoamnagbfaaDoor
