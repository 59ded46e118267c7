/-
  The plain law of 'MixChecks': the law's model is true, and its need. Conditions: none.
-/
import Derived.Test.YtmndejpcpfkajaaAPCheckP
namespace Go.Proofs.Ytmndejpcpfkajaa
open Go Go.Sy
set_option linter.unusedVariables false
set_option linter.unusedSimpArgs false
set_option maxRecDepth 100000
noncomputable def askD (n : Nat) (d : Dat) (b1 b2 b3 T ol oh hl hh : Int) : Dat :=
  datC [SV.ro [Kd.str, Kd.int IntKind.i64, Kd.int IntKind.i64, Kd.int IntKind.i64, Kd.int IntKind.i64] n d, SV.int IntKind.i64 b1, SV.int IntKind.i64 b2, SV.int IntKind.i64 b3, SV.int IntKind.i64 T, SV.int IntKind.i64 ol, SV.int IntKind.i64 oh, SV.int IntKind.i64 hl, SV.int IntKind.i64 hh, SV.int IntKind.i64 (IntKind.i64.wrap (T - m84 b1 b2 b3)),
    SV.int IntKind.i64 (IntKind.i64.wrap (IntKind.i64.wrap (ol * T) - IntKind.i64.wrap (1000 * b1))), SV.int IntKind.i64 (IntKind.i64.wrap (IntKind.i64.wrap (oh * T) - IntKind.i64.wrap (1000 * b1))), SV.int IntKind.i64 (IntKind.i64.wrap (IntKind.i64.wrap (hl * T) - IntKind.i64.wrap (1000 * b2))), SV.int IntKind.i64 (IntKind.i64.wrap (IntKind.i64.wrap (hh * T) - IntKind.i64.wrap (1000 * b2)))]
section
variable (n : Nat) (hn : n ≤ 9223372036854775807) (d : Dat) (hs : ∀ i, i < n → (d.ss i 0).size ≤ 9223372036854775807) (b1 b2 b3 T ol oh hl hh : Int) (p : Nat) (dp : Dat) (den : Int) (W a b c e q : Int)
include hn hs
theorem task_good (h : m34 n d b1 b2 b3 T ol oh hl hh = 0) :
    n93a n d b1 b2 b3 T ol oh hl hh = false ∧ n93b n d b1 b2 b3 T ol oh hl hh = true ∧
    m93b n d b1 b2 b3 T ol oh hl hh = (0, n, d, b1, b2, b3, T, ol, oh, hl, hh, IntKind.i64.wrap (T - m84 b1 b2 b3), IntKind.i64.wrap (IntKind.i64.wrap (ol * T) - IntKind.i64.wrap (1000 * b1)), IntKind.i64.wrap (IntKind.i64.wrap (oh * T) - IntKind.i64.wrap (1000 * b1)), IntKind.i64.wrap (IntKind.i64.wrap (hl * T) - IntKind.i64.wrap (1000 * b2)), IntKind.i64.wrap (IntKind.i64.wrap (hh * T) - IntKind.i64.wrap (1000 * b2))) := by
  obtain ⟨t1, t2, t3⟩ := task_both n hn d hs b1 b2 b3 T ol oh hl hh
  refine ⟨?_, ?_, rfl⟩
  · simp only [n93a, t1, t3, h]; rfl
  · simp only [n93b, t1, t3, h]; rfl
end
end Go.Proofs.Ytmndejpcpfkajaa
