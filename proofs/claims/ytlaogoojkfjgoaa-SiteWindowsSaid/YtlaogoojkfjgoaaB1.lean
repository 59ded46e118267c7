/-
  Contracts of functions: models, equations by the kernel, contracts. Conditions: none.
-/
import Derived.Test.YtlaogoojkfjgoaaBSyY
import Derived.Test.YtlaogoojkfjgoaaBSyKo
import Derived.Test.YtlaogoojkfjgoaaBSyBk
import Derived.Test.YtlaogoojkfjgoaaBSyWs
import Derived.Test.YtlaogoojkfjgoaaBBase
import Derived.KernelRfl
namespace Go.Proofs.Ytlaogoojkfjgoaa
open Go Go.Sy
set_option linter.unusedVariables false
set_option linter.unusedSimpArgs false
set_option maxRecDepth 100000
set_option maxHeartbeats 2000000
attribute [local irreducible] Go.IntKind.wrap Int.tdiv Int.tmod Int.fdiv
open Go.Sy renaming tabOk_cons → tc, tabOk_nil → tn, cnd_need → cn, leaf_of → lf, cnd_gg → cg, cnd_gg2 → ch, cond_f → cf, cond_t → ct, cnd_of → co, callOf → ca, roundOf → ro, cnd_not → nn, lams_cons → lc, lams_nil → ln, condT → cT, condF → cF, need1 → n1, resOf → rs, and_l → al, and_r → ar, or_gg → og, ctr_of → cx, loop_blk → lb
open Go.IntKind renaming i64 → Z
open Go.Sy.SV renaming int → V
open Go.Sy.Kd renaming int → W
noncomputable def bt64104_0 : ByteArray := { data := #[OfNat.ofNat 0, OfNat.ofNat 1, OfNat.ofNat 2, OfNat.ofNat 2, OfNat.ofNat 3, OfNat.ofNat 3, OfNat.ofNat 3, OfNat.ofNat 3, OfNat.ofNat 4, OfNat.ofNat 4, OfNat.ofNat 4, OfNat.ofNat 4, OfNat.ofNat 4, OfNat.ofNat 4, OfNat.ofNat 4, OfNat.ofNat 4, OfNat.ofNat 5, OfNat.ofNat 5, OfNat.ofNat 5, OfNat.ofNat 5, OfNat.ofNat 5, OfNat.ofNat 5, OfNat.ofNat 5, OfNat.ofNat 5, OfNat.ofNat 5, OfNat.ofNat 5, OfNat.ofNat 5, OfNat.ofNat 5, OfNat.ofNat 5, OfNat.ofNat 5, OfNat.ofNat 5, OfNat.ofNat 5, OfNat.ofNat 6, OfNat.ofNat 6, OfNat.ofNat 6, OfNat.ofNat 6, OfNat.ofNat 6, OfNat.ofNat 6, OfNat.ofNat 6, OfNat.ofNat 6, OfNat.ofNat 6, OfNat.ofNat 6, OfNat.ofNat 6, OfNat.ofNat 6, OfNat.ofNat 6, OfNat.ofNat 6, OfNat.ofNat 6, OfNat.ofNat 6, OfNat.ofNat 6, OfNat.ofNat 6, OfNat.ofNat 6, OfNat.ofNat 6, OfNat.ofNat 6, OfNat.ofNat 6, OfNat.ofNat 6, OfNat.ofNat 6, OfNat.ofNat 6, OfNat.ofNat 6, OfNat.ofNat 6, OfNat.ofNat 6, OfNat.ofNat 6, OfNat.ofNat 6, OfNat.ofNat 6, OfNat.ofNat 6, OfNat.ofNat 7, OfNat.ofNat 7, OfNat.ofNat 7, OfNat.ofNat 7, OfNat.ofNat 7, OfNat.ofNat 7, OfNat.ofNat 7, OfNat.ofNat 7, OfNat.ofNat 7, OfNat.ofNat 7, OfNat.ofNat 7, OfNat.ofNat 7, OfNat.ofNat 7, OfNat.ofNat 7, OfNat.ofNat 7, OfNat.ofNat 7, OfNat.ofNat 7, OfNat.ofNat 7, OfNat.ofNat 7, OfNat.ofNat 7, OfNat.ofNat 7, OfNat.ofNat 7, OfNat.ofNat 7, OfNat.ofNat 7, OfNat.ofNat 7, OfNat.ofNat 7, OfNat.ofNat 7, OfNat.ofNat 7, OfNat.ofNat 7, OfNat.ofNat 7, OfNat.ofNat 7, OfNat.ofNat 7, OfNat.ofNat 7, OfNat.ofNat 7, OfNat.ofNat 7, OfNat.ofNat 7, OfNat.ofNat 7, OfNat.ofNat 7, OfNat.ofNat 7, OfNat.ofNat 7, OfNat.ofNat 7, OfNat.ofNat 7, OfNat.ofNat 7, OfNat.ofNat 7, OfNat.ofNat 7, OfNat.ofNat 7, OfNat.ofNat 7, OfNat.ofNat 7, OfNat.ofNat 7, OfNat.ofNat 7, OfNat.ofNat 7, OfNat.ofNat 7, OfNat.ofNat 7, OfNat.ofNat 7, OfNat.ofNat 7, OfNat.ofNat 7, OfNat.ofNat 7, OfNat.ofNat 7, OfNat.ofNat 7, OfNat.ofNat 7, OfNat.ofNat 7, OfNat.ofNat 7, OfNat.ofNat 7, OfNat.ofNat 7, OfNat.ofNat 8, OfNat.ofNat 8, OfNat.ofNat 8, OfNat.ofNat 8, OfNat.ofNat 8, OfNat.ofNat 8, OfNat.ofNat 8, OfNat.ofNat 8, OfNat.ofNat 8, OfNat.ofNat 8, OfNat.ofNat 8, OfNat.ofNat 8, OfNat.ofNat 8, OfNat.ofNat 8, OfNat.ofNat 8, OfNat.ofNat 8, OfNat.ofNat 8, OfNat.ofNat 8, OfNat.ofNat 8, OfNat.ofNat 8, OfNat.ofNat 8, OfNat.ofNat 8, OfNat.ofNat 8, OfNat.ofNat 8, OfNat.ofNat 8, OfNat.ofNat 8, OfNat.ofNat 8, OfNat.ofNat 8, OfNat.ofNat 8, OfNat.ofNat 8, OfNat.ofNat 8, OfNat.ofNat 8, OfNat.ofNat 8, OfNat.ofNat 8, OfNat.ofNat 8, OfNat.ofNat 8, OfNat.ofNat 8, OfNat.ofNat 8, OfNat.ofNat 8, OfNat.ofNat 8, OfNat.ofNat 8, OfNat.ofNat 8, OfNat.ofNat 8, OfNat.ofNat 8, OfNat.ofNat 8, OfNat.ofNat 8, OfNat.ofNat 8, OfNat.ofNat 8, OfNat.ofNat 8, OfNat.ofNat 8, OfNat.ofNat 8, OfNat.ofNat 8, OfNat.ofNat 8, OfNat.ofNat 8, OfNat.ofNat 8, OfNat.ofNat 8, OfNat.ofNat 8, OfNat.ofNat 8, OfNat.ofNat 8, OfNat.ofNat 8, OfNat.ofNat 8, OfNat.ofNat 8, OfNat.ofNat 8, OfNat.ofNat 8, OfNat.ofNat 8, OfNat.ofNat 8, OfNat.ofNat 8, OfNat.ofNat 8, OfNat.ofNat 8, OfNat.ofNat 8, OfNat.ofNat 8, OfNat.ofNat 8, OfNat.ofNat 8, OfNat.ofNat 8, OfNat.ofNat 8, OfNat.ofNat 8, OfNat.ofNat 8, OfNat.ofNat 8, OfNat.ofNat 8, OfNat.ofNat 8, OfNat.ofNat 8, OfNat.ofNat 8, OfNat.ofNat 8, OfNat.ofNat 8, OfNat.ofNat 8, OfNat.ofNat 8, OfNat.ofNat 8, OfNat.ofNat 8, OfNat.ofNat 8, OfNat.ofNat 8, OfNat.ofNat 8, OfNat.ofNat 8, OfNat.ofNat 8, OfNat.ofNat 8, OfNat.ofNat 8, OfNat.ofNat 8, OfNat.ofNat 8, OfNat.ofNat 8, OfNat.ofNat 8, OfNat.ofNat 8, OfNat.ofNat 8, OfNat.ofNat 8, OfNat.ofNat 8, OfNat.ofNat 8, OfNat.ofNat 8, OfNat.ofNat 8, OfNat.ofNat 8, OfNat.ofNat 8, OfNat.ofNat 8, OfNat.ofNat 8, OfNat.ofNat 8, OfNat.ofNat 8, OfNat.ofNat 8, OfNat.ofNat 8, OfNat.ofNat 8, OfNat.ofNat 8, OfNat.ofNat 8, OfNat.ofNat 8, OfNat.ofNat 8, OfNat.ofNat 8, OfNat.ofNat 8, OfNat.ofNat 8, OfNat.ofNat 8, OfNat.ofNat 8, OfNat.ofNat 8, OfNat.ofNat 8, OfNat.ofNat 8, OfNat.ofNat 8] }
noncomputable def bt36767_1 : ByteArray := { data := (([0, 1, 2, 2, 3, 3, 3, 3, 4, 4, 4, 4, 4, 4, 4, 4, 5, 5, 5, 5, 5, 5, 5, 5, 5, 5, 5, 5, 5, 5, 5, 5, 6, 6, 6, 6, 6, 6, 6, 6, 6, 6, 6, 6, 6, 6, 6, 6, 6, 6, 6, 6, 6, 6, 6, 6, 6, 6, 6, 6, 6, 6, 6, 6].append [7, 7, 7, 7, 7, 7, 7, 7, 7, 7, 7, 7, 7, 7, 7, 7, 7, 7, 7, 7, 7, 7, 7, 7, 7, 7, 7, 7, 7, 7, 7, 7, 7, 7, 7, 7, 7, 7, 7, 7, 7, 7, 7, 7, 7, 7, 7, 7, 7, 7, 7, 7, 7, 7, 7, 7, 7, 7, 7, 7, 7, 7, 7, 7]).append ([8, 8, 8, 8, 8, 8, 8, 8, 8, 8, 8, 8, 8, 8, 8, 8, 8, 8, 8, 8, 8, 8, 8, 8, 8, 8, 8, 8, 8, 8, 8, 8, 8, 8, 8, 8, 8, 8, 8, 8, 8, 8, 8, 8, 8, 8, 8, 8, 8, 8, 8, 8, 8, 8, 8, 8, 8, 8, 8, 8, 8, 8, 8, 8].append [8, 8, 8, 8, 8, 8, 8, 8, 8, 8, 8, 8, 8, 8, 8, 8, 8, 8, 8, 8, 8, 8, 8, 8, 8, 8, 8, 8, 8, 8, 8, 8, 8, 8, 8, 8, 8, 8, 8, 8, 8, 8, 8, 8, 8, 8, 8, 8, 8, 8, 8, 8, 8, 8, 8, 8, 8, 8, 8, 8, 8, 8, 8, 8])).toArray }
noncomputable def bt14506_2 : ByteArray := { data := (([(0 : UInt8), (1 : UInt8), (2 : UInt8), (2 : UInt8), (3 : UInt8), (3 : UInt8), (3 : UInt8), (3 : UInt8), (4 : UInt8), (4 : UInt8), (4 : UInt8), (4 : UInt8), (4 : UInt8), (4 : UInt8), (4 : UInt8), (4 : UInt8), (5 : UInt8), (5 : UInt8), (5 : UInt8), (5 : UInt8), (5 : UInt8), (5 : UInt8), (5 : UInt8), (5 : UInt8), (5 : UInt8), (5 : UInt8), (5 : UInt8), (5 : UInt8), (5 : UInt8), (5 : UInt8), (5 : UInt8), (5 : UInt8), (6 : UInt8), (6 : UInt8), (6 : UInt8), (6 : UInt8), (6 : UInt8), (6 : UInt8), (6 : UInt8), (6 : UInt8), (6 : UInt8), (6 : UInt8), (6 : UInt8), (6 : UInt8), (6 : UInt8), (6 : UInt8), (6 : UInt8), (6 : UInt8), (6 : UInt8), (6 : UInt8), (6 : UInt8), (6 : UInt8), (6 : UInt8), (6 : UInt8), (6 : UInt8), (6 : UInt8), (6 : UInt8), (6 : UInt8), (6 : UInt8), (6 : UInt8), (6 : UInt8), (6 : UInt8), (6 : UInt8), (6 : UInt8)].append [(7 : UInt8), (7 : UInt8), (7 : UInt8), (7 : UInt8), (7 : UInt8), (7 : UInt8), (7 : UInt8), (7 : UInt8), (7 : UInt8), (7 : UInt8), (7 : UInt8), (7 : UInt8), (7 : UInt8), (7 : UInt8), (7 : UInt8), (7 : UInt8), (7 : UInt8), (7 : UInt8), (7 : UInt8), (7 : UInt8), (7 : UInt8), (7 : UInt8), (7 : UInt8), (7 : UInt8), (7 : UInt8), (7 : UInt8), (7 : UInt8), (7 : UInt8), (7 : UInt8), (7 : UInt8), (7 : UInt8), (7 : UInt8), (7 : UInt8), (7 : UInt8), (7 : UInt8), (7 : UInt8), (7 : UInt8), (7 : UInt8), (7 : UInt8), (7 : UInt8), (7 : UInt8), (7 : UInt8), (7 : UInt8), (7 : UInt8), (7 : UInt8), (7 : UInt8), (7 : UInt8), (7 : UInt8), (7 : UInt8), (7 : UInt8), (7 : UInt8), (7 : UInt8), (7 : UInt8), (7 : UInt8), (7 : UInt8), (7 : UInt8), (7 : UInt8), (7 : UInt8), (7 : UInt8), (7 : UInt8), (7 : UInt8), (7 : UInt8), (7 : UInt8), (7 : UInt8)]).append ([(8 : UInt8), (8 : UInt8), (8 : UInt8), (8 : UInt8), (8 : UInt8), (8 : UInt8), (8 : UInt8), (8 : UInt8), (8 : UInt8), (8 : UInt8), (8 : UInt8), (8 : UInt8), (8 : UInt8), (8 : UInt8), (8 : UInt8), (8 : UInt8), (8 : UInt8), (8 : UInt8), (8 : UInt8), (8 : UInt8), (8 : UInt8), (8 : UInt8), (8 : UInt8), (8 : UInt8), (8 : UInt8), (8 : UInt8), (8 : UInt8), (8 : UInt8), (8 : UInt8), (8 : UInt8), (8 : UInt8), (8 : UInt8), (8 : UInt8), (8 : UInt8), (8 : UInt8), (8 : UInt8), (8 : UInt8), (8 : UInt8), (8 : UInt8), (8 : UInt8), (8 : UInt8), (8 : UInt8), (8 : UInt8), (8 : UInt8), (8 : UInt8), (8 : UInt8), (8 : UInt8), (8 : UInt8), (8 : UInt8), (8 : UInt8), (8 : UInt8), (8 : UInt8), (8 : UInt8), (8 : UInt8), (8 : UInt8), (8 : UInt8), (8 : UInt8), (8 : UInt8), (8 : UInt8), (8 : UInt8), (8 : UInt8), (8 : UInt8), (8 : UInt8), (8 : UInt8)].append [(8 : UInt8), (8 : UInt8), (8 : UInt8), (8 : UInt8), (8 : UInt8), (8 : UInt8), (8 : UInt8), (8 : UInt8), (8 : UInt8), (8 : UInt8), (8 : UInt8), (8 : UInt8), (8 : UInt8), (8 : UInt8), (8 : UInt8), (8 : UInt8), (8 : UInt8), (8 : UInt8), (8 : UInt8), (8 : UInt8), (8 : UInt8), (8 : UInt8), (8 : UInt8), (8 : UInt8), (8 : UInt8), (8 : UInt8), (8 : UInt8), (8 : UInt8), (8 : UInt8), (8 : UInt8), (8 : UInt8), (8 : UInt8), (8 : UInt8), (8 : UInt8), (8 : UInt8), (8 : UInt8), (8 : UInt8), (8 : UInt8), (8 : UInt8), (8 : UInt8), (8 : UInt8), (8 : UInt8), (8 : UInt8), (8 : UInt8), (8 : UInt8), (8 : UInt8), (8 : UInt8), (8 : UInt8), (8 : UInt8), (8 : UInt8), (8 : UInt8), (8 : UInt8), (8 : UInt8), (8 : UInt8), (8 : UInt8), (8 : UInt8), (8 : UInt8), (8 : UInt8), (8 : UInt8), (8 : UInt8), (8 : UInt8), (8 : UInt8), (8 : UInt8), (8 : UInt8)])).toArray }
noncomputable def bt8314_0 : ByteArray := { data := (([0, 1, 2, 2, 3, 3, 3, 3, 4, 4, 4, 4, 4, 4, 4, 4, 5, 5, 5, 5, 5, 5, 5, 5, 5, 5, 5, 5, 5, 5, 5, 5, 6, 6, 6, 6, 6, 6, 6, 6, 6, 6, 6, 6, 6, 6, 6, 6, 6, 6, 6, 6, 6, 6, 6, 6, 6, 6, 6, 6, 6, 6, 6, 6].append [7, 7, 7, 7, 7, 7, 7, 7, 7, 7, 7, 7, 7, 7, 7, 7, 7, 7, 7, 7, 7, 7, 7, 7, 7, 7, 7, 7, 7, 7, 7, 7, 7, 7, 7, 7, 7, 7, 7, 7, 7, 7, 7, 7, 7, 7, 7, 7, 7, 7, 7, 7, 7, 7, 7, 7, 7, 7, 7, 7, 7, 7, 7, 7]).append ([8, 8, 8, 8, 8, 8, 8, 8, 8, 8, 8, 8, 8, 8, 8, 8, 8, 8, 8, 8, 8, 8, 8, 8, 8, 8, 8, 8, 8, 8, 8, 8, 8, 8, 8, 8, 8, 8, 8, 8, 8, 8, 8, 8, 8, 8, 8, 8, 8, 8, 8, 8, 8, 8, 8, 8, 8, 8, 8, 8, 8, 8, 8, 8].append [8, 8, 8, 8, 8, 8, 8, 8, 8, 8, 8, 8, 8, 8, 8, 8, 8, 8, 8, 8, 8, 8, 8, 8, 8, 8, 8, 8, 8, 8, 8, 8, 8, 8, 8, 8, 8, 8, 8, 8, 8, 8, 8, 8, 8, 8, 8, 8, 8, 8, 8, 8, 8, 8, 8, 8, 8, 8, 8, 8, 8, 8, 8, 8])).toArray }
noncomputable def bt78892_1 : ByteArray := { data := #[OfNat.ofNat 0, OfNat.ofNat 1, OfNat.ofNat 2, OfNat.ofNat 2, OfNat.ofNat 3, OfNat.ofNat 3, OfNat.ofNat 3, OfNat.ofNat 3, OfNat.ofNat 4, OfNat.ofNat 4, OfNat.ofNat 4, OfNat.ofNat 4, OfNat.ofNat 4, OfNat.ofNat 4, OfNat.ofNat 4, OfNat.ofNat 4, OfNat.ofNat 5, OfNat.ofNat 5, OfNat.ofNat 5, OfNat.ofNat 5, OfNat.ofNat 5, OfNat.ofNat 5, OfNat.ofNat 5, OfNat.ofNat 5, OfNat.ofNat 5, OfNat.ofNat 5, OfNat.ofNat 5, OfNat.ofNat 5, OfNat.ofNat 5, OfNat.ofNat 5, OfNat.ofNat 5, OfNat.ofNat 5, OfNat.ofNat 6, OfNat.ofNat 6, OfNat.ofNat 6, OfNat.ofNat 6, OfNat.ofNat 6, OfNat.ofNat 6, OfNat.ofNat 6, OfNat.ofNat 6, OfNat.ofNat 6, OfNat.ofNat 6, OfNat.ofNat 6, OfNat.ofNat 6, OfNat.ofNat 6, OfNat.ofNat 6, OfNat.ofNat 6, OfNat.ofNat 6, OfNat.ofNat 6, OfNat.ofNat 6, OfNat.ofNat 6, OfNat.ofNat 6, OfNat.ofNat 6, OfNat.ofNat 6, OfNat.ofNat 6, OfNat.ofNat 6, OfNat.ofNat 6, OfNat.ofNat 6, OfNat.ofNat 6, OfNat.ofNat 6, OfNat.ofNat 6, OfNat.ofNat 6, OfNat.ofNat 6, OfNat.ofNat 6, OfNat.ofNat 7, OfNat.ofNat 7, OfNat.ofNat 7, OfNat.ofNat 7, OfNat.ofNat 7, OfNat.ofNat 7, OfNat.ofNat 7, OfNat.ofNat 7, OfNat.ofNat 7, OfNat.ofNat 7, OfNat.ofNat 7, OfNat.ofNat 7, OfNat.ofNat 7, OfNat.ofNat 7, OfNat.ofNat 7, OfNat.ofNat 7, OfNat.ofNat 7, OfNat.ofNat 7, OfNat.ofNat 7, OfNat.ofNat 7, OfNat.ofNat 7, OfNat.ofNat 7, OfNat.ofNat 7, OfNat.ofNat 7, OfNat.ofNat 7, OfNat.ofNat 7, OfNat.ofNat 7, OfNat.ofNat 7, OfNat.ofNat 7, OfNat.ofNat 7, OfNat.ofNat 7, OfNat.ofNat 7, OfNat.ofNat 7, OfNat.ofNat 7, OfNat.ofNat 7, OfNat.ofNat 7, OfNat.ofNat 7, OfNat.ofNat 7, OfNat.ofNat 7, OfNat.ofNat 7, OfNat.ofNat 7, OfNat.ofNat 7, OfNat.ofNat 7, OfNat.ofNat 7, OfNat.ofNat 7, OfNat.ofNat 7, OfNat.ofNat 7, OfNat.ofNat 7, OfNat.ofNat 7, OfNat.ofNat 7, OfNat.ofNat 7, OfNat.ofNat 7, OfNat.ofNat 7, OfNat.ofNat 7, OfNat.ofNat 7, OfNat.ofNat 7, OfNat.ofNat 7, OfNat.ofNat 7, OfNat.ofNat 7, OfNat.ofNat 7, OfNat.ofNat 7, OfNat.ofNat 7, OfNat.ofNat 7, OfNat.ofNat 7, OfNat.ofNat 8, OfNat.ofNat 8, OfNat.ofNat 8, OfNat.ofNat 8, OfNat.ofNat 8, OfNat.ofNat 8, OfNat.ofNat 8, OfNat.ofNat 8, OfNat.ofNat 8, OfNat.ofNat 8, OfNat.ofNat 8, OfNat.ofNat 8, OfNat.ofNat 8, OfNat.ofNat 8, OfNat.ofNat 8, OfNat.ofNat 8, OfNat.ofNat 8, OfNat.ofNat 8, OfNat.ofNat 8, OfNat.ofNat 8, OfNat.ofNat 8, OfNat.ofNat 8, OfNat.ofNat 8, OfNat.ofNat 8, OfNat.ofNat 8, OfNat.ofNat 8, OfNat.ofNat 8, OfNat.ofNat 8, OfNat.ofNat 8, OfNat.ofNat 8, OfNat.ofNat 8, OfNat.ofNat 8, OfNat.ofNat 8, OfNat.ofNat 8, OfNat.ofNat 8, OfNat.ofNat 8, OfNat.ofNat 8, OfNat.ofNat 8, OfNat.ofNat 8, OfNat.ofNat 8, OfNat.ofNat 8, OfNat.ofNat 8, OfNat.ofNat 8, OfNat.ofNat 8, OfNat.ofNat 8, OfNat.ofNat 8, OfNat.ofNat 8, OfNat.ofNat 8, OfNat.ofNat 8, OfNat.ofNat 8, OfNat.ofNat 8, OfNat.ofNat 8, OfNat.ofNat 8, OfNat.ofNat 8, OfNat.ofNat 8, OfNat.ofNat 8, OfNat.ofNat 8, OfNat.ofNat 8, OfNat.ofNat 8, OfNat.ofNat 8, OfNat.ofNat 8, OfNat.ofNat 8, OfNat.ofNat 8, OfNat.ofNat 8, OfNat.ofNat 8, OfNat.ofNat 8, OfNat.ofNat 8, OfNat.ofNat 8, OfNat.ofNat 8, OfNat.ofNat 8, OfNat.ofNat 8, OfNat.ofNat 8, OfNat.ofNat 8, OfNat.ofNat 8, OfNat.ofNat 8, OfNat.ofNat 8, OfNat.ofNat 8, OfNat.ofNat 8, OfNat.ofNat 8, OfNat.ofNat 8, OfNat.ofNat 8, OfNat.ofNat 8, OfNat.ofNat 8, OfNat.ofNat 8, OfNat.ofNat 8, OfNat.ofNat 8, OfNat.ofNat 8, OfNat.ofNat 8, OfNat.ofNat 8, OfNat.ofNat 8, OfNat.ofNat 8, OfNat.ofNat 8, OfNat.ofNat 8, OfNat.ofNat 8, OfNat.ofNat 8, OfNat.ofNat 8, OfNat.ofNat 8, OfNat.ofNat 8, OfNat.ofNat 8, OfNat.ofNat 8, OfNat.ofNat 8, OfNat.ofNat 8, OfNat.ofNat 8, OfNat.ofNat 8, OfNat.ofNat 8, OfNat.ofNat 8, OfNat.ofNat 8, OfNat.ofNat 8, OfNat.ofNat 8, OfNat.ofNat 8, OfNat.ofNat 8, OfNat.ofNat 8, OfNat.ofNat 8, OfNat.ofNat 8, OfNat.ofNat 8, OfNat.ofNat 8, OfNat.ofNat 8, OfNat.ofNat 8, OfNat.ofNat 8, OfNat.ofNat 8, OfNat.ofNat 8, OfNat.ofNat 8, OfNat.ofNat 8, OfNat.ofNat 8, OfNat.ofNat 8, OfNat.ofNat 8, OfNat.ofNat 8, OfNat.ofNat 8] }
noncomputable def bt67477_2 : ByteArray := { data := (([(0 : UInt8), (1 : UInt8), (2 : UInt8), (2 : UInt8), (3 : UInt8), (3 : UInt8), (3 : UInt8), (3 : UInt8), (4 : UInt8), (4 : UInt8), (4 : UInt8), (4 : UInt8), (4 : UInt8), (4 : UInt8), (4 : UInt8), (4 : UInt8), (5 : UInt8), (5 : UInt8), (5 : UInt8), (5 : UInt8), (5 : UInt8), (5 : UInt8), (5 : UInt8), (5 : UInt8), (5 : UInt8), (5 : UInt8), (5 : UInt8), (5 : UInt8), (5 : UInt8), (5 : UInt8), (5 : UInt8), (5 : UInt8), (6 : UInt8), (6 : UInt8), (6 : UInt8), (6 : UInt8), (6 : UInt8), (6 : UInt8), (6 : UInt8), (6 : UInt8), (6 : UInt8), (6 : UInt8), (6 : UInt8), (6 : UInt8), (6 : UInt8), (6 : UInt8), (6 : UInt8), (6 : UInt8), (6 : UInt8), (6 : UInt8), (6 : UInt8), (6 : UInt8), (6 : UInt8), (6 : UInt8), (6 : UInt8), (6 : UInt8), (6 : UInt8), (6 : UInt8), (6 : UInt8), (6 : UInt8), (6 : UInt8), (6 : UInt8), (6 : UInt8), (6 : UInt8)].append [(7 : UInt8), (7 : UInt8), (7 : UInt8), (7 : UInt8), (7 : UInt8), (7 : UInt8), (7 : UInt8), (7 : UInt8), (7 : UInt8), (7 : UInt8), (7 : UInt8), (7 : UInt8), (7 : UInt8), (7 : UInt8), (7 : UInt8), (7 : UInt8), (7 : UInt8), (7 : UInt8), (7 : UInt8), (7 : UInt8), (7 : UInt8), (7 : UInt8), (7 : UInt8), (7 : UInt8), (7 : UInt8), (7 : UInt8), (7 : UInt8), (7 : UInt8), (7 : UInt8), (7 : UInt8), (7 : UInt8), (7 : UInt8), (7 : UInt8), (7 : UInt8), (7 : UInt8), (7 : UInt8), (7 : UInt8), (7 : UInt8), (7 : UInt8), (7 : UInt8), (7 : UInt8), (7 : UInt8), (7 : UInt8), (7 : UInt8), (7 : UInt8), (7 : UInt8), (7 : UInt8), (7 : UInt8), (7 : UInt8), (7 : UInt8), (7 : UInt8), (7 : UInt8), (7 : UInt8), (7 : UInt8), (7 : UInt8), (7 : UInt8), (7 : UInt8), (7 : UInt8), (7 : UInt8), (7 : UInt8), (7 : UInt8), (7 : UInt8), (7 : UInt8), (7 : UInt8)]).append ([(8 : UInt8), (8 : UInt8), (8 : UInt8), (8 : UInt8), (8 : UInt8), (8 : UInt8), (8 : UInt8), (8 : UInt8), (8 : UInt8), (8 : UInt8), (8 : UInt8), (8 : UInt8), (8 : UInt8), (8 : UInt8), (8 : UInt8), (8 : UInt8), (8 : UInt8), (8 : UInt8), (8 : UInt8), (8 : UInt8), (8 : UInt8), (8 : UInt8), (8 : UInt8), (8 : UInt8), (8 : UInt8), (8 : UInt8), (8 : UInt8), (8 : UInt8), (8 : UInt8), (8 : UInt8), (8 : UInt8), (8 : UInt8), (8 : UInt8), (8 : UInt8), (8 : UInt8), (8 : UInt8), (8 : UInt8), (8 : UInt8), (8 : UInt8), (8 : UInt8), (8 : UInt8), (8 : UInt8), (8 : UInt8), (8 : UInt8), (8 : UInt8), (8 : UInt8), (8 : UInt8), (8 : UInt8), (8 : UInt8), (8 : UInt8), (8 : UInt8), (8 : UInt8), (8 : UInt8), (8 : UInt8), (8 : UInt8), (8 : UInt8), (8 : UInt8), (8 : UInt8), (8 : UInt8), (8 : UInt8), (8 : UInt8), (8 : UInt8), (8 : UInt8), (8 : UInt8)].append [(8 : UInt8), (8 : UInt8), (8 : UInt8), (8 : UInt8), (8 : UInt8), (8 : UInt8), (8 : UInt8), (8 : UInt8), (8 : UInt8), (8 : UInt8), (8 : UInt8), (8 : UInt8), (8 : UInt8), (8 : UInt8), (8 : UInt8), (8 : UInt8), (8 : UInt8), (8 : UInt8), (8 : UInt8), (8 : UInt8), (8 : UInt8), (8 : UInt8), (8 : UInt8), (8 : UInt8), (8 : UInt8), (8 : UInt8), (8 : UInt8), (8 : UInt8), (8 : UInt8), (8 : UInt8), (8 : UInt8), (8 : UInt8), (8 : UInt8), (8 : UInt8), (8 : UInt8), (8 : UInt8), (8 : UInt8), (8 : UInt8), (8 : UInt8), (8 : UInt8), (8 : UInt8), (8 : UInt8), (8 : UInt8), (8 : UInt8), (8 : UInt8), (8 : UInt8), (8 : UInt8), (8 : UInt8), (8 : UInt8), (8 : UInt8), (8 : UInt8), (8 : UInt8), (8 : UInt8), (8 : UInt8), (8 : UInt8), (8 : UInt8), (8 : UInt8), (8 : UInt8), (8 : UInt8), (8 : UInt8), (8 : UInt8), (8 : UInt8), (8 : UInt8), (8 : UInt8)])).toArray }
/-! ### shotline/shotlinebase.Within -/
noncomputable def m29 (a b d : Int) : Bool :=
  (bif (decide (b ≤ a)) then (decide (a ≤ d)) else false)
noncomputable def q29 (r : Bool) : SV × List Blk × List Blk := (.bool r, [], [])
noncomputable def g29 : GF := fun vs bs => match vs, bs with
  | [V Z a, V Z b, V Z d], [] => some (rs 0 (q29 (m29 a b d)) [])
  | _, _ => none
noncomputable def c29 : Ctr := genC [.k, .k, .k] g29
theorem k29 : CtrOk Try.prog c29 29 := cx tn mix_ok 8 (fn := Try.f29) (c := (Try.f29.body.getD .skip)) (grs := []) (rh := .k) Try.func29 rfl (by kernel_rfl) noLam fun vs bs q h hn => by
  unfold g29 at h
  split at h <;> cases h
  rename_i a b d
  exact ⟨_, rfl, ca (fun R => (R (.bool (bif (decide (b ≤ a)) then (decide (a ≤ d)) else false)) [] [])) (fun R => by kernel_rfl) (lf rfl rfl)⟩
/-! ### shotline/site.within -/
noncomputable def m96 (a b d : Int) : Bool :=
  (bif (decide (b ≤ a)) then (decide (a ≤ d)) else false)
noncomputable def q96 (r : Bool) : SV × List Blk × List Blk := (.bool r, [], [])
noncomputable def g96 : GF := fun vs bs => match vs, bs with
  | [V Z a, V Z b, V Z d], [] => some (rs 0 (q96 (m96 a b d)) [])
  | _, _ => none
noncomputable def c96 : Ctr := genC [.k, .k, .k] g96
theorem k96 : CtrOk Try.prog c96 96 := cx tn mix_ok 8 (fn := Try.f96) (c := (Try.f96.body.getD .skip)) (grs := []) (rh := .k) Try.func96 rfl (by kernel_rfl) noLam fun vs bs q h hn => by
  unfold g96 at h
  split at h <;> cases h
  rename_i a b d
  exact ⟨_, rfl, ca (fun R => (R (.bool (bif (decide (b ≤ a)) then (decide (a ≤ d)) else false)) [] [])) (fun R => by kernel_rfl) (lf rfl rfl)⟩
/-! ### shotline/site.down -/
noncomputable def m127 (b a : Int) : Int :=
  (cond (decide (b < (0 : Int))) (Z.wrap (0 - (Z.wrap ((Z.wrap ((Z.wrap ((Z.wrap (0 - b)) + a)) - 1)).tdiv a)))) (Z.wrap (b.tdiv a)))
noncomputable def n127 (b a : Int) : Bool :=
  (cond (decide (b < (0 : Int))) ((bif (decide (a = 0)) then false else true) && true) ((bif (decide (a = 0)) then false else true) && true))
noncomputable def q127 (r : Int) : SV × List Blk × List Blk := (V Z r, [], [])
noncomputable def g127 : GF := fun vs bs => match vs, bs with
  | [V Z b, V Z a], [] => some (rs 0 (q127 (m127 b a)) [n127 b a])
  | _, _ => none
noncomputable def c127 : Ctr := genC [.k, .k] g127
theorem k127 : CtrOk Try.prog c127 127 := cx tn mix_ok 8 (fn := Try.f127) (c := (Try.f127.body.getD .skip)) (grs := []) (rh := .k) Try.func127 rfl (by kernel_rfl) noLam fun vs bs q h hn => by
  unfold g127 at h
  split at h <;> cases h
  rename_i b a
  have hn := n1 hn
  exact ⟨_, rfl, ca (fun R => (cnd (decide (b < (0 : Int)))
 (cnd (bif (decide (a = 0)) then false else true)
 (R (V Z (Z.wrap (0 - (Z.wrap ((Z.wrap ((Z.wrap ((Z.wrap (0 - b)) + a)) - 1)).tdiv a))))) [] [])
   False)
 (cnd (bif (decide (a = 0)) then false else true)
 (R (V Z (Z.wrap (b.tdiv a))) [] [])
   False))) (fun R => by kernel_rfl) (co (fun h0 => cn (al (ct h0 hn)) (lf (cT h0 rfl) rfl)) (fun h0 => cn (al (cf h0 hn)) (lf (cF h0 rfl) rfl)))⟩
/-! ### shotline/site.negated -/
noncomputable def m134 (a b : Int) : Int × Int :=
  ((Z.wrap (0 - b)), (Z.wrap (0 - a)))
noncomputable def q134 (r : Int × Int) : SV × List Blk × List Blk := (.agg [V Z r.1, V Z r.2], [], [])
noncomputable def g134 : GF := fun vs bs => match vs, bs with
  | [.agg [V Z a, V Z b]], [] => some (rs 0 (q134 (m134 a b)) [])
  | _, _ => none
noncomputable def c134 : Ctr := genC [.k] g134
theorem k134 : CtrOk Try.prog c134 134 := cx tn mix_ok 8 (fn := Try.f134) (c := (Try.f134.body.getD .skip)) (grs := []) (rh := .k) Try.func134 rfl (by kernel_rfl) noLam fun vs bs q h hn => by
  unfold g134 at h
  split at h <;> cases h
  rename_i a b
  exact ⟨_, rfl, ca (fun R => (R (.agg [V Z (Z.wrap (0 - b)), V Z (Z.wrap (0 - a))]) [] [])) (fun R => by kernel_rfl) (lf rfl rfl)⟩
/-! ### shotline/site.root -/
noncomputable def l131_0 (d : Int) : Nat → Int → Int → Option (Int)
  | 0, _, _ => none
  | f + 1, g, a => (cond (decide (a < g)) (cond (bif (decide (a = 0)) then false else true) (l131_0 d f a (Z.wrap ((Z.wrap (a + (Z.wrap (d.tdiv a)))).tdiv 2))) none) (some g))
noncomputable abbrev o131_0 (d g a : Int) : Option (Int) := l131_0 d (d.toNat + g.toNat + a.toNat + 8) g a
noncomputable def e131_0 (d r : Int) (K : XR) : Prop := K (XE.exit 0) [V Z r] []
noncomputable def g131_0 : LSum := fun s k => match czv 0 23 [0, 3, 4] 0 [] s with
  | some ([V Z d, V Z g, V Z a], []) => needs [(o131_0 d g a).isSome] (e131_0 d ((o131_0 d g a).getD default) fun e vs bs => inBlk 0 k e (mkSt 0 23 [3] vs 0 bs))
  | _ => False
theorem z131_0 : LOk Try.prog g131_0 (.block 0 (bodyAt (Try.f131.body.getD .skip) 0)) := by
  refine lb (ι := Int × Int × Int) (fuel := 8) (na := 0) (nt := 23) (nx := 0) (Lh := [0, 3, 4]) (Le := [3]) (gl := []) tn mix_ok noLam rfl (fun f (d, g, a) K => GG default (e131_0 d) K (l131_0 d f g a)) (fun (d, g, a) => [V Z d, V Z g, V Z a]) (fun (d, g, a) => []) (fun (_, _, _) K => gg_none) ?_ ?_
  · rintro f ⟨d, g, a⟩ K hG
    refine ro (fun R => (cnd (decide (a < g))
 (cnd (bif (decide (a = 0)) then false else true)
 (R (XE.normal) [V Z d, V Z a, V Z (Z.wrap ((Z.wrap (a + (Z.wrap (d.tdiv a)))).tdiv 2))] [])
   False)
 (R (XE.exit 0) [V Z g] []))) (fun R => by kernel_rfl) ?_
    exact ch hG (fun h0 => cg h0 fun h1 => ⟨(_, _, _), rfl, rfl, h1⟩) (fun h0 => h0.2)
  · intro s k h
    unfold g131_0 at h
    split at h <;> try exact h.elim
    rename_i e1
    rw [needs_iff] at h
    exact ⟨_, e1, _, (_, _, _), rfl, rfl, h.1 _ (List.mem_singleton.2 rfl), h.2⟩
noncomputable def m131 (b : Int) : Int :=
  (cond (decide (b < (2 : Int))) b ((o131_0 b b (Z.wrap ((Z.wrap (b + 1)).tdiv 2))).getD default))
noncomputable def n131 (b : Int) : Bool :=
  (cond (decide (b < (2 : Int))) true (((o131_0 b b (Z.wrap ((Z.wrap (b + 1)).tdiv 2))).isSome) && true))
noncomputable def q131 (r : Int) : SV × List Blk × List Blk := (V Z r, [], [])
noncomputable def g131 : GF := fun vs bs => match vs, bs with
  | [V Z b], [] => some (rs 0 (q131 (m131 b)) [n131 b])
  | _, _ => none
noncomputable def c131 : Ctr := genC [.k] g131
theorem k131 : CtrOk Try.prog c131 131 := cx tn mix_ok 8 (fn := Try.f131) (c := (Try.f131.body.getD .skip)) (grs := []) (rh := .k) Try.func131 rfl (by kernel_rfl) (lam_of rfl (lc z131_0 ln)) fun vs bs q h hn => by
  unfold g131 at h
  split at h <;> cases h
  rename_i b
  have hn := n1 hn
  exact ⟨_, rfl, ca (fun R => (cnd (decide (b < (2 : Int)))
 (R (V Z b) [] [])
 (cnd ((o131_0 b b (Z.wrap ((Z.wrap (b + 1)).tdiv 2))).isSome)
 (R (V Z ((o131_0 b b (Z.wrap ((Z.wrap (b + 1)).tdiv 2))).getD default)) [] [])
   False))) (fun R => by kernel_rfl) (co (fun h0 => lf (cT h0 rfl) rfl) (fun h0 => cn (al (cf h0 hn)) (lf (cF h0 rfl) rfl)))⟩
/-! ### shotline/shotlineref08.IsMinute -/
noncomputable def m22 (a : Int) : Bool :=
  (m29 a 0 1000000)
noncomputable def q22 (r : Bool) : SV × List Blk × List Blk := (.bool r, [], [])
noncomputable def g22 : GF := fun vs bs => match vs, bs with
  | [V Z a], [] => some (rs 0 (q22 (m22 a)) [])
  | _, _ => none
noncomputable def c22 : Ctr := genC [.k] g22
theorem k22 : CtrOk Try.prog c22 22 := cx (tc k29 tn) mix_ok 8 (fn := Try.f22) (c := (Try.f22.body.getD .skip)) (grs := []) (rh := .k) Try.func22 rfl (by kernel_rfl) noLam fun vs bs q h hn => by
  unfold g22 at h
  split at h <;> cases h
  rename_i a
  exact ⟨_, rfl, ca (fun R => (R (.bool (m29 a 0 1000000)) [] [])) (fun R => by kernel_rfl) (lf rfl rfl)⟩
/-! ### shotline/site.isMinute -/
noncomputable def m80 (a : Int) : Bool :=
  (m96 a 0 1000000)
noncomputable def q80 (r : Bool) : SV × List Blk × List Blk := (.bool r, [], [])
noncomputable def g80 : GF := fun vs bs => match vs, bs with
  | [V Z a], [] => some (rs 0 (q80 (m80 a)) [])
  | _, _ => none
noncomputable def c80 : Ctr := genC [.k] g80
theorem k80 : CtrOk Try.prog c80 80 := cx (tc k96 tn) mix_ok 8 (fn := Try.f80) (c := (Try.f80.body.getD .skip)) (grs := []) (rh := .k) Try.func80 rfl (by kernel_rfl) noLam fun vs bs q h hn => by
  unfold g80 at h
  split at h <;> cases h
  rename_i a
  exact ⟨_, rfl, ca (fun R => (R (.bool (m96 a 0 1000000)) [] [])) (fun R => by kernel_rfl) (lf rfl rfl)⟩
/-! ### shotline/site.isWave -/
noncomputable def m102 (a b d : Int) : Bool :=
  (bif (bif (m96 a 0 100000) then (m96 b 1 100000) else false) then (m96 d 0 4095) else false)
noncomputable def q102 (r : Bool) : SV × List Blk × List Blk := (.bool r, [], [])
noncomputable def g102 : GF := fun vs bs => match vs, bs with
  | [.agg [V Z a, V Z b, V Z d]], [] => some (rs 0 (q102 (m102 a b d)) [])
  | _, _ => none
noncomputable def c102 : Ctr := genC [.k] g102
theorem k102 : CtrOk Try.prog c102 102 := cx (tc k96 tn) mix_ok 8 (fn := Try.f102) (c := (Try.f102.body.getD .skip)) (grs := []) (rh := .k) Try.func102 rfl (by kernel_rfl) noLam fun vs bs q h hn => by
  unfold g102 at h
  split at h <;> cases h
  rename_i a b d
  exact ⟨_, rfl, ca (fun R => (R (.bool (bif (bif (m96 a 0 100000) then (m96 b 1 100000) else false) then (m96 d 0 4095) else false)) [] [])) (fun R => by kernel_rfl) (lf rfl rfl)⟩
/-! ### shotline/site.up -/
noncomputable def m128 (a b : Int) : Int :=
  (Z.wrap (0 - (m127 (Z.wrap (0 - a)) b)))
noncomputable def n128 (a b : Int) : Bool :=
  ((n127 (Z.wrap (0 - a)) b) && true)
noncomputable def q128 (r : Int) : SV × List Blk × List Blk := (V Z r, [], [])
noncomputable def g128 : GF := fun vs bs => match vs, bs with
  | [V Z a, V Z b], [] => some (rs 0 (q128 (m128 a b)) [n128 a b])
  | _, _ => none
noncomputable def c128 : Ctr := genC [.k, .k] g128
theorem k128 : CtrOk Try.prog c128 128 := cx (tc k127 tn) mix_ok 8 (fn := Try.f128) (c := (Try.f128.body.getD .skip)) (grs := []) (rh := .k) Try.func128 rfl (by kernel_rfl) noLam fun vs bs q h hn => by
  unfold g128 at h
  split at h <;> cases h
  rename_i a b
  have hn := n1 hn
  exact ⟨_, rfl, ca (fun R => (cnd (n127 (Z.wrap (0 - a)) b)
 (R (V Z (Z.wrap (0 - (m127 (Z.wrap (0 - a)) b)))) [] [])
  False)) (fun R => by kernel_rfl) (cn (al hn) (lf rfl rfl))⟩
/-! ### shotline/site.rootUp -/
noncomputable def m132 (a : Int) : Int :=
  (cond (decide ((Z.wrap ((m131 a) * (m131 a))) < a)) (Z.wrap ((m131 a) + 1)) (m131 a))
noncomputable def n132 (a : Int) : Bool :=
  ((n131 a) && true)
noncomputable def q132 (r : Int) : SV × List Blk × List Blk := (V Z r, [], [])
noncomputable def g132 : GF := fun vs bs => match vs, bs with
  | [V Z a], [] => some (rs 0 (q132 (m132 a)) [n132 a])
  | _, _ => none
noncomputable def c132 : Ctr := genC [.k] g132
theorem k132 : CtrOk Try.prog c132 132 := cx (tc k131 tn) mix_ok 8 (fn := Try.f132) (c := (Try.f132.body.getD .skip)) (grs := []) (rh := .k) Try.func132 rfl (by kernel_rfl) noLam fun vs bs q h hn => by
  unfold g132 at h
  split at h <;> cases h
  rename_i a
  have hn := n1 hn
  exact ⟨_, rfl, ca (fun R => (cnd (n131 a)
 (cnd (decide ((Z.wrap ((m131 a) * (m131 a))) < a))
 (R (V Z (Z.wrap ((m131 a) + 1))) [] [])
 (R (V Z (m131 a)) [] []))
  False)) (fun R => by kernel_rfl) (cn (al hn) (co (fun h0 => lf (cT h0 rfl) rfl) (fun h0 => lf (cF h0 rfl) rfl)))⟩
/-! ### shotline/site.angle -/
noncomputable def m103 (e a b d : Int) : Int × Int :=
  ((m127 ((Z.wrap ((Z.wrap (b * a)) + (Z.wrap (4096 * d)))).tmod (Z.wrap (4096 * a))) a), (m128 ((Z.wrap ((Z.wrap (b * a)) + (Z.wrap (4096 * d)))).tmod (Z.wrap (4096 * a))) a))
noncomputable def n103 (e a b d : Int) : Bool :=
  ((bif (decide ((Z.wrap (4096 * a)) = 0)) then false else true) && ((n127 ((Z.wrap ((Z.wrap (b * a)) + (Z.wrap (4096 * d)))).tmod (Z.wrap (4096 * a))) a) && ((n128 ((Z.wrap ((Z.wrap (b * a)) + (Z.wrap (4096 * d)))).tmod (Z.wrap (4096 * a))) a) && true)))
noncomputable def q103 (r : Int × Int) : SV × List Blk × List Blk := (.agg [V Z r.1, V Z r.2], [], [])
noncomputable def g103 : GF := fun vs bs => match vs, bs with
  | [.agg [V Z e, V Z a, V Z b], V Z d], [] => some (rs 0 (q103 (m103 e a b d)) [n103 e a b d])
  | _, _ => none
noncomputable def c103 : Ctr := genC [.k, .k] g103
theorem k103 : CtrOk Try.prog c103 103 := cx (tc k127 (tc k128 tn)) mix_ok 8 (fn := Try.f103) (c := (Try.f103.body.getD .skip)) (grs := []) (rh := .k) Try.func103 rfl (by kernel_rfl) noLam fun vs bs q h hn => by
  unfold g103 at h
  split at h <;> cases h
  rename_i e a b d
  have hn := n1 hn
  exact ⟨_, rfl, ca (fun R => (cnd (bif (decide ((Z.wrap (4096 * a)) = 0)) then false else true)
 (cnd (n127 ((Z.wrap ((Z.wrap (b * a)) + (Z.wrap (4096 * d)))).tmod (Z.wrap (4096 * a))) a)
 (cnd (n128 ((Z.wrap ((Z.wrap (b * a)) + (Z.wrap (4096 * d)))).tmod (Z.wrap (4096 * a))) a)
 (R (.agg [V Z (m127 ((Z.wrap ((Z.wrap (b * a)) + (Z.wrap (4096 * d)))).tmod (Z.wrap (4096 * a))) a), V Z (m128 ((Z.wrap ((Z.wrap (b * a)) + (Z.wrap (4096 * d)))).tmod (Z.wrap (4096 * a))) a)]) [] [])
    False)
   False)
  False)) (fun R => by kernel_rfl) (cn (al hn) (cn (al (ar hn)) (cn (al (ar (ar hn))) (lf rfl rfl))))⟩
/-! ### shotline/shotlinelaw08.short -/
noncomputable def m40 (a : Nat) (b : Dat) : Bool :=
  (bif (decide ((↑a : Int) ≤ 12)) then true else (bif (decide ((60 : Int) < (↑a : Int))) then (decide ((↑a : Int) ≤ 62)) else false))
noncomputable def q40 (r : Bool) : SV × List Blk × List Blk := (.bool r, [], [])
noncomputable def g40 : GF := fun vs bs => match vs, bs with
  | [.ro [W Z, W Z] a b], [] => some (rs 0 (q40 (m40 a b)) [])
  | _, _ => none
noncomputable def c40 : Ctr := genC [.ro [W Z, W Z]] g40
theorem k40 : CtrOk Try.prog c40 40 := cx tn mix_ok 8 (fn := Try.f40) (c := (Try.f40.body.getD .skip)) (grs := []) (rh := .k) Try.func40 rfl (by kernel_rfl) noLam fun vs bs q h hn => by
  unfold g40 at h
  split at h <;> cases h
  rename_i a b
  exact ⟨_, rfl, ca (fun R => (R (.bool (bif (decide ((↑a : Int) ≤ 12)) then true else (bif (decide ((60 : Int) < (↑a : Int))) then (decide ((↑a : Int) ≤ 62)) else false))) [] [])) (fun R => by kernel_rfl) (lf rfl rfl)⟩
/-! ### (shotline/site.ray).turned -/
noncomputable def m144 (a b d e g i j l : Int) : Int × Int × Int × Int :=
  ((imax 0 (m127 (Z.wrap ((Z.wrap (a * g)) - (Z.wrap (e * l)))) 100000000)), (m128 (Z.wrap ((Z.wrap (b * i)) - (Z.wrap (d * j)))) 100000000), (m127 (Z.wrap ((Z.wrap (d * g)) + (Z.wrap (a * j)))) 100000000), (imin 100000000 (m128 (Z.wrap ((Z.wrap (e * i)) + (Z.wrap (b * l)))) 100000000)))
noncomputable def n144 (a b d e g i j l : Int) : Bool :=
  ((n127 (Z.wrap ((Z.wrap (a * g)) - (Z.wrap (e * l)))) 100000000) && ((n128 (Z.wrap ((Z.wrap (b * i)) - (Z.wrap (d * j)))) 100000000) && ((n127 (Z.wrap ((Z.wrap (d * g)) + (Z.wrap (a * j)))) 100000000) && ((n128 (Z.wrap ((Z.wrap (e * i)) + (Z.wrap (b * l)))) 100000000) && true))))
noncomputable def q144 (r : Int × Int × Int × Int) : SV × List Blk × List Blk := (.agg [V Z r.1, V Z r.2.1, V Z r.2.2.1, V Z r.2.2.2], [], [])
noncomputable def g144 : GF := fun vs bs => match vs, bs with
  | [.agg [V Z a, V Z b, V Z d, V Z e], .agg [V Z g, V Z i, V Z j, V Z l]], [] => some (rs 0 (q144 (m144 a b d e g i j l)) [n144 a b d e g i j l])
  | _, _ => none
noncomputable def c144 : Ctr := genC [.k, .k] g144
theorem k144 : CtrOk Try.prog c144 144 := cx (tc k127 (tc k128 tn)) mix_ok 8 (fn := Try.f144) (c := (Try.f144.body.getD .skip)) (grs := []) (rh := .k) Try.func144 rfl (by kernel_rfl) noLam fun vs bs q h hn => by
  unfold g144 at h
  split at h <;> cases h
  rename_i a b d e g i j l
  have hn := n1 hn
  exact ⟨_, rfl, ca (fun R => (cnd (n127 (Z.wrap ((Z.wrap (a * g)) - (Z.wrap (e * l)))) 100000000)
 (cnd (n128 (Z.wrap ((Z.wrap (b * i)) - (Z.wrap (d * j)))) 100000000)
 (cnd (n127 (Z.wrap ((Z.wrap (d * g)) + (Z.wrap (a * j)))) 100000000)
 (cnd (n128 (Z.wrap ((Z.wrap (e * i)) + (Z.wrap (b * l)))) 100000000)
 (R (.agg [V Z (imax 0 (m127 (Z.wrap ((Z.wrap (a * g)) - (Z.wrap (e * l)))) 100000000)), V Z (m128 (Z.wrap ((Z.wrap (b * i)) - (Z.wrap (d * j)))) 100000000), V Z (m127 (Z.wrap ((Z.wrap (d * g)) + (Z.wrap (a * j)))) 100000000), V Z (imin 100000000 (m128 (Z.wrap ((Z.wrap (e * i)) + (Z.wrap (b * l)))) 100000000))]) [] [])
     False)
    False)
   False)
  False)) (fun R => by kernel_rfl) (cn (al hn) (cn (al (ar hn)) (cn (al (ar (ar hn))) (cn (al (ar (ar (ar hn)))) (lf rfl rfl)))))⟩
/-! ### shotline/site.CheckTide$1 -/
noncomputable def m143 (a b d : Int) : Bool :=
  (bif (m102 a b d) then false else true)
noncomputable def q143 (r : Bool) : SV × List Blk × List Blk := (.bool r, [], [])
noncomputable def g143 : GF := fun vs bs => match vs, bs with
  | [.agg [V Z a, V Z b, V Z d]], [] => some (rs 0 (q143 (m143 a b d)) [])
  | _, _ => none
noncomputable def c143 : Ctr := genC [.k] g143
theorem k143 : CtrOk Try.prog c143 143 := cx (tc k102 tn) mix_ok 8 (fn := Try.f143) (c := (Try.f143.body.getD .skip)) (grs := []) (rh := .k) Try.func143 rfl (by kernel_rfl) noLam fun vs bs q h hn => by
  unfold g143 at h
  split at h <;> cases h
  rename_i a b d
  exact ⟨_, rfl, ca (fun R => (R (.bool (bif (m102 a b d) then false else true)) [] [])) (fun R => by kernel_rfl) (lf rfl rfl)⟩
/-! ### shotline/site.Join$1 -/
noncomputable def m109 (a d b e : Int) : Int :=
  (Z.wrap (a - b))
noncomputable def q109 (r : Int) : SV × List Blk × List Blk := (V Z r, [], [])
noncomputable def g109 : GF := fun vs bs => match vs, bs with
  | [.agg [V Z a, V Z d], .agg [V Z b, V Z e]], [] => some (rs 0 (q109 (m109 a d b e)) [])
  | _, _ => none
noncomputable def c109 : Ctr := genC [.k, .k] g109
theorem k109 : CtrOk Try.prog c109 109 := cx tn mix_ok 8 (fn := Try.f109) (c := (Try.f109.body.getD .skip)) (grs := []) (rh := .k) Try.func109 rfl (by kernel_rfl) noLam fun vs bs q h hn => by
  unfold g109 at h
  split at h <;> cases h
  rename_i a d b e
  exact ⟨_, rfl, ca (fun R => (R (V Z (Z.wrap (a - b))) [] [])) (fun R => by kernel_rfl) (lf rfl rfl)⟩
/-! ### slices.IndexFunc[[]shotline/api.TideWave,shotline/api.TideWave] -/
noncomputable def l158c143_0 (b : Nat) (a : Dat) (i : Int) : Nat → Int → Option (Bool × (Int) × (Unit))
  | 0, _ => none
  | f + 1, d => (cond (decide (d < i)) (cond (decide (0 ≤ d ∧ d < ↑b)) (cond (m143 (a.ii d.toNat 0) (a.ii d.toNat (0 + 1)) (a.ii d.toNat ((0 + 1) + 1))) (some (true, d, default)) (l158c143_0 b a i f (Z.wrap (d + 1)))) none) (some (false, default, ())))
noncomputable abbrev o158c143_0 (b : Nat) (a : Dat) (i d : Int) : Option (Bool × (Int) × (Unit)) := l158c143_0 b a i (b + i.toNat + d.toNat + 8) d
noncomputable def e158c143_0 (b : Nat) (a : Dat) (i : Int) (r : Bool × (Int) × (Unit)) (K : XR) : Prop := cnd r.1 (K (XE.ret) [V Z r.2.1] []) (K (XE.exit 0) [.any] [])
noncomputable def g158c143_0 : LSum := fun s k => match czv 0 19 [0, 1, 7, 8] 0 [] s with
  | some ([.ro [W Z, W Z, W Z] b a, .fn 143 [], V Z i, V Z d], []) => needs [(o158c143_0 b a i d).isSome] (e158c143_0 b a i ((o158c143_0 b a i d).getD default) fun e vs bs => inBlk 0 k e (mkSt 0 19 [4] vs 0 bs))
  | _ => False
theorem z158c143_0 : LOk Try.prog g158c143_0 (.block 0 (bodyAt (Try.f158.body.getD .skip) 0)) := by
  refine lb (ι := Nat × Dat × Int × Int) (fuel := 8) (na := 0) (nt := 19) (nx := 0) (Lh := [0, 1, 7, 8]) (Le := [4]) (gl := []) (tc k143 tn) mix_ok noLam rfl (fun f (b, a, i, d) K => GG default (e158c143_0 b a i) K (l158c143_0 b a i f d)) (fun (b, a, i, d) => [.ro [W Z, W Z, W Z] b a, .fn 143 [], V Z i, V Z d]) (fun (b, a, i, d) => []) (fun (_, _, _, _) K => gg_none) ?_ ?_
  · rintro f ⟨b, a, i, d⟩ K hG
    refine ro (fun R => (cnd (decide (d < i))
 (cnd (decide (0 ≤ d ∧ d < ↑b))
 (cnd (m143 (a.ii d.toNat 0) (a.ii d.toNat (0 + 1)) (a.ii d.toNat ((0 + 1) + 1)))
 (R (XE.ret) [V Z d] [])
 (R (XE.normal) [.ro [W Z, W Z, W Z] b a, .fn 143 [], V Z i, V Z (Z.wrap (d + 1))] []))
   False)
 (R (XE.exit 0) [.any] []))) (fun R => by kernel_rfl) ?_
    exact ch hG (fun h0 => cg h0 fun h1 => ch h1 (fun h2 => h2.2) (fun h2 => ⟨(_, _, _, _), rfl, rfl, h2⟩)) (fun h0 => h0.2)
  · intro s k h
    unfold g158c143_0 at h
    split at h <;> try exact h.elim
    rename_i e1
    rw [needs_iff] at h
    exact ⟨_, e1, _, (_, _, _, _), rfl, rfl, h.1 _ (List.mem_singleton.2 rfl), h.2⟩
noncomputable def m158c143 (g : Nat) (j : Dat) : Int :=
  (cond ((o158c143_0 g j (↑g : Int) 0).getD default).1 ((o158c143_0 g j (↑g : Int) 0).getD default).2.1 (-1))
noncomputable def n158c143 (g : Nat) (j : Dat) : Bool :=
  (((o158c143_0 g j (↑g : Int) 0).isSome) && true)
noncomputable def q158c143 (r : Int) : SV × List Blk × List Blk := (V Z r, [], [])
noncomputable def g158c143 : GF := fun vs bs => match vs, bs with
  | [.ro [W Z, W Z, W Z] g j, .fn 143 []], [] => some (rs 0 (q158c143 (m158c143 g j)) [n158c143 g j])
  | _, _ => none
noncomputable def c158c143 : Ctr := genC [.ro [W Z, W Z, W Z], .f []] g158c143
theorem k158c143 : CtrOk Try.prog c158c143 158 := cx (tc k143 tn) mix_ok 8 (fn := Try.f158) (c := (Try.f158.body.getD .skip)) (grs := []) (rh := .k) Try.func158 rfl (by kernel_rfl) (lam_of rfl (lc z158c143_0 ln)) fun vs bs q h hn => by
  unfold g158c143 at h
  split at h <;> cases h
  rename_i g j
  have hn := n1 hn
  exact ⟨_, rfl, ca (fun R => (cnd ((o158c143_0 g j (↑g : Int) 0).isSome)
 (cnd ((o158c143_0 g j (↑g : Int) 0).getD default).1
 (R (V Z ((o158c143_0 g j (↑g : Int) 0).getD default).2.1) [] [])
 (R (V Z (-1)) [] []))
  False)) (fun R => by kernel_rfl) (cn (al hn) (co (fun h0 => lf (cT h0 rfl) rfl) (fun h0 => lf (cF h0 rfl) rfl)))⟩
/-! ### (*shotline/site.circle).ray -/
noncomputable def l133_0 (b : Dat) (t l m n o : Int) : Nat → Int → Int → Int → Int → Int → Option (Int × Int × Int × Int)
  | 0, _, _, _, _, _ => none
  | f + 1, a, d, g, i, j => (cond (decide (a ≤ 10)) (cond (decide (0 ≤ a)) (cond (bif (decide ((Z.wrap (↑((BitVec.ofInt Z.bits t &&& BitVec.ofInt Z.bits (Int.fdiv 1024 (2 ^ (min a.toNat Z.bits)))).toNat) : Int)) = 0)) then false else true) (cond (decide (0 ≤ a ∧ a < ↑11)) (cond (decide (a < (↑11 : Int))) (cond (n144 d g i j (b.ii a.toNat 0) (b.ii a.toNat (0 + 1)) (b.ii a.toNat ((0 + 1) + 1)) (b.ii a.toNat (((0 + 1) + 1) + 1))) (l133_0 b t l m n o f (Z.wrap (a + 1)) (m144 d g i j (b.ii a.toNat 0) (b.ii a.toNat (0 + 1)) (b.ii a.toNat ((0 + 1) + 1)) (b.ii a.toNat (((0 + 1) + 1) + 1))).1 (m144 d g i j (b.ii a.toNat 0) (b.ii a.toNat (0 + 1)) (b.ii a.toNat ((0 + 1) + 1)) (b.ii a.toNat (((0 + 1) + 1) + 1))).2.1 (m144 d g i j (b.ii a.toNat 0) (b.ii a.toNat (0 + 1)) (b.ii a.toNat ((0 + 1) + 1)) (b.ii a.toNat (((0 + 1) + 1) + 1))).2.2.1 (m144 d g i j (b.ii a.toNat 0) (b.ii a.toNat (0 + 1)) (b.ii a.toNat ((0 + 1) + 1)) (b.ii a.toNat (((0 + 1) + 1) + 1))).2.2.2) none) none) none) (l133_0 b t l m n o f (Z.wrap (a + 1)) d g i j)) none) (some (d, g, i, j)))
noncomputable abbrev o133_0 (b : Dat) (t l m n o a d g i j : Int) : Option (Int × Int × Int × Int) := l133_0 b t l m n o (30 + t.toNat) a d g i j
noncomputable def e133_0 (b : Dat) (t l m n o : Int) (r : Int × Int × Int × Int) (K : XR) : Prop := K (XE.exit 0) [.ptr 0 0, .ptr 1 0] [.cells 171 [V Z l, V Z m, V Z n, V Z o], .cells 171 [V Z r.1, V Z r.2.1, V Z r.2.2.1, V Z r.2.2.2]]
noncomputable def g133_0 : LSum := fun s k => match czv 0 26 [0, 1, 4, 5, 6] 2 [] s with
  | some ([.ra [W Z, W Z, W Z, W Z] 11 b, V Z t, .ptr 0 0, .ptr 1 0, V Z a], [.cells 171 [V Z l, V Z m, V Z n, V Z o], .cells 171 [V Z d, V Z g, V Z i, V Z j]]) => needs [(o133_0 b t l m n o a d g i j).isSome] (e133_0 b t l m n o ((o133_0 b t l m n o a d g i j).getD default) fun e vs bs => inBlk 0 k e (mkSt 0 26 [4, 5] vs 2 bs))
  | _ => False
theorem z133_0 : LOk Try.prog g133_0 (.block 0 (bodyAt (Try.f133.body.getD .skip) 0)) := by
  refine lb (ι := Dat × Int × Int × Int × Int × Int × Int × Int × Int × Int × Int) (fuel := 8) (na := 0) (nt := 26) (nx := 2) (Lh := [0, 1, 4, 5, 6]) (Le := [4, 5]) (gl := []) (tc k144 tn) mix_ok noLam rfl (fun f (b, t, a, l, m, n, o, d, g, i, j) K => GG default (e133_0 b t l m n o) K (l133_0 b t l m n o f a d g i j)) (fun (b, t, a, l, m, n, o, d, g, i, j) => [.ra [W Z, W Z, W Z, W Z] 11 b, V Z t, .ptr 0 0, .ptr 1 0, V Z a]) (fun (b, t, a, l, m, n, o, d, g, i, j) => [.cells 171 [V Z l, V Z m, V Z n, V Z o], .cells 171 [V Z d, V Z g, V Z i, V Z j]]) (fun (_, _, _, _, _, _, _, _, _, _, _) K => gg_none) ?_ ?_
  · rintro f ⟨b, t, a, l, m, n, o, d, g, i, j⟩ K hG
    refine ro (fun R => (cnd (decide (a ≤ 10))
 (cnd (decide (0 ≤ a))
 (cnd (bif (decide ((Z.wrap (↑((BitVec.ofInt Z.bits t &&& BitVec.ofInt Z.bits (Int.fdiv 1024 (2 ^ (min a.toNat Z.bits)))).toNat) : Int)) = 0)) then false else true)
 (cnd (decide (0 ≤ a ∧ a < ↑11))
 (cnd (decide (a < (↑11 : Int)))
 (cnd (n144 d g i j (b.ii a.toNat 0) (b.ii a.toNat (0 + 1)) (b.ii a.toNat ((0 + 1) + 1)) (b.ii a.toNat (((0 + 1) + 1) + 1)))
 (R (XE.normal) [.ra [W Z, W Z, W Z, W Z] 11 b, V Z t, .ptr 0 0, .ptr 1 0, V Z (Z.wrap (a + 1))] [.cells 171 [V Z l, V Z m, V Z n, V Z o], .cells 171 [V Z (m144 d g i j (b.ii a.toNat 0) (b.ii a.toNat (0 + 1)) (b.ii a.toNat ((0 + 1) + 1)) (b.ii a.toNat (((0 + 1) + 1) + 1))).1, V Z (m144 d g i j (b.ii a.toNat 0) (b.ii a.toNat (0 + 1)) (b.ii a.toNat ((0 + 1) + 1)) (b.ii a.toNat (((0 + 1) + 1) + 1))).2.1, V Z (m144 d g i j (b.ii a.toNat 0) (b.ii a.toNat (0 + 1)) (b.ii a.toNat ((0 + 1) + 1)) (b.ii a.toNat (((0 + 1) + 1) + 1))).2.2.1, V Z (m144 d g i j (b.ii a.toNat 0) (b.ii a.toNat (0 + 1)) (b.ii a.toNat ((0 + 1) + 1)) (b.ii a.toNat (((0 + 1) + 1) + 1))).2.2.2]])
       False)
      False)
     False)
 (R (XE.normal) [.ra [W Z, W Z, W Z, W Z] 11 b, V Z t, .ptr 0 0, .ptr 1 0, V Z (Z.wrap (a + 1))] [.cells 171 [V Z l, V Z m, V Z n, V Z o], .cells 171 [V Z d, V Z g, V Z i, V Z j]]))
   False)
 (R (XE.exit 0) [.ptr 0 0, .ptr 1 0] [.cells 171 [V Z l, V Z m, V Z n, V Z o], .cells 171 [V Z d, V Z g, V Z i, V Z j]]))) (fun R => by kernel_rfl) ?_
    exact ch hG (fun h0 => cg h0 fun h1 => ch h1 (fun h2 => cg h2 fun h3 => cg h3 fun h4 => cg h4 fun h5 => ⟨(_, _, _, _, _, _, _, _, _, _, _), rfl, rfl, h5⟩) (fun h2 => ⟨(_, _, _, _, _, _, _, _, _, _, _), rfl, rfl, h2⟩)) (fun h0 => h0.2)
  · intro s k h
    unfold g133_0 at h
    split at h <;> try exact h.elim
    rename_i e1
    rw [needs_iff] at h
    exact ⟨_, e1, _, (_, _, _, _, _, _, _, _, _, _, _), rfl, rfl, h.1 _ (List.mem_singleton.2 rfl), h.2⟩
noncomputable def m133 (p : Dat) (u : Int) : Int × Int × Int × Int :=
  (((o133_0 p u 0 0 0 0 1 100000000 100000000 0 0).getD default).1, ((o133_0 p u 0 0 0 0 1 100000000 100000000 0 0).getD default).2.1, ((o133_0 p u 0 0 0 0 1 100000000 100000000 0 0).getD default).2.2.1, ((o133_0 p u 0 0 0 0 1 100000000 100000000 0 0).getD default).2.2.2)
noncomputable def n133 (p : Dat) (u : Int) : Bool :=
  (((o133_0 p u 0 0 0 0 1 100000000 100000000 0 0).isSome) && true)
noncomputable def q133 (r : Int × Int × Int × Int) : SV × List Blk × List Blk := (.agg [V Z r.1, V Z r.2.1, V Z r.2.2.1, V Z r.2.2.2], [], [])
noncomputable def g133 : GF := fun vs bs => match vs, bs with
  | [.ra [W Z, W Z, W Z, W Z] 11 p, V Z u], [] => some (rs 0 (q133 (m133 p u)) [n133 p u])
  | _, _ => none
noncomputable def c133 : Ctr := genC [.ra [W Z, W Z, W Z, W Z] 11, .k] g133
theorem k133 : CtrOk Try.prog c133 133 := cx (tc k144 tn) mix_ok 8 (fn := Try.f133) (c := (Try.f133.body.getD .skip)) (grs := []) (rh := .k) Try.func133 rfl (by kernel_rfl) (lam_of rfl (lc z133_0 ln)) fun vs bs q h hn => by
  unfold g133 at h
  split at h <;> cases h
  rename_i p u
  have hn := n1 hn
  exact ⟨_, rfl, ca (fun R => (cnd ((o133_0 p u 0 0 0 0 1 100000000 100000000 0 0).isSome)
 (R (.agg [V Z ((o133_0 p u 0 0 0 0 1 100000000 100000000 0 0).getD default).1, V Z ((o133_0 p u 0 0 0 0 1 100000000 100000000 0 0).getD default).2.1, V Z ((o133_0 p u 0 0 0 0 1 100000000 100000000 0 0).getD default).2.2.1, V Z ((o133_0 p u 0 0 0 0 1 100000000 100000000 0 0).getD default).2.2.2]) [] [])
  False)) (fun R => by kernel_rfl) (cn (al hn) (lf rfl rfl))⟩
/-! ### slices.ContainsFunc[[]shotline/api.TideWave,shotline/api.TideWave] -/
noncomputable def m142c143 (a : Nat) (b : Dat) : Bool :=
  (decide (0 ≤ (m158c143 a b)))
noncomputable def n142c143 (a : Nat) (b : Dat) : Bool :=
  ((n158c143 a b) && true)
noncomputable def q142c143 (r : Bool) : SV × List Blk × List Blk := (.bool r, [], [])
noncomputable def g142c143 : GF := fun vs bs => match vs, bs with
  | [.ro [W Z, W Z, W Z] a b, .fn 143 []], [] => some (rs 0 (q142c143 (m142c143 a b)) [n142c143 a b])
  | _, _ => none
noncomputable def c142c143 : Ctr := genC [.ro [W Z, W Z, W Z], .f []] g142c143
theorem k142c143 : CtrOk Try.prog c142c143 142 := cx (tc k143 (tc k158c143 tn)) mix_ok 8 (fn := Try.f142) (c := (Try.f142.body.getD .skip)) (grs := []) (rh := .k) Try.func142 rfl (by kernel_rfl) noLam fun vs bs q h hn => by
  unfold g142c143 at h
  split at h <;> cases h
  rename_i a b
  have hn := n1 hn
  exact ⟨_, rfl, ca (fun R => (cnd (n158c143 a b)
 (R (.bool (decide (0 ≤ (m158c143 a b)))) [] [])
  False)) (fun R => by kernel_rfl) (cn (al hn) (lf rfl rfl))⟩
/-! ### shotline/site.CheckTide -/
noncomputable def m126 (e : Int) (b : Nat) (d : Dat) : Int :=
  (cond (bif (m96 e (-100000) 100000) then false else true) 2 (cond (decide ((10 : Int) < (↑b : Int))) 8 (cond (m142c143 b d) 2 0)))
noncomputable def n126 (e : Int) (b : Nat) (d : Dat) : Bool :=
  (cond (bif (m96 e (-100000) 100000) then false else true) true (cond (decide ((10 : Int) < (↑b : Int))) true ((n142c143 b d) && true)))
noncomputable def q126 (r : Int) : SV × List Blk × List Blk := (V Z r, [], [])
noncomputable def g126 : GF := fun vs bs => match vs, bs with
  | [.agg [V Z e, .ro [W Z, W Z, W Z] b d]], [] => some (rs 0 (q126 (m126 e b d)) [n126 e b d])
  | _, _ => none
noncomputable def c126 : Ctr := genC [.a [.k, .ro [W Z, W Z, W Z]]] g126
theorem k126 : CtrOk Try.prog c126 126 := cx (tc k96 (tc k142c143 (tc k143 tn))) mix_ok 8 (fn := Try.f126) (c := (Try.f126.body.getD .skip)) (grs := []) (rh := .k) Try.func126 rfl (by kernel_rfl) noLam fun vs bs q h hn => by
  unfold g126 at h
  split at h <;> cases h
  rename_i e b d
  have hn := n1 hn
  exact ⟨_, rfl, ca (fun R => (cnd (bif (m96 e (-100000) 100000) then false else true)
 (R (V Z 2) [] [])
 (cnd (decide ((10 : Int) < (↑b : Int)))
 (R (V Z 8) [] [])
 (cnd (n142c143 b d)
 (cnd (m142c143 b d)
 (R (V Z 2) [] [])
 (R (V Z 0) [] []))
    False)))) (fun R => by kernel_rfl) (co (fun h0 => lf (cT h0 rfl) rfl) (fun h0 => co (fun h1 => lf (cF h0 (cT h1 rfl)) rfl) (fun h1 => cn (al (cf h1 (cf h0 hn))) (co (fun h2 => lf (cF h0 (cF h1 (cT h2 rfl))) rfl) (fun h2 => lf (cF h0 (cF h1 (cF h2 rfl))) rfl)))))⟩
/-! ### (*shotline/site.circle).cos -/
noncomputable def m99 (a : Dat) (b : Int) : Int × Int :=
  (cond (decide (((Z.wrap (b.tdiv 1024)).tmod 4) = 0)) ((m133 a (b.tmod 1024)).1, (m133 a (b.tmod 1024)).2.1) (cond (decide (((Z.wrap (b.tdiv 1024)).tmod 4) = 1)) ((m134 (m133 a (b.tmod 1024)).2.2.1 (m133 a (b.tmod 1024)).2.2.2).1, (m134 (m133 a (b.tmod 1024)).2.2.1 (m133 a (b.tmod 1024)).2.2.2).2) (cond (decide (((Z.wrap (b.tdiv 1024)).tmod 4) = 2)) ((m134 (m133 a (b.tmod 1024)).1 (m133 a (b.tmod 1024)).2.1).1, (m134 (m133 a (b.tmod 1024)).1 (m133 a (b.tmod 1024)).2.1).2) ((m133 a (b.tmod 1024)).2.2.1, (m133 a (b.tmod 1024)).2.2.2))))
noncomputable def n99 (a : Dat) (b : Int) : Bool :=
  ((n133 a (b.tmod 1024)) && true)
noncomputable def q99 (r : Int × Int) : SV × List Blk × List Blk := (.agg [V Z r.1, V Z r.2], [], [])
noncomputable def g99 : GF := fun vs bs => match vs, bs with
  | [.ra [W Z, W Z, W Z, W Z] 11 a, V Z b], [] => some (rs 0 (q99 (m99 a b)) [n99 a b])
  | _, _ => none
noncomputable def c99 : Ctr := genC [.ra [W Z, W Z, W Z, W Z] 11, .k] g99
theorem k99 : CtrOk Try.prog c99 99 := cx (tc k133 (tc k134 tn)) mix_ok 8 (fn := Try.f99) (c := (Try.f99.body.getD .skip)) (grs := []) (rh := .k) Try.func99 rfl (by kernel_rfl) noLam fun vs bs q h hn => by
  unfold g99 at h
  split at h <;> cases h
  rename_i a b
  have hn := n1 hn
  exact ⟨_, rfl, ca (fun R => (cnd (n133 a (b.tmod 1024))
 (cnd (decide (((Z.wrap (b.tdiv 1024)).tmod 4) = 0))
 (R (.agg [V Z (m133 a (b.tmod 1024)).1, V Z (m133 a (b.tmod 1024)).2.1]) [] [])
 (cnd (decide (((Z.wrap (b.tdiv 1024)).tmod 4) = 1))
 (R (.agg [V Z (m134 (m133 a (b.tmod 1024)).2.2.1 (m133 a (b.tmod 1024)).2.2.2).1, V Z (m134 (m133 a (b.tmod 1024)).2.2.1 (m133 a (b.tmod 1024)).2.2.2).2]) [] [])
 (cnd (decide (((Z.wrap (b.tdiv 1024)).tmod 4) = 2))
 (R (.agg [V Z (m134 (m133 a (b.tmod 1024)).1 (m133 a (b.tmod 1024)).2.1).1, V Z (m134 (m133 a (b.tmod 1024)).1 (m133 a (b.tmod 1024)).2.1).2]) [] [])
 (R (.agg [V Z (m133 a (b.tmod 1024)).2.2.1, V Z (m133 a (b.tmod 1024)).2.2.2]) [] []))))
  False)) (fun R => by kernel_rfl) (cn (al hn) (co (fun h0 => lf (cT h0 rfl) rfl) (fun h0 => co (fun h1 => lf (cF h0 (cT h1 rfl)) rfl) (fun h1 => co (fun h2 => lf (cF h0 (cF h1 (cT h2 rfl))) rfl) (fun h2 => lf (cF h0 (cF h1 (cF h2 rfl))) rfl)))))⟩
/-! ### (*shotline/site.tide).level -/
noncomputable def l81_0 (p : Int) (t16_0 : Nat) (t16_1 : Dat) (t l : Int) (o g : Dat) (m n : Int) : Nat → Int → Int → Int → Option (Int × Int)
  | 0, _, _, _ => none
  | f + 1, u, v, a => (cond (decide (a < t)) (cond (decide (0 ≤ a ∧ a < ↑t16_0)) (cond (n103 (t16_1.ii a.toNat 0) (t16_1.ii a.toNat 1) (t16_1.ii a.toNat 2) p) (cond (n99 g (m103 (t16_1.ii a.toNat 0) (t16_1.ii a.toNat 1) (t16_1.ii a.toNat 2) p).1) (cond (n99 g (m103 (t16_1.ii a.toNat 0) (t16_1.ii a.toNat 1) (t16_1.ii a.toNat 2) p).2) (l81_0 p t16_0 t16_1 t l o g m n f (Z.wrap (u + (Z.wrap ((t16_1.ii a.toNat 0) * (imin (m99 g (m103 (t16_1.ii a.toNat 0) (t16_1.ii a.toNat 1) (t16_1.ii a.toNat 2) p).1).1 (m99 g (m103 (t16_1.ii a.toNat 0) (t16_1.ii a.toNat 1) (t16_1.ii a.toNat 2) p).2).1))))) (Z.wrap (v + (Z.wrap ((t16_1.ii a.toNat 0) * (imax (m99 g (m103 (t16_1.ii a.toNat 0) (t16_1.ii a.toNat 1) (t16_1.ii a.toNat 2) p).1).2 (m99 g (m103 (t16_1.ii a.toNat 0) (t16_1.ii a.toNat 1) (t16_1.ii a.toNat 2) p).2).2))))) (Z.wrap (a + 1))) none) none) none) none) (some (u, v)))
noncomputable abbrev o81_0 (p : Int) (t16_0 : Nat) (t16_1 : Dat) (t l : Int) (o g : Dat) (m n u v a : Int) : Option (Int × Int) := l81_0 p t16_0 t16_1 t l o g m n (p.toNat + u.toNat + v.toNat + t16_0 + t.toNat + a.toNat + l.toNat + m.toNat + n.toNat + 8) u v a
noncomputable def e81_0 (p : Int) (t16_0 : Nat) (t16_1 : Dat) (t l : Int) (o g : Dat) (m n : Int) (r : Int × Int) (K : XR) : Prop := K (XE.exit 0) [.ptr 0 0, .ptr 1 0, V Z r.1, V Z r.2] [.cells 166 [V Z l, .ro [W Z, W Z, W Z] t16_0 o, .ra [W Z, W Z, W Z, W Z] 11 g], .cells 28 [V Z m, V Z n]]
noncomputable def g81_0 : LSum := fun s k => match czv 1 77 [0, 1, 4, 5, 6, 16, 17, 18] 2 [] s with
  | some ([.ptr 0 0, V Z p, .ptr 1 0, V Z u, V Z v, .ro [W Z, W Z, W Z] t16_0 t16_1, V Z t, V Z a], [.cells 166 [V Z l, .ro [W Z, W Z, W Z] b0_1 o, .ra [W Z, W Z, W Z, W Z] 11 g], .cells 28 [V Z m, V Z n]]) => needs [decide (t16_0 = b0_1), (o81_0 p t16_0 t16_1 t l o g m n u v a).isSome] (e81_0 p t16_0 t16_1 t l o g m n ((o81_0 p t16_0 t16_1 t l o g m n u v a).getD default) fun e vs bs => inBlk 0 k e (mkSt 1 77 [0, 4, 5, 6] vs 2 bs))
  | _ => False
theorem z81_0 : LOk Try.prog g81_0 (.block 0 (bodyAt (Try.f81.body.getD .skip) 0)) := by
  refine lb (ι := Int × Int × Int × Nat × Dat × Int × Int × Int × Dat × Dat × Int × Int) (fuel := 8) (na := 1) (nt := 77) (nx := 2) (Lh := [0, 1, 4, 5, 6, 16, 17, 18]) (Le := [0, 4, 5, 6]) (gl := []) (tc k99 (tc k103 (tc k127 (tc k128 tn)))) mix_ok noLam rfl (fun f (p, u, v, t16_0, t16_1, t, a, l, o, g, m, n) K => GG default (e81_0 p t16_0 t16_1 t l o g m n) K (l81_0 p t16_0 t16_1 t l o g m n f u v a)) (fun (p, u, v, t16_0, t16_1, t, a, l, o, g, m, n) => [.ptr 0 0, V Z p, .ptr 1 0, V Z u, V Z v, .ro [W Z, W Z, W Z] t16_0 t16_1, V Z t, V Z a]) (fun (p, u, v, t16_0, t16_1, t, a, l, o, g, m, n) => [.cells 166 [V Z l, .ro [W Z, W Z, W Z] t16_0 o, .ra [W Z, W Z, W Z, W Z] 11 g], .cells 28 [V Z m, V Z n]]) (fun (_, _, _, _, _, _, _, _, _, _, _, _) K => gg_none) ?_ ?_
  · rintro f ⟨p, u, v, t16_0, t16_1, t, a, l, o, g, m, n⟩ K hG
    refine ro (fun R => (cnd (decide (a < t))
 (cnd (decide (0 ≤ a ∧ a < ↑t16_0))
 (cnd (n103 (t16_1.ii a.toNat 0) (t16_1.ii a.toNat 1) (t16_1.ii a.toNat 2) p)
 (cnd (n99 g (m103 (t16_1.ii a.toNat 0) (t16_1.ii a.toNat 1) (t16_1.ii a.toNat 2) p).1)
 (cnd (n99 g (m103 (t16_1.ii a.toNat 0) (t16_1.ii a.toNat 1) (t16_1.ii a.toNat 2) p).2)
 (R (XE.normal) [.ptr 0 0, V Z p, .ptr 1 0, V Z (Z.wrap (u + (Z.wrap ((t16_1.ii a.toNat 0) * (imin (m99 g (m103 (t16_1.ii a.toNat 0) (t16_1.ii a.toNat 1) (t16_1.ii a.toNat 2) p).1).1 (m99 g (m103 (t16_1.ii a.toNat 0) (t16_1.ii a.toNat 1) (t16_1.ii a.toNat 2) p).2).1))))), V Z (Z.wrap (v + (Z.wrap ((t16_1.ii a.toNat 0) * (imax (m99 g (m103 (t16_1.ii a.toNat 0) (t16_1.ii a.toNat 1) (t16_1.ii a.toNat 2) p).1).2 (m99 g (m103 (t16_1.ii a.toNat 0) (t16_1.ii a.toNat 1) (t16_1.ii a.toNat 2) p).2).2))))), .ro [W Z, W Z, W Z] t16_0 t16_1, V Z t, V Z (Z.wrap (a + 1))] [.cells 166 [V Z l, .ro [W Z, W Z, W Z] t16_0 o, .ra [W Z, W Z, W Z, W Z] 11 g], .cells 28 [V Z m, V Z n]])
      False)
     False)
    False)
   False)
 (R (XE.exit 0) [.ptr 0 0, .ptr 1 0, V Z u, V Z v] [.cells 166 [V Z l, .ro [W Z, W Z, W Z] t16_0 o, .ra [W Z, W Z, W Z, W Z] 11 g], .cells 28 [V Z m, V Z n]]))) (fun R => by kernel_rfl) ?_
    exact ch hG (fun h0 => cg h0 fun h1 => cg h1 fun h2 => cg h2 fun h3 => cg h3 fun h4 => ⟨(_, _, _, _, _, _, _, _, _, _, _, _), rfl, rfl, h4⟩) (fun h0 => h0.2)
  · intro s k h
    unfold g81_0 at h
    split at h <;> try exact h.elim
    rename_i e1
    rw [needs_iff] at h
    have hq := h.1
    simp only [List.mem_cons, forall_eq_or_imp, decide_eq_true_eq, List.not_mem_nil, false_imp_iff, implies_true, and_true] at hq
    obtain ⟨rfl, hq⟩ := hq
    exact ⟨_, e1, _, (_, _, _, _, _, _, _, _, _, _, _, _), rfl, rfl, hq, h.2⟩
noncomputable def m81 (j : Int) (b : Nat) (d i : Dat) (w : Int) : Int × Int × Int × Nat × Dat × Dat :=
  ((Z.wrap (j + (m127 ((o81_0 w b d (↑b : Int) j d i 0 0 0 0 0).getD default).1 100000000))), (Z.wrap (j + (m128 ((o81_0 w b d (↑b : Int) j d i 0 0 0 0 0).getD default).2 100000000))), j, b, d, i)
noncomputable def n81 (j : Int) (b : Nat) (d i : Dat) (w : Int) : Bool :=
  (((o81_0 w b d (↑b : Int) j d i 0 0 0 0 0).isSome) && ((n127 ((o81_0 w b d (↑b : Int) j d i 0 0 0 0 0).getD default).1 100000000) && ((n128 ((o81_0 w b d (↑b : Int) j d i 0 0 0 0 0).getD default).2 100000000) && true)))
noncomputable def q81 (r : Int × Int × Int × Nat × Dat × Dat) : SV × List Blk × List Blk := (.agg [V Z r.1, V Z r.2.1], [.cells 166 [V Z r.2.2.1, .ro [W Z, W Z, W Z] r.2.2.2.1 r.2.2.2.2.1, .ra [W Z, W Z, W Z, W Z] 11 r.2.2.2.2.2]], [])
noncomputable def g81 : GF := fun vs bs => match vs, bs with
  | [.ptr 0 0, V Z w], [.cells 166 [V Z j, .ro [W Z, W Z, W Z] b d, .ra [W Z, W Z, W Z, W Z] 11 i]] => some (rs 1 (q81 (m81 j b d i w)) [n81 j b d i w])
  | _, _ => none
noncomputable def c81 : Ctr := genC [.c [.k, .ro [W Z, W Z, W Z], .ra [W Z, W Z, W Z, W Z] 11], .k] g81
theorem k81 : CtrOk Try.prog c81 81 := cx (tc k99 (tc k103 (tc k127 (tc k128 tn)))) mix_ok 8 (fn := Try.f81) (c := (Try.f81.body.getD .skip)) (grs := []) (rh := .k) Try.func81 rfl (by kernel_rfl) (lam_of rfl (lc z81_0 ln)) fun vs bs q h hn => by
  unfold g81 at h
  split at h <;> cases h
  rename_i w j b d i
  have hn := n1 hn
  exact ⟨_, rfl, ca (fun R => (cnd (decide (b = b))
 (cnd ((o81_0 w b d (↑b : Int) j d i 0 0 0 0 0).isSome)
 (cnd (n127 ((o81_0 w b d (↑b : Int) j d i 0 0 0 0 0).getD default).1 100000000)
 (cnd (n128 ((o81_0 w b d (↑b : Int) j d i 0 0 0 0 0).getD default).2 100000000)
 (R (.agg [V Z (Z.wrap (j + (m127 ((o81_0 w b d (↑b : Int) j d i 0 0 0 0 0).getD default).1 100000000))), V Z (Z.wrap (j + (m128 ((o81_0 w b d (↑b : Int) j d i 0 0 0 0 0).getD default).2 100000000)))]) [.cells 166 [V Z j, .ro [W Z, W Z, W Z] b d, .ra [W Z, W Z, W Z, W Z] 11 i]] [])
     False)
    False)
   False)
  False)) (fun R => by kernel_rfl) (cn (decide_eq_true rfl) (cn (al hn) (cn (al (ar hn)) (cn (al (ar (ar hn))) (lf rfl rfl)))))⟩
/-! ### shotline/site.CheckWindows -/
noncomputable def l45_0 (d : Nat) (g b : Dat) (l : Int) : Nat → Int → Option (Bool × (Int) × (Unit))
  | 0, _ => none
  | f + 1, a => (cond (decide (a < l)) (cond (decide (0 ≤ a ∧ a < ↑d)) (cond (bif (bif (m80 (b.ii a.toNat 0)) then false else true) then true else (bif (m80 (b.ii a.toNat 1)) then false else true)) (some (true, 2, default)) (cond (decide ((b.ii a.toNat 1) < (b.ii a.toNat 0))) (some (true, 9, default)) (cond (bif (bif (decide ((0 : Int) < a)) then false else true) then true else (decide (0 ≤ Z.wrap (a - 1) ∧ Z.wrap (a - 1) < (↑d : Int)))) (cond (bif (decide ((0 : Int) < a)) then (decide ((b.ii a.toNat 0) ≤ (Z.wrap ((g.ii ((Z.wrap (a - 1)).toNat) 1) + 1)))) else false) (some (true, 13, default)) (l45_0 d g b l f (Z.wrap (a + 1)))) none))) none) (some (false, default, ())))
noncomputable abbrev o45_0 (d : Nat) (g b : Dat) (l a : Int) : Option (Bool × (Int) × (Unit)) := l45_0 d g b l (d + l.toNat + a.toNat + 8) a
noncomputable def e45_0 (d : Nat) (g b : Dat) (l : Int) (r : Bool × (Int) × (Unit)) (K : XR) : Prop := cnd r.1 (K (XE.ret) [V Z r.2.1] []) (K (XE.exit 0) [.any] [])
noncomputable def g45_0 : LSum := fun s k => match czv 0 48 [0, 8, 9, 10] 0 [] s with
  | some ([.ro [W Z, W Z] d g, .ro [W Z, W Z] t8_0 b, V Z l, V Z a], []) => needs [decide (d = t8_0), (o45_0 d g b l a).isSome] (e45_0 d g b l ((o45_0 d g b l a).getD default) fun e vs bs => inBlk 0 k e (mkSt 0 48 [2] vs 0 bs))
  | _ => False
theorem z45_0 : LOk Try.prog g45_0 (.block 0 (bodyAt (Try.f45.body.getD .skip) 0)) := by
  refine lb (ι := Nat × Dat × Dat × Int × Int) (fuel := 8) (na := 0) (nt := 48) (nx := 0) (Lh := [0, 8, 9, 10]) (Le := [2]) (gl := []) (tc k80 tn) mix_ok noLam rfl (fun f (d, g, b, l, a) K => GG default (e45_0 d g b l) K (l45_0 d g b l f a)) (fun (d, g, b, l, a) => [.ro [W Z, W Z] d g, .ro [W Z, W Z] d b, V Z l, V Z a]) (fun (d, g, b, l, a) => []) (fun (_, _, _, _, _) K => gg_none) ?_ ?_
  · rintro f ⟨d, g, b, l, a⟩ K hG
    refine ro (fun R => (cnd (decide (a < l))
 (cnd (decide (0 ≤ a ∧ a < ↑d))
 (cnd (bif (bif (m80 (b.ii a.toNat 0)) then false else true) then true else (bif (m80 (b.ii a.toNat 1)) then false else true))
 (R (XE.ret) [V Z 2] [])
 (cnd (decide ((b.ii a.toNat 1) < (b.ii a.toNat 0)))
 (R (XE.ret) [V Z 9] [])
 (cnd (bif (bif (decide ((0 : Int) < a)) then false else true) then true else (decide (0 ≤ Z.wrap (a - 1) ∧ Z.wrap (a - 1) < (↑d : Int))))
 (cnd (bif (decide ((0 : Int) < a)) then (decide ((b.ii a.toNat 0) ≤ (Z.wrap ((g.ii ((Z.wrap (a - 1)).toNat) 1) + 1)))) else false)
 (R (XE.ret) [V Z 13] [])
 (R (XE.normal) [.ro [W Z, W Z] d g, .ro [W Z, W Z] d b, V Z l, V Z (Z.wrap (a + 1))] []))
      False)))
   False)
 (R (XE.exit 0) [.any] []))) (fun R => by kernel_rfl) ?_
    exact ch hG (fun h0 => cg h0 fun h1 => ch h1 (fun h2 => h2.2) (fun h2 => ch h2 (fun h3 => h3.2) (fun h3 => cg h3 fun h4 => ch h4 (fun h5 => h5.2) (fun h5 => ⟨(_, _, _, _, _), rfl, rfl, h5⟩)))) (fun h0 => h0.2)
  · intro s k h
    unfold g45_0 at h
    split at h <;> try exact h.elim
    rename_i e1
    rw [needs_iff] at h
    have hq := h.1
    simp only [List.mem_cons, forall_eq_or_imp, decide_eq_true_eq, List.not_mem_nil, false_imp_iff, implies_true, and_true] at hq
    obtain ⟨rfl, hq⟩ := hq
    exact ⟨_, e1, _, (_, _, _, _, _), rfl, rfl, hq, h.2⟩
noncomputable def m45 (i : Nat) (j : Dat) : Int :=
  (cond (decide ((60 : Int) < (↑i : Int))) 8 (cond ((o45_0 i j j (↑i : Int) 0).getD default).1 ((o45_0 i j j (↑i : Int) 0).getD default).2.1 0))
noncomputable def n45 (i : Nat) (j : Dat) : Bool :=
  (cond (decide ((60 : Int) < (↑i : Int))) true (((o45_0 i j j (↑i : Int) 0).isSome) && true))
noncomputable def q45 (r : Int) : SV × List Blk × List Blk := (V Z r, [], [])
noncomputable def g45 : GF := fun vs bs => match vs, bs with
  | [.ro [W Z, W Z] i j], [] => some (rs 0 (q45 (m45 i j)) [n45 i j])
  | _, _ => none
noncomputable def c45 : Ctr := genC [.ro [W Z, W Z]] g45
theorem k45 : CtrOk Try.prog c45 45 := cx (tc k80 tn) mix_ok 8 (fn := Try.f45) (c := (Try.f45.body.getD .skip)) (grs := []) (rh := .k) Try.func45 rfl (by kernel_rfl) (lam_of rfl (lc z45_0 ln)) fun vs bs q h hn => by
  unfold g45 at h
  split at h <;> cases h
  rename_i i j
  have hn := n1 hn
  exact ⟨_, rfl, ca (fun R => (cnd (decide ((60 : Int) < (↑i : Int)))
 (R (V Z 8) [] [])
 (cnd (decide (i = i))
 (cnd ((o45_0 i j j (↑i : Int) 0).isSome)
 (cnd ((o45_0 i j j (↑i : Int) 0).getD default).1
 (R (V Z ((o45_0 i j j (↑i : Int) 0).getD default).2.1) [] [])
 (R (V Z 0) [] []))
    False)
   False))) (fun R => by kernel_rfl) (co (fun h0 => lf (cT h0 rfl) rfl) (fun h0 => cn (decide_eq_true rfl) (cn (al (cf h0 hn)) (co (fun h1 => lf (cF h0 (cT h1 rfl)) rfl) (fun h1 => lf (cF h0 (cF h1 rfl)) rfl)))))⟩
/-! ### shotline/shotlineref08.CheckWindows -/
noncomputable def l44_0 (a : Nat) (b : Dat) : Nat → Int → Option (Bool × (Int) × (Unit))
  | 0, _ => none
  | f + 1, d => (cond (decide (d < (↑a : Int))) (cond (decide (0 ≤ d ∧ d < ↑a)) (cond (bif (bif (bif (bif (m22 (b.ii d.toNat 0)) then false else true) then false else true) then false else true) then true else (decide (0 ≤ d ∧ d < ↑a))) (cond (bif (bif (m22 (b.ii d.toNat 0)) then false else true) then true else (bif (m22 (b.ii d.toNat 1)) then false else true)) (some (true, 2, default)) (cond (decide (0 ≤ d ∧ d < ↑a)) (cond (decide (0 ≤ d ∧ d < ↑a)) (cond (decide ((b.ii d.toNat 1) < (b.ii d.toNat 0))) (some (true, 9, default)) (cond (bif (bif (decide ((0 : Int) < d)) then false else true) then true else (decide (0 ≤ d ∧ d < ↑a))) (cond (bif (bif (decide ((0 : Int) < d)) then false else true) then true else (decide (0 ≤ Z.wrap (d - 1) ∧ Z.wrap (d - 1) < (↑a : Int)))) (cond (bif (decide ((0 : Int) < d)) then (decide ((b.ii d.toNat 0) ≤ (Z.wrap ((b.ii ((Z.wrap (d - 1)).toNat) 1) + 1)))) else false) (some (true, 13, default)) (l44_0 a b f (Z.wrap (d + 1)))) none) none)) none) none)) none) none) (some (false, default, ())))
noncomputable abbrev o44_0 (a : Nat) (b : Dat) (d : Int) : Option (Bool × (Int) × (Unit)) := l44_0 a b (a + d.toNat + 8) d
noncomputable def e44_0 (a : Nat) (b : Dat) (r : Bool × (Int) × (Unit)) (K : XR) : Prop := cnd r.1 (K (XE.ret) [V Z r.2.1] []) (K (XE.exit 0) [.any] [])
noncomputable def g44_0 : LSum := fun s k => match czv 0 57 [0, 3] 0 [] s with
  | some ([.ro [W Z, W Z] a b, V Z d], []) => needs [(o44_0 a b d).isSome] (e44_0 a b ((o44_0 a b d).getD default) fun e vs bs => inBlk 0 k e (mkSt 0 57 [2] vs 0 bs))
  | _ => False
theorem z44_0 : LOk Try.prog g44_0 (.block 0 (bodyAt (Try.f44.body.getD .skip) 0)) := by
  refine lb (ι := Nat × Dat × Int) (fuel := 8) (na := 0) (nt := 57) (nx := 0) (Lh := [0, 3]) (Le := [2]) (gl := []) (tc k22 tn) mix_ok noLam rfl (fun f (a, b, d) K => GG default (e44_0 a b) K (l44_0 a b f d)) (fun (a, b, d) => [.ro [W Z, W Z] a b, V Z d]) (fun (a, b, d) => []) (fun (_, _, _) K => gg_none) ?_ ?_
  · rintro f ⟨a, b, d⟩ K hG
    refine ro (fun R => (cnd (decide (d < (↑a : Int)))
 (cnd (decide (0 ≤ d ∧ d < ↑a))
 (cnd (bif (bif (bif (bif (m22 (b.ii d.toNat 0)) then false else true) then false else true) then false else true) then true else (decide (0 ≤ d ∧ d < ↑a)))
 (cnd (bif (bif (m22 (b.ii d.toNat 0)) then false else true) then true else (bif (m22 (b.ii d.toNat 1)) then false else true))
 (R (XE.ret) [V Z 2] [])
 (cnd (decide (0 ≤ d ∧ d < ↑a))
 (cnd (decide (0 ≤ d ∧ d < ↑a))
 (cnd (decide ((b.ii d.toNat 1) < (b.ii d.toNat 0)))
 (R (XE.ret) [V Z 9] [])
 (cnd (bif (bif (decide ((0 : Int) < d)) then false else true) then true else (decide (0 ≤ d ∧ d < ↑a)))
 (cnd (bif (bif (decide ((0 : Int) < d)) then false else true) then true else (decide (0 ≤ Z.wrap (d - 1) ∧ Z.wrap (d - 1) < (↑a : Int))))
 (cnd (bif (decide ((0 : Int) < d)) then (decide ((b.ii d.toNat 0) ≤ (Z.wrap ((b.ii ((Z.wrap (d - 1)).toNat) 1) + 1)))) else false)
 (R (XE.ret) [V Z 13] [])
 (R (XE.normal) [.ro [W Z, W Z] a b, V Z (Z.wrap (d + 1))] []))
          False)
         False))
       False)
      False))
    False)
   False)
 (R (XE.exit 0) [.any] []))) (fun R => by kernel_rfl) ?_
    exact ch hG (fun h0 => cg h0 fun h1 => cg h1 fun h2 => ch h2 (fun h3 => h3.2) (fun h3 => cg h3 fun h4 => cg h4 fun h5 => ch h5 (fun h6 => h6.2) (fun h6 => cg h6 fun h7 => cg h7 fun h8 => ch h8 (fun h9 => h9.2) (fun h9 => ⟨(_, _, _), rfl, rfl, h9⟩)))) (fun h0 => h0.2)
  · intro s k h
    unfold g44_0 at h
    split at h <;> try exact h.elim
    rename_i e1
    rw [needs_iff] at h
    exact ⟨_, e1, _, (_, _, _), rfl, rfl, h.1 _ (List.mem_singleton.2 rfl), h.2⟩
noncomputable def m44 (g : Nat) (i : Dat) : Int :=
  (cond (decide ((60 : Int) < (↑g : Int))) 8 (cond ((o44_0 g i 0).getD default).1 ((o44_0 g i 0).getD default).2.1 0))
noncomputable def n44 (g : Nat) (i : Dat) : Bool :=
  (cond (decide ((60 : Int) < (↑g : Int))) true (((o44_0 g i 0).isSome) && true))
noncomputable def q44 (r : Int) : SV × List Blk × List Blk := (V Z r, [], [])
noncomputable def g44 : GF := fun vs bs => match vs, bs with
  | [.ro [W Z, W Z] g i], [] => some (rs 0 (q44 (m44 g i)) [n44 g i])
  | _, _ => none
noncomputable def c44 : Ctr := genC [.ro [W Z, W Z]] g44
theorem k44 : CtrOk Try.prog c44 44 := cx (tc k22 tn) mix_ok 8 (fn := Try.f44) (c := (Try.f44.body.getD .skip)) (grs := []) (rh := .k) Try.func44 rfl (by kernel_rfl) (lam_of rfl (lc z44_0 ln)) fun vs bs q h hn => by
  unfold g44 at h
  split at h <;> cases h
  rename_i g i
  have hn := n1 hn
  exact ⟨_, rfl, ca (fun R => (cnd (decide ((60 : Int) < (↑g : Int)))
 (R (V Z 8) [] [])
 (cnd ((o44_0 g i 0).isSome)
 (cnd ((o44_0 g i 0).getD default).1
 (R (V Z ((o44_0 g i 0).getD default).2.1) [] [])
 (R (V Z 0) [] []))
   False))) (fun R => by kernel_rfl) (co (fun h0 => lf (cT h0 rfl) rfl) (fun h0 => cn (al (cf h0 hn)) (co (fun h1 => lf (cF h0 (cT h1 rfl)) rfl) (fun h1 => lf (cF h0 (cF h1 rfl)) rfl))))⟩
/-! ### shotline/site.isPlace -/
noncomputable def m85 (b : Nat) (d : Dat) (e : Nat) (g : Dat) (i : Int) : Bool :=
  (m96 i 0 (Z.wrap ((↑b : Int) - 1)))
noncomputable def q85 (r : Bool) : SV × List Blk × List Blk := (.bool r, [], [])
noncomputable def g85 : GF := fun vs bs => match vs, bs with
  | [.agg [.ro [.str] b d, .ro [.sl [W Z]] e g], V Z i], [] => some (rs 0 (q85 (m85 b d e g i)) [])
  | _, _ => none
noncomputable def c85 : Ctr := genC [.a [.ro [.str], .ro [.sl [W Z]]], .k] g85
theorem k85 : CtrOk Try.prog c85 85 := cx (tc k96 tn) mix_ok 8 (fn := Try.f85) (c := (Try.f85.body.getD .skip)) (grs := []) (rh := .k) Try.func85 rfl (by kernel_rfl) noLam fun vs bs q h hn => by
  unfold g85 at h
  split at h <;> cases h
  rename_i b d e g i
  exact ⟨_, rfl, ca (fun R => (R (.bool (m96 i 0 (Z.wrap ((↑b : Int) - 1)))) [] [])) (fun R => by kernel_rfl) (lf rfl rfl)⟩
/-! ### shotline/site.nearest -/
noncomputable def l86_0 (b : Nat) (d a : Dat) (l : Int) : Nat → Int → Int → Option (Int)
  | 0, _, _ => none
  | f + 1, i, g => (cond (decide (g < l)) (cond (decide (0 ≤ g ∧ g < ↑b)) (cond (bif (bif (bif (bif (a.bb g.toNat 2) then (bif (a.bb g.toNat 3) then false else true) else false) then (bif (decide (i < 0)) then false else true) else false) then false else true) then true else (decide (0 ≤ i ∧ i < ↑b))) (cond (bif (bif (a.bb g.toNat 2) then (bif (a.bb g.toNat 3) then false else true) else false) then (bif (decide (i < 0)) then true else (decide ((a.ii g.toNat 1) < (d.ii i.toNat 1)))) else false) (l86_0 b d a l f g (Z.wrap (g + 1))) (l86_0 b d a l f i (Z.wrap (g + 1)))) none) none) (some i))
noncomputable abbrev o86_0 (b : Nat) (d a : Dat) (l i g : Int) : Option (Int) := l86_0 b d a l (b + i.toNat + l.toNat + g.toNat + 8) i g
noncomputable def e86_0 (b : Nat) (d a : Dat) (l r : Int) (K : XR) : Prop := K (XE.exit 0) [V Z r] []
noncomputable def g86_0 : LSum := fun s k => match czv 0 37 [0, 3, 6, 7, 8] 0 [] s with
  | some ([.ro [W Z, W Z, .bool, .bool] b d, V Z i, .ro [W Z, W Z, .bool, .bool] t6_0 a, V Z l, V Z g], []) => needs [decide (b = t6_0), (o86_0 b d a l i g).isSome] (e86_0 b d a l ((o86_0 b d a l i g).getD default) fun e vs bs => inBlk 0 k e (mkSt 0 37 [3] vs 0 bs))
  | _ => False
theorem z86_0 : LOk Try.prog g86_0 (.block 0 (bodyAt (Try.f86.body.getD .skip) 0)) := by
  refine lb (ι := Nat × Dat × Int × Dat × Int × Int) (fuel := 8) (na := 0) (nt := 37) (nx := 0) (Lh := [0, 3, 6, 7, 8]) (Le := [3]) (gl := []) tn mix_ok noLam rfl (fun f (b, d, i, a, l, g) K => GG default (e86_0 b d a l) K (l86_0 b d a l f i g)) (fun (b, d, i, a, l, g) => [.ro [W Z, W Z, .bool, .bool] b d, V Z i, .ro [W Z, W Z, .bool, .bool] b a, V Z l, V Z g]) (fun (b, d, i, a, l, g) => []) (fun (_, _, _, _, _, _) K => gg_none) ?_ ?_
  · rintro f ⟨b, d, i, a, l, g⟩ K hG
    refine ro (fun R => (cnd (decide (g < l))
 (cnd (decide (0 ≤ g ∧ g < ↑b))
 (cnd (bif (bif (bif (bif (a.bb g.toNat 2) then (bif (a.bb g.toNat 3) then false else true) else false) then (bif (decide (i < 0)) then false else true) else false) then false else true) then true else (decide (0 ≤ i ∧ i < ↑b)))
 (cnd (bif (bif (a.bb g.toNat 2) then (bif (a.bb g.toNat 3) then false else true) else false) then (bif (decide (i < 0)) then true else (decide ((a.ii g.toNat 1) < (d.ii i.toNat 1)))) else false)
 (R (XE.normal) [.ro [W Z, W Z, .bool, .bool] b d, V Z g, .ro [W Z, W Z, .bool, .bool] b a, V Z l, V Z (Z.wrap (g + 1))] [])
 (R (XE.normal) [.ro [W Z, W Z, .bool, .bool] b d, V Z i, .ro [W Z, W Z, .bool, .bool] b a, V Z l, V Z (Z.wrap (g + 1))] []))
    False)
   False)
 (R (XE.exit 0) [V Z i] []))) (fun R => by kernel_rfl) ?_
    exact ch hG (fun h0 => cg h0 fun h1 => cg h1 fun h2 => ch h2 (fun h3 => ⟨(_, _, _, _, _, _), rfl, rfl, h3⟩) (fun h3 => ⟨(_, _, _, _, _, _), rfl, rfl, h3⟩)) (fun h0 => h0.2)
  · intro s k h
    unfold g86_0 at h
    split at h <;> try exact h.elim
    rename_i e1
    rw [needs_iff] at h
    have hq := h.1
    simp only [List.mem_cons, forall_eq_or_imp, decide_eq_true_eq, List.not_mem_nil, false_imp_iff, implies_true, and_true] at hq
    obtain ⟨rfl, hq⟩ := hq
    exact ⟨_, e1, _, (_, _, _, _, _, _), rfl, rfl, hq, h.2⟩
noncomputable def m86 (j : Nat) (m : Dat) : Int :=
  ((o86_0 j m m (↑j : Int) (-1) 0).getD 0)
noncomputable def n86 (j : Nat) (m : Dat) : Bool :=
  (((o86_0 j m m (↑j : Int) (-1) 0).isSome) && true)
noncomputable def q86 (r : Int) : SV × List Blk × List Blk := (V Z r, [], [])
noncomputable def g86 : GF := fun vs bs => match vs, bs with
  | [.ro [W Z, W Z, .bool, .bool] j m], [] => some (rs 0 (q86 (m86 j m)) [n86 j m])
  | _, _ => none
noncomputable def c86 : Ctr := genC [.ro [W Z, W Z, .bool, .bool]] g86
theorem k86 : CtrOk Try.prog c86 86 := cx tn mix_ok 8 (fn := Try.f86) (c := (Try.f86.body.getD .skip)) (grs := []) (rh := .k) Try.func86 rfl (by kernel_rfl) (lam_of rfl (lc z86_0 ln)) fun vs bs q h hn => by
  unfold g86 at h
  split at h <;> cases h
  rename_i j m
  have hn := n1 hn
  exact ⟨_, rfl, ca (fun R => (cnd (decide (j = j))
 (cnd ((o86_0 j m m (↑j : Int) (-1) 0).isSome)
 (R (V Z ((o86_0 j m m (↑j : Int) (-1) 0).getD 0)) [] [])
   False)
  False)) (fun R => by kernel_rfl) (cn (decide_eq_true rfl) (cn (al hn) (lf rfl rfl)))⟩
/-! ### shotline/shotlinebase.Ranges -/
noncomputable def l46_0 (a : Nat) (b : Dat) (g : Nat) (d : Dat) : Nat → Int → Option (Bool × (Bool) × (Unit))
  | 0, _ => none
  | f + 1, i => (cond (decide (i < (↑a : Int))) (cond (decide (0 ≤ i ∧ i < ↑a)) (cond (decide (0 ≤ i ∧ i < ↑g)) (cond (bif (bif (decide ((b.ii i.toNat 0) = (d.ii i.toNat 0))) then (bif (decide ((b.ii i.toNat 1) = (d.ii i.toNat 1))) then true else false) else false) then false else true) (some (true, false, default)) (l46_0 a b g d f (Z.wrap (i + 1)))) none) none) (some (false, default, ())))
noncomputable abbrev o46_0 (a : Nat) (b : Dat) (g : Nat) (d : Dat) (i : Int) : Option (Bool × (Bool) × (Unit)) := l46_0 a b g d (a + g + i.toNat + 8) i
noncomputable def e46_0 (a : Nat) (b : Dat) (g : Nat) (d : Dat) (r : Bool × (Bool) × (Unit)) (K : XR) : Prop := cnd r.1 (K (XE.ret) [.bool r.2.1] []) (K (XE.exit 0) [.any] [])
noncomputable def g46_0 : LSum := fun s k => match czv 0 26 [0, 1, 5] 0 [] s with
  | some ([.ro [W Z, W Z] a b, .ro [W Z, W Z] g d, V Z i], []) => needs [(o46_0 a b g d i).isSome] (e46_0 a b g d ((o46_0 a b g d i).getD default) fun e vs bs => inBlk 0 k e (mkSt 0 26 [4] vs 0 bs))
  | _ => False
theorem z46_0 : LOk Try.prog g46_0 (.block 0 (bodyAt (Try.f46.body.getD .skip) 0)) := by
  refine lb (ι := Nat × Dat × Nat × Dat × Int) (fuel := 8) (na := 0) (nt := 26) (nx := 0) (Lh := [0, 1, 5]) (Le := [4]) (gl := []) tn mix_ok noLam rfl (fun f (a, b, g, d, i) K => GG default (e46_0 a b g d) K (l46_0 a b g d f i)) (fun (a, b, g, d, i) => [.ro [W Z, W Z] a b, .ro [W Z, W Z] g d, V Z i]) (fun (a, b, g, d, i) => []) (fun (_, _, _, _, _) K => gg_none) ?_ ?_
  · rintro f ⟨a, b, g, d, i⟩ K hG
    refine ro (fun R => (cnd (decide (i < (↑a : Int)))
 (cnd (decide (0 ≤ i ∧ i < ↑a))
 (cnd (decide (0 ≤ i ∧ i < ↑g))
 (cnd (bif (bif (decide ((b.ii i.toNat 0) = (d.ii i.toNat 0))) then (bif (decide ((b.ii i.toNat 1) = (d.ii i.toNat 1))) then true else false) else false) then false else true)
 (R (XE.ret) [.bool false] [])
 (R (XE.normal) [.ro [W Z, W Z] a b, .ro [W Z, W Z] g d, V Z (Z.wrap (i + 1))] []))
    False)
   False)
 (R (XE.exit 0) [.any] []))) (fun R => by kernel_rfl) ?_
    exact ch hG (fun h0 => cg h0 fun h1 => cg h1 fun h2 => ch h2 (fun h3 => h3.2) (fun h3 => ⟨(_, _, _, _, _), rfl, rfl, h3⟩)) (fun h0 => h0.2)
  · intro s k h
    unfold g46_0 at h
    split at h <;> try exact h.elim
    rename_i e1
    rw [needs_iff] at h
    exact ⟨_, e1, _, (_, _, _, _, _), rfl, rfl, h.1 _ (List.mem_singleton.2 rfl), h.2⟩
noncomputable def m46 (j : Nat) (m : Dat) (l : Nat) (n : Dat) : Bool :=
  (cond (bif (decide ((↑j : Int) = (↑l : Int))) then false else true) false (cond ((o46_0 j m l n 0).getD default).1 ((o46_0 j m l n 0).getD default).2.1 true))
noncomputable def n46 (j : Nat) (m : Dat) (l : Nat) (n : Dat) : Bool :=
  (cond (bif (decide ((↑j : Int) = (↑l : Int))) then false else true) true (((o46_0 j m l n 0).isSome) && true))
noncomputable def q46 (r : Bool) : SV × List Blk × List Blk := (.bool r, [], [])
noncomputable def g46 : GF := fun vs bs => match vs, bs with
  | [.ro [W Z, W Z] j m, .ro [W Z, W Z] l n], [] => some (rs 0 (q46 (m46 j m l n)) [n46 j m l n])
  | _, _ => none
noncomputable def c46 : Ctr := genC [.ro [W Z, W Z], .ro [W Z, W Z]] g46
theorem k46 : CtrOk Try.prog c46 46 := cx tn mix_ok 8 (fn := Try.f46) (c := (Try.f46.body.getD .skip)) (grs := []) (rh := .k) Try.func46 rfl (by kernel_rfl) (lam_of rfl (lc z46_0 ln)) fun vs bs q h hn => by
  unfold g46 at h
  split at h <;> cases h
  rename_i j m l n
  have hn := n1 hn
  exact ⟨_, rfl, ca (fun R => (cnd (bif (decide ((↑j : Int) = (↑l : Int))) then false else true)
 (R (.bool false) [] [])
 (cnd ((o46_0 j m l n 0).isSome)
 (cnd ((o46_0 j m l n 0).getD default).1
 (R (.bool ((o46_0 j m l n 0).getD default).2.1) [] [])
 (R (.bool true) [] []))
   False))) (fun R => by kernel_rfl) (co (fun h0 => lf (cT h0 rfl) rfl) (fun h0 => cn (al (cf h0 hn)) (co (fun h1 => lf (cF h0 (cT h1 rfl)) rfl) (fun h1 => lf (cF h0 (cF h1 rfl)) rfl))))⟩
/-! ### shotline/shotlinebase.CopyRanges -/
noncomputable def m42 (a : Nat) (b : Dat) : Nat × Dat :=
  ((0 + a), ((datS [] 2).app 0 b))
noncomputable def n42 (a : Nat) (b : Dat) : Bool :=
  ((decide ((0 + a) ≤ 1073741824)) && ((decide ((0 + (0 + a)) ≤ (0 + a))) && true))
noncomputable def q42 (r : Nat × Dat) : SV × List Blk × List Blk := (.ro [W Z, W Z] r.1 r.2, [], [])
noncomputable def g42 : GF := fun vs bs => match vs, bs with
  | [.ro [W Z, W Z] a b], [] => some (rs 0 (q42 (m42 a b)) [n42 a b])
  | _, _ => none
noncomputable def c42 : Ctr := genC [.ro [W Z, W Z]] g42
theorem k42 : CtrOk Try.prog c42 42 := cx tn mix_ok 8 (fn := Try.f42) (c := (Try.f42.body.getD .skip)) (grs := []) (rh := .ro [W Z, W Z]) Try.func42 rfl (by kernel_rfl) noLam fun vs bs q h hn => by
  unfold g42 at h
  split at h <;> cases h
  rename_i a b
  have hn := n1 hn
  exact ⟨_, rfl, ca (fun R => (cnd (decide ((0 + a) ≤ 1073741824))
 (cnd (decide ((0 + (0 + a)) ≤ (0 + a)))
 (R (.ro [W Z, W Z] (0 + a) ((datS [] 2).app 0 b)) [] [])
   False)
  False)) (fun R => by kernel_rfl) (cn (al hn) (cn (al (ar hn)) (lf rfl rfl)))⟩
/-! ### math/bits.Len64 -/
noncomputable def t156_0 (a : Int) : Int := (a.fdiv 4294967296).fdiv 65536
noncomputable def t156_1 (a : Int) : ByteArray := bt64104_0
noncomputable def U156 (a z0 : Int) (z1 : ByteArray) (R : SV → List Blk → List Blk → Prop) : Prop :=
 (cnd (decide (4294967296 ≤ a))
 (cnd (decide (65536 ≤ (a.fdiv 4294967296)))
 (cnd (decide (256 ≤ z0))
 (cnd (decide (0 ≤ IntKind.u8.wrap (((a.fdiv (2 ^ min (Int.toNat 32) IntKind.u64.bits)).fdiv (2 ^ min (Int.toNat 16) IntKind.u64.bits)).fdiv (2 ^ min (Int.toNat 8) IntKind.u64.bits)) ∧ IntKind.u8.wrap (((a.fdiv (2 ^ min (Int.toNat 32) IntKind.u64.bits)).fdiv (2 ^ min (Int.toNat 16) IntKind.u64.bits)).fdiv (2 ^ min (Int.toNat 8) IntKind.u64.bits)) < (↑bt36767_1.size : Int)))
 (R (V Z (Z.wrap (56 + (Z.wrap (byteAt z1 ((IntKind.u8.wrap (z0.fdiv 256)).toNat)))))) [] [])
     False)
 (cnd (decide (0 ≤ IntKind.u8.wrap ((a.fdiv (2 ^ min (Int.toNat 32) IntKind.u64.bits)).fdiv (2 ^ min (Int.toNat 16) IntKind.u64.bits)) ∧ IntKind.u8.wrap ((a.fdiv (2 ^ min (Int.toNat 32) IntKind.u64.bits)).fdiv (2 ^ min (Int.toNat 16) IntKind.u64.bits)) < (↑bt36767_1.size : Int)))
 (R (V Z (Z.wrap (48 + (Z.wrap (byteAt z1 ((IntKind.u8.wrap z0).toNat)))))) [] [])
     False))
 (cnd (decide (256 ≤ (a.fdiv 4294967296)))
 (cnd (decide (0 ≤ IntKind.u8.wrap ((a.fdiv (2 ^ min (Int.toNat 32) IntKind.u64.bits)).fdiv (2 ^ min (Int.toNat 8) IntKind.u64.bits)) ∧ IntKind.u8.wrap ((a.fdiv (2 ^ min (Int.toNat 32) IntKind.u64.bits)).fdiv (2 ^ min (Int.toNat 8) IntKind.u64.bits)) < (↑bt36767_1.size : Int)))
 (R (V Z (Z.wrap (40 + (Z.wrap (byteAt z1 ((IntKind.u8.wrap ((a.fdiv 4294967296).fdiv 256)).toNat)))))) [] [])
     False)
 (cnd (decide (0 ≤ IntKind.u8.wrap (a.fdiv (2 ^ min (Int.toNat 32) IntKind.u64.bits)) ∧ IntKind.u8.wrap (a.fdiv (2 ^ min (Int.toNat 32) IntKind.u64.bits)) < (↑bt36767_1.size : Int)))
 (R (V Z (Z.wrap (32 + (Z.wrap (byteAt z1 ((IntKind.u8.wrap (a.fdiv 4294967296)).toNat)))))) [] [])
     False)))
 (cnd (decide (65536 ≤ a))
 (cnd (decide (256 ≤ (a.fdiv 65536)))
 (cnd (decide (0 ≤ IntKind.u8.wrap ((a.fdiv (2 ^ min (Int.toNat 16) IntKind.u64.bits)).fdiv (2 ^ min (Int.toNat 8) IntKind.u64.bits)) ∧ IntKind.u8.wrap ((a.fdiv (2 ^ min (Int.toNat 16) IntKind.u64.bits)).fdiv (2 ^ min (Int.toNat 8) IntKind.u64.bits)) < (↑bt36767_1.size : Int)))
 (R (V Z (Z.wrap (24 + (Z.wrap (byteAt z1 ((IntKind.u8.wrap ((a.fdiv 65536).fdiv 256)).toNat)))))) [] [])
     False)
 (cnd (decide (0 ≤ IntKind.u8.wrap (a.fdiv (2 ^ min (Int.toNat 16) IntKind.u64.bits)) ∧ IntKind.u8.wrap (a.fdiv (2 ^ min (Int.toNat 16) IntKind.u64.bits)) < (↑bt36767_1.size : Int)))
 (R (V Z (Z.wrap (16 + (Z.wrap (byteAt z1 ((IntKind.u8.wrap (a.fdiv 65536)).toNat)))))) [] [])
     False))
 (cnd (decide (256 ≤ a))
 (cnd (decide (0 ≤ IntKind.u8.wrap (a.fdiv (2 ^ min (Int.toNat 8) IntKind.u64.bits)) ∧ IntKind.u8.wrap (a.fdiv (2 ^ min (Int.toNat 8) IntKind.u64.bits)) < (↑bt36767_1.size : Int)))
 (R (V Z (Z.wrap (8 + (Z.wrap (byteAt z1 ((IntKind.u8.wrap (a.fdiv 256)).toNat)))))) [] [])
     False)
 (cnd (decide ((0 : Int) ≤ IntKind.u8.wrap a ∧ IntKind.u8.wrap a < (↑bt14506_2.size : Int)))
 (R (V Z (Z.wrap (0 + (Z.wrap (byteAt z1 ((IntKind.u8.wrap a).toNat)))))) [] [])
     False))))
noncomputable def w156 (a z0 : Int) (z1 : ByteArray) : Int :=
  (cond (decide (4294967296 ≤ a)) (cond (decide (65536 ≤ (a.fdiv 4294967296))) (cond (decide (256 ≤ z0)) (Z.wrap (56 + (Z.wrap (byteAt z1 ((IntKind.u8.wrap (z0.fdiv 256)).toNat))))) (Z.wrap (48 + (Z.wrap (byteAt z1 ((IntKind.u8.wrap z0).toNat)))))) (cond (decide (256 ≤ (a.fdiv 4294967296))) (Z.wrap (40 + (Z.wrap (byteAt z1 ((IntKind.u8.wrap ((a.fdiv 4294967296).fdiv 256)).toNat))))) (Z.wrap (32 + (Z.wrap (byteAt z1 ((IntKind.u8.wrap (a.fdiv 4294967296)).toNat))))))) (cond (decide (65536 ≤ a)) (cond (decide (256 ≤ (a.fdiv 65536))) (Z.wrap (24 + (Z.wrap (byteAt z1 ((IntKind.u8.wrap ((a.fdiv 65536).fdiv 256)).toNat))))) (Z.wrap (16 + (Z.wrap (byteAt z1 ((IntKind.u8.wrap (a.fdiv 65536)).toNat)))))) (cond (decide (256 ≤ a)) (Z.wrap (8 + (Z.wrap (byteAt z1 ((IntKind.u8.wrap (a.fdiv 256)).toNat))))) (Z.wrap (0 + (Z.wrap (byteAt z1 ((IntKind.u8.wrap a).toNat))))))))
noncomputable def v156 (a z0 : Int) (z1 : ByteArray) : Bool :=
  (cond (decide (4294967296 ≤ a)) (cond (decide (65536 ≤ (a.fdiv 4294967296))) (cond (decide (256 ≤ z0)) ((decide (0 ≤ IntKind.u8.wrap (((a.fdiv (2 ^ min (Int.toNat 32) IntKind.u64.bits)).fdiv (2 ^ min (Int.toNat 16) IntKind.u64.bits)).fdiv (2 ^ min (Int.toNat 8) IntKind.u64.bits)) ∧ IntKind.u8.wrap (((a.fdiv (2 ^ min (Int.toNat 32) IntKind.u64.bits)).fdiv (2 ^ min (Int.toNat 16) IntKind.u64.bits)).fdiv (2 ^ min (Int.toNat 8) IntKind.u64.bits)) < (↑bt36767_1.size : Int))) && true) ((decide (0 ≤ IntKind.u8.wrap ((a.fdiv (2 ^ min (Int.toNat 32) IntKind.u64.bits)).fdiv (2 ^ min (Int.toNat 16) IntKind.u64.bits)) ∧ IntKind.u8.wrap ((a.fdiv (2 ^ min (Int.toNat 32) IntKind.u64.bits)).fdiv (2 ^ min (Int.toNat 16) IntKind.u64.bits)) < (↑bt36767_1.size : Int))) && true)) (cond (decide (256 ≤ (a.fdiv 4294967296))) ((decide (0 ≤ IntKind.u8.wrap ((a.fdiv (2 ^ min (Int.toNat 32) IntKind.u64.bits)).fdiv (2 ^ min (Int.toNat 8) IntKind.u64.bits)) ∧ IntKind.u8.wrap ((a.fdiv (2 ^ min (Int.toNat 32) IntKind.u64.bits)).fdiv (2 ^ min (Int.toNat 8) IntKind.u64.bits)) < (↑bt36767_1.size : Int))) && true) ((decide (0 ≤ IntKind.u8.wrap (a.fdiv (2 ^ min (Int.toNat 32) IntKind.u64.bits)) ∧ IntKind.u8.wrap (a.fdiv (2 ^ min (Int.toNat 32) IntKind.u64.bits)) < (↑bt36767_1.size : Int))) && true))) (cond (decide (65536 ≤ a)) (cond (decide (256 ≤ (a.fdiv 65536))) ((decide (0 ≤ IntKind.u8.wrap ((a.fdiv (2 ^ min (Int.toNat 16) IntKind.u64.bits)).fdiv (2 ^ min (Int.toNat 8) IntKind.u64.bits)) ∧ IntKind.u8.wrap ((a.fdiv (2 ^ min (Int.toNat 16) IntKind.u64.bits)).fdiv (2 ^ min (Int.toNat 8) IntKind.u64.bits)) < (↑bt36767_1.size : Int))) && true) ((decide (0 ≤ IntKind.u8.wrap (a.fdiv (2 ^ min (Int.toNat 16) IntKind.u64.bits)) ∧ IntKind.u8.wrap (a.fdiv (2 ^ min (Int.toNat 16) IntKind.u64.bits)) < (↑bt36767_1.size : Int))) && true)) (cond (decide (256 ≤ a)) ((decide (0 ≤ IntKind.u8.wrap (a.fdiv (2 ^ min (Int.toNat 8) IntKind.u64.bits)) ∧ IntKind.u8.wrap (a.fdiv (2 ^ min (Int.toNat 8) IntKind.u64.bits)) < (↑bt36767_1.size : Int))) && true) ((decide ((0 : Int) ≤ IntKind.u8.wrap a ∧ IntKind.u8.wrap a < (↑bt14506_2.size : Int))) && true))))
noncomputable def m156 (a : Int) : Int := w156 a (t156_0 a) (t156_1 a)
noncomputable def n156 (a : Int) : Bool := v156 a (t156_0 a) (t156_1 a)
noncomputable def q156 (r : Int) : SV × List Blk × List Blk := (V Z r, [], [])
noncomputable def g156 : GF := fun vs bs => match vs, bs with
  | [.int .u64 a], [] => some (rs 0 (q156 (m156 a)) [n156 a])
  | _, _ => none
noncomputable def c156 : Ctr := genC [.k] g156
theorem u156 (a z0 : Int) (z1 : ByteArray) (hn : v156 a z0 z1 = true) : U156 a z0 z1 (fun v U N => (v, U, N) = q156 (w156 a z0 z1)) :=
  co (fun h0 => co (fun h1 => co (fun h2 => cn (al (ct h2 (ct h1 (ct h0 hn)))) (lf (cT h0 (cT h1 (cT h2 rfl))) rfl)) (fun h2 => cn (al (cf h2 (ct h1 (ct h0 hn)))) (lf (cT h0 (cT h1 (cF h2 rfl))) rfl))) (fun h1 => co (fun h2 => cn (al (ct h2 (cf h1 (ct h0 hn)))) (lf (cT h0 (cF h1 (cT h2 rfl))) rfl)) (fun h2 => cn (al (cf h2 (cf h1 (ct h0 hn)))) (lf (cT h0 (cF h1 (cF h2 rfl))) rfl)))) (fun h0 => co (fun h1 => co (fun h2 => cn (al (ct h2 (ct h1 (cf h0 hn)))) (lf (cF h0 (cT h1 (cT h2 rfl))) rfl)) (fun h2 => cn (al (cf h2 (ct h1 (cf h0 hn)))) (lf (cF h0 (cT h1 (cF h2 rfl))) rfl))) (fun h1 => co (fun h2 => cn (al (ct h2 (cf h1 (cf h0 hn)))) (lf (cF h0 (cF h1 (cT h2 rfl))) rfl)) (fun h2 => cn (al (cf h2 (cf h1 (cf h0 hn)))) (lf (cF h0 (cF h1 (cF h2 rfl))) rfl))))
theorem k156 : CtrOk Try.prog c156 156 := cx tn mix_ok 8 (fn := Try.f156) (c := (Try.f156.body.getD .skip)) (grs := []) (rh := .k) Try.func156 rfl (by kernel_rfl) noLam fun vs bs q h hn => by
  unfold g156 at h
  split at h <;> cases h
  rename_i a
  have hn := n1 hn
  exact ⟨_, rfl, ca (fun R => U156 a (t156_0 a) (t156_1 a) R) (fun R => by kernel_rfl) (u156 a (t156_0 a) (t156_1 a) hn)⟩
/-! ### shotline/site.isName -/
noncomputable def l92_0 (d : Nat) (a : Dat) (g : Int) : Nat → Int → Option (Bool × (Bool) × (Unit))
  | 0, _ => none
  | f + 1, b => (cond (decide (b < g)) (cond (decide (0 ≤ b ∧ b < ↑d)) (cond (bif (bif (bif (bif (decide (97 ≤ (a.ii b.toNat 0))) then (decide ((a.ii b.toNat 0) ≤ 122)) else false) then true else (bif (decide (65 ≤ (a.ii b.toNat 0))) then (decide ((a.ii b.toNat 0) ≤ 90)) else false)) then false else true) then (bif (decide (b = 0)) then true else (bif (bif (decide ((a.ii b.toNat 0) = 45)) then false else true) then (bif (decide ((a.ii b.toNat 0) < 48)) then true else (decide (57 < (a.ii b.toNat 0)))) else false)) else false) (some (true, false, default)) (l92_0 d a g f (Z.wrap (b + 1)))) none) (some (false, default, ())))
noncomputable abbrev o92_0 (d : Nat) (a : Dat) (g b : Int) : Option (Bool × (Bool) × (Unit)) := l92_0 d a g (d + g.toNat + b.toNat + 8) b
noncomputable def e92_0 (d : Nat) (a : Dat) (g : Int) (r : Bool × (Bool) × (Unit)) (K : XR) : Prop := cnd r.1 (K (XE.ret) [.bool r.2.1] []) (K (XE.exit 0) [.any] [])
noncomputable def g92_0 : LSum := fun s k => match czv 0 54 [14, 15, 16] 0 [] s with
  | some ([.ro [.int .u8] d a, V Z g, V Z b], []) => needs [(o92_0 d a g b).isSome] (e92_0 d a g ((o92_0 d a g b).getD default) fun e vs bs => inBlk 0 k e (mkSt 0 54 [2] vs 0 bs))
  | _ => False
theorem z92_0 : LOk Try.prog g92_0 (.block 0 (bodyAt (Try.f92.body.getD .skip) 0)) := by
  refine lb (ι := Nat × Dat × Int × Int) (fuel := 8) (na := 0) (nt := 54) (nx := 0) (Lh := [14, 15, 16]) (Le := [2]) (gl := []) tn mix_ok noLam rfl (fun f (d, a, g, b) K => GG default (e92_0 d a g) K (l92_0 d a g f b)) (fun (d, a, g, b) => [.ro [.int .u8] d a, V Z g, V Z b]) (fun (d, a, g, b) => []) (fun (_, _, _, _) K => gg_none) ?_ ?_
  · rintro f ⟨d, a, g, b⟩ K hG
    refine ro (fun R => (cnd (decide (b < g))
 (cnd (decide (0 ≤ b ∧ b < ↑d))
 (cnd (bif (bif (bif (bif (decide (97 ≤ (a.ii b.toNat 0))) then (decide ((a.ii b.toNat 0) ≤ 122)) else false) then true else (bif (decide (65 ≤ (a.ii b.toNat 0))) then (decide ((a.ii b.toNat 0) ≤ 90)) else false)) then false else true) then (bif (decide (b = 0)) then true else (bif (bif (decide ((a.ii b.toNat 0) = 45)) then false else true) then (bif (decide ((a.ii b.toNat 0) < 48)) then true else (decide (57 < (a.ii b.toNat 0)))) else false)) else false)
 (R (XE.ret) [.bool false] [])
 (R (XE.normal) [.ro [.int .u8] d a, V Z g, V Z (Z.wrap (b + 1))] []))
   False)
 (R (XE.exit 0) [.any] []))) (fun R => by kernel_rfl) ?_
    exact ch hG (fun h0 => cg h0 fun h1 => ch h1 (fun h2 => h2.2) (fun h2 => ⟨(_, _, _, _), rfl, rfl, h2⟩)) (fun h0 => h0.2)
  · intro s k h
    unfold g92_0 at h
    split at h <;> try exact h.elim
    rename_i e1
    rw [needs_iff] at h
    exact ⟨_, e1, _, (_, _, _, _), rfl, rfl, h.1 _ (List.mem_singleton.2 rfl), h.2⟩
noncomputable def m92 (i : ByteArray) : Bool :=
  (cond (bif (decide (i = ({ data := #[] } : ByteArray))) then true else (decide (12 < (↑i.size : Int)))) false (cond ((o92_0 i.size ({ ii := fun q x => (↑(i.data.toList.getD q 0).toNat : Int), ss := noDat.ss, bb := noDat.bb, sn := noDat.sn, sd := noDat.sd }) (↑i.size : Int) 0).getD default).1 ((o92_0 i.size ({ ii := fun q x => (↑(i.data.toList.getD q 0).toNat : Int), ss := noDat.ss, bb := noDat.bb, sn := noDat.sn, sd := noDat.sd }) (↑i.size : Int) 0).getD default).2.1 true))
noncomputable def n92 (i : ByteArray) : Bool :=
  (cond (bif (decide (i = ({ data := #[] } : ByteArray))) then true else (decide (12 < (↑i.size : Int)))) true (((o92_0 i.size ({ ii := fun q x => (↑(i.data.toList.getD q 0).toNat : Int), ss := noDat.ss, bb := noDat.bb, sn := noDat.sn, sd := noDat.sd }) (↑i.size : Int) 0).isSome) && true))
noncomputable def q92 (r : Bool) : SV × List Blk × List Blk := (.bool r, [], [])
noncomputable def g92 : GF := fun vs bs => match vs, bs with
  | [.str i], [] => some (rs 0 (q92 (m92 i)) [n92 i])
  | _, _ => none
noncomputable def c92 : Ctr := genC [.k] g92
theorem k92 : CtrOk Try.prog c92 92 := cx tn mix_ok 8 (fn := Try.f92) (c := (Try.f92.body.getD .skip)) (grs := []) (rh := .k) Try.func92 rfl (by kernel_rfl) (lam_of rfl (lc z92_0 ln)) fun vs bs q h hn => by
  unfold g92 at h
  split at h <;> cases h
  rename_i i
  have hn := n1 hn
  exact ⟨_, rfl, ca (fun R => (cnd (bif (decide (i = ({ data := #[] } : ByteArray))) then true else (decide (12 < (↑i.size : Int))))
 (R (.bool false) [] [])
 (cnd ((o92_0 i.size ({ ii := fun q x => (↑(i.data.toList.getD q 0).toNat : Int), ss := noDat.ss, bb := noDat.bb, sn := noDat.sn, sd := noDat.sd }) (↑i.size : Int) 0).isSome)
 (cnd ((o92_0 i.size ({ ii := fun q x => (↑(i.data.toList.getD q 0).toNat : Int), ss := noDat.ss, bb := noDat.bb, sn := noDat.sn, sd := noDat.sd }) (↑i.size : Int) 0).getD default).1
 (R (.bool ((o92_0 i.size ({ ii := fun q x => (↑(i.data.toList.getD q 0).toNat : Int), ss := noDat.ss, bb := noDat.bb, sn := noDat.sn, sd := noDat.sd }) (↑i.size : Int) 0).getD default).2.1) [] [])
 (R (.bool true) [] []))
   False))) (fun R => by kernel_rfl) (co (fun h0 => lf (cT h0 rfl) rfl) (fun h0 => cn (al (cf h0 hn)) (co (fun h1 => lf (cF h0 (cT h1 rfl)) rfl) (fun h1 => lf (cF h0 (cF h1 rfl)) rfl))))⟩
/-! ### shotline/site.CheckChart$1 -/
noncomputable def m95 (a : Nat) (d b : Dat) : Bool :=
  (bif (decide ((↑a : Int) = (b.ii 0 0))) then false else true)
noncomputable def q95 (r : Bool) : SV × List Blk × List Blk := (.bool r, [], [])
noncomputable def g95 : GF := fun vs bs => match vs, bs with
  | [.ro [W Z] a d, .rp [W Z] b 0 0], [] => some (rs 0 (q95 (m95 a d b)) [])
  | _, _ => none
noncomputable def c95 : Ctr := genC [.ro [W Z], .rp [W Z]] g95
theorem k95 : CtrOk Try.prog c95 95 := cx tn mix_ok 8 (fn := Try.f95) (c := (Try.f95.body.getD .skip)) (grs := []) (rh := .k) Try.func95 rfl (by kernel_rfl) noLam fun vs bs q h hn => by
  unfold g95 at h
  split at h <;> cases h
  rename_i a d b
  exact ⟨_, rfl, ca (fun R => (R (.bool (bif (decide ((↑a : Int) = (b.ii 0 0))) then false else true)) [] [])) (fun R => by kernel_rfl) (lf rfl rfl)⟩
/-! ### (*shotline/site.windows).add -/
noncomputable def m105 (a ma0_0 : Nat) (b : Dat) (d e : Int) : Nat × Nat × Dat :=
  (cond (bif (decide ((0 : Int) < (↑a : Int))) then (decide (d ≤ (Z.wrap ((b.ii ((Z.wrap ((↑a : Int) - 1)).toNat) 1) + 1)))) else false) (a, ma0_0, (b.upd ((Z.wrap ((↑a : Int) - 1)).toNat) 1 [V Z (imax (b.ii ((Z.wrap ((↑a : Int) - 1)).toNat) 1) e)])) ((a + 1), (a + 1), (b.app a (datS [V Z d, V Z e] 2))))
noncomputable def n105 (a ma0_0 : Nat) (b : Dat) (d e : Int) : Bool :=
  ((bif (bif (decide ((0 : Int) < (↑a : Int))) then false else true) then true else (decide (0 ≤ Z.wrap ((↑a : Int) - 1) ∧ Z.wrap ((↑a : Int) - 1) < (↑a : Int)))) && ((bif (bif (decide ((0 : Int) < (↑a : Int))) then false else true) then true else (decide (((Z.wrap ((↑a : Int) - 1)).toNat) < ma0_0))) && (cond (bif (decide ((0 : Int) < (↑a : Int))) then (decide (d ≤ (Z.wrap ((b.ii ((Z.wrap ((↑a : Int) - 1)).toNat) 1) + 1)))) else false) ((decide (0 ≤ Z.wrap ((↑a : Int) - 1) ∧ Z.wrap ((↑a : Int) - 1) < (↑a : Int))) && ((decide (((Z.wrap ((↑a : Int) - 1)).toNat) < ma0_0)) && ((decide (0 ≤ Z.wrap ((↑a : Int) - 1) ∧ Z.wrap ((↑a : Int) - 1) < (↑a : Int))) && ((decide (((Z.wrap ((↑a : Int) - 1)).toNat) < ma0_0)) && true)))) ((decide (a ≤ ma0_0)) && ((decide ((a + 1) ≤ 1073741824)) && true)))))
noncomputable def q105 (r : Nat × Nat × Dat) : SV × List Blk × List Blk := (.tup [], [.cells 151 [.gr 2 2 r.1], .unk], [.row 28 [W Z, W Z] r.2.1 r.2.2])
noncomputable def g105 : GF := fun vs bs => match vs, bs with
  | [.ptr 0 0, .agg [V Z d, V Z e]], [.cells 151 [.gr 1 2 a], .row 28 [W Z, W Z] ma0_0 b] => some (rs 2 (q105 (m105 a ma0_0 b d e)) [n105 a ma0_0 b d e])
  | _, _ => none
noncomputable def c105 : Ctr := genC [.c [.gr 28 [W Z, W Z]], .k] g105
theorem k105 : CtrOk Try.prog c105 105 := cx tn mix_ok 8 (fn := Try.f105) (c := (Try.f105.body.getD .skip)) (grs := [1]) (rh := .k) Try.func105 rfl (by kernel_rfl) noLam fun vs bs q h hn => by
  unfold g105 at h
  split at h <;> cases h
  rename_i d e a ma0_0 b
  have hn := n1 hn
  exact ⟨_, rfl, ca (fun R => (cnd (bif (bif (decide ((0 : Int) < (↑a : Int))) then false else true) then true else (decide (0 ≤ Z.wrap ((↑a : Int) - 1) ∧ Z.wrap ((↑a : Int) - 1) < (↑a : Int))))
 (cnd (bif (bif (decide ((0 : Int) < (↑a : Int))) then false else true) then true else (decide (((Z.wrap ((↑a : Int) - 1)).toNat) < ma0_0)))
 (cnd (bif (decide ((0 : Int) < (↑a : Int))) then (decide (d ≤ (Z.wrap ((b.ii ((Z.wrap ((↑a : Int) - 1)).toNat) 1) + 1)))) else false)
 (cnd (decide (0 ≤ Z.wrap ((↑a : Int) - 1) ∧ Z.wrap ((↑a : Int) - 1) < (↑a : Int)))
 (cnd (decide (((Z.wrap ((↑a : Int) - 1)).toNat) < ma0_0))
 (cnd (decide (0 ≤ Z.wrap ((↑a : Int) - 1) ∧ Z.wrap ((↑a : Int) - 1) < (↑a : Int)))
 (cnd (decide (((Z.wrap ((↑a : Int) - 1)).toNat) < ma0_0))
 (R (.tup []) [.cells 151 [.gr 2 2 a], .unk] [.row 28 [W Z, W Z] ma0_0 (b.upd ((Z.wrap ((↑a : Int) - 1)).toNat) 1 [V Z (imax (b.ii ((Z.wrap ((↑a : Int) - 1)).toNat) 1) e)])])
        False)
       False)
      False)
     False)
 (cnd (decide (a ≤ ma0_0))
 (cnd (decide ((a + 1) ≤ 1073741824))
 (R (.tup []) [.cells 151 [.gr 2 2 (a + 1)], .unk] [.row 28 [W Z, W Z] (a + 1) (b.app a (datS [V Z d, V Z e] 2))])
      False)
     False))
   False)
  False)) (fun R => by kernel_rfl) (cn (al hn) (cn (al (ar hn)) (co (fun h0 => cn (al (ct h0 (ar (ar hn)))) (cn (al (ar (ct h0 (ar (ar hn))))) (cn (al (ar (ar (ct h0 (ar (ar hn)))))) (cn (al (ar (ar (ar (ct h0 (ar (ar hn))))))) (lf (cT h0 rfl) rfl))))) (fun h0 => cn (al (cf h0 (ar (ar hn)))) (cn (al (ar (cf h0 (ar (ar hn))))) (lf (cF h0 rfl) rfl))))))⟩
/-! ### slices.Index[[]string,string] -/
noncomputable def l129_0 (a : Nat) (b : Dat) (i : ByteArray) (j : Int) : Nat → Int → Option (Bool × (Int) × (Unit))
  | 0, _ => none
  | f + 1, g => (cond (decide (g < j)) (cond (decide (0 ≤ g ∧ g < ↑a)) (cond (decide (i = (b.ss g.toNat 0))) (some (true, g, default)) (l129_0 a b i j f (Z.wrap (g + 1)))) none) (some (false, default, ())))
noncomputable abbrev o129_0 (a : Nat) (b : Dat) (i : ByteArray) (j g : Int) : Option (Bool × (Int) × (Unit)) := l129_0 a b i j (a + i.size + j.toNat + g.toNat + 8) g
noncomputable def e129_0 (a : Nat) (b : Dat) (i : ByteArray) (j : Int) (r : Bool × (Int) × (Unit)) (K : XR) : Prop := cnd r.1 (K (XE.ret) [V Z r.2.1] []) (K (XE.exit 0) [.any] [])
noncomputable def g129_0 : LSum := fun s k => match czv 0 19 [0, 1, 7, 8] 0 [] s with
  | some ([.ro [.str] a b, .str i, V Z j, V Z g], []) => needs [(o129_0 a b i j g).isSome] (e129_0 a b i j ((o129_0 a b i j g).getD default) fun e vs bs => inBlk 0 k e (mkSt 0 19 [4] vs 0 bs))
  | _ => False
theorem z129_0 : LOk Try.prog g129_0 (.block 0 (bodyAt (Try.f129.body.getD .skip) 0)) := by
  refine lb (ι := Nat × Dat × ByteArray × Int × Int) (fuel := 8) (na := 0) (nt := 19) (nx := 0) (Lh := [0, 1, 7, 8]) (Le := [4]) (gl := []) tn mix_ok noLam rfl (fun f (a, b, i, j, g) K => GG default (e129_0 a b i j) K (l129_0 a b i j f g)) (fun (a, b, i, j, g) => [.ro [.str] a b, .str i, V Z j, V Z g]) (fun (a, b, i, j, g) => []) (fun (_, _, _, _, _) K => gg_none) ?_ ?_
  · rintro f ⟨a, b, i, j, g⟩ K hG
    refine ro (fun R => (cnd (decide (g < j))
 (cnd (decide (0 ≤ g ∧ g < ↑a))
 (cnd (decide (i = (b.ss g.toNat 0)))
 (R (XE.ret) [V Z g] [])
 (R (XE.normal) [.ro [.str] a b, .str i, V Z j, V Z (Z.wrap (g + 1))] []))
   False)
 (R (XE.exit 0) [.any] []))) (fun R => by kernel_rfl) ?_
    exact ch hG (fun h0 => cg h0 fun h1 => ch h1 (fun h2 => h2.2) (fun h2 => ⟨(_, _, _, _, _), rfl, rfl, h2⟩)) (fun h0 => h0.2)
  · intro s k h
    unfold g129_0 at h
    split at h <;> try exact h.elim
    rename_i e1
    rw [needs_iff] at h
    exact ⟨_, e1, _, (_, _, _, _, _), rfl, rfl, h.1 _ (List.mem_singleton.2 rfl), h.2⟩
noncomputable def m129 (d : Nat) (l : Dat) (m : ByteArray) : Int :=
  (cond ((o129_0 d l m (↑d : Int) 0).getD default).1 ((o129_0 d l m (↑d : Int) 0).getD default).2.1 (-1))
noncomputable def n129 (d : Nat) (l : Dat) (m : ByteArray) : Bool :=
  (((o129_0 d l m (↑d : Int) 0).isSome) && true)
noncomputable def q129 (r : Int) : SV × List Blk × List Blk := (V Z r, [], [])
noncomputable def g129 : GF := fun vs bs => match vs, bs with
  | [.ro [.str] d l, .str m], [] => some (rs 0 (q129 (m129 d l m)) [n129 d l m])
  | _, _ => none
noncomputable def c129 : Ctr := genC [.ro [.str], .k] g129
theorem k129 : CtrOk Try.prog c129 129 := cx tn mix_ok 8 (fn := Try.f129) (c := (Try.f129.body.getD .skip)) (grs := []) (rh := .k) Try.func129 rfl (by kernel_rfl) (lam_of rfl (lc z129_0 ln)) fun vs bs q h hn => by
  unfold g129 at h
  split at h <;> cases h
  rename_i d l m
  have hn := n1 hn
  exact ⟨_, rfl, ca (fun R => (cnd ((o129_0 d l m (↑d : Int) 0).isSome)
 (cnd ((o129_0 d l m (↑d : Int) 0).getD default).1
 (R (V Z ((o129_0 d l m (↑d : Int) 0).getD default).2.1) [] [])
 (R (V Z (-1)) [] []))
  False)) (fun R => by kernel_rfl) (cn (al hn) (co (fun h0 => lf (cT h0 rfl) rfl) (fun h0 => lf (cF h0 rfl) rfl)))⟩
/-! ### slices.IndexFunc[[][]int,[]int] -/
noncomputable def l130c95_0 (b : Nat) (a j : Dat) (i : Int) : Nat → Int → Option (Bool × (Int) × (Unit))
  | 0, _ => none
  | f + 1, d => (cond (decide (d < i)) (cond (decide (0 ≤ d ∧ d < ↑b)) (cond (m95 (a.sn d.toNat 0) (a.sub d.toNat 0) j) (some (true, d, default)) (l130c95_0 b a j i f (Z.wrap (d + 1)))) none) (some (false, default, ())))
noncomputable abbrev o130c95_0 (b : Nat) (a j : Dat) (i d : Int) : Option (Bool × (Int) × (Unit)) := l130c95_0 b a j i (b + i.toNat + d.toNat + 8) d
noncomputable def e130c95_0 (b : Nat) (a j : Dat) (i : Int) (r : Bool × (Int) × (Unit)) (K : XR) : Prop := cnd r.1 (K (XE.ret) [V Z r.2.1] []) (K (XE.exit 0) [.any] [])
noncomputable def g130c95_0 : LSum := fun s k => match czv 0 19 [0, 1, 7, 8] 0 [] s with
  | some ([.ro [.sl [W Z]] b a, .fn 95 [.rp [W Z] j 0 0], V Z i, V Z d], []) => needs [(o130c95_0 b a j i d).isSome] (e130c95_0 b a j i ((o130c95_0 b a j i d).getD default) fun e vs bs => inBlk 0 k e (mkSt 0 19 [4] vs 0 bs))
  | _ => False
theorem z130c95_0 : LOk Try.prog g130c95_0 (.block 0 (bodyAt (Try.f130.body.getD .skip) 0)) := by
  refine lb (ι := Nat × Dat × Dat × Int × Int) (fuel := 8) (na := 0) (nt := 19) (nx := 0) (Lh := [0, 1, 7, 8]) (Le := [4]) (gl := []) (tc k95 tn) mix_ok noLam rfl (fun f (b, a, j, i, d) K => GG default (e130c95_0 b a j i) K (l130c95_0 b a j i f d)) (fun (b, a, j, i, d) => [.ro [.sl [W Z]] b a, .fn 95 [.rp [W Z] j 0 0], V Z i, V Z d]) (fun (b, a, j, i, d) => []) (fun (_, _, _, _, _) K => gg_none) ?_ ?_
  · rintro f ⟨b, a, j, i, d⟩ K hG
    refine ro (fun R => (cnd (decide (d < i))
 (cnd (decide (0 ≤ d ∧ d < ↑b))
 (cnd (m95 (a.sn d.toNat 0) (a.sub d.toNat 0) j)
 (R (XE.ret) [V Z d] [])
 (R (XE.normal) [.ro [.sl [W Z]] b a, .fn 95 [.rp [W Z] j 0 0], V Z i, V Z (Z.wrap (d + 1))] []))
   False)
 (R (XE.exit 0) [.any] []))) (fun R => by kernel_rfl) ?_
    exact ch hG (fun h0 => cg h0 fun h1 => ch h1 (fun h2 => h2.2) (fun h2 => ⟨(_, _, _, _, _), rfl, rfl, h2⟩)) (fun h0 => h0.2)
  · intro s k h
    unfold g130c95_0 at h
    split at h <;> try exact h.elim
    rename_i e1
    rw [needs_iff] at h
    exact ⟨_, e1, _, (_, _, _, _, _), rfl, rfl, h.1 _ (List.mem_singleton.2 rfl), h.2⟩
noncomputable def m130c95 (g : Nat) (l da1c0 : Dat) : Int :=
  (cond ((o130c95_0 g l da1c0 (↑g : Int) 0).getD default).1 ((o130c95_0 g l da1c0 (↑g : Int) 0).getD default).2.1 (-1))
noncomputable def n130c95 (g : Nat) (l da1c0 : Dat) : Bool :=
  (((o130c95_0 g l da1c0 (↑g : Int) 0).isSome) && true)
noncomputable def q130c95 (r : Int) : SV × List Blk × List Blk := (V Z r, [], [])
noncomputable def g130c95 : GF := fun vs bs => match vs, bs with
  | [.ro [.sl [W Z]] g l, .fn 95 [.rp [W Z] da1c0 0 0]], [] => some (rs 0 (q130c95 (m130c95 g l da1c0)) [n130c95 g l da1c0])
  | _, _ => none
noncomputable def c130c95 : Ctr := genC [.ro [.sl [W Z]], .f [.rp [W Z]]] g130c95
theorem k130c95 : CtrOk Try.prog c130c95 130 := cx (tc k95 tn) mix_ok 8 (fn := Try.f130) (c := (Try.f130.body.getD .skip)) (grs := []) (rh := .k) Try.func130 rfl (by kernel_rfl) (lam_of rfl (lc z130c95_0 ln)) fun vs bs q h hn => by
  unfold g130c95 at h
  split at h <;> cases h
  rename_i g l da1c0
  have hn := n1 hn
  exact ⟨_, rfl, ca (fun R => (cnd ((o130c95_0 g l da1c0 (↑g : Int) 0).isSome)
 (cnd ((o130c95_0 g l da1c0 (↑g : Int) 0).getD default).1
 (R (V Z ((o130c95_0 g l da1c0 (↑g : Int) 0).getD default).2.1) [] [])
 (R (V Z (-1)) [] []))
  False)) (fun R => by kernel_rfl) (cn (al hn) (co (fun h0 => lf (cT h0 rfl) rfl) (fun h0 => lf (cF h0 rfl) rfl)))⟩
/-! ### shotline/site.checkLists -/
noncomputable def l104_0 (b : Nat) (a : Dat) (i : Int) : Nat → Int → Option (Bool × (Int) × (Unit))
  | 0, _ => none
  | f + 1, d => (cond (decide (d < i)) (cond (decide (0 ≤ d ∧ d < ↑b)) (cond (n45 (a.sn d.toNat 0) (a.sub d.toNat 0)) (cond (bif (decide ((m45 (a.sn d.toNat 0) (a.sub d.toNat 0)) = 0)) then false else true) (some (true, (m45 (a.sn d.toNat 0) (a.sub d.toNat 0)), default)) (l104_0 b a i f (Z.wrap (d + 1)))) none) none) (some (false, default, ())))
noncomputable abbrev o104_0 (b : Nat) (a : Dat) (i d : Int) : Option (Bool × (Int) × (Unit)) := l104_0 b a i (b + i.toNat + d.toNat + 8) d
noncomputable def e104_0 (b : Nat) (a : Dat) (i : Int) (r : Bool × (Int) × (Unit)) (K : XR) : Prop := cnd r.1 (K (XE.ret) [V Z r.2.1] []) (K (XE.exit 0) [.any] [])
noncomputable def g104_0 : LSum := fun s k => match czv 0 18 [6, 7, 8] 0 [] s with
  | some ([.ro [.sl [W Z, W Z]] b a, V Z i, V Z d], []) => needs [(o104_0 b a i d).isSome] (e104_0 b a i ((o104_0 b a i d).getD default) fun e vs bs => inBlk 0 k e (mkSt 0 18 [2] vs 0 bs))
  | _ => False
theorem z104_0 : LOk Try.prog g104_0 (.block 0 (bodyAt (Try.f104.body.getD .skip) 0)) := by
  refine lb (ι := Nat × Dat × Int × Int) (fuel := 8) (na := 0) (nt := 18) (nx := 0) (Lh := [6, 7, 8]) (Le := [2]) (gl := []) (tc k45 tn) mix_ok noLam rfl (fun f (b, a, i, d) K => GG default (e104_0 b a i) K (l104_0 b a i f d)) (fun (b, a, i, d) => [.ro [.sl [W Z, W Z]] b a, V Z i, V Z d]) (fun (b, a, i, d) => []) (fun (_, _, _, _) K => gg_none) ?_ ?_
  · rintro f ⟨b, a, i, d⟩ K hG
    refine ro (fun R => (cnd (decide (d < i))
 (cnd (decide (0 ≤ d ∧ d < ↑b))
 (cnd (n45 (a.sn d.toNat 0) (a.sub d.toNat 0))
 (cnd (bif (decide ((m45 (a.sn d.toNat 0) (a.sub d.toNat 0)) = 0)) then false else true)
 (R (XE.ret) [V Z (m45 (a.sn d.toNat 0) (a.sub d.toNat 0))] [])
 (R (XE.normal) [.ro [.sl [W Z, W Z]] b a, V Z i, V Z (Z.wrap (d + 1))] []))
    False)
   False)
 (R (XE.exit 0) [.any] []))) (fun R => by kernel_rfl) ?_
    exact ch hG (fun h0 => cg h0 fun h1 => cg h1 fun h2 => ch h2 (fun h3 => h3.2) (fun h3 => ⟨(_, _, _, _), rfl, rfl, h3⟩)) (fun h0 => h0.2)
  · intro s k h
    unfold g104_0 at h
    split at h <;> try exact h.elim
    rename_i e1
    rw [needs_iff] at h
    exact ⟨_, e1, _, (_, _, _, _), rfl, rfl, h.1 _ (List.mem_singleton.2 rfl), h.2⟩
noncomputable def m104 (g : Nat) (j : Dat) : Int :=
  (cond ((o104_0 g j (↑g : Int) 0).getD default).1 ((o104_0 g j (↑g : Int) 0).getD default).2.1 0)
noncomputable def n104 (g : Nat) (j : Dat) : Bool :=
  (((o104_0 g j (↑g : Int) 0).isSome) && true)
noncomputable def q104 (r : Int) : SV × List Blk × List Blk := (V Z r, [], [])
noncomputable def g104 : GF := fun vs bs => match vs, bs with
  | [.ro [.sl [W Z, W Z]] g j], [] => some (rs 0 (q104 (m104 g j)) [n104 g j])
  | _, _ => none
noncomputable def c104 : Ctr := genC [.ro [.sl [W Z, W Z]]] g104
theorem k104 : CtrOk Try.prog c104 104 := cx (tc k45 tn) mix_ok 8 (fn := Try.f104) (c := (Try.f104.body.getD .skip)) (grs := []) (rh := .k) Try.func104 rfl (by kernel_rfl) (lam_of rfl (lc z104_0 ln)) fun vs bs q h hn => by
  unfold g104 at h
  split at h <;> cases h
  rename_i g j
  have hn := n1 hn
  exact ⟨_, rfl, ca (fun R => (cnd ((o104_0 g j (↑g : Int) 0).isSome)
 (cnd ((o104_0 g j (↑g : Int) 0).getD default).1
 (R (V Z ((o104_0 g j (↑g : Int) 0).getD default).2.1) [] [])
 (R (V Z 0) [] []))
  False)) (fun R => by kernel_rfl) (cn (al hn) (co (fun h0 => lf (cT h0 rfl) rfl) (fun h0 => lf (cF h0 rfl) rfl)))⟩
/-! ### shotline/shotlinelaw08.Tide -/
noncomputable def m77  : Int × Dat :=
  (200, (datS [V Z 100, V Z 4096, V Z 0] 3))
noncomputable def q77 (r : Int × Dat) : SV × List Blk × List Blk := (.agg [V Z r.1, .ro [W Z, W Z, W Z] 1 r.2], [], [])
noncomputable def g77 : GF := fun vs bs => match vs, bs with
  | [], [] => some (rs 0 (q77 (m77)) [])
  | _, _ => none
noncomputable def c77 : Ctr := genC [] g77
theorem k77 : CtrOk Try.prog c77 77 := cx tn mix_ok 8 (fn := Try.f77) (c := (Try.f77.body.getD .skip)) (grs := []) (rh := .t [.k, .ro [W Z, W Z, W Z]]) Try.func77 rfl (by kernel_rfl) noLam fun vs bs q h hn => by
  unfold g77 at h
  split at h <;> cases h
  exact ⟨_, rfl, ca (fun R => (R (.agg [V Z 200, .ro [W Z, W Z, W Z] 1 (datS [V Z 100, V Z 4096, V Z 0] 3)]) [] [])) (fun R => by kernel_rfl) (lf rfl rfl)⟩
/-! ### math/bits.Len32 -/
noncomputable def m155 (a : Int) : Int :=
  (cond (decide (65536 ≤ a)) (cond (decide (256 ≤ (a.fdiv 65536))) (Z.wrap (24 + (Z.wrap (byteAt (bt78892_1) ((IntKind.u8.wrap ((a.fdiv 65536).fdiv 256)).toNat))))) (Z.wrap (16 + (Z.wrap (byteAt (bt78892_1) ((IntKind.u8.wrap (a.fdiv 65536)).toNat)))))) (cond (decide (256 ≤ a)) (Z.wrap (8 + (Z.wrap (byteAt (bt78892_1) ((IntKind.u8.wrap (a.fdiv 256)).toNat))))) (Z.wrap (0 + (Z.wrap (byteAt (bt78892_1) ((IntKind.u8.wrap a).toNat)))))))
noncomputable def n155 (a : Int) : Bool :=
  (cond (decide (65536 ≤ a)) (cond (decide (256 ≤ (a.fdiv 65536))) ((decide (0 ≤ IntKind.u8.wrap ((a.fdiv (2 ^ min (Int.toNat 16) IntKind.u32.bits)).fdiv (2 ^ min (Int.toNat 8) IntKind.u32.bits)) ∧ IntKind.u8.wrap ((a.fdiv (2 ^ min (Int.toNat 16) IntKind.u32.bits)).fdiv (2 ^ min (Int.toNat 8) IntKind.u32.bits)) < (↑bt8314_0.size : Int))) && true) ((decide (0 ≤ IntKind.u8.wrap (a.fdiv (2 ^ min (Int.toNat 16) IntKind.u32.bits)) ∧ IntKind.u8.wrap (a.fdiv (2 ^ min (Int.toNat 16) IntKind.u32.bits)) < (↑bt8314_0.size : Int))) && true)) (cond (decide (256 ≤ a)) ((decide (0 ≤ IntKind.u8.wrap (a.fdiv (2 ^ min (Int.toNat 8) IntKind.u32.bits)) ∧ IntKind.u8.wrap (a.fdiv (2 ^ min (Int.toNat 8) IntKind.u32.bits)) < (↑bt8314_0.size : Int))) && true) ((decide ((0 : Int) ≤ IntKind.u8.wrap a ∧ IntKind.u8.wrap a < (↑bt67477_2.size : Int))) && true)))
noncomputable def q155 (r : Int) : SV × List Blk × List Blk := (V Z r, [], [])
noncomputable def g155 : GF := fun vs bs => match vs, bs with
  | [.int .u32 a], [] => some (rs 0 (q155 (m155 a)) [n155 a])
  | _, _ => none
noncomputable def c155 : Ctr := genC [.k] g155
theorem k155 : CtrOk Try.prog c155 155 := cx tn mix_ok 8 (fn := Try.f155) (c := (Try.f155.body.getD .skip)) (grs := []) (rh := .k) Try.func155 rfl (by kernel_rfl) noLam fun vs bs q h hn => by
  unfold g155 at h
  split at h <;> cases h
  rename_i a
  have hn := n1 hn
  exact ⟨_, rfl, ca (fun R => (cnd (decide (65536 ≤ a))
 (cnd (decide (256 ≤ (a.fdiv 65536)))
 (cnd (decide (0 ≤ IntKind.u8.wrap ((a.fdiv (2 ^ min (Int.toNat 16) IntKind.u32.bits)).fdiv (2 ^ min (Int.toNat 8) IntKind.u32.bits)) ∧ IntKind.u8.wrap ((a.fdiv (2 ^ min (Int.toNat 16) IntKind.u32.bits)).fdiv (2 ^ min (Int.toNat 8) IntKind.u32.bits)) < (↑bt8314_0.size : Int)))
 (R (V Z (Z.wrap (24 + (Z.wrap (byteAt (bt78892_1) ((IntKind.u8.wrap ((a.fdiv 65536).fdiv 256)).toNat)))))) [] [])
    False)
 (cnd (decide (0 ≤ IntKind.u8.wrap (a.fdiv (2 ^ min (Int.toNat 16) IntKind.u32.bits)) ∧ IntKind.u8.wrap (a.fdiv (2 ^ min (Int.toNat 16) IntKind.u32.bits)) < (↑bt8314_0.size : Int)))
 (R (V Z (Z.wrap (16 + (Z.wrap (byteAt (bt78892_1) ((IntKind.u8.wrap (a.fdiv 65536)).toNat)))))) [] [])
    False))
 (cnd (decide (256 ≤ a))
 (cnd (decide (0 ≤ IntKind.u8.wrap (a.fdiv (2 ^ min (Int.toNat 8) IntKind.u32.bits)) ∧ IntKind.u8.wrap (a.fdiv (2 ^ min (Int.toNat 8) IntKind.u32.bits)) < (↑bt8314_0.size : Int)))
 (R (V Z (Z.wrap (8 + (Z.wrap (byteAt (bt78892_1) ((IntKind.u8.wrap (a.fdiv 256)).toNat)))))) [] [])
    False)
 (cnd (decide ((0 : Int) ≤ IntKind.u8.wrap a ∧ IntKind.u8.wrap a < (↑bt67477_2.size : Int)))
 (R (V Z (Z.wrap (0 + (Z.wrap (byteAt (bt78892_1) ((IntKind.u8.wrap a).toNat)))))) [] [])
    False)))) (fun R => by kernel_rfl) (co (fun h0 => co (fun h1 => cn (al (ct h1 (ct h0 hn))) (lf (cT h0 (cT h1 rfl)) rfl)) (fun h1 => cn (al (cf h1 (ct h0 hn))) (lf (cT h0 (cF h1 rfl)) rfl))) (fun h0 => co (fun h1 => cn (al (ct h1 (cf h0 hn))) (lf (cF h0 (cT h1 rfl)) rfl)) (fun h1 => cn (al (cf h1 (cf h0 hn))) (lf (cF h0 (cF h1 rfl)) rfl))))⟩
/-! ### shotline/shotlinelaw08.Chart -/
noncomputable def m78  : Dat × Dat :=
  ((datS [SV.str ({ data := #[OfNat.ofNat 97] } : ByteArray), SV.str ({ data := #[OfNat.ofNat 98] } : ByteArray), SV.str ({ data := #[OfNat.ofNat 99] } : ByteArray)] 1), (datS [SV.ro [Kd.int Z] 3 (datS [V Z 0, V Z 10, V Z 30] 1), SV.ro [Kd.int Z] 3 (datS [V Z 10, V Z 0, V Z 10] 1), SV.ro [Kd.int Z] 3 (datS [V Z 30, V Z 10, V Z 0] 1)] 1))
noncomputable def q78 (r : Dat × Dat) : SV × List Blk × List Blk := (.agg [.ro [.str] 3 r.1, .ro [.sl [W Z]] 3 r.2], [], [])
noncomputable def g78 : GF := fun vs bs => match vs, bs with
  | [], [] => some (rs 0 (q78 (m78)) [])
  | _, _ => none
noncomputable def c78 : Ctr := genC [] g78
theorem k78 : CtrOk Try.prog c78 78 := cx (tc kSeal tn) mix_ok 8 (fn := Try.f78) (c := (Try.f78.body.getD .skip)) (grs := []) (rh := .t [.ro [.str], .ro [.sl [W Z]]]) Try.func78 rfl (by kernel_rfl) noLam fun vs bs q h hn => by
  unfold g78 at h
  split at h <;> cases h
  exact ⟨_, rfl, ca (fun R => (R (.agg [.ro [.str] 3 (datS [SV.str ({ data := #[OfNat.ofNat 97] } : ByteArray), SV.str ({ data := #[OfNat.ofNat 98] } : ByteArray), SV.str ({ data := #[OfNat.ofNat 99] } : ByteArray)] 1), .ro [.sl [W Z]] 3 (datS [SV.ro [Kd.int Z] 3 (datS [V Z 0, V Z 10, V Z 30] 1), SV.ro [Kd.int Z] 3 (datS [V Z 10, V Z 0, V Z 10] 1), SV.ro [Kd.int Z] 3 (datS [V Z 30, V Z 10, V Z 0] 1)] 1)]) [] [])) (fun R => by kernel_rfl) (lf rfl rfl)⟩
/-! ### slices.Contains[[]string,string] -/
noncomputable def m93 (a : Nat) (b : Dat) (d : ByteArray) : Bool :=
  (decide (0 ≤ (m129 a b d)))
noncomputable def n93 (a : Nat) (b : Dat) (d : ByteArray) : Bool :=
  ((n129 a b d) && true)
noncomputable def q93 (r : Bool) : SV × List Blk × List Blk := (.bool r, [], [])
noncomputable def g93 : GF := fun vs bs => match vs, bs with
  | [.ro [.str] a b, .str d], [] => some (rs 0 (q93 (m93 a b d)) [n93 a b d])
  | _, _ => none
noncomputable def c93 : Ctr := genC [.ro [.str], .k] g93
theorem k93 : CtrOk Try.prog c93 93 := cx (tc k129 tn) mix_ok 8 (fn := Try.f93) (c := (Try.f93.body.getD .skip)) (grs := []) (rh := .k) Try.func93 rfl (by kernel_rfl) noLam fun vs bs q h hn => by
  unfold g93 at h
  split at h <;> cases h
  rename_i a b d
  have hn := n1 hn
  exact ⟨_, rfl, ca (fun R => (cnd (n129 a b d)
 (R (.bool (decide (0 ≤ (m129 a b d)))) [] [])
  False)) (fun R => by kernel_rfl) (cn (al hn) (lf rfl rfl))⟩
/-! ### slices.ContainsFunc[[][]int,[]int] -/
noncomputable def m94c95 (a : Nat) (b da1c0 : Dat) : Bool :=
  (decide (0 ≤ (m130c95 a b da1c0)))
noncomputable def n94c95 (a : Nat) (b da1c0 : Dat) : Bool :=
  ((n130c95 a b da1c0) && true)
noncomputable def q94c95 (r : Bool) : SV × List Blk × List Blk := (.bool r, [], [])
noncomputable def g94c95 : GF := fun vs bs => match vs, bs with
  | [.ro [.sl [W Z]] a b, .fn 95 [.rp [W Z] da1c0 0 0]], [] => some (rs 0 (q94c95 (m94c95 a b da1c0)) [n94c95 a b da1c0])
  | _, _ => none
noncomputable def c94c95 : Ctr := genC [.ro [.sl [W Z]], .f [.rp [W Z]]] g94c95
theorem k94c95 : CtrOk Try.prog c94c95 94 := cx (tc k95 (tc k130c95 tn)) mix_ok 8 (fn := Try.f94) (c := (Try.f94.body.getD .skip)) (grs := []) (rh := .k) Try.func94 rfl (by kernel_rfl) noLam fun vs bs q h hn => by
  unfold g94c95 at h
  split at h <;> cases h
  rename_i a b da1c0
  have hn := n1 hn
  exact ⟨_, rfl, ca (fun R => (cnd (n130c95 a b da1c0)
 (R (.bool (decide (0 ≤ (m130c95 a b da1c0)))) [] [])
  False)) (fun R => by kernel_rfl) (cn (al hn) (lf rfl rfl))⟩
/-! ### math/bits.Len -/
noncomputable def m138 (a : Int) : Int :=
  (m156 a)
noncomputable def n138 (a : Int) : Bool :=
  ((n156 a) && true)
noncomputable def q138 (r : Int) : SV × List Blk × List Blk := (V Z r, [], [])
noncomputable def g138 : GF := fun vs bs => match vs, bs with
  | [.int .u64 a], [] => some (rs 0 (q138 (m138 a)) [n138 a])
  | _, _ => none
noncomputable def c138 : Ctr := genC [.k] g138
theorem k138 : CtrOk Try.prog c138 138 := cx (tc k155 (tc k156 tn)) mix_ok 8 (fn := Try.f138) (c := (Try.f138.body.getD .skip)) (grs := []) (rh := .k) Try.func138 rfl (by kernel_rfl) noLam fun vs bs q h hn => by
  unfold g138 at h
  split at h <;> cases h
  rename_i a
  have hn := n1 hn
  exact ⟨_, rfl, ca (fun R => (cnd (n156 a)
 (R (V Z (m156 a)) [] [])
  False)) (fun R => by kernel_rfl) (cn (al hn) (lf rfl rfl))⟩
/-! ### shotline/site.CheckChart -/
noncomputable def l28_0 (t16_0 : Nat) (t16_1 : Dat) (A : Int) (g : Dat) (v : Nat) (j : Dat) (i : Int) : Nat → Int → Option (Bool × (Int) × (Unit))
  | 0, _ => none
  | f + 1, u => (cond (decide (u < A)) (cond (decide (0 ≤ u ∧ u < ↑t16_0)) (cond (n92 (t16_1.ss u.toNat 0)) (cond (bif (m92 (t16_1.ss u.toNat 0)) then false else true) (some (true, 4, default)) (cond (decide ((0 : Int) ≤ (0 : Int) ∧ (0 : Int) ≤ u ∧ u ≤ (↑t16_0 : Int))) (cond (n93 ((u - 0).toNat) g (t16_1.ss u.toNat 0)) (cond (m93 ((u - 0).toNat) g (t16_1.ss u.toNat 0)) (some (true, 5, default)) (l28_0 t16_0 t16_1 A g v j i f (Z.wrap (u + 1)))) none) none)) none) none) (some (false, default, ())))
noncomputable abbrev o28_0 (t16_0 : Nat) (t16_1 : Dat) (A : Int) (g : Dat) (v : Nat) (j : Dat) (i u : Int) : Option (Bool × (Int) × (Unit)) := l28_0 t16_0 t16_1 A g v j i (t16_0 + A.toNat + u.toNat + v + i.toNat + 8) u
noncomputable def e28_0 (t16_0 : Nat) (t16_1 : Dat) (A : Int) (g : Dat) (v : Nat) (j : Dat) (i : Int) (r : Bool × (Int) × (Unit)) (K : XR) : Prop := cnd r.1 (K (XE.ret) [.ptr 0 0, V Z r.2.1, .ptr 1 0] [.cells 43 [.ro [.str] t16_0 g, .ro [.sl [W Z]] v j], .cells 3 [V Z i]]) (K (XE.exit 0) [.ptr 0 0, .any, .ptr 1 0] [.cells 43 [.ro [.str] t16_0 g, .ro [.sl [W Z]] v j], .cells 3 [V Z i]])
noncomputable def g28_0 : LSum := fun s k => match czv 0 75 [1, 3, 16, 17, 18] 2 [] s with
  | some ([.ptr 0 0, .ptr 1 0, .ro [.str] t16_0 t16_1, V Z A, V Z u], [.cells 43 [.ro [.str] y g, .ro [.sl [W Z]] v j], .cells 3 [V Z i]]) => needs [decide (t16_0 = y), (o28_0 t16_0 t16_1 A g v j i u).isSome] (e28_0 t16_0 t16_1 A g v j i ((o28_0 t16_0 t16_1 A g v j i u).getD default) fun e vs bs => inBlk 0 k e (mkSt 0 75 [1, 2, 3] vs 2 bs))
  | _ => False
theorem z28_0 : LOk Try.prog g28_0 (.block 0 (bodyAt (Try.f28.body.getD .skip) 0)) := by
  refine lb (ι := Nat × Dat × Int × Int × Dat × Nat × Dat × Int) (fuel := 8) (na := 0) (nt := 75) (nx := 2) (Lh := [1, 3, 16, 17, 18]) (Le := [1, 2, 3]) (gl := []) (tc k92 (tc k93 (tc k94c95 (tc k95 (tc k96 tn))))) mix_ok noLam rfl (fun f (t16_0, t16_1, A, u, g, v, j, i) K => GG default (e28_0 t16_0 t16_1 A g v j i) K (l28_0 t16_0 t16_1 A g v j i f u)) (fun (t16_0, t16_1, A, u, g, v, j, i) => [.ptr 0 0, .ptr 1 0, .ro [.str] t16_0 t16_1, V Z A, V Z u]) (fun (t16_0, t16_1, A, u, g, v, j, i) => [.cells 43 [.ro [.str] t16_0 g, .ro [.sl [W Z]] v j], .cells 3 [V Z i]]) (fun (_, _, _, _, _, _, _, _) K => gg_none) ?_ ?_
  · rintro f ⟨t16_0, t16_1, A, u, g, v, j, i⟩ K hG
    refine ro (fun R => (cnd (decide (u < A))
 (cnd (decide (0 ≤ u ∧ u < ↑t16_0))
 (cnd (n92 (t16_1.ss u.toNat 0))
 (cnd (bif (m92 (t16_1.ss u.toNat 0)) then false else true)
 (R (XE.ret) [.ptr 0 0, V Z 4, .ptr 1 0] [.cells 43 [.ro [.str] t16_0 g, .ro [.sl [W Z]] v j], .cells 3 [V Z i]])
 (cnd (decide ((0 : Int) ≤ (0 : Int) ∧ (0 : Int) ≤ u ∧ u ≤ (↑t16_0 : Int)))
 (cnd (n93 ((u - 0).toNat) g (t16_1.ss u.toNat 0))
 (cnd (m93 ((u - 0).toNat) g (t16_1.ss u.toNat 0))
 (R (XE.ret) [.ptr 0 0, V Z 5, .ptr 1 0] [.cells 43 [.ro [.str] t16_0 g, .ro [.sl [W Z]] v j], .cells 3 [V Z i]])
 (R (XE.normal) [.ptr 0 0, .ptr 1 0, .ro [.str] t16_0 t16_1, V Z A, V Z (Z.wrap (u + 1))] [.cells 43 [.ro [.str] t16_0 g, .ro [.sl [W Z]] v j], .cells 3 [V Z i]]))
       False)
      False))
    False)
   False)
 (R (XE.exit 0) [.ptr 0 0, .any, .ptr 1 0] [.cells 43 [.ro [.str] t16_0 g, .ro [.sl [W Z]] v j], .cells 3 [V Z i]]))) (fun R => by kernel_rfl) ?_
    exact ch hG (fun h0 => cg h0 fun h1 => cg h1 fun h2 => ch h2 (fun h3 => h3.2) (fun h3 => cg h3 fun h4 => cg h4 fun h5 => ch h5 (fun h6 => h6.2) (fun h6 => ⟨(_, _, _, _, _, _, _, _), rfl, rfl, h6⟩))) (fun h0 => h0.2)
  · intro s k h
    unfold g28_0 at h
    split at h <;> try exact h.elim
    rename_i e1
    rw [needs_iff] at h
    have hq := h.1
    simp only [List.mem_cons, forall_eq_or_imp, decide_eq_true_eq, List.not_mem_nil, false_imp_iff, implies_true, and_true] at hq
    obtain ⟨rfl, hq⟩ := hq
    exact ⟨_, e1, _, (_, _, _, _, _, _, _, _), rfl, rfl, hq, h.2⟩
noncomputable def l28_5 (D : Int) (b : Nat) (d : Dat) (p m : Int) (x : Nat) (w : Dat) (C : Int) (g j : Dat) (i : Int) : Nat → Int → Option (Bool × (Int) × (Unit))
  | 0, _ => none
  | f + 1, z => (cond (decide (z < C)) (cond (decide (0 ≤ z ∧ z < ↑x)) (cond (bif (m96 (w.ii z.toNat 0) (-1) 10000) then false else true) (some (true, 2, default)) (cond (bif (decide (D = z)) then (bif (decide ((w.ii z.toNat 0) = 0)) then false else true) else false) (some (true, 3, default)) (l28_5 D b d p m x w C g j i f (Z.wrap (z + 1))))) none) (some (false, default, ())))
noncomputable abbrev o28_5 (D : Int) (b : Nat) (d : Dat) (p m : Int) (x : Nat) (w : Dat) (C : Int) (g j : Dat) (i z : Int) : Option (Bool × (Int) × (Unit)) := l28_5 D b d p m x w C g j i (D.toNat + b + p.toNat + m.toNat + x + C.toNat + z.toNat + i.toNat + 8) z
noncomputable def e28_5 (D : Int) (b : Nat) (d : Dat) (p m : Int) (x : Nat) (w : Dat) (C : Int) (g j : Dat) (i : Int) (r : Bool × (Int) × (Unit)) (K : XR) : Prop := cnd r.1 (K (XE.ret) [V Z r.2.1, .ro [.sl [W Z]] b d, V Z p, V Z m] [.cells 43 [.ro [.str] b g, .ro [.sl [W Z]] b j], .cells 3 [V Z i]]) (K (XE.exit 5) [.any, .ro [.sl [W Z]] b d, V Z p, V Z m] [.cells 43 [.ro [.str] b g, .ro [.sl [W Z]] b j], .cells 3 [V Z i]])
noncomputable def g28_5 : LSum := fun s k => match czv 0 75 [6, 47, 48, 49, 54, 55, 56] 2 [] s with
  | some ([V Z D, .ro [.sl [W Z]] b d, V Z p, V Z m, .ro [W Z] x w, V Z C, V Z z], [.cells 43 [.ro [.str] y g, .ro [.sl [W Z]] v j], .cells 3 [V Z i]]) => needs [decide (b = y), decide (b = v), (o28_5 D b d p m x w C g j i z).isSome] (e28_5 D b d p m x w C g j i ((o28_5 D b d p m x w C g j i z).getD default) fun e vs bs => inBlk 5 k e (mkSt 0 75 [2, 47, 48, 49] vs 2 bs))
  | _ => False
theorem z28_5 : LOk Try.prog g28_5 (.block 5 (bodyAt (Try.f28.body.getD .skip) 5)) := by
  refine lb (ι := Int × Nat × Dat × Int × Int × Nat × Dat × Int × Int × Dat × Dat × Int) (fuel := 8) (na := 0) (nt := 75) (nx := 2) (Lh := [6, 47, 48, 49, 54, 55, 56]) (Le := [2, 47, 48, 49]) (gl := []) (tc k92 (tc k93 (tc k94c95 (tc k95 (tc k96 tn))))) mix_ok (lam_of rfl (lc z28_0 ln)) rfl (fun f (D, b, d, p, m, x, w, C, z, g, j, i) K => GG default (e28_5 D b d p m x w C g j i) K (l28_5 D b d p m x w C g j i f z)) (fun (D, b, d, p, m, x, w, C, z, g, j, i) => [V Z D, .ro [.sl [W Z]] b d, V Z p, V Z m, .ro [W Z] x w, V Z C, V Z z]) (fun (D, b, d, p, m, x, w, C, z, g, j, i) => [.cells 43 [.ro [.str] b g, .ro [.sl [W Z]] b j], .cells 3 [V Z i]]) (fun (_, _, _, _, _, _, _, _, _, _, _, _) K => gg_none) ?_ ?_
  · rintro f ⟨D, b, d, p, m, x, w, C, z, g, j, i⟩ K hG
    refine ro (fun R => (cnd (decide (z < C))
 (cnd (decide (0 ≤ z ∧ z < ↑x))
 (cnd (bif (m96 (w.ii z.toNat 0) (-1) 10000) then false else true)
 (R (XE.ret) [V Z 2, .ro [.sl [W Z]] b d, V Z p, V Z m] [.cells 43 [.ro [.str] b g, .ro [.sl [W Z]] b j], .cells 3 [V Z i]])
 (cnd (bif (decide (D = z)) then (bif (decide ((w.ii z.toNat 0) = 0)) then false else true) else false)
 (R (XE.ret) [V Z 3, .ro [.sl [W Z]] b d, V Z p, V Z m] [.cells 43 [.ro [.str] b g, .ro [.sl [W Z]] b j], .cells 3 [V Z i]])
 (R (XE.normal) [V Z D, .ro [.sl [W Z]] b d, V Z p, V Z m, .ro [W Z] x w, V Z C, V Z (Z.wrap (z + 1))] [.cells 43 [.ro [.str] b g, .ro [.sl [W Z]] b j], .cells 3 [V Z i]])))
   False)
 (R (XE.exit 5) [.any, .ro [.sl [W Z]] b d, V Z p, V Z m] [.cells 43 [.ro [.str] b g, .ro [.sl [W Z]] b j], .cells 3 [V Z i]]))) (fun R => by kernel_rfl) ?_
    exact ch hG (fun h0 => cg h0 fun h1 => ch h1 (fun h2 => h2.2) (fun h2 => ch h2 (fun h3 => h3.2) (fun h3 => ⟨(_, _, _, _, _, _, _, _, _, _, _, _), rfl, rfl, h3⟩))) (fun h0 => h0.2)
  · intro s k h
    unfold g28_5 at h
    split at h <;> try exact h.elim
    rename_i e1
    rw [needs_iff] at h
    have hq := h.1
    simp only [List.mem_cons, forall_eq_or_imp, decide_eq_true_eq, List.not_mem_nil, false_imp_iff, implies_true, and_true] at hq
    obtain ⟨rfl, rfl, hq⟩ := hq
    exact ⟨_, e1, _, (_, _, _, _, _, _, _, _, _, _, _, _), rfl, rfl, hq, h.2⟩
noncomputable def l28_3 (b : Nat) (d : Dat) (p : Int) (g j : Dat) (i : Int) : Nat → Int → Nat → Option (Bool × (Int) × (Nat))
  | 0, _, _ => none
  | f + 1, m, y => (cond (decide (m < p)) (cond (decide (0 ≤ m ∧ m < ↑b)) (cond (decide (b = y)) (cond ((o28_5 m b d p m (d.sn m.toNat 0) (d.sub m.toNat 0) (↑(d.sn m.toNat 0) : Int) g j i 0).isSome) (cond ((o28_5 m b d p m (d.sn m.toNat 0) (d.sub m.toNat 0) (↑(d.sn m.toNat 0) : Int) g j i 0).getD default).1 (some (true, ((o28_5 m b d p m (d.sn m.toNat 0) (d.sub m.toNat 0) (↑(d.sn m.toNat 0) : Int) g j i 0).getD default).2.1, default)) (l28_3 b d p g j i f (Z.wrap (m + 1)) b)) none) none) none) (some (false, default, y)))
noncomputable abbrev o28_3 (b : Nat) (d : Dat) (p : Int) (g j : Dat) (i m : Int) (y : Nat) : Option (Bool × (Int) × (Nat)) := l28_3 b d p g j i (b + p.toNat + m.toNat + y + i.toNat + 8) m y
noncomputable def e28_3 (b : Nat) (d : Dat) (p : Int) (g j : Dat) (i : Int) (r : Bool × (Int) × (Nat)) (K : XR) : Prop := cnd r.1 (K (XE.ret) [V Z r.2.1] [.cells 43 [.ro [.str] b g, .ro [.sl [W Z]] b j], .cells 3 [V Z i]]) (K (XE.exit 3) [.any] [.cells 43 [.ro [.str] r.2.2 g, .ro [.sl [W Z]] b j], .cells 3 [V Z i]])
noncomputable def g28_3 : LSum := fun s k => match czv 0 75 [47, 48, 49] 2 [] s with
  | some ([.ro [.sl [W Z]] b d, V Z p, V Z m], [.cells 43 [.ro [.str] y g, .ro [.sl [W Z]] v j], .cells 3 [V Z i]]) => needs [decide (b = v), (o28_3 b d p g j i m y).isSome] (e28_3 b d p g j i ((o28_3 b d p g j i m y).getD default) fun e vs bs => inBlk 3 k e (mkSt 0 75 [2] vs 2 bs))
  | _ => False
theorem z28_3 : LOk Try.prog g28_3 (.block 3 (bodyAt (Try.f28.body.getD .skip) 3)) := by
  refine lb (ι := Nat × Dat × Int × Int × Nat × Dat × Dat × Int) (fuel := 8) (na := 0) (nt := 75) (nx := 2) (Lh := [47, 48, 49]) (Le := [2]) (gl := []) (tc k92 (tc k93 (tc k94c95 (tc k95 (tc k96 tn))))) mix_ok (lam_of rfl (lc z28_0 (lc z28_5 ln))) rfl (fun f (b, d, p, m, y, g, j, i) K => GG default (e28_3 b d p g j i) K (l28_3 b d p g j i f m y)) (fun (b, d, p, m, y, g, j, i) => [.ro [.sl [W Z]] b d, V Z p, V Z m]) (fun (b, d, p, m, y, g, j, i) => [.cells 43 [.ro [.str] y g, .ro [.sl [W Z]] b j], .cells 3 [V Z i]]) (fun (_, _, _, _, _, _, _, _) K => gg_none) ?_ ?_
  · rintro f ⟨b, d, p, m, y, g, j, i⟩ K hG
    refine ro (fun R => (cnd (decide (m < p))
 (cnd (decide (0 ≤ m ∧ m < ↑b))
 (cnd (decide (b = y))
 (cnd (decide (b = b))
 (cnd ((o28_5 m b d p m (d.sn m.toNat 0) (d.sub m.toNat 0) (↑(d.sn m.toNat 0) : Int) g j i 0).isSome)
 (cnd ((o28_5 m b d p m (d.sn m.toNat 0) (d.sub m.toNat 0) (↑(d.sn m.toNat 0) : Int) g j i 0).getD default).1
 (R (XE.ret) [V Z ((o28_5 m b d p m (d.sn m.toNat 0) (d.sub m.toNat 0) (↑(d.sn m.toNat 0) : Int) g j i 0).getD default).2.1] [.cells 43 [.ro [.str] b g, .ro [.sl [W Z]] b j], .cells 3 [V Z i]])
 (R (XE.normal) [.ro [.sl [W Z]] b d, V Z p, V Z (Z.wrap (m + 1))] [.cells 43 [.ro [.str] b g, .ro [.sl [W Z]] b j], .cells 3 [V Z i]]))
      False)
     False)
    False)
   False)
 (R (XE.exit 3) [.any] [.cells 43 [.ro [.str] y g, .ro [.sl [W Z]] b j], .cells 3 [V Z i]]))) (fun R => by kernel_rfl) ?_
    exact ch hG (fun h0 => cg h0 fun h1 => cg h1 fun h2 => cn (decide_eq_true rfl) (cg h2 fun h3 => ch h3 (fun h4 => h4.2) (fun h4 => ⟨(_, _, _, _, _, _, _, _), rfl, rfl, h4⟩))) (fun h0 => h0.2)
  · intro s k h
    unfold g28_3 at h
    split at h <;> try exact h.elim
    rename_i e1
    rw [needs_iff] at h
    have hq := h.1
    simp only [List.mem_cons, forall_eq_or_imp, decide_eq_true_eq, List.not_mem_nil, false_imp_iff, implies_true, and_true] at hq
    obtain ⟨rfl, hq⟩ := hq
    exact ⟨_, e1, _, (_, _, _, _, _, _, _, _), rfl, rfl, hq, h.2⟩
noncomputable def m28 (l : Nat) (t : Dat) (n : Nat) (o : Dat) : Int :=
  (cond (decide (12 < (↑l : Int))) 8 (cond ((o28_0 l t (↑l : Int) t n o (↑l : Int) 0).getD default).1 ((o28_0 l t (↑l : Int) t n o (↑l : Int) 0).getD default).2.1 (cond (bif (bif (decide ((↑n : Int) = (↑l : Int))) then false else true) then true else (m94c95 n o (datC [V Z (↑l : Int)]))) 10 (cond ((o28_3 n o (↑n : Int) t o (↑l : Int) 0 l).getD default).1 ((o28_3 n o (↑n : Int) t o (↑l : Int) 0 l).getD default).2.1 0))))
noncomputable def n28 (l : Nat) (t : Dat) (n : Nat) (o : Dat) : Bool :=
  (cond (decide (12 < (↑l : Int))) true (((o28_0 l t (↑l : Int) t n o (↑l : Int) 0).isSome) && (cond ((o28_0 l t (↑l : Int) t n o (↑l : Int) 0).getD default).1 true ((bif (bif (bif (bif (decide ((↑n : Int) = (↑l : Int))) then false else true) then false else true) then false else true) then true else (n94c95 n o (datC [V Z (↑l : Int)]))) && (cond (bif (bif (decide ((↑n : Int) = (↑l : Int))) then false else true) then true else (m94c95 n o (datC [V Z (↑l : Int)]))) true (((o28_3 n o (↑n : Int) t o (↑l : Int) 0 l).isSome) && true))))))
noncomputable def q28 (r : Int) : SV × List Blk × List Blk := (V Z r, [], [])
noncomputable def g28 : GF := fun vs bs => match vs, bs with
  | [.agg [.ro [.str] l t, .ro [.sl [W Z]] n o]], [] => some (rs 0 (q28 (m28 l t n o)) [n28 l t n o])
  | _, _ => none
noncomputable def c28 : Ctr := genC [.a [.ro [.str], .ro [.sl [W Z]]]] g28
theorem k28 : CtrOk Try.prog c28 28 := cx (tc k92 (tc k93 (tc k94c95 (tc k95 (tc k96 tn))))) mix_ok 8 (fn := Try.f28) (c := (Try.f28.body.getD .skip)) (grs := []) (rh := .k) Try.func28 rfl (by kernel_rfl) (lam_of rfl (lc z28_0 (lc z28_5 (lc z28_3 ln)))) fun vs bs q h hn => by
  unfold g28 at h
  split at h <;> cases h
  rename_i l t n o
  have hn := n1 hn
  exact ⟨_, rfl, ca (fun R => (cnd (decide (12 < (↑l : Int)))
 (R (V Z 8) [] [])
 (cnd (decide (l = l))
 (cnd ((o28_0 l t (↑l : Int) t n o (↑l : Int) 0).isSome)
 (cnd ((o28_0 l t (↑l : Int) t n o (↑l : Int) 0).getD default).1
 (R (V Z ((o28_0 l t (↑l : Int) t n o (↑l : Int) 0).getD default).2.1) [] [])
 (cnd (bif (bif (bif (bif (decide ((↑n : Int) = (↑l : Int))) then false else true) then false else true) then false else true) then true else (n94c95 n o (datC [V Z (↑l : Int)])))
 (cnd (bif (bif (decide ((↑n : Int) = (↑l : Int))) then false else true) then true else (m94c95 n o (datC [V Z (↑l : Int)])))
 (R (V Z 10) [] [])
 (cnd (decide (n = n))
 (cnd ((o28_3 n o (↑n : Int) t o (↑l : Int) 0 l).isSome)
 (cnd ((o28_3 n o (↑n : Int) t o (↑l : Int) 0 l).getD default).1
 (R (V Z ((o28_3 n o (↑n : Int) t o (↑l : Int) 0 l).getD default).2.1) [] [])
 (R (V Z 0) [] []))
         False)
        False))
      False))
    False)
   False))) (fun R => by kernel_rfl) (co (fun h0 => lf (cT h0 rfl) rfl) (fun h0 => cn (decide_eq_true rfl) (cn (al (cf h0 hn)) (co (fun h1 => lf (cF h0 (cT h1 rfl)) rfl) (fun h1 => cn (al (cf h1 (ar (cf h0 hn)))) (co (fun h2 => lf (cF h0 (cF h1 (cT h2 rfl))) rfl) (fun h2 => cn (decide_eq_true rfl) (cn (al (cf h2 (ar (cf h1 (ar (cf h0 hn)))))) (co (fun h3 => lf (cF h0 (cF h1 (cF h2 (cT h3 rfl)))) rfl) (fun h3 => lf (cF h0 (cF h1 (cF h2 (cF h3 rfl)))) rfl))))))))))⟩
/-! ### slices.Grow[[]shotline/api.Range,shotline/api.Range] -/
theorem x136 (a : Int) (R : SV → List Blk → List Blk → Prop) : exec Try.prog [] (fun _ => none) 8 (Try.f136.body.getD .skip) (initS Try.f136.ntmps [.nsl, V Z a] 0 (memOf [])) (retK Try.prog Try.f136.results.toList (outK 0 (List.range 0) [] (.k) fun v U N => R v U N)) =
 (cnd (decide (a < 0))
  False
 (cnd (decide ((0 : Int) < (Z.wrap (a - 0))))
 (cnd (decide (0 ≤ Z.wrap (a - Z.wrap (0 - 0)) ∧ Z.wrap (a - Z.wrap (0 - 0)) ≤ 1073741824))
 (R (.gr 0 2 0) [] [.row 28 [W Z, W Z] (Z.wrap (a - Z.wrap (0 - 0))).toNat (datC [V Z 0, V Z 0])])
    False)
 (R (.nsl) [] []))) := by kernel_rfl
noncomputable def m136a (a : Int) : Nat × Dat :=
  ((Z.wrap (a - Z.wrap (0 - 0))).toNat, (datC [V Z 0, V Z 0]))
noncomputable def n136a (a : Int) : Bool :=
  (!(decide (a < 0)) && ((decide ((0 : Int) < (Z.wrap (a - 0)))) && ((decide (0 ≤ Z.wrap (a - Z.wrap (0 - 0)) ∧ Z.wrap (a - Z.wrap (0 - 0)) ≤ 1073741824)) && true)))
noncomputable def q136a (r : Nat × Dat) : SV × List Blk × List Blk := (.gr 0 2 0, [], [.row 28 [W Z, W Z] r.1 r.2])
noncomputable def g136a : GF := fun vs bs => match vs, bs with
  | [.nsl, V Z a], [] => some (rs 0 (q136a (m136a a)) [n136a a])
  | _, _ => none
noncomputable def c136a : Ctr := genC [.k, .k] g136a
theorem k136a : CtrOk Try.prog c136a 136 := cx tn mix_ok 8 (fn := Try.f136) (c := (Try.f136.body.getD .skip)) (grs := []) (rh := .k) Try.func136 rfl (by kernel_rfl) noLam fun vs bs q h hn => by
  unfold g136a at h
  split at h <;> cases h
  rename_i a
  have hn := n1 hn
  exact ⟨_, rfl, propOf (x136 a _) (nn (not_l hn) (co (fun _ => cn (al (ar (not_r hn))) (lf rfl rfl)) (fun h0 => (Bool.false_ne_true (h0.symm.trans (al (not_r hn)))).elim)))⟩
noncomputable def n136b (a : Int) : Bool :=
  (!(decide (a < 0)) && (!(decide ((0 : Int) < (Z.wrap (a - 0)))) && true))
noncomputable def q136b : SV × List Blk × List Blk := (.nsl, [], [])
noncomputable def g136b : GF := fun vs bs => match vs, bs with
  | [.nsl, V Z a], [] => some (rs 0 q136b [n136b a])
  | _, _ => none
noncomputable def c136b : Ctr := genC [.k, .k] g136b
theorem k136b : CtrOk Try.prog c136b 136 := cx tn mix_ok 8 (fn := Try.f136) (c := (Try.f136.body.getD .skip)) (grs := []) (rh := .k) Try.func136 rfl (by kernel_rfl) noLam fun vs bs q h hn => by
  unfold g136b at h
  split at h <;> cases h
  rename_i a
  have hn := n1 hn
  exact ⟨_, rfl, propOf (x136 a _) (nn (not_l hn) (co (fun h0 => (Bool.false_ne_true ((not_l (not_r hn)).symm.trans h0)).elim) (fun _ => rfl)))⟩
/-! ### slices.Grow, of nothing: both outcomes -/
noncomputable def n136 (a : Int) : Bool := decide (0 ≤ a ∧ a ≤ 1073741824)
noncomputable def c136 : Ctr := fun off _ args => match args with
  | [.nsl, V Z a] => some { v := .gr off 2 0, news := [.row 28 [W Z, W Z] 0 noDat], need := [n136 a] }
  | _ => none
theorem k136 : CtrOk Try.prog c136 136 := by
  refine ⟨k136a.1, fun B M ρ mem off args r hr hn hf xs w hd hm hB hfr => ?_⟩
  unfold c136 at hr
  split at hr <;> cases hr
  rename_i a
  have hn1 : 0 ≤ a ∧ a ≤ 1073741824 := by simpa [n136] using hn (n136 a) (List.mem_singleton.2 rfl)
  have w0 : Z.wrap (0 - 0) = 0 := by rw [IntKind.wrap_i64]; omega
  have w1 : Z.wrap (a - 0) = a := by rw [IntKind.wrap_i64]; omega
  by_cases h0 : 0 < a
  · have ha : n136a a = true := by
      unfold n136a
      rw [w0, w1]
      simp [h0, hn1]
    refine (k136a.2 B M ρ mem off [.nsl, V Z a] { v := .gr off 2 0, news := [.row 28 [W Z, W Z] (m136a a).1 (m136a a).2], need := [n136a a] } rfl (fun b hb => by cases List.mem_singleton.1 hb; exact ha) ⟨fun u hu => by simp at hu, fun u hu => by simp at hu⟩ xs w hd hm hB hfr).mono ?_
    rintro e w' ⟨x, ρ', rfl, hp⟩
    refine ⟨x, ρ', rfl, hp.val, hp.ext, hp.old, hp.os, hp.tape, hp.output, hp.size, hp.keep, hp.odn, fun u hu => by simp at hu, fun j b hj hk => ?_, fun j j' b b' m m' hne hj hj' => ?_⟩
    · cases j with
      | succ j => simp at hj
      | zero =>
        simp at hj; subst hj
        obtain ⟨g1, _⟩ := hp.new 0 _ rfl rfl
        refine ⟨fun m hmm => ?_, fun _ => rfl⟩
        obtain ⟨a1', a2, a3, a4⟩ := g1 m hmm
        obtain ⟨b1, b2, b3, b4⟩ := a2
        exact ⟨a1', ⟨b1, Nat.zero_le _, b3, fun q hq => absurd hq (Nat.not_lt_zero _)⟩, a3, a4.imp id fun ⟨u, hu, _⟩ => by simp at hu⟩
    · cases j <;> cases j' <;> simp at hj hj' hne
  · have hb : n136b a = true := by
      unfold n136b
      rw [w1]
      simp [h0]
      omega
    refine (k136b.2 B M ρ mem off [.nsl, V Z a] { v := .nsl, need := [n136b a] } rfl (fun b hb' => by cases List.mem_singleton.1 hb'; exact hb) ⟨fun u hu => by simp at hu, fun u hu => by simp at hu⟩ xs w hd hm hB (fun j hj => by simp at hj)).mono ?_
    rintro e w' ⟨x, ρ', rfl, hp⟩
    have hx : x = .slice none 0 0 := hp.val
    refine ⟨x, ρ', rfl, .inl ⟨rfl, none, hx⟩, hp.ext, fun i _ => hp.old i (by simp; omega), hp.os, hp.tape, hp.output, hp.size, fun b hb _ => hp.keep b hb fun u hu => by simp at hu, hp.odn, fun u hu => by simp at hu, fun j b hj hk => ?_, fun j j' b b' m m' hne hj hj' => ?_⟩
    · cases j with
      | succ j => simp at hj
      | zero =>
        simp at hj; subst hj
        refine ⟨fun m hmm => ?_, fun _ => rfl⟩
        rw [hp.old (off + 0) (by simp), hfr 0 (by simp)] at hmm
        cases hmm
    · cases j <;> cases j' <;> simp at hj hj' hne
/-! ### slices.Concat[[]shotline/api.Range,shotline/api.Range] -/
noncomputable def l107_0 (b : Nat) (l i : Dat) (p : Int) : Nat → Int → Int → Option (Int)
  | 0, _, _ => none
  | f + 1, v, m => (cond (decide (m < p)) (cond (decide (0 ≤ m ∧ m < ↑b)) (cond (decide ((Z.wrap (v + (↑(i.sn m.toNat 0) : Int))) < 0)) none (l107_0 b l i p f (Z.wrap (v + (↑(i.sn m.toNat 0) : Int))) (Z.wrap (m + 1)))) none) (some v))
noncomputable abbrev o107_0 (b : Nat) (l i : Dat) (p v m : Int) : Option (Int) := l107_0 b l i p (b + v.toNat + p.toNat + m.toNat + 8) v m
noncomputable def e107_0 (b : Nat) (l i : Dat) (p r : Int) (K : XR) : Prop := K (XE.exit 0) [.ro [.sl [W Z, W Z]] b l, V Z r] []
noncomputable def g107_0 : LSum := fun s k => match czv 0 36 [0, 3, 9, 10, 11] 0 [] s with
  | some ([.ro [.sl [W Z, W Z]] b l, V Z v, .ro [.sl [W Z, W Z]] t9_0 i, V Z p, V Z m], []) => needs [decide (b = t9_0), (o107_0 b l i p v m).isSome] (e107_0 b l i p ((o107_0 b l i p v m).getD default) fun e vs bs => inBlk 0 k e (mkSt 0 36 [0, 3] vs 0 bs))
  | _ => False
theorem z107_0 : LOk Try.prog g107_0 (.block 0 (bodyAt (Try.f107.body.getD .skip) 0)) := by
  refine lb (ι := Nat × Dat × Int × Dat × Int × Int) (fuel := 8) (na := 0) (nt := 36) (nx := 0) (Lh := [0, 3, 9, 10, 11]) (Le := [0, 3]) (gl := []) (tc k136 tn) mix_ok noLam rfl (fun f (b, l, v, i, p, m) K => GG default (e107_0 b l i p) K (l107_0 b l i p f v m)) (fun (b, l, v, i, p, m) => [.ro [.sl [W Z, W Z]] b l, V Z v, .ro [.sl [W Z, W Z]] b i, V Z p, V Z m]) (fun (b, l, v, i, p, m) => []) (fun (_, _, _, _, _, _) K => gg_none) ?_ ?_
  · rintro f ⟨b, l, v, i, p, m⟩ K hG
    refine ro (fun R => (cnd (decide (m < p))
 (cnd (decide (0 ≤ m ∧ m < ↑b))
 (cnd (decide ((Z.wrap (v + (↑(i.sn m.toNat 0) : Int))) < 0))
    False
 (R (XE.normal) [.ro [.sl [W Z, W Z]] b l, V Z (Z.wrap (v + (↑(i.sn m.toNat 0) : Int))), .ro [.sl [W Z, W Z]] b i, V Z p, V Z (Z.wrap (m + 1))] []))
   False)
 (R (XE.exit 0) [.ro [.sl [W Z, W Z]] b l, V Z v] []))) (fun R => by kernel_rfl) ?_
    exact ch hG (fun h0 => cg h0 fun h1 => ch h1 (fun h2 => absurd h2 gg_none) (fun h2 => ⟨(_, _, _, _, _, _), rfl, rfl, h2⟩)) (fun h0 => h0.2)
  · intro s k h
    unfold g107_0 at h
    split at h <;> try exact h.elim
    rename_i e1
    rw [needs_iff] at h
    have hq := h.1
    simp only [List.mem_cons, forall_eq_or_imp, decide_eq_true_eq, List.not_mem_nil, false_imp_iff, implies_true, and_true] at hq
    obtain ⟨rfl, hq⟩ := hq
    exact ⟨_, e1, _, (_, _, _, _, _, _), rfl, rfl, hq, h.2⟩
noncomputable def l107_2 (d : Nat) (a : Dat) (t : Int) : Nat → Nat → Int → Dat → Option (Nat × Nat × Dat)
  | 0, _, _, _ => none
  | f + 1, u, j, o => (cond (decide (j < t)) (cond (decide (0 ≤ j ∧ j < ↑d)) (cond (decide ((u + (a.sn j.toNat 0)) ≤ 1073741824)) (l107_2 d a t f (u + a.sn j.toNat 0) (Z.wrap (j + 1)) (o.app u (a.sub j.toNat 0))) none) none) (some (u, u, o)))
noncomputable abbrev o107_2 (d : Nat) (a : Dat) (t : Int) (u : Nat) (j : Int) (o : Dat) : Option (Nat × Nat × Dat) := l107_2 d a t (u + d + t.toNat + j.toNat + 8) u j o
noncomputable def e107_2 (d : Nat) (a : Dat) (t : Int) (r : Nat × Nat × Dat) (K : XR) : Prop := K (XE.exit 2) [.gr 0 2 r.1] [.row 28 [W Z, W Z] r.2.1 r.2.2]
noncomputable def g107_2 : LSum := fun s k => match czv 0 36 [6, 25, 26, 27] 1 [⟨true, 6, 0, 0, 28, [W Z, W Z]⟩] s with
  | some ([.gr 0 2 u, .ro [.sl [W Z, W Z]] d a, V Z t, V Z j], [.row 28 [W Z, W Z] b0_0 o]) => needs [decide (u = b0_0), (o107_2 d a t u j o).isSome] (e107_2 d a t ((o107_2 d a t u j o).getD default) fun e vs bs => inBlk 2 k e (mkSt 0 36 [6] vs 1 bs))
  | _ => False
theorem z107_2 : LOk Try.prog g107_2 (.block 2 (bodyAt (Try.f107.body.getD .skip) 2)) := by
  refine lb (ι := Nat × Nat × Dat × Int × Int × Dat) (fuel := 8) (na := 0) (nt := 36) (nx := 1) (Lh := [6, 25, 26, 27]) (Le := [6]) (gl := [⟨true, 6, 0, 0, 28, [W Z, W Z]⟩]) (tc k136 tn) mix_ok (lam_of rfl (lc z107_0 ln)) rfl (fun f (u, d, a, t, j, o) K => GG default (e107_2 d a t) K (l107_2 d a t f u j o)) (fun (u, d, a, t, j, o) => [.gr 0 2 u, .ro [.sl [W Z, W Z]] d a, V Z t, V Z j]) (fun (u, d, a, t, j, o) => [.row 28 [W Z, W Z] u o]) (fun (_, _, _, _, _, _) K => gg_none) ?_ ?_
  · rintro f ⟨u, d, a, t, j, o⟩ K hG
    refine ro (fun R => (cnd (decide (j < t))
 (cnd (decide (0 ≤ j ∧ j < ↑d))
 (cnd (decide (u ≤ u))
 (cnd (decide ((u + (a.sn j.toNat 0)) ≤ 1073741824))
 (R (XE.normal) [.gr 0 2 (u + a.sn j.toNat 0), .ro [.sl [W Z, W Z]] d a, V Z t, V Z (Z.wrap (j + 1))] [.row 28 [W Z, W Z] (u + a.sn j.toNat 0) (o.app u (a.sub j.toNat 0))])
     False)
    False)
   False)
 (R (XE.exit 2) [.gr 0 2 u] [.row 28 [W Z, W Z] u o]))) (fun R => by kernel_rfl) ?_
    exact ch hG (fun h0 => cg h0 fun h1 => cn (decide_eq_true (Nat.le_refl _)) (cg h1 fun h2 => ⟨(_, _, _, _, _, _), rfl, rfl, h2⟩)) (fun h0 => h0.2)
  · intro s k h
    unfold g107_2 at h
    split at h <;> try exact h.elim
    rename_i e1
    rw [needs_iff] at h
    have hq := h.1
    simp only [List.mem_cons, forall_eq_or_imp, decide_eq_true_eq, List.not_mem_nil, false_imp_iff, implies_true, and_true] at hq
    obtain ⟨rfl, hq⟩ := hq
    exact ⟨_, e1, _, (_, _, _, _, _, _), rfl, rfl, hq, h.2⟩
noncomputable def m107 (g : Nat) (n : Dat) : Nat × Nat × Dat :=
  (((o107_2 g n (↑g : Int) 0 0 noDat).getD default).1, ((o107_2 g n (↑g : Int) 0 0 noDat).getD default).2.1, ((o107_2 g n (↑g : Int) 0 0 noDat).getD default).2.2)
noncomputable def n107 (g : Nat) (n : Dat) : Bool :=
  (((o107_0 g n n (↑g : Int) 0 0).isSome) && ((n136 ((o107_0 g n n (↑g : Int) 0 0).getD 0)) && (((o107_2 g n (↑g : Int) 0 0 noDat).isSome) && true)))
noncomputable def q107 (r : Nat × Nat × Dat) : SV × List Blk × List Blk := (.gr 0 2 r.1, [], [.row 28 [W Z, W Z] r.2.1 r.2.2])
noncomputable def g107 : GF := fun vs bs => match vs, bs with
  | [.ro [.sl [W Z, W Z]] g n], [] => some (rs 0 (q107 (m107 g n)) [n107 g n])
  | _, _ => none
noncomputable def c107 : Ctr := genC [.ro [.sl [W Z, W Z]]] g107
theorem k107 : CtrOk Try.prog c107 107 := cx (tc k136 tn) mix_ok 8 (fn := Try.f107) (c := (Try.f107.body.getD .skip)) (grs := []) (rh := .k) Try.func107 rfl (by kernel_rfl) (lam_of rfl (lc z107_0 (lc z107_2 ln))) fun vs bs q h hn => by
  unfold g107 at h
  split at h <;> cases h
  rename_i g n
  have hn := n1 hn
  exact ⟨_, rfl, ca (fun R => (cnd (decide (g = g))
 (cnd ((o107_0 g n n (↑g : Int) 0 0).isSome)
 (cnd (n136 ((o107_0 g n n (↑g : Int) 0 0).getD 0))
 (cnd ((o107_2 g n (↑g : Int) 0 0 noDat).isSome)
 (R (.gr 0 2 ((o107_2 g n (↑g : Int) 0 0 noDat).getD default).1) [] [.row 28 [W Z, W Z] ((o107_2 g n (↑g : Int) 0 0 noDat).getD default).2.1 ((o107_2 g n (↑g : Int) 0 0 noDat).getD default).2.2])
     False)
    False)
   False)
  False)) (fun R => by kernel_rfl) (cn (decide_eq_true rfl) (cn (al hn) (cn (al (ar hn)) (cn (al (ar (ar hn))) (lf rfl rfl)))))⟩
/-! ### slices.Reverse[[]int,int] -/
noncomputable def l87_0 (i a : Nat) : Nat → Int → Int → Dat → Option (Dat)
  | 0, _, _, _ => none
  | f + 1, d, g, b => (cond (decide (d < g)) (cond (decide (0 ≤ g ∧ g < ↑i)) (cond (decide (g.toNat < a)) (cond (decide (0 ≤ d ∧ d < ↑i)) (cond (decide (d.toNat < a)) (cond (decide (0 ≤ d ∧ d < ↑i)) (cond (decide (d.toNat < a)) (cond (decide (0 ≤ g ∧ g < ↑i)) (cond (decide (g.toNat < a)) (l87_0 i a f (Z.wrap (d + 1)) (Z.wrap (g - 1)) ((b.upd d.toNat 0 [V Z (b.ii g.toNat 0)]).upd g.toNat 0 [V Z (b.ii d.toNat 0)])) none) none) none) none) none) none) none) none) (some b))
noncomputable abbrev o87_0 (i a : Nat) (d g : Int) (b : Dat) : Option (Dat) := l87_0 i a (i + d.toNat + g.toNat + a + 8) d g b
noncomputable def e87_0 (i a : Nat) (r : Dat) (K : XR) : Prop := K (XE.exit 0) [] [.row 3 [W Z] a r]
noncomputable def g87_0 : LSum := fun s k => match czv 1 28 [0, 2, 3] 1 [] s with
  | some ([.gr 0 1 i, V Z d, V Z g], [.row 3 [W Z] a b]) => needs [(o87_0 i a d g b).isSome] (e87_0 i a ((o87_0 i a d g b).getD default) fun e vs bs => inBlk 0 k e (mkSt 1 28 [] vs 1 bs))
  | _ => False
theorem z87_0 : LOk Try.prog g87_0 (.block 0 (bodyAt (Try.f87.body.getD .skip) 0)) := by
  refine lb (ι := Nat × Int × Int × Nat × Dat) (fuel := 8) (na := 1) (nt := 28) (nx := 1) (Lh := [0, 2, 3]) (Le := []) (gl := []) tn mix_ok noLam rfl (fun f (i, d, g, a, b) K => GG default (e87_0 i a) K (l87_0 i a f d g b)) (fun (i, d, g, a, b) => [.gr 0 1 i, V Z d, V Z g]) (fun (i, d, g, a, b) => [.row 3 [W Z] a b]) (fun (_, _, _, _, _) K => gg_none) ?_ ?_
  · rintro f ⟨i, d, g, a, b⟩ K hG
    refine ro (fun R => (cnd (decide (d < g))
 (cnd (decide (0 ≤ g ∧ g < ↑i))
 (cnd (decide (g.toNat < a))
 (cnd (decide (0 ≤ d ∧ d < ↑i))
 (cnd (decide (d.toNat < a))
 (cnd (decide (0 ≤ d ∧ d < ↑i))
 (cnd (decide (d.toNat < a))
 (cnd (decide (0 ≤ g ∧ g < ↑i))
 (cnd (decide (g.toNat < a))
 (R (XE.normal) [.gr 0 1 i, V Z (Z.wrap (d + 1)), V Z (Z.wrap (g - 1))] [.row 3 [W Z] a ((b.upd d.toNat 0 [V Z (b.ii g.toNat 0)]).upd g.toNat 0 [V Z (b.ii d.toNat 0)])])
          False)
         False)
        False)
       False)
      False)
     False)
    False)
   False)
 (R (XE.exit 0) [] [.row 3 [W Z] a b]))) (fun R => by kernel_rfl) ?_
    exact ch hG (fun h0 => cg h0 fun h1 => cg h1 fun h2 => cg h2 fun h3 => cg h3 fun h4 => cg h4 fun h5 => cg h5 fun h6 => cg h6 fun h7 => cg h7 fun h8 => ⟨(_, _, _, _, _), rfl, rfl, h8⟩) (fun h0 => h0.2)
  · intro s k h
    unfold g87_0 at h
    split at h <;> try exact h.elim
    rename_i e1
    rw [needs_iff] at h
    exact ⟨_, e1, _, (_, _, _, _, _), rfl, rfl, h.1 _ (List.mem_singleton.2 rfl), h.2⟩
noncomputable def m87 (j ma0 : Nat) (l : Dat) : Nat × Dat :=
  (ma0, ((o87_0 j ma0 0 (Z.wrap ((↑j : Int) - 1)) l).getD default))
noncomputable def n87 (j ma0 : Nat) (l : Dat) : Bool :=
  (((o87_0 j ma0 0 (Z.wrap ((↑j : Int) - 1)) l).isSome) && true)
noncomputable def q87 (r : Nat × Dat) : SV × List Blk × List Blk := (.tup [], [.row 3 [W Z] r.1 r.2], [])
noncomputable def g87 : GF := fun vs bs => match vs, bs with
  | [.gr 0 1 j], [.row 3 [W Z] ma0 l] => some (rs 1 (q87 (m87 j ma0 l)) [n87 j ma0 l])
  | _, _ => none
noncomputable def c87 : Ctr := genC [.gr 3 [W Z]] g87
theorem k87 : CtrOk Try.prog c87 87 := cx tn mix_ok 8 (fn := Try.f87) (c := (Try.f87.body.getD .skip)) (grs := []) (rh := .k) Try.func87 rfl (by kernel_rfl) (lam_of rfl (lc z87_0 ln)) fun vs bs q h hn => by
  unfold g87 at h
  split at h <;> cases h
  rename_i j ma0 l
  have hn := n1 hn
  exact ⟨_, rfl, ca (fun R => (cnd ((o87_0 j ma0 0 (Z.wrap ((↑j : Int) - 1)) l).isSome)
 (R (.tup []) [.row 3 [W Z] ma0 ((o87_0 j ma0 0 (Z.wrap ((↑j : Int) - 1)) l).getD default)] [])
  False)) (fun R => by kernel_rfl) (cn (al hn) (lf rfl rfl))⟩
/-! ### slices.insertionSortCmpFunc[shotline/api.Range] -/
noncomputable def l147c109_2 (g : Nat) (i l j : Int) (a : Nat) : Nat → Int → Dat → Option (Dat)
  | 0, _, _ => none
  | f + 1, d, b => (cond (bif (bif (decide (i < d)) then false else true) then true else (decide (0 ≤ d ∧ d < ↑g))) (cond (bif (bif (decide (i < d)) then false else true) then true else (decide (d.toNat < a))) (cond (bif (bif (decide (i < d)) then false else true) then true else (decide (0 ≤ Z.wrap (d - 1) ∧ Z.wrap (d - 1) < (↑g : Int)))) (cond (bif (bif (decide (i < d)) then false else true) then true else (decide (((Z.wrap (d - 1)).toNat) < a))) (cond (bif (decide (i < d)) then (decide ((m109 (b.ii d.toNat 0) (b.ii d.toNat 1) (b.ii ((Z.wrap (d - 1)).toNat) 0) (b.ii ((Z.wrap (d - 1)).toNat) 1)) < 0)) else false) (cond (decide (0 ≤ Z.wrap (d - 1) ∧ Z.wrap (d - 1) < (↑g : Int))) (cond (decide (((Z.wrap (d - 1)).toNat) < a)) (cond (decide (0 ≤ d ∧ d < ↑g)) (cond (decide (d.toNat < a)) (cond (decide (0 ≤ d ∧ d < ↑g)) (cond (decide (d.toNat < a)) (cond (decide (0 ≤ Z.wrap (d - 1) ∧ Z.wrap (d - 1) < (↑g : Int))) (cond (decide (((Z.wrap (d - 1)).toNat) < a)) (l147c109_2 g i l j a f (Z.wrap (d - 1)) ((b.upd d.toNat 0 [V Z (b.ii ((Z.wrap (d - 1)).toNat) 0), V Z (b.ii ((Z.wrap (d - 1)).toNat) 1)]).upd ((Z.wrap (d - 1)).toNat) 0 [V Z (b.ii d.toNat 0), V Z (b.ii d.toNat 1)])) none) none) none) none) none) none) none) none) (some b)) none) none) none) none)
noncomputable abbrev o147c109_2 (g : Nat) (i l j : Int) (a : Nat) (d : Int) (b : Dat) : Option (Dat) := l147c109_2 g i l j a (g + i.toNat + l.toNat + j.toNat + d.toNat + a + 8) d b
noncomputable def e147c109_2 (g : Nat) (i l j : Int) (a : Nat) (r : Dat) (K : XR) : Prop := K (XE.exit 2) [.gr 0 2 g, V Z i, V Z l, .fn 109 [], V Z j] [.row 28 [W Z, W Z] a r]
noncomputable def g147c109_2 : LSum := fun s k => match czv 1 53 [0, 1, 2, 3, 8, 9] 1 [] s with
  | some ([.gr 0 2 g, V Z i, V Z l, .fn 109 [], V Z j, V Z d], [.row 28 [W Z, W Z] a b]) => needs [(o147c109_2 g i l j a d b).isSome] (e147c109_2 g i l j a ((o147c109_2 g i l j a d b).getD default) fun e vs bs => inBlk 2 k e (mkSt 1 53 [0, 1, 2, 3, 8] vs 1 bs))
  | _ => False
theorem z147c109_2 : LOk Try.prog g147c109_2 (.block 2 (bodyAt (Try.f147.body.getD .skip) 2)) := by
  refine lb (ι := Nat × Int × Int × Int × Int × Nat × Dat) (fuel := 8) (na := 1) (nt := 53) (nx := 1) (Lh := [0, 1, 2, 3, 8, 9]) (Le := [0, 1, 2, 3, 8]) (gl := []) (tc k109 tn) mix_ok noLam rfl (fun f (g, i, l, j, d, a, b) K => GG default (e147c109_2 g i l j a) K (l147c109_2 g i l j a f d b)) (fun (g, i, l, j, d, a, b) => [.gr 0 2 g, V Z i, V Z l, .fn 109 [], V Z j, V Z d]) (fun (g, i, l, j, d, a, b) => [.row 28 [W Z, W Z] a b]) (fun (_, _, _, _, _, _, _) K => gg_none) ?_ ?_
  · rintro f ⟨g, i, l, j, d, a, b⟩ K hG
    refine ro (fun R => (cnd (bif (bif (decide (i < d)) then false else true) then true else (decide (0 ≤ d ∧ d < ↑g)))
 (cnd (bif (bif (decide (i < d)) then false else true) then true else (decide (d.toNat < a)))
 (cnd (bif (bif (decide (i < d)) then false else true) then true else (decide (0 ≤ Z.wrap (d - 1) ∧ Z.wrap (d - 1) < (↑g : Int))))
 (cnd (bif (bif (decide (i < d)) then false else true) then true else (decide (((Z.wrap (d - 1)).toNat) < a)))
 (cnd (bif (decide (i < d)) then (decide ((m109 (b.ii d.toNat 0) (b.ii d.toNat 1) (b.ii ((Z.wrap (d - 1)).toNat) 0) (b.ii ((Z.wrap (d - 1)).toNat) 1)) < 0)) else false)
 (cnd (decide (0 ≤ Z.wrap (d - 1) ∧ Z.wrap (d - 1) < (↑g : Int)))
 (cnd (decide (((Z.wrap (d - 1)).toNat) < a))
 (cnd (decide (0 ≤ d ∧ d < ↑g))
 (cnd (decide (d.toNat < a))
 (cnd (decide (0 ≤ d ∧ d < ↑g))
 (cnd (decide (d.toNat < a))
 (cnd (decide (0 ≤ Z.wrap (d - 1) ∧ Z.wrap (d - 1) < (↑g : Int)))
 (cnd (decide (((Z.wrap (d - 1)).toNat) < a))
 (R (XE.normal) [.gr 0 2 g, V Z i, V Z l, .fn 109 [], V Z j, V Z (Z.wrap (d - 1))] [.row 28 [W Z, W Z] a ((b.upd d.toNat 0 [V Z (b.ii ((Z.wrap (d - 1)).toNat) 0), V Z (b.ii ((Z.wrap (d - 1)).toNat) 1)]).upd ((Z.wrap (d - 1)).toNat) 0 [V Z (b.ii d.toNat 0), V Z (b.ii d.toNat 1)])])
              False)
             False)
            False)
           False)
          False)
         False)
        False)
       False)
 (R (XE.exit 2) [.gr 0 2 g, V Z i, V Z l, .fn 109 [], V Z j] [.row 28 [W Z, W Z] a b]))
     False)
    False)
   False)
  False)) (fun R => by kernel_rfl) ?_
    exact cg hG fun h0 => cg h0 fun h1 => cg h1 fun h2 => cg h2 fun h3 => ch h3 (fun h4 => cg h4 fun h5 => cg h5 fun h6 => cg h6 fun h7 => cg h7 fun h8 => cg h8 fun h9 => cg h9 fun h10 => cg h10 fun h11 => cg h11 fun h12 => ⟨(_, _, _, _, _, _, _), rfl, rfl, h12⟩) (fun h4 => h4.2)
  · intro s k h
    unfold g147c109_2 at h
    split at h <;> try exact h.elim
    rename_i e1
    rw [needs_iff] at h
    exact ⟨_, e1, _, (_, _, _, _, _, _, _), rfl, rfl, h.1 _ (List.mem_singleton.2 rfl), h.2⟩
noncomputable def l147c109_0 (g : Nat) (i l : Int) (a : Nat) : Nat → Int → Dat → Option (Dat)
  | 0, _, _ => none
  | f + 1, j, b => (cond (decide (j < l)) (cond ((o147c109_2 g i l j a j b).isSome) (l147c109_0 g i l a f (Z.wrap (j + 1)) ((o147c109_2 g i l j a j b).getD default)) none) (some b))
noncomputable abbrev o147c109_0 (g : Nat) (i l : Int) (a : Nat) (j : Int) (b : Dat) : Option (Dat) := l147c109_0 g i l a (g + i.toNat + l.toNat + j.toNat + a + 8) j b
noncomputable def e147c109_0 (g : Nat) (i l : Int) (a : Nat) (r : Dat) (K : XR) : Prop := K (XE.exit 0) [] [.row 28 [W Z, W Z] a r]
noncomputable def g147c109_0 : LSum := fun s k => match czv 1 53 [0, 1, 2, 3, 8] 1 [] s with
  | some ([.gr 0 2 g, V Z i, V Z l, .fn 109 [], V Z j], [.row 28 [W Z, W Z] a b]) => needs [(o147c109_0 g i l a j b).isSome] (e147c109_0 g i l a ((o147c109_0 g i l a j b).getD default) fun e vs bs => inBlk 0 k e (mkSt 1 53 [] vs 1 bs))
  | _ => False
theorem z147c109_0 : LOk Try.prog g147c109_0 (.block 0 (bodyAt (Try.f147.body.getD .skip) 0)) := by
  refine lb (ι := Nat × Int × Int × Int × Nat × Dat) (fuel := 8) (na := 1) (nt := 53) (nx := 1) (Lh := [0, 1, 2, 3, 8]) (Le := []) (gl := []) (tc k109 tn) mix_ok (lam_of rfl (lc z147c109_2 ln)) rfl (fun f (g, i, l, j, a, b) K => GG default (e147c109_0 g i l a) K (l147c109_0 g i l a f j b)) (fun (g, i, l, j, a, b) => [.gr 0 2 g, V Z i, V Z l, .fn 109 [], V Z j]) (fun (g, i, l, j, a, b) => [.row 28 [W Z, W Z] a b]) (fun (_, _, _, _, _, _) K => gg_none) ?_ ?_
  · rintro f ⟨g, i, l, j, a, b⟩ K hG
    refine ro (fun R => (cnd (decide (j < l))
 (cnd ((o147c109_2 g i l j a j b).isSome)
 (R (XE.normal) [.gr 0 2 g, V Z i, V Z l, .fn 109 [], V Z (Z.wrap (j + 1))] [.row 28 [W Z, W Z] a ((o147c109_2 g i l j a j b).getD default)])
   False)
 (R (XE.exit 0) [] [.row 28 [W Z, W Z] a b]))) (fun R => by kernel_rfl) ?_
    exact ch hG (fun h0 => cg h0 fun h1 => ⟨(_, _, _, _, _, _), rfl, rfl, h1⟩) (fun h0 => h0.2)
  · intro s k h
    unfold g147c109_0 at h
    split at h <;> try exact h.elim
    rename_i e1
    rw [needs_iff] at h
    exact ⟨_, e1, _, (_, _, _, _, _, _), rfl, rfl, h.1 _ (List.mem_singleton.2 rfl), h.2⟩
noncomputable def m147c109 (m ma0 : Nat) (n : Dat) (o p : Int) : Nat × Dat :=
  (ma0, ((o147c109_0 m o p ma0 (Z.wrap (o + 1)) n).getD default))
noncomputable def n147c109 (m ma0 : Nat) (n : Dat) (o p : Int) : Bool :=
  (((o147c109_0 m o p ma0 (Z.wrap (o + 1)) n).isSome) && true)
noncomputable def q147c109 (r : Nat × Dat) : SV × List Blk × List Blk := (.tup [], [.row 28 [W Z, W Z] r.1 r.2], [])
noncomputable def g147c109 : GF := fun vs bs => match vs, bs with
  | [.gr 0 2 m, V Z o, V Z p, .fn 109 []], [.row 28 [W Z, W Z] ma0 n] => some (rs 1 (q147c109 (m147c109 m ma0 n o p)) [n147c109 m ma0 n o p])
  | _, _ => none
noncomputable def c147c109 : Ctr := genC [.gr 28 [W Z, W Z], .k, .k, .f []] g147c109
theorem k147c109 : CtrOk Try.prog c147c109 147 := cx (tc k109 tn) mix_ok 8 (fn := Try.f147) (c := (Try.f147.body.getD .skip)) (grs := []) (rh := .k) Try.func147 rfl (by kernel_rfl) (lam_of rfl (lc z147c109_2 (lc z147c109_0 ln))) fun vs bs q h hn => by
  unfold g147c109 at h
  split at h <;> cases h
  rename_i m o p ma0 n
  have hn := n1 hn
  exact ⟨_, rfl, ca (fun R => (cnd ((o147c109_0 m o p ma0 (Z.wrap (o + 1)) n).isSome)
 (R (.tup []) [.row 28 [W Z, W Z] ma0 ((o147c109_0 m o p ma0 (Z.wrap (o + 1)) n).getD default)] [])
  False)) (fun R => by kernel_rfl) (cn (al hn) (lf rfl rfl))⟩
/-! ### slices.pdqsortCmpFunc[shotline/api.Range] -/
noncomputable def m137c109 (a ma0 : Nat) (b : Dat) (d e g : Int) : Nat × Dat :=
  ((m147c109 a ma0 b d e).1, (m147c109 a ma0 b d e).2)
noncomputable def n137c109 (a ma0 : Nat) (b : Dat) (d e g : Int) : Bool :=
  ((decide ((Z.wrap (e - d)) ≤ 12)) && ((n147c109 a ma0 b d e) && true))
noncomputable def q137c109 (r : Nat × Dat) : SV × List Blk × List Blk := (.tup [], [.row 28 [W Z, W Z] r.1 r.2], [])
noncomputable def g137c109 : GF := fun vs bs => match vs, bs with
  | [.gr 0 2 a, V Z d, V Z e, V Z g, .fn 109 []], [.row 28 [W Z, W Z] ma0 b] => some (rs 1 (q137c109 (m137c109 a ma0 b d e g)) [n137c109 a ma0 b d e g])
  | _, _ => none
noncomputable def c137c109 : Ctr := genC [.gr 28 [W Z, W Z], .k, .k, .k, .f []] g137c109
theorem k137c109 : CtrOk Try.prog c137c109 137 := cx (tc k109 (tc k147c109 tn)) mix_ok 8 (fn := Try.f137) (c := (Try.f137.body.getD .skip)) (grs := []) (rh := .k) Try.func137 rfl (by kernel_rfl) noLam fun vs bs q h hn => by
  unfold g137c109 at h
  split at h <;> cases h
  rename_i a d e g ma0 b
  have hn := n1 hn
  exact ⟨_, rfl, ca (fun R => (cnd (decide ((Z.wrap (e - d)) ≤ 12))
 (cnd (n147c109 a ma0 b d e)
 (R (.tup []) [.row 28 [W Z, W Z] (m147c109 a ma0 b d e).1 (m147c109 a ma0 b d e).2] [])
   False)
 (cnd (decide (g = 0))
   False
   False))) (fun R => by kernel_rfl) (co (fun _ => cn (al (ar hn)) (lf rfl rfl)) (fun h0 => (Bool.false_ne_true (h0.symm.trans (al hn))).elim))⟩
/-! ### slices.SortFunc[[]shotline/api.Range,shotline/api.Range] -/
theorem x108c109 (a ma0 : Nat) (b : Dat) (R : SV → List Blk → List Blk → Prop) : exec Try.prog [(109, c109), (137, c137c109), (138, c138)] (fun _ => none) 8 (Try.f108.body.getD .skip) (initS Try.f108.ntmps [.gr 0 2 a, .fn 109 []] 1 (memOf [.row 28 [W Z, W Z] ma0 b])) (retK Try.prog Try.f108.results.toList (outK 1 (List.range 1) [] (.k) fun v U N => R v U N)) =
 (cnd (n138 (IntKind.u64.wrap (↑a : Int)))
 (cnd (n137c109 a ma0 b 0 (↑a : Int) (m138 (IntKind.u64.wrap (↑a : Int))))
 (R (.tup []) [.row 28 [W Z, W Z] (m137c109 a ma0 b 0 (↑a : Int) (m138 (IntKind.u64.wrap (↑a : Int)))).1 (m137c109 a ma0 b 0 (↑a : Int) (m138 (IntKind.u64.wrap (↑a : Int)))).2] [])
   False)
  False) := by kernel_rfl
noncomputable def m108c109 (a ma0 : Nat) (b : Dat) : Nat × Dat :=
  ((m137c109 a ma0 b 0 (↑a : Int) (m138 (IntKind.u64.wrap (↑a : Int)))).1, (m137c109 a ma0 b 0 (↑a : Int) (m138 (IntKind.u64.wrap (↑a : Int)))).2)
noncomputable def n108c109 (a ma0 : Nat) (b : Dat) : Bool :=
  ((n138 (IntKind.u64.wrap (↑a : Int))) && ((n137c109 a ma0 b 0 (↑a : Int) (m138 (IntKind.u64.wrap (↑a : Int)))) && true))
noncomputable def q108c109 (r : Nat × Dat) : SV × List Blk × List Blk := (.tup [], [.row 28 [W Z, W Z] r.1 r.2], [])
noncomputable def g108c109 : GF := fun vs bs => match vs, bs with
  | [.gr 0 2 a, .fn 109 []], [.row 28 [W Z, W Z] ma0 b] => some (rs 1 (q108c109 (m108c109 a ma0 b)) [n108c109 a ma0 b])
  | _, _ => none
noncomputable def c108c109 : Ctr := genC [.gr 28 [W Z, W Z], .f []] g108c109
theorem p108c109 (a ma0 : Nat) (b : Dat) (hn : n108c109 a ma0 b = true) : exec Try.prog [(109, c109), (137, c137c109), (138, c138)] (fun _ => none) 8 (Try.f108.body.getD .skip) (initS Try.f108.ntmps [.gr 0 2 a, .fn 109 []] 1 (memOf [.row 28 [W Z, W Z] ma0 b])) (retK Try.prog Try.f108.results.toList (outK 1 (List.range 1) [] (.k) fun v U N => (v, U, N) = (q108c109 (m108c109 a ma0 b)))) :=
  propOf (x108c109 a ma0 b _) (cn (al hn) (cn (al (ar hn)) (lf rfl rfl)))
theorem k108c109 : CtrOk Try.prog c108c109 108 := cx (tc k109 (tc k137c109 (tc k138 tn))) mix_ok 8 (fn := Try.f108) (c := (Try.f108.body.getD .skip)) (grs := []) (rh := .k) Try.func108 rfl (by kernel_rfl) noLam fun vs bs q h hn => by
  unfold g108c109 at h
  split at h <;> cases h
  exact ⟨_, rfl, p108c109 _ _ _ (hn _ (List.mem_singleton.2 rfl))⟩
/-! ### shotline/site.Way -/
noncomputable def l25_2 (A : Int) (l : Nat) (n : Int) (C : Nat) (x : Dat) (F : Int) (p : Nat) (u : Dat) (o : Nat) (j : Dat) (z : Nat) : Nat → Int → Dat → Option (Dat)
  | 0, _, _ => none
  | f + 1, v, m => (cond (decide (v < F)) (cond (decide (0 ≤ v ∧ v < ↑C)) (cond (decide (0 ≤ n ∧ n < ↑l)) (cond (decide (n.toNat < z)) (cond (bif (bif (decide (0 ≤ (x.ii v.toNat 0))) then false else true) then true else (decide (0 ≤ v ∧ v < ↑l))) (cond (bif (bif (decide (0 ≤ (x.ii v.toNat 0))) then false else true) then true else (decide (v.toNat < z))) (cond (bif (bif (bif (decide (0 ≤ (x.ii v.toNat 0))) then (bif (m.bb v.toNat 3) then false else true) else false) then false else true) then true else (decide (0 ≤ v ∧ v < ↑l))) (cond (bif (bif (bif (decide (0 ≤ (x.ii v.toNat 0))) then (bif (m.bb v.toNat 3) then false else true) else false) then false else true) then true else (decide (v.toNat < z))) (cond (bif (bif (bif (bif (decide (0 ≤ (x.ii v.toNat 0))) then (bif (m.bb v.toNat 3) then false else true) else false) then (bif (bif (m.bb v.toNat 2) then false else true) then false else true) else false) then false else true) then true else (decide (0 ≤ v ∧ v < ↑l))) (cond (bif (bif (bif (bif (decide (0 ≤ (x.ii v.toNat 0))) then (bif (m.bb v.toNat 3) then false else true) else false) then (bif (bif (m.bb v.toNat 2) then false else true) then false else true) else false) then false else true) then true else (decide (v.toNat < z))) (cond (bif (bif (decide (0 ≤ (x.ii v.toNat 0))) then (bif (m.bb v.toNat 3) then false else true) else false) then (bif (bif (m.bb v.toNat 2) then false else true) then true else (decide ((Z.wrap ((m.ii n.toNat 1) + (x.ii v.toNat 0))) < (m.ii v.toNat 1)))) else false) (cond (decide (0 ≤ v ∧ v < ↑l)) (cond (decide (v.toNat < z)) (l25_2 A l n C x F p u o j z f (Z.wrap (v + 1)) (m.upd v.toNat 0 [V Z n, V Z (Z.wrap ((m.ii n.toNat 1) + (x.ii v.toNat 0))), SV.bool true, SV.bool false])) none) none) (l25_2 A l n C x F p u o j z f (Z.wrap (v + 1)) m)) none) none) none) none) none) none) none) none) none) (some m))
noncomputable abbrev o25_2 (A : Int) (l : Nat) (n : Int) (C : Nat) (x : Dat) (F : Int) (p : Nat) (u : Dat) (o : Nat) (j : Dat) (z : Nat) (v : Int) (m : Dat) : Option (Dat) := l25_2 A l n C x F p u o j z (A.toNat + l + n.toNat + C + F.toNat + v.toNat + p + o + z + 8) v m
noncomputable def e25_2 (A : Int) (l : Nat) (n : Int) (C : Nat) (x : Dat) (F : Int) (p : Nat) (u : Dat) (o : Nat) (j : Dat) (z : Nat) (r : Dat) (K : XR) : Prop := K (XE.exit 2) [V Z A, .ptr 0 0, .own 1 4 l] [.cells 43 [.ro [.str] p u, .ro [.sl [W Z]] o j], .row 134 [W Z, W Z, .bool, .bool] z r]
noncomputable def g25_2 : LSum := fun s k => match czv 0 128 [2, 3, 10, 11, 54, 55, 56] 2 [] s with
  | some ([V Z A, .ptr 0 0, .own 1 4 l, V Z n, .ro [W Z] C x, V Z F, V Z v], [.cells 43 [.ro [.str] p u, .ro [.sl [W Z]] o j], .row 134 [W Z, W Z, .bool, .bool] z m]) => needs [(o25_2 A l n C x F p u o j z v m).isSome] (e25_2 A l n C x F p u o j z ((o25_2 A l n C x F p u o j z v m).getD default) fun e vs bs => inBlk 2 k e (mkSt 0 128 [2, 3, 10] vs 2 bs))
  | _ => False
theorem z25_2 : LOk Try.prog g25_2 (.block 2 (bodyAt (Try.f25.body.getD .skip) 2)) := by
  refine lb (ι := Int × Nat × Int × Nat × Dat × Int × Int × Nat × Dat × Nat × Dat × Nat × Dat) (fuel := 8) (na := 0) (nt := 128) (nx := 2) (Lh := [2, 3, 10, 11, 54, 55, 56]) (Le := [2, 3, 10]) (gl := []) (tc k28 (tc k85 (tc k86 (tc k87 tn)))) mix_ok noLam rfl (fun f (A, l, n, C, x, F, v, p, u, o, j, z, m) K => GG default (e25_2 A l n C x F p u o j z) K (l25_2 A l n C x F p u o j z f v m)) (fun (A, l, n, C, x, F, v, p, u, o, j, z, m) => [V Z A, .ptr 0 0, .own 1 4 l, V Z n, .ro [W Z] C x, V Z F, V Z v]) (fun (A, l, n, C, x, F, v, p, u, o, j, z, m) => [.cells 43 [.ro [.str] p u, .ro [.sl [W Z]] o j], .row 134 [W Z, W Z, .bool, .bool] z m]) (fun (_, _, _, _, _, _, _, _, _, _, _, _, _) K => gg_none) ?_ ?_
  · rintro f ⟨A, l, n, C, x, F, v, p, u, o, j, z, m⟩ K hG
    refine ro (fun R => (cnd (decide (v < F))
 (cnd (decide (0 ≤ v ∧ v < ↑C))
 (cnd (decide (0 ≤ n ∧ n < ↑l))
 (cnd (decide (n.toNat < z))
 (cnd (bif (bif (decide (0 ≤ (x.ii v.toNat 0))) then false else true) then true else (decide (0 ≤ v ∧ v < ↑l)))
 (cnd (bif (bif (decide (0 ≤ (x.ii v.toNat 0))) then false else true) then true else (decide (v.toNat < z)))
 (cnd (bif (bif (bif (decide (0 ≤ (x.ii v.toNat 0))) then (bif (m.bb v.toNat 3) then false else true) else false) then false else true) then true else (decide (0 ≤ v ∧ v < ↑l)))
 (cnd (bif (bif (bif (decide (0 ≤ (x.ii v.toNat 0))) then (bif (m.bb v.toNat 3) then false else true) else false) then false else true) then true else (decide (v.toNat < z)))
 (cnd (bif (bif (bif (bif (decide (0 ≤ (x.ii v.toNat 0))) then (bif (m.bb v.toNat 3) then false else true) else false) then (bif (bif (m.bb v.toNat 2) then false else true) then false else true) else false) then false else true) then true else (decide (0 ≤ v ∧ v < ↑l)))
 (cnd (bif (bif (bif (bif (decide (0 ≤ (x.ii v.toNat 0))) then (bif (m.bb v.toNat 3) then false else true) else false) then (bif (bif (m.bb v.toNat 2) then false else true) then false else true) else false) then false else true) then true else (decide (v.toNat < z)))
 (cnd (bif (bif (decide (0 ≤ (x.ii v.toNat 0))) then (bif (m.bb v.toNat 3) then false else true) else false) then (bif (bif (m.bb v.toNat 2) then false else true) then true else (decide ((Z.wrap ((m.ii n.toNat 1) + (x.ii v.toNat 0))) < (m.ii v.toNat 1)))) else false)
 (cnd (decide (0 ≤ v ∧ v < ↑l))
 (cnd (decide (v.toNat < z))
 (R (XE.normal) [V Z A, .ptr 0 0, .own 1 4 l, V Z n, .ro [W Z] C x, V Z F, V Z (Z.wrap (v + 1))] [.cells 43 [.ro [.str] p u, .ro [.sl [W Z]] o j], .row 134 [W Z, W Z, .bool, .bool] z (m.upd v.toNat 0 [V Z n, V Z (Z.wrap ((m.ii n.toNat 1) + (x.ii v.toNat 0))), SV.bool true, SV.bool false])])
              False)
             False)
 (R (XE.normal) [V Z A, .ptr 0 0, .own 1 4 l, V Z n, .ro [W Z] C x, V Z F, V Z (Z.wrap (v + 1))] [.cells 43 [.ro [.str] p u, .ro [.sl [W Z]] o j], .row 134 [W Z, W Z, .bool, .bool] z m]))
           False)
          False)
         False)
        False)
       False)
      False)
     False)
    False)
   False)
 (R (XE.exit 2) [V Z A, .ptr 0 0, .own 1 4 l] [.cells 43 [.ro [.str] p u, .ro [.sl [W Z]] o j], .row 134 [W Z, W Z, .bool, .bool] z m]))) (fun R => by kernel_rfl) ?_
    exact ch hG (fun h0 => cg h0 fun h1 => cg h1 fun h2 => cg h2 fun h3 => cg h3 fun h4 => cg h4 fun h5 => cg h5 fun h6 => cg h6 fun h7 => cg h7 fun h8 => cg h8 fun h9 => ch h9 (fun h10 => cg h10 fun h11 => cg h11 fun h12 => ⟨(_, _, _, _, _, _, _, _, _, _, _, _, _), rfl, rfl, h12⟩) (fun h10 => ⟨(_, _, _, _, _, _, _, _, _, _, _, _, _), rfl, rfl, h10⟩)) (fun h0 => h0.2)
  · intro s k h
    unfold g25_2 at h
    split at h <;> try exact h.elim
    rename_i e1
    rw [needs_iff] at h
    exact ⟨_, e1, _, (_, _, _, _, _, _, _, _, _, _, _, _, _), rfl, rfl, h.1 _ (List.mem_singleton.2 rfl), h.2⟩
noncomputable def l25_0 (A : Int) (l p : Nat) (u : Dat) (o : Nat) (j : Dat) : Nat → Int → Dat → Option (Dat)
  | 0, _, _ => none
  | f + 1, n, m => (cond (decide (0 ≤ n)) (cond (decide (0 ≤ n ∧ n < ↑l)) (cond (decide (n.toNat < l)) (cond (decide (0 ≤ n ∧ n < ↑o)) (cond ((o25_2 A l n (j.sn n.toNat 0) (j.sub n.toNat 0) (↑(j.sn n.toNat 0) : Int) p u o j l 0 (m.upd n.toNat 3 [SV.bool true])).isSome) (cond (decide ((0 + l) ≤ l)) (cond (n86 l ((o25_2 A l n (j.sn n.toNat 0) (j.sub n.toNat 0) (↑(j.sn n.toNat 0) : Int) p u o j l 0 (m.upd n.toNat 3 [SV.bool true])).getD default)) (l25_0 A l p u o j f (m86 l ((o25_2 A l n (j.sn n.toNat 0) (j.sub n.toNat 0) (↑(j.sn n.toNat 0) : Int) p u o j l 0 (m.upd n.toNat 3 [SV.bool true])).getD default)) ((o25_2 A l n (j.sn n.toNat 0) (j.sub n.toNat 0) (↑(j.sn n.toNat 0) : Int) p u o j l 0 (m.upd n.toNat 3 [SV.bool true])).getD default)) none) none) none) none) none) none) (some m))
noncomputable abbrev o25_0 (A : Int) (l p : Nat) (u : Dat) (o : Nat) (j : Dat) (n : Int) (m : Dat) : Option (Dat) := l25_0 A l p u o j (A.toNat + l + n.toNat + p + o + 8) n m
noncomputable def e25_0 (A : Int) (l p : Nat) (u : Dat) (o : Nat) (j r : Dat) (K : XR) : Prop := K (XE.exit 0) [V Z A, .own 1 4 l] [.cells 43 [.ro [.str] p u, .ro [.sl [W Z]] o j], .row 134 [W Z, W Z, .bool, .bool] l r]
noncomputable def g25_0 : LSum := fun s k => match czv 0 128 [2, 3, 10, 11] 2 [] s with
  | some ([V Z A, .ptr 0 0, .own 1 4 l, V Z n], [.cells 43 [.ro [.str] p u, .ro [.sl [W Z]] o j], .row 134 [W Z, W Z, .bool, .bool] z m]) => needs [decide (l = z), (o25_0 A l p u o j n m).isSome] (e25_0 A l p u o j ((o25_0 A l p u o j n m).getD default) fun e vs bs => inBlk 0 k e (mkSt 0 128 [2, 10] vs 2 bs))
  | _ => False
theorem z25_0 : LOk Try.prog g25_0 (.block 0 (bodyAt (Try.f25.body.getD .skip) 0)) := by
  refine lb (ι := Int × Nat × Int × Nat × Dat × Nat × Dat × Dat) (fuel := 8) (na := 0) (nt := 128) (nx := 2) (Lh := [2, 3, 10, 11]) (Le := [2, 10]) (gl := []) (tc k28 (tc k85 (tc k86 (tc k87 tn)))) mix_ok (lam_of rfl (lc z25_2 ln)) rfl (fun f (A, l, n, p, u, o, j, m) K => GG default (e25_0 A l p u o j) K (l25_0 A l p u o j f n m)) (fun (A, l, n, p, u, o, j, m) => [V Z A, .ptr 0 0, .own 1 4 l, V Z n]) (fun (A, l, n, p, u, o, j, m) => [.cells 43 [.ro [.str] p u, .ro [.sl [W Z]] o j], .row 134 [W Z, W Z, .bool, .bool] l m]) (fun (_, _, _, _, _, _, _, _) K => gg_none) ?_ ?_
  · rintro f ⟨A, l, n, p, u, o, j, m⟩ K hG
    refine ro (fun R => (cnd (decide (0 ≤ n))
 (cnd (decide (0 ≤ n ∧ n < ↑l))
 (cnd (decide (n.toNat < l))
 (cnd (decide (0 ≤ n ∧ n < ↑o))
 (cnd ((o25_2 A l n (j.sn n.toNat 0) (j.sub n.toNat 0) (↑(j.sn n.toNat 0) : Int) p u o j l 0 (m.upd n.toNat 3 [SV.bool true])).isSome)
 (cnd (decide ((0 + l) ≤ l))
 (cnd (n86 l ((o25_2 A l n (j.sn n.toNat 0) (j.sub n.toNat 0) (↑(j.sn n.toNat 0) : Int) p u o j l 0 (m.upd n.toNat 3 [SV.bool true])).getD default))
 (R (XE.normal) [V Z A, .ptr 0 0, .own 1 4 l, V Z (m86 l ((o25_2 A l n (j.sn n.toNat 0) (j.sub n.toNat 0) (↑(j.sn n.toNat 0) : Int) p u o j l 0 (m.upd n.toNat 3 [SV.bool true])).getD default))] [.cells 43 [.ro [.str] p u, .ro [.sl [W Z]] o j], .row 134 [W Z, W Z, .bool, .bool] l ((o25_2 A l n (j.sn n.toNat 0) (j.sub n.toNat 0) (↑(j.sn n.toNat 0) : Int) p u o j l 0 (m.upd n.toNat 3 [SV.bool true])).getD default)])
        False)
       False)
      False)
     False)
    False)
   False)
 (R (XE.exit 0) [V Z A, .own 1 4 l] [.cells 43 [.ro [.str] p u, .ro [.sl [W Z]] o j], .row 134 [W Z, W Z, .bool, .bool] l m]))) (fun R => by kernel_rfl) ?_
    exact ch hG (fun h0 => cg h0 fun h1 => cg h1 fun h2 => cg h2 fun h3 => cg h3 fun h4 => cg h4 fun h5 => cg h5 fun h6 => ⟨(_, _, _, _, _, _, _, _), rfl, rfl, h6⟩) (fun h0 => h0.2)
  · intro s k h
    unfold g25_0 at h
    split at h <;> try exact h.elim
    rename_i e1
    rw [needs_iff] at h
    have hq := h.1
    simp only [List.mem_cons, forall_eq_or_imp, decide_eq_true_eq, List.not_mem_nil, false_imp_iff, implies_true, and_true] at hq
    obtain ⟨rfl, hq⟩ := hq
    exact ⟨_, e1, _, (_, _, _, _, _, _, _, _), rfl, rfl, hq, h.2⟩
noncomputable def l25_4 (A : Int) (l p : Nat) (u : Dat) (o : Nat) (j m : Dat) : Nat → Nat → Int → Dat → Option (Nat × Nat × Dat)
  | 0, _, _, _ => none
  | f + 1, D, E, G => (cond (decide (0 ≤ E)) (cond (decide ((D + 1) ≤ 1073741824)) (cond (decide (0 ≤ E ∧ E < ↑l)) (cond (decide (E.toNat < l)) (l25_4 A l p u o j m f (D + 1) (m.ii E.toNat 0) (G.app D (datS [V Z E] 1))) none) none) none) (some (D, D, G)))
noncomputable abbrev o25_4 (A : Int) (l p : Nat) (u : Dat) (o : Nat) (j m : Dat) (D : Nat) (E : Int) (G : Dat) : Option (Nat × Nat × Dat) := l25_4 A l p u o j m (A.toNat + l + D + E.toNat + p + o + 8) D E G
noncomputable def e25_4 (A : Int) (l p : Nat) (u : Dat) (o : Nat) (j m : Dat) (r : Nat × Nat × Dat) (K : XR) : Prop := K (XE.exit 4) [V Z A, .own 1 4 l, .gr 2 1 r.1] [.cells 43 [.ro [.str] p u, .ro [.sl [W Z]] o j], .row 134 [W Z, W Z, .bool, .bool] l m, .row 3 [W Z] r.2.1 r.2.2]
noncomputable def g25_4 : LSum := fun s k => match czv 0 128 [2, 10, 15, 16] 3 [⟨true, 15, 0, 2, 3, [W Z]⟩] s with
  | some ([V Z A, .own 1 4 l, .gr 2 1 D, V Z E], [.cells 43 [.ro [.str] p u, .ro [.sl [W Z]] o j], .row 134 [W Z, W Z, .bool, .bool] z m, .row 3 [W Z] b2_0 G]) => needs [decide (l = z), decide (D = b2_0), (o25_4 A l p u o j m D E G).isSome] (e25_4 A l p u o j m ((o25_4 A l p u o j m D E G).getD default) fun e vs bs => inBlk 4 k e (mkSt 0 128 [2, 10, 15] vs 3 bs))
  | _ => False
theorem z25_4 : LOk Try.prog g25_4 (.block 4 (bodyAt (Try.f25.body.getD .skip) 4)) := by
  refine lb (ι := Int × Nat × Nat × Int × Nat × Dat × Nat × Dat × Dat × Dat) (fuel := 8) (na := 0) (nt := 128) (nx := 3) (Lh := [2, 10, 15, 16]) (Le := [2, 10, 15]) (gl := [⟨true, 15, 0, 2, 3, [W Z]⟩]) (tc k28 (tc k85 (tc k86 (tc k87 tn)))) mix_ok (lam_of rfl (lc z25_2 (lc z25_0 ln))) rfl (fun f (A, l, D, E, p, u, o, j, m, G) K => GG default (e25_4 A l p u o j m) K (l25_4 A l p u o j m f D E G)) (fun (A, l, D, E, p, u, o, j, m, G) => [V Z A, .own 1 4 l, .gr 2 1 D, V Z E]) (fun (A, l, D, E, p, u, o, j, m, G) => [.cells 43 [.ro [.str] p u, .ro [.sl [W Z]] o j], .row 134 [W Z, W Z, .bool, .bool] l m, .row 3 [W Z] D G]) (fun (_, _, _, _, _, _, _, _, _, _) K => gg_none) ?_ ?_
  · rintro f ⟨A, l, D, E, p, u, o, j, m, G⟩ K hG
    refine ro (fun R => (cnd (decide (0 ≤ E))
 (cnd (decide (D ≤ D))
 (cnd (decide ((D + 1) ≤ 1073741824))
 (cnd (decide (0 ≤ E ∧ E < ↑l))
 (cnd (decide (E.toNat < l))
 (R (XE.normal) [V Z A, .own 1 4 l, .gr 2 1 (D + 1), V Z (m.ii E.toNat 0)] [.cells 43 [.ro [.str] p u, .ro [.sl [W Z]] o j], .row 134 [W Z, W Z, .bool, .bool] l m, .row 3 [W Z] (D + 1) (G.app D (datS [V Z E] 1))])
      False)
     False)
    False)
   False)
 (R (XE.exit 4) [V Z A, .own 1 4 l, .gr 2 1 D] [.cells 43 [.ro [.str] p u, .ro [.sl [W Z]] o j], .row 134 [W Z, W Z, .bool, .bool] l m, .row 3 [W Z] D G]))) (fun R => by kernel_rfl) ?_
    exact ch hG (fun h0 => cn (decide_eq_true (Nat.le_refl _)) (cg h0 fun h1 => cg h1 fun h2 => cg h2 fun h3 => ⟨(_, _, _, _, _, _, _, _, _, _), rfl, rfl, h3⟩)) (fun h0 => h0.2)
  · intro s k h
    unfold g25_4 at h
    split at h <;> try exact h.elim
    rename_i e1
    rw [needs_iff] at h
    have hq := h.1
    simp only [List.mem_cons, forall_eq_or_imp, decide_eq_true_eq, List.not_mem_nil, false_imp_iff, implies_true, and_true] at hq
    obtain ⟨rfl, rfl, hq⟩ := hq
    exact ⟨_, e1, _, (_, _, _, _, _, _, _, _, _, _), rfl, rfl, hq, h.2⟩
noncomputable def m25 (b : Nat) (d : Dat) (g : Nat) (i : Dat) (y w : Int) : Nat × Dat × Int × Int :=
  (cond (bif (decide ((m28 b d g i) = 0)) then false else true) (0, noDat, 0, (m28 b d g i)) (cond (bif (bif (m85 b d g i y) then false else true) then true else (bif (m85 b d g i w) then false else true)) (0, noDat, 0, 6) (cond (bif (((o25_0 w ((↑b : Int).toNat) b d g i (m86 ((↑b : Int).toNat) ((datC [V Z 0, V Z 0, SV.bool false, SV.bool false]).upd y.toNat 0 [V Z (-1), V Z 0, SV.bool true, SV.bool false])) ((datC [V Z 0, V Z 0, SV.bool false, SV.bool false]).upd y.toNat 0 [V Z (-1), V Z 0, SV.bool true, SV.bool false])).getD default).bb w.toNat 3) then false else true) (0, noDat, 0, 12) (((o25_4 w ((↑b : Int).toNat) b d g i ((o25_0 w ((↑b : Int).toNat) b d g i (m86 ((↑b : Int).toNat) ((datC [V Z 0, V Z 0, SV.bool false, SV.bool false]).upd y.toNat 0 [V Z (-1), V Z 0, SV.bool true, SV.bool false])) ((datC [V Z 0, V Z 0, SV.bool false, SV.bool false]).upd y.toNat 0 [V Z (-1), V Z 0, SV.bool true, SV.bool false])).getD default) 0 w noDat).getD default).1, (m87 ((o25_4 w ((↑b : Int).toNat) b d g i ((o25_0 w ((↑b : Int).toNat) b d g i (m86 ((↑b : Int).toNat) ((datC [V Z 0, V Z 0, SV.bool false, SV.bool false]).upd y.toNat 0 [V Z (-1), V Z 0, SV.bool true, SV.bool false])) ((datC [V Z 0, V Z 0, SV.bool false, SV.bool false]).upd y.toNat 0 [V Z (-1), V Z 0, SV.bool true, SV.bool false])).getD default) 0 w noDat).getD default).1 ((o25_4 w ((↑b : Int).toNat) b d g i ((o25_0 w ((↑b : Int).toNat) b d g i (m86 ((↑b : Int).toNat) ((datC [V Z 0, V Z 0, SV.bool false, SV.bool false]).upd y.toNat 0 [V Z (-1), V Z 0, SV.bool true, SV.bool false])) ((datC [V Z 0, V Z 0, SV.bool false, SV.bool false]).upd y.toNat 0 [V Z (-1), V Z 0, SV.bool true, SV.bool false])).getD default) 0 w noDat).getD default).2.1 ((o25_4 w ((↑b : Int).toNat) b d g i ((o25_0 w ((↑b : Int).toNat) b d g i (m86 ((↑b : Int).toNat) ((datC [V Z 0, V Z 0, SV.bool false, SV.bool false]).upd y.toNat 0 [V Z (-1), V Z 0, SV.bool true, SV.bool false])) ((datC [V Z 0, V Z 0, SV.bool false, SV.bool false]).upd y.toNat 0 [V Z (-1), V Z 0, SV.bool true, SV.bool false])).getD default) 0 w noDat).getD default).2.2).2, (((o25_0 w ((↑b : Int).toNat) b d g i (m86 ((↑b : Int).toNat) ((datC [V Z 0, V Z 0, SV.bool false, SV.bool false]).upd y.toNat 0 [V Z (-1), V Z 0, SV.bool true, SV.bool false])) ((datC [V Z 0, V Z 0, SV.bool false, SV.bool false]).upd y.toNat 0 [V Z (-1), V Z 0, SV.bool true, SV.bool false])).getD default).ii w.toNat 1), 0))))
noncomputable def n25 (b : Nat) (d : Dat) (g : Nat) (i : Dat) (y w : Int) : Bool :=
  ((n28 b d g i) && (cond (bif (decide ((m28 b d g i) = 0)) then false else true) true (cond (bif (bif (m85 b d g i y) then false else true) then true else (bif (m85 b d g i w) then false else true)) true ((decide (0 ≤ (↑b : Int) ∧ (↑b : Int) ≤ (↑b : Int) ∧ (↑b : Int) ≤ 1073741824)) && ((decide (0 ≤ y ∧ y < (↑(↑b : Int).toNat : Int))) && ((decide (y.toNat < ((↑b : Int).toNat))) && ((decide ((0 + ((↑b : Int).toNat)) ≤ ((↑b : Int).toNat))) && ((n86 ((↑b : Int).toNat) ((datC [V Z 0, V Z 0, SV.bool false, SV.bool false]).upd y.toNat 0 [V Z (-1), V Z 0, SV.bool true, SV.bool false])) && (((o25_0 w ((↑b : Int).toNat) b d g i (m86 ((↑b : Int).toNat) ((datC [V Z 0, V Z 0, SV.bool false, SV.bool false]).upd y.toNat 0 [V Z (-1), V Z 0, SV.bool true, SV.bool false])) ((datC [V Z 0, V Z 0, SV.bool false, SV.bool false]).upd y.toNat 0 [V Z (-1), V Z 0, SV.bool true, SV.bool false])).isSome) && ((decide (0 ≤ w ∧ w < (↑(↑b : Int).toNat : Int))) && ((decide (w.toNat < ((↑b : Int).toNat))) && (cond (bif (((o25_0 w ((↑b : Int).toNat) b d g i (m86 ((↑b : Int).toNat) ((datC [V Z 0, V Z 0, SV.bool false, SV.bool false]).upd y.toNat 0 [V Z (-1), V Z 0, SV.bool true, SV.bool false])) ((datC [V Z 0, V Z 0, SV.bool false, SV.bool false]).upd y.toNat 0 [V Z (-1), V Z 0, SV.bool true, SV.bool false])).getD default).bb w.toNat 3) then false else true) true (((o25_4 w ((↑b : Int).toNat) b d g i ((o25_0 w ((↑b : Int).toNat) b d g i (m86 ((↑b : Int).toNat) ((datC [V Z 0, V Z 0, SV.bool false, SV.bool false]).upd y.toNat 0 [V Z (-1), V Z 0, SV.bool true, SV.bool false])) ((datC [V Z 0, V Z 0, SV.bool false, SV.bool false]).upd y.toNat 0 [V Z (-1), V Z 0, SV.bool true, SV.bool false])).getD default) 0 w noDat).isSome) && ((n87 ((o25_4 w ((↑b : Int).toNat) b d g i ((o25_0 w ((↑b : Int).toNat) b d g i (m86 ((↑b : Int).toNat) ((datC [V Z 0, V Z 0, SV.bool false, SV.bool false]).upd y.toNat 0 [V Z (-1), V Z 0, SV.bool true, SV.bool false])) ((datC [V Z 0, V Z 0, SV.bool false, SV.bool false]).upd y.toNat 0 [V Z (-1), V Z 0, SV.bool true, SV.bool false])).getD default) 0 w noDat).getD default).1 ((o25_4 w ((↑b : Int).toNat) b d g i ((o25_0 w ((↑b : Int).toNat) b d g i (m86 ((↑b : Int).toNat) ((datC [V Z 0, V Z 0, SV.bool false, SV.bool false]).upd y.toNat 0 [V Z (-1), V Z 0, SV.bool true, SV.bool false])) ((datC [V Z 0, V Z 0, SV.bool false, SV.bool false]).upd y.toNat 0 [V Z (-1), V Z 0, SV.bool true, SV.bool false])).getD default) 0 w noDat).getD default).2.1 ((o25_4 w ((↑b : Int).toNat) b d g i ((o25_0 w ((↑b : Int).toNat) b d g i (m86 ((↑b : Int).toNat) ((datC [V Z 0, V Z 0, SV.bool false, SV.bool false]).upd y.toNat 0 [V Z (-1), V Z 0, SV.bool true, SV.bool false])) ((datC [V Z 0, V Z 0, SV.bool false, SV.bool false]).upd y.toNat 0 [V Z (-1), V Z 0, SV.bool true, SV.bool false])).getD default) 0 w noDat).getD default).2.2) && ((decide (0 ≤ w ∧ w < (↑(↑b : Int).toNat : Int))) && ((decide (w.toNat < ((↑b : Int).toNat))) && ((decide ((0 + ((o25_4 w ((↑b : Int).toNat) b d g i ((o25_0 w ((↑b : Int).toNat) b d g i (m86 ((↑b : Int).toNat) ((datC [V Z 0, V Z 0, SV.bool false, SV.bool false]).upd y.toNat 0 [V Z (-1), V Z 0, SV.bool true, SV.bool false])) ((datC [V Z 0, V Z 0, SV.bool false, SV.bool false]).upd y.toNat 0 [V Z (-1), V Z 0, SV.bool true, SV.bool false])).getD default) 0 w noDat).getD default).1) ≤ (m87 ((o25_4 w ((↑b : Int).toNat) b d g i ((o25_0 w ((↑b : Int).toNat) b d g i (m86 ((↑b : Int).toNat) ((datC [V Z 0, V Z 0, SV.bool false, SV.bool false]).upd y.toNat 0 [V Z (-1), V Z 0, SV.bool true, SV.bool false])) ((datC [V Z 0, V Z 0, SV.bool false, SV.bool false]).upd y.toNat 0 [V Z (-1), V Z 0, SV.bool true, SV.bool false])).getD default) 0 w noDat).getD default).1 ((o25_4 w ((↑b : Int).toNat) b d g i ((o25_0 w ((↑b : Int).toNat) b d g i (m86 ((↑b : Int).toNat) ((datC [V Z 0, V Z 0, SV.bool false, SV.bool false]).upd y.toNat 0 [V Z (-1), V Z 0, SV.bool true, SV.bool false])) ((datC [V Z 0, V Z 0, SV.bool false, SV.bool false]).upd y.toNat 0 [V Z (-1), V Z 0, SV.bool true, SV.bool false])).getD default) 0 w noDat).getD default).2.1 ((o25_4 w ((↑b : Int).toNat) b d g i ((o25_0 w ((↑b : Int).toNat) b d g i (m86 ((↑b : Int).toNat) ((datC [V Z 0, V Z 0, SV.bool false, SV.bool false]).upd y.toNat 0 [V Z (-1), V Z 0, SV.bool true, SV.bool false])) ((datC [V Z 0, V Z 0, SV.bool false, SV.bool false]).upd y.toNat 0 [V Z (-1), V Z 0, SV.bool true, SV.bool false])).getD default) 0 w noDat).getD default).2.2).1)) && true)))))))))))))))))
noncomputable def q25 (r : Nat × Dat × Int × Int) : SV × List Blk × List Blk := (.tup [.ro [W Z] r.1 r.2.1, V Z r.2.2.1, V Z r.2.2.2], [], [])
noncomputable def g25 : GF := fun vs bs => match vs, bs with
  | [.agg [.ro [.str] b d, .ro [.sl [W Z]] g i], V Z y, V Z w], [] => some (rs 0 (q25 (m25 b d g i y w)) [n25 b d g i y w])
  | _, _ => none
noncomputable def c25 : Ctr := genC [.a [.ro [.str], .ro [.sl [W Z]]], .k, .k] g25
theorem k25 : CtrOk Try.prog c25 25 := cx (tc k28 (tc k85 (tc k86 (tc k87 tn)))) mix_ok 8 (fn := Try.f25) (c := (Try.f25.body.getD .skip)) (grs := []) (rh := .t [.ro [W Z], .k, .k]) Try.func25 rfl (by kernel_rfl) (lam_of rfl (lc z25_2 (lc z25_0 (lc z25_4 ln)))) fun vs bs q h hn => by
  unfold g25 at h
  split at h <;> cases h
  rename_i b d g i y w
  have hn := n1 hn
  exact ⟨_, rfl, ca (fun R => (cnd (n28 b d g i)
 (cnd (bif (decide ((m28 b d g i) = 0)) then false else true)
 (R (.tup [.ro [W Z] 0 noDat, V Z 0, V Z (m28 b d g i)]) [] [])
 (cnd (bif (bif (m85 b d g i y) then false else true) then true else (bif (m85 b d g i w) then false else true))
 (R (.tup [.ro [W Z] 0 noDat, V Z 0, V Z 6]) [] [])
 (cnd (decide (0 ≤ (↑b : Int) ∧ (↑b : Int) ≤ (↑b : Int) ∧ (↑b : Int) ≤ 1073741824))
 (cnd (decide (0 ≤ y ∧ y < (↑(↑b : Int).toNat : Int)))
 (cnd (decide (y.toNat < ((↑b : Int).toNat)))
 (cnd (decide ((0 + ((↑b : Int).toNat)) ≤ ((↑b : Int).toNat)))
 (cnd (n86 ((↑b : Int).toNat) ((datC [V Z 0, V Z 0, SV.bool false, SV.bool false]).upd y.toNat 0 [V Z (-1), V Z 0, SV.bool true, SV.bool false]))
 (cnd (decide (((↑b : Int).toNat) = ((↑b : Int).toNat)))
 (cnd ((o25_0 w ((↑b : Int).toNat) b d g i (m86 ((↑b : Int).toNat) ((datC [V Z 0, V Z 0, SV.bool false, SV.bool false]).upd y.toNat 0 [V Z (-1), V Z 0, SV.bool true, SV.bool false])) ((datC [V Z 0, V Z 0, SV.bool false, SV.bool false]).upd y.toNat 0 [V Z (-1), V Z 0, SV.bool true, SV.bool false])).isSome)
 (cnd (decide (0 ≤ w ∧ w < (↑(↑b : Int).toNat : Int)))
 (cnd (decide (w.toNat < ((↑b : Int).toNat)))
 (cnd (bif (((o25_0 w ((↑b : Int).toNat) b d g i (m86 ((↑b : Int).toNat) ((datC [V Z 0, V Z 0, SV.bool false, SV.bool false]).upd y.toNat 0 [V Z (-1), V Z 0, SV.bool true, SV.bool false])) ((datC [V Z 0, V Z 0, SV.bool false, SV.bool false]).upd y.toNat 0 [V Z (-1), V Z 0, SV.bool true, SV.bool false])).getD default).bb w.toNat 3) then false else true)
 (R (.tup [.ro [W Z] 0 noDat, V Z 0, V Z 12]) [] [])
 (cnd (decide (((↑b : Int).toNat) = ((↑b : Int).toNat)))
 (cnd ((o25_4 w ((↑b : Int).toNat) b d g i ((o25_0 w ((↑b : Int).toNat) b d g i (m86 ((↑b : Int).toNat) ((datC [V Z 0, V Z 0, SV.bool false, SV.bool false]).upd y.toNat 0 [V Z (-1), V Z 0, SV.bool true, SV.bool false])) ((datC [V Z 0, V Z 0, SV.bool false, SV.bool false]).upd y.toNat 0 [V Z (-1), V Z 0, SV.bool true, SV.bool false])).getD default) 0 w noDat).isSome)
 (cnd (n87 ((o25_4 w ((↑b : Int).toNat) b d g i ((o25_0 w ((↑b : Int).toNat) b d g i (m86 ((↑b : Int).toNat) ((datC [V Z 0, V Z 0, SV.bool false, SV.bool false]).upd y.toNat 0 [V Z (-1), V Z 0, SV.bool true, SV.bool false])) ((datC [V Z 0, V Z 0, SV.bool false, SV.bool false]).upd y.toNat 0 [V Z (-1), V Z 0, SV.bool true, SV.bool false])).getD default) 0 w noDat).getD default).1 ((o25_4 w ((↑b : Int).toNat) b d g i ((o25_0 w ((↑b : Int).toNat) b d g i (m86 ((↑b : Int).toNat) ((datC [V Z 0, V Z 0, SV.bool false, SV.bool false]).upd y.toNat 0 [V Z (-1), V Z 0, SV.bool true, SV.bool false])) ((datC [V Z 0, V Z 0, SV.bool false, SV.bool false]).upd y.toNat 0 [V Z (-1), V Z 0, SV.bool true, SV.bool false])).getD default) 0 w noDat).getD default).2.1 ((o25_4 w ((↑b : Int).toNat) b d g i ((o25_0 w ((↑b : Int).toNat) b d g i (m86 ((↑b : Int).toNat) ((datC [V Z 0, V Z 0, SV.bool false, SV.bool false]).upd y.toNat 0 [V Z (-1), V Z 0, SV.bool true, SV.bool false])) ((datC [V Z 0, V Z 0, SV.bool false, SV.bool false]).upd y.toNat 0 [V Z (-1), V Z 0, SV.bool true, SV.bool false])).getD default) 0 w noDat).getD default).2.2)
 (cnd (decide (0 ≤ w ∧ w < (↑(↑b : Int).toNat : Int)))
 (cnd (decide (w.toNat < ((↑b : Int).toNat)))
 (cnd (decide ((0 + ((o25_4 w ((↑b : Int).toNat) b d g i ((o25_0 w ((↑b : Int).toNat) b d g i (m86 ((↑b : Int).toNat) ((datC [V Z 0, V Z 0, SV.bool false, SV.bool false]).upd y.toNat 0 [V Z (-1), V Z 0, SV.bool true, SV.bool false])) ((datC [V Z 0, V Z 0, SV.bool false, SV.bool false]).upd y.toNat 0 [V Z (-1), V Z 0, SV.bool true, SV.bool false])).getD default) 0 w noDat).getD default).1) ≤ (m87 ((o25_4 w ((↑b : Int).toNat) b d g i ((o25_0 w ((↑b : Int).toNat) b d g i (m86 ((↑b : Int).toNat) ((datC [V Z 0, V Z 0, SV.bool false, SV.bool false]).upd y.toNat 0 [V Z (-1), V Z 0, SV.bool true, SV.bool false])) ((datC [V Z 0, V Z 0, SV.bool false, SV.bool false]).upd y.toNat 0 [V Z (-1), V Z 0, SV.bool true, SV.bool false])).getD default) 0 w noDat).getD default).1 ((o25_4 w ((↑b : Int).toNat) b d g i ((o25_0 w ((↑b : Int).toNat) b d g i (m86 ((↑b : Int).toNat) ((datC [V Z 0, V Z 0, SV.bool false, SV.bool false]).upd y.toNat 0 [V Z (-1), V Z 0, SV.bool true, SV.bool false])) ((datC [V Z 0, V Z 0, SV.bool false, SV.bool false]).upd y.toNat 0 [V Z (-1), V Z 0, SV.bool true, SV.bool false])).getD default) 0 w noDat).getD default).2.1 ((o25_4 w ((↑b : Int).toNat) b d g i ((o25_0 w ((↑b : Int).toNat) b d g i (m86 ((↑b : Int).toNat) ((datC [V Z 0, V Z 0, SV.bool false, SV.bool false]).upd y.toNat 0 [V Z (-1), V Z 0, SV.bool true, SV.bool false])) ((datC [V Z 0, V Z 0, SV.bool false, SV.bool false]).upd y.toNat 0 [V Z (-1), V Z 0, SV.bool true, SV.bool false])).getD default) 0 w noDat).getD default).2.2).1))
 (R (.tup [.ro [W Z] ((o25_4 w ((↑b : Int).toNat) b d g i ((o25_0 w ((↑b : Int).toNat) b d g i (m86 ((↑b : Int).toNat) ((datC [V Z 0, V Z 0, SV.bool false, SV.bool false]).upd y.toNat 0 [V Z (-1), V Z 0, SV.bool true, SV.bool false])) ((datC [V Z 0, V Z 0, SV.bool false, SV.bool false]).upd y.toNat 0 [V Z (-1), V Z 0, SV.bool true, SV.bool false])).getD default) 0 w noDat).getD default).1 (m87 ((o25_4 w ((↑b : Int).toNat) b d g i ((o25_0 w ((↑b : Int).toNat) b d g i (m86 ((↑b : Int).toNat) ((datC [V Z 0, V Z 0, SV.bool false, SV.bool false]).upd y.toNat 0 [V Z (-1), V Z 0, SV.bool true, SV.bool false])) ((datC [V Z 0, V Z 0, SV.bool false, SV.bool false]).upd y.toNat 0 [V Z (-1), V Z 0, SV.bool true, SV.bool false])).getD default) 0 w noDat).getD default).1 ((o25_4 w ((↑b : Int).toNat) b d g i ((o25_0 w ((↑b : Int).toNat) b d g i (m86 ((↑b : Int).toNat) ((datC [V Z 0, V Z 0, SV.bool false, SV.bool false]).upd y.toNat 0 [V Z (-1), V Z 0, SV.bool true, SV.bool false])) ((datC [V Z 0, V Z 0, SV.bool false, SV.bool false]).upd y.toNat 0 [V Z (-1), V Z 0, SV.bool true, SV.bool false])).getD default) 0 w noDat).getD default).2.1 ((o25_4 w ((↑b : Int).toNat) b d g i ((o25_0 w ((↑b : Int).toNat) b d g i (m86 ((↑b : Int).toNat) ((datC [V Z 0, V Z 0, SV.bool false, SV.bool false]).upd y.toNat 0 [V Z (-1), V Z 0, SV.bool true, SV.bool false])) ((datC [V Z 0, V Z 0, SV.bool false, SV.bool false]).upd y.toNat 0 [V Z (-1), V Z 0, SV.bool true, SV.bool false])).getD default) 0 w noDat).getD default).2.2).2, V Z (((o25_0 w ((↑b : Int).toNat) b d g i (m86 ((↑b : Int).toNat) ((datC [V Z 0, V Z 0, SV.bool false, SV.bool false]).upd y.toNat 0 [V Z (-1), V Z 0, SV.bool true, SV.bool false])) ((datC [V Z 0, V Z 0, SV.bool false, SV.bool false]).upd y.toNat 0 [V Z (-1), V Z 0, SV.bool true, SV.bool false])).getD default).ii w.toNat 1), V Z 0]) [] [])
                    False)
                   False)
                  False)
                 False)
                False)
               False))
             False)
            False)
           False)
          False)
         False)
        False)
       False)
      False)
     False)))
  False)) (fun R => by kernel_rfl) (cn (al hn) (co (fun h0 => lf (cT h0 rfl) rfl) (fun h0 => co (fun h1 => lf (cF h0 (cT h1 rfl)) rfl) (fun h1 => cn (al (cf h1 (cf h0 (ar hn)))) (cn (al (ar (cf h1 (cf h0 (ar hn))))) (cn (al (ar (ar (cf h1 (cf h0 (ar hn)))))) (cn (al (ar (ar (ar (cf h1 (cf h0 (ar hn))))))) (cn (al (ar (ar (ar (ar (cf h1 (cf h0 (ar hn)))))))) (cn (decide_eq_true rfl) (cn (al (ar (ar (ar (ar (ar (cf h1 (cf h0 (ar hn))))))))) (cn (al (ar (ar (ar (ar (ar (ar (cf h1 (cf h0 (ar hn)))))))))) (cn (al (ar (ar (ar (ar (ar (ar (ar (cf h1 (cf h0 (ar hn))))))))))) (co (fun h2 => lf (cF h0 (cF h1 (cT h2 rfl))) rfl) (fun h2 => cn (decide_eq_true rfl) (cn (al (cf h2 (ar (ar (ar (ar (ar (ar (ar (ar (cf h1 (cf h0 (ar hn))))))))))))) (cn (al (ar (cf h2 (ar (ar (ar (ar (ar (ar (ar (ar (cf h1 (cf h0 (ar hn)))))))))))))) (cn (al (ar (ar (cf h2 (ar (ar (ar (ar (ar (ar (ar (ar (cf h1 (cf h0 (ar hn))))))))))))))) (cn (al (ar (ar (ar (cf h2 (ar (ar (ar (ar (ar (ar (ar (ar (cf h1 (cf h0 (ar hn)))))))))))))))) (cn (al (ar (ar (ar (ar (cf h2 (ar (ar (ar (ar (ar (ar (ar (ar (cf h1 (cf h0 (ar hn))))))))))))))))) (lf (cF h0 (cF h1 (cF h2 rfl))) rfl))))))))))))))))))))⟩
end Go.Proofs.Ytlaogoojkfjgoaa
