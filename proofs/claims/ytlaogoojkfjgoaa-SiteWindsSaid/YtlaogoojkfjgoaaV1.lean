/-
  Contracts of functions: models, equations by the kernel, contracts. Conditions: none.
-/
import Derived.Test.YtlaogoojkfjgoaaSyY
import Derived.Test.YtlaogoojkfjgoaaBase
import Derived.KernelRfl
namespace Go.Proofs.Ytlaogoojkfjgoaa
open Go Go.Sy
set_option linter.unusedVariables false
set_option maxRecDepth 100000
set_option maxHeartbeats 2000000
attribute [local irreducible] Go.IntKind.wrap Int.tdiv Int.tmod Int.fdiv
noncomputable def bt64104_0 : ByteArray := { data := #[OfNat.ofNat 0, OfNat.ofNat 1, OfNat.ofNat 2, OfNat.ofNat 2, OfNat.ofNat 3, OfNat.ofNat 3, OfNat.ofNat 3, OfNat.ofNat 3, OfNat.ofNat 4, OfNat.ofNat 4, OfNat.ofNat 4, OfNat.ofNat 4, OfNat.ofNat 4, OfNat.ofNat 4, OfNat.ofNat 4, OfNat.ofNat 4, OfNat.ofNat 5, OfNat.ofNat 5, OfNat.ofNat 5, OfNat.ofNat 5, OfNat.ofNat 5, OfNat.ofNat 5, OfNat.ofNat 5, OfNat.ofNat 5, OfNat.ofNat 5, OfNat.ofNat 5, OfNat.ofNat 5, OfNat.ofNat 5, OfNat.ofNat 5, OfNat.ofNat 5, OfNat.ofNat 5, OfNat.ofNat 5, OfNat.ofNat 6, OfNat.ofNat 6, OfNat.ofNat 6, OfNat.ofNat 6, OfNat.ofNat 6, OfNat.ofNat 6, OfNat.ofNat 6, OfNat.ofNat 6, OfNat.ofNat 6, OfNat.ofNat 6, OfNat.ofNat 6, OfNat.ofNat 6, OfNat.ofNat 6, OfNat.ofNat 6, OfNat.ofNat 6, OfNat.ofNat 6, OfNat.ofNat 6, OfNat.ofNat 6, OfNat.ofNat 6, OfNat.ofNat 6, OfNat.ofNat 6, OfNat.ofNat 6, OfNat.ofNat 6, OfNat.ofNat 6, OfNat.ofNat 6, OfNat.ofNat 6, OfNat.ofNat 6, OfNat.ofNat 6, OfNat.ofNat 6, OfNat.ofNat 6, OfNat.ofNat 6, OfNat.ofNat 6, OfNat.ofNat 7, OfNat.ofNat 7, OfNat.ofNat 7, OfNat.ofNat 7, OfNat.ofNat 7, OfNat.ofNat 7, OfNat.ofNat 7, OfNat.ofNat 7, OfNat.ofNat 7, OfNat.ofNat 7, OfNat.ofNat 7, OfNat.ofNat 7, OfNat.ofNat 7, OfNat.ofNat 7, OfNat.ofNat 7, OfNat.ofNat 7, OfNat.ofNat 7, OfNat.ofNat 7, OfNat.ofNat 7, OfNat.ofNat 7, OfNat.ofNat 7, OfNat.ofNat 7, OfNat.ofNat 7, OfNat.ofNat 7, OfNat.ofNat 7, OfNat.ofNat 7, OfNat.ofNat 7, OfNat.ofNat 7, OfNat.ofNat 7, OfNat.ofNat 7, OfNat.ofNat 7, OfNat.ofNat 7, OfNat.ofNat 7, OfNat.ofNat 7, OfNat.ofNat 7, OfNat.ofNat 7, OfNat.ofNat 7, OfNat.ofNat 7, OfNat.ofNat 7, OfNat.ofNat 7, OfNat.ofNat 7, OfNat.ofNat 7, OfNat.ofNat 7, OfNat.ofNat 7, OfNat.ofNat 7, OfNat.ofNat 7, OfNat.ofNat 7, OfNat.ofNat 7, OfNat.ofNat 7, OfNat.ofNat 7, OfNat.ofNat 7, OfNat.ofNat 7, OfNat.ofNat 7, OfNat.ofNat 7, OfNat.ofNat 7, OfNat.ofNat 7, OfNat.ofNat 7, OfNat.ofNat 7, OfNat.ofNat 7, OfNat.ofNat 7, OfNat.ofNat 7, OfNat.ofNat 7, OfNat.ofNat 7, OfNat.ofNat 7, OfNat.ofNat 8, OfNat.ofNat 8, OfNat.ofNat 8, OfNat.ofNat 8, OfNat.ofNat 8, OfNat.ofNat 8, OfNat.ofNat 8, OfNat.ofNat 8, OfNat.ofNat 8, OfNat.ofNat 8, OfNat.ofNat 8, OfNat.ofNat 8, OfNat.ofNat 8, OfNat.ofNat 8, OfNat.ofNat 8, OfNat.ofNat 8, OfNat.ofNat 8, OfNat.ofNat 8, OfNat.ofNat 8, OfNat.ofNat 8, OfNat.ofNat 8, OfNat.ofNat 8, OfNat.ofNat 8, OfNat.ofNat 8, OfNat.ofNat 8, OfNat.ofNat 8, OfNat.ofNat 8, OfNat.ofNat 8, OfNat.ofNat 8, OfNat.ofNat 8, OfNat.ofNat 8, OfNat.ofNat 8, OfNat.ofNat 8, OfNat.ofNat 8, OfNat.ofNat 8, OfNat.ofNat 8, OfNat.ofNat 8, OfNat.ofNat 8, OfNat.ofNat 8, OfNat.ofNat 8, OfNat.ofNat 8, OfNat.ofNat 8, OfNat.ofNat 8, OfNat.ofNat 8, OfNat.ofNat 8, OfNat.ofNat 8, OfNat.ofNat 8, OfNat.ofNat 8, OfNat.ofNat 8, OfNat.ofNat 8, OfNat.ofNat 8, OfNat.ofNat 8, OfNat.ofNat 8, OfNat.ofNat 8, OfNat.ofNat 8, OfNat.ofNat 8, OfNat.ofNat 8, OfNat.ofNat 8, OfNat.ofNat 8, OfNat.ofNat 8, OfNat.ofNat 8, OfNat.ofNat 8, OfNat.ofNat 8, OfNat.ofNat 8, OfNat.ofNat 8, OfNat.ofNat 8, OfNat.ofNat 8, OfNat.ofNat 8, OfNat.ofNat 8, OfNat.ofNat 8, OfNat.ofNat 8, OfNat.ofNat 8, OfNat.ofNat 8, OfNat.ofNat 8, OfNat.ofNat 8, OfNat.ofNat 8, OfNat.ofNat 8, OfNat.ofNat 8, OfNat.ofNat 8, OfNat.ofNat 8, OfNat.ofNat 8, OfNat.ofNat 8, OfNat.ofNat 8, OfNat.ofNat 8, OfNat.ofNat 8, OfNat.ofNat 8, OfNat.ofNat 8, OfNat.ofNat 8, OfNat.ofNat 8, OfNat.ofNat 8, OfNat.ofNat 8, OfNat.ofNat 8, OfNat.ofNat 8, OfNat.ofNat 8, OfNat.ofNat 8, OfNat.ofNat 8, OfNat.ofNat 8, OfNat.ofNat 8, OfNat.ofNat 8, OfNat.ofNat 8, OfNat.ofNat 8, OfNat.ofNat 8, OfNat.ofNat 8, OfNat.ofNat 8, OfNat.ofNat 8, OfNat.ofNat 8, OfNat.ofNat 8, OfNat.ofNat 8, OfNat.ofNat 8, OfNat.ofNat 8, OfNat.ofNat 8, OfNat.ofNat 8, OfNat.ofNat 8, OfNat.ofNat 8, OfNat.ofNat 8, OfNat.ofNat 8, OfNat.ofNat 8, OfNat.ofNat 8, OfNat.ofNat 8, OfNat.ofNat 8, OfNat.ofNat 8, OfNat.ofNat 8, OfNat.ofNat 8, OfNat.ofNat 8, OfNat.ofNat 8, OfNat.ofNat 8, OfNat.ofNat 8, OfNat.ofNat 8] }
noncomputable def bt36767_1 : ByteArray := { data := (([0, 1, 2, 2, 3, 3, 3, 3, 4, 4, 4, 4, 4, 4, 4, 4, 5, 5, 5, 5, 5, 5, 5, 5, 5, 5, 5, 5, 5, 5, 5, 5, 6, 6, 6, 6, 6, 6, 6, 6, 6, 6, 6, 6, 6, 6, 6, 6, 6, 6, 6, 6, 6, 6, 6, 6, 6, 6, 6, 6, 6, 6, 6, 6].append [7, 7, 7, 7, 7, 7, 7, 7, 7, 7, 7, 7, 7, 7, 7, 7, 7, 7, 7, 7, 7, 7, 7, 7, 7, 7, 7, 7, 7, 7, 7, 7, 7, 7, 7, 7, 7, 7, 7, 7, 7, 7, 7, 7, 7, 7, 7, 7, 7, 7, 7, 7, 7, 7, 7, 7, 7, 7, 7, 7, 7, 7, 7, 7]).append ([8, 8, 8, 8, 8, 8, 8, 8, 8, 8, 8, 8, 8, 8, 8, 8, 8, 8, 8, 8, 8, 8, 8, 8, 8, 8, 8, 8, 8, 8, 8, 8, 8, 8, 8, 8, 8, 8, 8, 8, 8, 8, 8, 8, 8, 8, 8, 8, 8, 8, 8, 8, 8, 8, 8, 8, 8, 8, 8, 8, 8, 8, 8, 8].append [8, 8, 8, 8, 8, 8, 8, 8, 8, 8, 8, 8, 8, 8, 8, 8, 8, 8, 8, 8, 8, 8, 8, 8, 8, 8, 8, 8, 8, 8, 8, 8, 8, 8, 8, 8, 8, 8, 8, 8, 8, 8, 8, 8, 8, 8, 8, 8, 8, 8, 8, 8, 8, 8, 8, 8, 8, 8, 8, 8, 8, 8, 8, 8])).toArray }
noncomputable def bt14506_2 : ByteArray := { data := (([(0 : UInt8), (1 : UInt8), (2 : UInt8), (2 : UInt8), (3 : UInt8), (3 : UInt8), (3 : UInt8), (3 : UInt8), (4 : UInt8), (4 : UInt8), (4 : UInt8), (4 : UInt8), (4 : UInt8), (4 : UInt8), (4 : UInt8), (4 : UInt8), (5 : UInt8), (5 : UInt8), (5 : UInt8), (5 : UInt8), (5 : UInt8), (5 : UInt8), (5 : UInt8), (5 : UInt8), (5 : UInt8), (5 : UInt8), (5 : UInt8), (5 : UInt8), (5 : UInt8), (5 : UInt8), (5 : UInt8), (5 : UInt8), (6 : UInt8), (6 : UInt8), (6 : UInt8), (6 : UInt8), (6 : UInt8), (6 : UInt8), (6 : UInt8), (6 : UInt8), (6 : UInt8), (6 : UInt8), (6 : UInt8), (6 : UInt8), (6 : UInt8), (6 : UInt8), (6 : UInt8), (6 : UInt8), (6 : UInt8), (6 : UInt8), (6 : UInt8), (6 : UInt8), (6 : UInt8), (6 : UInt8), (6 : UInt8), (6 : UInt8), (6 : UInt8), (6 : UInt8), (6 : UInt8), (6 : UInt8), (6 : UInt8), (6 : UInt8), (6 : UInt8), (6 : UInt8)].append [(7 : UInt8), (7 : UInt8), (7 : UInt8), (7 : UInt8), (7 : UInt8), (7 : UInt8), (7 : UInt8), (7 : UInt8), (7 : UInt8), (7 : UInt8), (7 : UInt8), (7 : UInt8), (7 : UInt8), (7 : UInt8), (7 : UInt8), (7 : UInt8), (7 : UInt8), (7 : UInt8), (7 : UInt8), (7 : UInt8), (7 : UInt8), (7 : UInt8), (7 : UInt8), (7 : UInt8), (7 : UInt8), (7 : UInt8), (7 : UInt8), (7 : UInt8), (7 : UInt8), (7 : UInt8), (7 : UInt8), (7 : UInt8), (7 : UInt8), (7 : UInt8), (7 : UInt8), (7 : UInt8), (7 : UInt8), (7 : UInt8), (7 : UInt8), (7 : UInt8), (7 : UInt8), (7 : UInt8), (7 : UInt8), (7 : UInt8), (7 : UInt8), (7 : UInt8), (7 : UInt8), (7 : UInt8), (7 : UInt8), (7 : UInt8), (7 : UInt8), (7 : UInt8), (7 : UInt8), (7 : UInt8), (7 : UInt8), (7 : UInt8), (7 : UInt8), (7 : UInt8), (7 : UInt8), (7 : UInt8), (7 : UInt8), (7 : UInt8), (7 : UInt8), (7 : UInt8)]).append ([(8 : UInt8), (8 : UInt8), (8 : UInt8), (8 : UInt8), (8 : UInt8), (8 : UInt8), (8 : UInt8), (8 : UInt8), (8 : UInt8), (8 : UInt8), (8 : UInt8), (8 : UInt8), (8 : UInt8), (8 : UInt8), (8 : UInt8), (8 : UInt8), (8 : UInt8), (8 : UInt8), (8 : UInt8), (8 : UInt8), (8 : UInt8), (8 : UInt8), (8 : UInt8), (8 : UInt8), (8 : UInt8), (8 : UInt8), (8 : UInt8), (8 : UInt8), (8 : UInt8), (8 : UInt8), (8 : UInt8), (8 : UInt8), (8 : UInt8), (8 : UInt8), (8 : UInt8), (8 : UInt8), (8 : UInt8), (8 : UInt8), (8 : UInt8), (8 : UInt8), (8 : UInt8), (8 : UInt8), (8 : UInt8), (8 : UInt8), (8 : UInt8), (8 : UInt8), (8 : UInt8), (8 : UInt8), (8 : UInt8), (8 : UInt8), (8 : UInt8), (8 : UInt8), (8 : UInt8), (8 : UInt8), (8 : UInt8), (8 : UInt8), (8 : UInt8), (8 : UInt8), (8 : UInt8), (8 : UInt8), (8 : UInt8), (8 : UInt8), (8 : UInt8), (8 : UInt8)].append [(8 : UInt8), (8 : UInt8), (8 : UInt8), (8 : UInt8), (8 : UInt8), (8 : UInt8), (8 : UInt8), (8 : UInt8), (8 : UInt8), (8 : UInt8), (8 : UInt8), (8 : UInt8), (8 : UInt8), (8 : UInt8), (8 : UInt8), (8 : UInt8), (8 : UInt8), (8 : UInt8), (8 : UInt8), (8 : UInt8), (8 : UInt8), (8 : UInt8), (8 : UInt8), (8 : UInt8), (8 : UInt8), (8 : UInt8), (8 : UInt8), (8 : UInt8), (8 : UInt8), (8 : UInt8), (8 : UInt8), (8 : UInt8), (8 : UInt8), (8 : UInt8), (8 : UInt8), (8 : UInt8), (8 : UInt8), (8 : UInt8), (8 : UInt8), (8 : UInt8), (8 : UInt8), (8 : UInt8), (8 : UInt8), (8 : UInt8), (8 : UInt8), (8 : UInt8), (8 : UInt8), (8 : UInt8), (8 : UInt8), (8 : UInt8), (8 : UInt8), (8 : UInt8), (8 : UInt8), (8 : UInt8), (8 : UInt8), (8 : UInt8), (8 : UInt8), (8 : UInt8), (8 : UInt8), (8 : UInt8), (8 : UInt8), (8 : UInt8), (8 : UInt8), (8 : UInt8)])).toArray }
noncomputable def bt8314_0 : ByteArray := { data := (([0, 1, 2, 2, 3, 3, 3, 3, 4, 4, 4, 4, 4, 4, 4, 4, 5, 5, 5, 5, 5, 5, 5, 5, 5, 5, 5, 5, 5, 5, 5, 5, 6, 6, 6, 6, 6, 6, 6, 6, 6, 6, 6, 6, 6, 6, 6, 6, 6, 6, 6, 6, 6, 6, 6, 6, 6, 6, 6, 6, 6, 6, 6, 6].append [7, 7, 7, 7, 7, 7, 7, 7, 7, 7, 7, 7, 7, 7, 7, 7, 7, 7, 7, 7, 7, 7, 7, 7, 7, 7, 7, 7, 7, 7, 7, 7, 7, 7, 7, 7, 7, 7, 7, 7, 7, 7, 7, 7, 7, 7, 7, 7, 7, 7, 7, 7, 7, 7, 7, 7, 7, 7, 7, 7, 7, 7, 7, 7]).append ([8, 8, 8, 8, 8, 8, 8, 8, 8, 8, 8, 8, 8, 8, 8, 8, 8, 8, 8, 8, 8, 8, 8, 8, 8, 8, 8, 8, 8, 8, 8, 8, 8, 8, 8, 8, 8, 8, 8, 8, 8, 8, 8, 8, 8, 8, 8, 8, 8, 8, 8, 8, 8, 8, 8, 8, 8, 8, 8, 8, 8, 8, 8, 8].append [8, 8, 8, 8, 8, 8, 8, 8, 8, 8, 8, 8, 8, 8, 8, 8, 8, 8, 8, 8, 8, 8, 8, 8, 8, 8, 8, 8, 8, 8, 8, 8, 8, 8, 8, 8, 8, 8, 8, 8, 8, 8, 8, 8, 8, 8, 8, 8, 8, 8, 8, 8, 8, 8, 8, 8, 8, 8, 8, 8, 8, 8, 8, 8])).toArray }
noncomputable def bt78892_1 : ByteArray := { data := #[OfNat.ofNat 0, OfNat.ofNat 1, OfNat.ofNat 2, OfNat.ofNat 2, OfNat.ofNat 3, OfNat.ofNat 3, OfNat.ofNat 3, OfNat.ofNat 3, OfNat.ofNat 4, OfNat.ofNat 4, OfNat.ofNat 4, OfNat.ofNat 4, OfNat.ofNat 4, OfNat.ofNat 4, OfNat.ofNat 4, OfNat.ofNat 4, OfNat.ofNat 5, OfNat.ofNat 5, OfNat.ofNat 5, OfNat.ofNat 5, OfNat.ofNat 5, OfNat.ofNat 5, OfNat.ofNat 5, OfNat.ofNat 5, OfNat.ofNat 5, OfNat.ofNat 5, OfNat.ofNat 5, OfNat.ofNat 5, OfNat.ofNat 5, OfNat.ofNat 5, OfNat.ofNat 5, OfNat.ofNat 5, OfNat.ofNat 6, OfNat.ofNat 6, OfNat.ofNat 6, OfNat.ofNat 6, OfNat.ofNat 6, OfNat.ofNat 6, OfNat.ofNat 6, OfNat.ofNat 6, OfNat.ofNat 6, OfNat.ofNat 6, OfNat.ofNat 6, OfNat.ofNat 6, OfNat.ofNat 6, OfNat.ofNat 6, OfNat.ofNat 6, OfNat.ofNat 6, OfNat.ofNat 6, OfNat.ofNat 6, OfNat.ofNat 6, OfNat.ofNat 6, OfNat.ofNat 6, OfNat.ofNat 6, OfNat.ofNat 6, OfNat.ofNat 6, OfNat.ofNat 6, OfNat.ofNat 6, OfNat.ofNat 6, OfNat.ofNat 6, OfNat.ofNat 6, OfNat.ofNat 6, OfNat.ofNat 6, OfNat.ofNat 6, OfNat.ofNat 7, OfNat.ofNat 7, OfNat.ofNat 7, OfNat.ofNat 7, OfNat.ofNat 7, OfNat.ofNat 7, OfNat.ofNat 7, OfNat.ofNat 7, OfNat.ofNat 7, OfNat.ofNat 7, OfNat.ofNat 7, OfNat.ofNat 7, OfNat.ofNat 7, OfNat.ofNat 7, OfNat.ofNat 7, OfNat.ofNat 7, OfNat.ofNat 7, OfNat.ofNat 7, OfNat.ofNat 7, OfNat.ofNat 7, OfNat.ofNat 7, OfNat.ofNat 7, OfNat.ofNat 7, OfNat.ofNat 7, OfNat.ofNat 7, OfNat.ofNat 7, OfNat.ofNat 7, OfNat.ofNat 7, OfNat.ofNat 7, OfNat.ofNat 7, OfNat.ofNat 7, OfNat.ofNat 7, OfNat.ofNat 7, OfNat.ofNat 7, OfNat.ofNat 7, OfNat.ofNat 7, OfNat.ofNat 7, OfNat.ofNat 7, OfNat.ofNat 7, OfNat.ofNat 7, OfNat.ofNat 7, OfNat.ofNat 7, OfNat.ofNat 7, OfNat.ofNat 7, OfNat.ofNat 7, OfNat.ofNat 7, OfNat.ofNat 7, OfNat.ofNat 7, OfNat.ofNat 7, OfNat.ofNat 7, OfNat.ofNat 7, OfNat.ofNat 7, OfNat.ofNat 7, OfNat.ofNat 7, OfNat.ofNat 7, OfNat.ofNat 7, OfNat.ofNat 7, OfNat.ofNat 7, OfNat.ofNat 7, OfNat.ofNat 7, OfNat.ofNat 7, OfNat.ofNat 7, OfNat.ofNat 7, OfNat.ofNat 7, OfNat.ofNat 8, OfNat.ofNat 8, OfNat.ofNat 8, OfNat.ofNat 8, OfNat.ofNat 8, OfNat.ofNat 8, OfNat.ofNat 8, OfNat.ofNat 8, OfNat.ofNat 8, OfNat.ofNat 8, OfNat.ofNat 8, OfNat.ofNat 8, OfNat.ofNat 8, OfNat.ofNat 8, OfNat.ofNat 8, OfNat.ofNat 8, OfNat.ofNat 8, OfNat.ofNat 8, OfNat.ofNat 8, OfNat.ofNat 8, OfNat.ofNat 8, OfNat.ofNat 8, OfNat.ofNat 8, OfNat.ofNat 8, OfNat.ofNat 8, OfNat.ofNat 8, OfNat.ofNat 8, OfNat.ofNat 8, OfNat.ofNat 8, OfNat.ofNat 8, OfNat.ofNat 8, OfNat.ofNat 8, OfNat.ofNat 8, OfNat.ofNat 8, OfNat.ofNat 8, OfNat.ofNat 8, OfNat.ofNat 8, OfNat.ofNat 8, OfNat.ofNat 8, OfNat.ofNat 8, OfNat.ofNat 8, OfNat.ofNat 8, OfNat.ofNat 8, OfNat.ofNat 8, OfNat.ofNat 8, OfNat.ofNat 8, OfNat.ofNat 8, OfNat.ofNat 8, OfNat.ofNat 8, OfNat.ofNat 8, OfNat.ofNat 8, OfNat.ofNat 8, OfNat.ofNat 8, OfNat.ofNat 8, OfNat.ofNat 8, OfNat.ofNat 8, OfNat.ofNat 8, OfNat.ofNat 8, OfNat.ofNat 8, OfNat.ofNat 8, OfNat.ofNat 8, OfNat.ofNat 8, OfNat.ofNat 8, OfNat.ofNat 8, OfNat.ofNat 8, OfNat.ofNat 8, OfNat.ofNat 8, OfNat.ofNat 8, OfNat.ofNat 8, OfNat.ofNat 8, OfNat.ofNat 8, OfNat.ofNat 8, OfNat.ofNat 8, OfNat.ofNat 8, OfNat.ofNat 8, OfNat.ofNat 8, OfNat.ofNat 8, OfNat.ofNat 8, OfNat.ofNat 8, OfNat.ofNat 8, OfNat.ofNat 8, OfNat.ofNat 8, OfNat.ofNat 8, OfNat.ofNat 8, OfNat.ofNat 8, OfNat.ofNat 8, OfNat.ofNat 8, OfNat.ofNat 8, OfNat.ofNat 8, OfNat.ofNat 8, OfNat.ofNat 8, OfNat.ofNat 8, OfNat.ofNat 8, OfNat.ofNat 8, OfNat.ofNat 8, OfNat.ofNat 8, OfNat.ofNat 8, OfNat.ofNat 8, OfNat.ofNat 8, OfNat.ofNat 8, OfNat.ofNat 8, OfNat.ofNat 8, OfNat.ofNat 8, OfNat.ofNat 8, OfNat.ofNat 8, OfNat.ofNat 8, OfNat.ofNat 8, OfNat.ofNat 8, OfNat.ofNat 8, OfNat.ofNat 8, OfNat.ofNat 8, OfNat.ofNat 8, OfNat.ofNat 8, OfNat.ofNat 8, OfNat.ofNat 8, OfNat.ofNat 8, OfNat.ofNat 8, OfNat.ofNat 8, OfNat.ofNat 8, OfNat.ofNat 8, OfNat.ofNat 8, OfNat.ofNat 8, OfNat.ofNat 8, OfNat.ofNat 8, OfNat.ofNat 8, OfNat.ofNat 8, OfNat.ofNat 8, OfNat.ofNat 8] }
noncomputable def bt67477_2 : ByteArray := { data := (([(0 : UInt8), (1 : UInt8), (2 : UInt8), (2 : UInt8), (3 : UInt8), (3 : UInt8), (3 : UInt8), (3 : UInt8), (4 : UInt8), (4 : UInt8), (4 : UInt8), (4 : UInt8), (4 : UInt8), (4 : UInt8), (4 : UInt8), (4 : UInt8), (5 : UInt8), (5 : UInt8), (5 : UInt8), (5 : UInt8), (5 : UInt8), (5 : UInt8), (5 : UInt8), (5 : UInt8), (5 : UInt8), (5 : UInt8), (5 : UInt8), (5 : UInt8), (5 : UInt8), (5 : UInt8), (5 : UInt8), (5 : UInt8), (6 : UInt8), (6 : UInt8), (6 : UInt8), (6 : UInt8), (6 : UInt8), (6 : UInt8), (6 : UInt8), (6 : UInt8), (6 : UInt8), (6 : UInt8), (6 : UInt8), (6 : UInt8), (6 : UInt8), (6 : UInt8), (6 : UInt8), (6 : UInt8), (6 : UInt8), (6 : UInt8), (6 : UInt8), (6 : UInt8), (6 : UInt8), (6 : UInt8), (6 : UInt8), (6 : UInt8), (6 : UInt8), (6 : UInt8), (6 : UInt8), (6 : UInt8), (6 : UInt8), (6 : UInt8), (6 : UInt8), (6 : UInt8)].append [(7 : UInt8), (7 : UInt8), (7 : UInt8), (7 : UInt8), (7 : UInt8), (7 : UInt8), (7 : UInt8), (7 : UInt8), (7 : UInt8), (7 : UInt8), (7 : UInt8), (7 : UInt8), (7 : UInt8), (7 : UInt8), (7 : UInt8), (7 : UInt8), (7 : UInt8), (7 : UInt8), (7 : UInt8), (7 : UInt8), (7 : UInt8), (7 : UInt8), (7 : UInt8), (7 : UInt8), (7 : UInt8), (7 : UInt8), (7 : UInt8), (7 : UInt8), (7 : UInt8), (7 : UInt8), (7 : UInt8), (7 : UInt8), (7 : UInt8), (7 : UInt8), (7 : UInt8), (7 : UInt8), (7 : UInt8), (7 : UInt8), (7 : UInt8), (7 : UInt8), (7 : UInt8), (7 : UInt8), (7 : UInt8), (7 : UInt8), (7 : UInt8), (7 : UInt8), (7 : UInt8), (7 : UInt8), (7 : UInt8), (7 : UInt8), (7 : UInt8), (7 : UInt8), (7 : UInt8), (7 : UInt8), (7 : UInt8), (7 : UInt8), (7 : UInt8), (7 : UInt8), (7 : UInt8), (7 : UInt8), (7 : UInt8), (7 : UInt8), (7 : UInt8), (7 : UInt8)]).append ([(8 : UInt8), (8 : UInt8), (8 : UInt8), (8 : UInt8), (8 : UInt8), (8 : UInt8), (8 : UInt8), (8 : UInt8), (8 : UInt8), (8 : UInt8), (8 : UInt8), (8 : UInt8), (8 : UInt8), (8 : UInt8), (8 : UInt8), (8 : UInt8), (8 : UInt8), (8 : UInt8), (8 : UInt8), (8 : UInt8), (8 : UInt8), (8 : UInt8), (8 : UInt8), (8 : UInt8), (8 : UInt8), (8 : UInt8), (8 : UInt8), (8 : UInt8), (8 : UInt8), (8 : UInt8), (8 : UInt8), (8 : UInt8), (8 : UInt8), (8 : UInt8), (8 : UInt8), (8 : UInt8), (8 : UInt8), (8 : UInt8), (8 : UInt8), (8 : UInt8), (8 : UInt8), (8 : UInt8), (8 : UInt8), (8 : UInt8), (8 : UInt8), (8 : UInt8), (8 : UInt8), (8 : UInt8), (8 : UInt8), (8 : UInt8), (8 : UInt8), (8 : UInt8), (8 : UInt8), (8 : UInt8), (8 : UInt8), (8 : UInt8), (8 : UInt8), (8 : UInt8), (8 : UInt8), (8 : UInt8), (8 : UInt8), (8 : UInt8), (8 : UInt8), (8 : UInt8)].append [(8 : UInt8), (8 : UInt8), (8 : UInt8), (8 : UInt8), (8 : UInt8), (8 : UInt8), (8 : UInt8), (8 : UInt8), (8 : UInt8), (8 : UInt8), (8 : UInt8), (8 : UInt8), (8 : UInt8), (8 : UInt8), (8 : UInt8), (8 : UInt8), (8 : UInt8), (8 : UInt8), (8 : UInt8), (8 : UInt8), (8 : UInt8), (8 : UInt8), (8 : UInt8), (8 : UInt8), (8 : UInt8), (8 : UInt8), (8 : UInt8), (8 : UInt8), (8 : UInt8), (8 : UInt8), (8 : UInt8), (8 : UInt8), (8 : UInt8), (8 : UInt8), (8 : UInt8), (8 : UInt8), (8 : UInt8), (8 : UInt8), (8 : UInt8), (8 : UInt8), (8 : UInt8), (8 : UInt8), (8 : UInt8), (8 : UInt8), (8 : UInt8), (8 : UInt8), (8 : UInt8), (8 : UInt8), (8 : UInt8), (8 : UInt8), (8 : UInt8), (8 : UInt8), (8 : UInt8), (8 : UInt8), (8 : UInt8), (8 : UInt8), (8 : UInt8), (8 : UInt8), (8 : UInt8), (8 : UInt8), (8 : UInt8), (8 : UInt8), (8 : UInt8), (8 : UInt8)])).toArray }
/-! ### shotline/shotlinebase.Within -/
theorem x29 (a0 : Int) (a1 : Int) (a2 : Int) (R : SV → List Blk → List Blk → Prop) : exec Try.prog [] (fun _ => none) 8 (Try.f29.body.getD .skip) (initS Try.f29.ntmps [.int .i64 a0, .int .i64 a1, .int .i64 a2] 0 (memOf [])) (retK Try.prog Try.f29.results.toList (outK 0 (List.range 0) [] (.k) fun v U N => R v U N)) =
 (R (.bool (bif (decide (a1 ≤ a0)) then (decide (a0 ≤ a2)) else false)) [] []) := by kernel_rfl
noncomputable def m29 (a0 : Int) (a1 : Int) (a2 : Int) : Bool :=
 (bif (decide (a1 ≤ a0)) then (decide (a0 ≤ a2)) else false)
noncomputable def q29 (r : Bool) : SV × List Blk × List Blk := (.bool r, [], [])
noncomputable def g29 : List SV → List Blk → Option OpRes := fun vs bs => match vs, bs with
  | [.int .i64 a0, .int .i64 a1, .int .i64 a2], [] => some (resOf 0 (q29 (m29 a0 a1 a2)) [])
  | _, _ => none
noncomputable def c29 : Ctr := genC [.k, .k, .k] g29
theorem p29 (a0 : Int) (a1 : Int) (a2 : Int) : exec Try.prog [] (fun _ => none) 8 (Try.f29.body.getD .skip) (initS Try.f29.ntmps [.int .i64 a0, .int .i64 a1, .int .i64 a2] 0 (memOf [])) (retK Try.prog Try.f29.results.toList (outK 0 (List.range 0) [] (.k) fun v U N => (v, U, N) = (q29 (m29 a0 a1 a2)))) :=
  propOf (x29 a0 a1 a2 _) (leaf_of (l := (bif (decide (a1 ≤ a0)) then (decide (a0 ≤ a2)) else false)) rfl rfl)
theorem k29 : CtrOk Try.prog c29 29 := ctr_of tabOk_nil mix_ok 8 (fn := Try.f29) (c := (Try.f29.body.getD .skip)) (grs := []) (rh := .k) (Λ := (fun _ => none)) Try.func29 rfl (by kernel_rfl) noLam fun vs bs q h _ => by
  unfold g29 at h
  split at h <;> cases h
  exact ⟨_, rfl, p29 _ _ _⟩
/-! ### shotline/site.within -/
theorem x96 (a0 : Int) (a1 : Int) (a2 : Int) (R : SV → List Blk → List Blk → Prop) : exec Try.prog [] (fun _ => none) 8 (Try.f96.body.getD .skip) (initS Try.f96.ntmps [.int .i64 a0, .int .i64 a1, .int .i64 a2] 0 (memOf [])) (retK Try.prog Try.f96.results.toList (outK 0 (List.range 0) [] (.k) fun v U N => R v U N)) =
 (R (.bool (bif (decide (a1 ≤ a0)) then (decide (a0 ≤ a2)) else false)) [] []) := by kernel_rfl
noncomputable def m96 (a0 : Int) (a1 : Int) (a2 : Int) : Bool :=
 (bif (decide (a1 ≤ a0)) then (decide (a0 ≤ a2)) else false)
noncomputable def q96 (r : Bool) : SV × List Blk × List Blk := (.bool r, [], [])
noncomputable def g96 : List SV → List Blk → Option OpRes := fun vs bs => match vs, bs with
  | [.int .i64 a0, .int .i64 a1, .int .i64 a2], [] => some (resOf 0 (q96 (m96 a0 a1 a2)) [])
  | _, _ => none
noncomputable def c96 : Ctr := genC [.k, .k, .k] g96
theorem p96 (a0 : Int) (a1 : Int) (a2 : Int) : exec Try.prog [] (fun _ => none) 8 (Try.f96.body.getD .skip) (initS Try.f96.ntmps [.int .i64 a0, .int .i64 a1, .int .i64 a2] 0 (memOf [])) (retK Try.prog Try.f96.results.toList (outK 0 (List.range 0) [] (.k) fun v U N => (v, U, N) = (q96 (m96 a0 a1 a2)))) :=
  propOf (x96 a0 a1 a2 _) (leaf_of (l := (bif (decide (a1 ≤ a0)) then (decide (a0 ≤ a2)) else false)) rfl rfl)
theorem k96 : CtrOk Try.prog c96 96 := ctr_of tabOk_nil mix_ok 8 (fn := Try.f96) (c := (Try.f96.body.getD .skip)) (grs := []) (rh := .k) (Λ := (fun _ => none)) Try.func96 rfl (by kernel_rfl) noLam fun vs bs q h _ => by
  unfold g96 at h
  split at h <;> cases h
  exact ⟨_, rfl, p96 _ _ _⟩
/-! ### shotline/site.down -/
theorem x127 (a0 : Int) (a1 : Int) (R : SV → List Blk → List Blk → Prop) : exec Try.prog [] (fun _ => none) 8 (Try.f127.body.getD .skip) (initS Try.f127.ntmps [.int .i64 a0, .int .i64 a1] 0 (memOf [])) (retK Try.prog Try.f127.results.toList (outK 0 (List.range 0) [] (.k) fun v U N => R v U N)) =
 (cnd ((decide (a0 < (0 : Int))))
 (cnd ((bif (decide (a1 = 0)) then false else true))
 (R (.int .i64 (IntKind.i64.wrap (0 - (IntKind.i64.wrap ((IntKind.i64.wrap ((IntKind.i64.wrap ((IntKind.i64.wrap (0 - a0)) + a1)) - 1)).tdiv a1))))) [] [])
   False)
 (cnd ((bif (decide (a1 = 0)) then false else true))
 (R (.int .i64 (IntKind.i64.wrap (a0.tdiv a1))) [] [])
   False)) := by kernel_rfl
noncomputable def m127 (a0 : Int) (a1 : Int) : Int :=
 (cond ((decide (a0 < (0 : Int)))) (IntKind.i64.wrap (0 - (IntKind.i64.wrap ((IntKind.i64.wrap ((IntKind.i64.wrap ((IntKind.i64.wrap (0 - a0)) + a1)) - 1)).tdiv a1)))) (IntKind.i64.wrap (a0.tdiv a1)))
noncomputable def n127 (a0 : Int) (a1 : Int) : Bool :=
 (cond ((decide (a0 < (0 : Int)))) (((bif (decide (a1 = 0)) then false else true)) && true) (((bif (decide (a1 = 0)) then false else true)) && true))
noncomputable def q127 (r : Int) : SV × List Blk × List Blk := (.int .i64 r, [], [])
noncomputable def g127 : List SV → List Blk → Option OpRes := fun vs bs => match vs, bs with
  | [.int .i64 a0, .int .i64 a1], [] => some (resOf 0 (q127 (m127 a0 a1)) [n127 a0 a1])
  | _, _ => none
noncomputable def c127 : Ctr := genC [.k, .k] g127
theorem p127 (a0 : Int) (a1 : Int) (hn : n127 a0 a1 = true) : exec Try.prog [] (fun _ => none) 8 (Try.f127.body.getD .skip) (initS Try.f127.ntmps [.int .i64 a0, .int .i64 a1] 0 (memOf [])) (retK Try.prog Try.f127.results.toList (outK 0 (List.range 0) [] (.k) fun v U N => (v, U, N) = (q127 (m127 a0 a1)))) :=
  propOf (x127 a0 a1 _) (cnd_of (fun h0 => cnd_need (and_l (cond_t h0 hn)) (leaf_of (l := (IntKind.i64.wrap (0 - (IntKind.i64.wrap ((IntKind.i64.wrap ((IntKind.i64.wrap ((IntKind.i64.wrap (0 - a0)) + a1)) - 1)).tdiv a1))))) (condT h0 rfl) rfl)) (fun h0 => cnd_need (and_l (cond_f h0 hn)) (leaf_of (l := (IntKind.i64.wrap (a0.tdiv a1))) (condF h0 rfl) rfl)))
theorem k127 : CtrOk Try.prog c127 127 := ctr_of tabOk_nil mix_ok 8 (fn := Try.f127) (c := (Try.f127.body.getD .skip)) (grs := []) (rh := .k) (Λ := (fun _ => none)) Try.func127 rfl (by kernel_rfl) noLam fun vs bs q h hn => by
  unfold g127 at h
  split at h <;> cases h
  exact ⟨_, rfl, p127 _ _ (hn _ (List.mem_singleton.2 rfl))⟩
/-! ### shotline/site.negated -/
theorem x134 (a0_0 : Int) (a0_1 : Int) (R : SV → List Blk → List Blk → Prop) : exec Try.prog [] (fun _ => none) 8 (Try.f134.body.getD .skip) (initS Try.f134.ntmps [.agg [.int .i64 a0_0, .int .i64 a0_1]] 0 (memOf [])) (retK Try.prog Try.f134.results.toList (outK 0 (List.range 0) [] (.k) fun v U N => R v U N)) =
 (R (.agg [.int .i64 (IntKind.i64.wrap (0 - a0_1)), .int .i64 (IntKind.i64.wrap (0 - a0_0))]) [] []) := by kernel_rfl
noncomputable def m134 (a0_0 : Int) (a0_1 : Int) : Int × Int :=
 ((IntKind.i64.wrap (0 - a0_1)), (IntKind.i64.wrap (0 - a0_0)))
noncomputable def q134 (r : Int × Int) : SV × List Blk × List Blk := (.agg [.int .i64 r.1, .int .i64 r.2], [], [])
noncomputable def g134 : List SV → List Blk → Option OpRes := fun vs bs => match vs, bs with
  | [.agg [.int .i64 a0_0, .int .i64 a0_1]], [] => some (resOf 0 (q134 (m134 a0_0 a0_1)) [])
  | _, _ => none
noncomputable def c134 : Ctr := genC [.k] g134
theorem p134 (a0_0 : Int) (a0_1 : Int) : exec Try.prog [] (fun _ => none) 8 (Try.f134.body.getD .skip) (initS Try.f134.ntmps [.agg [.int .i64 a0_0, .int .i64 a0_1]] 0 (memOf [])) (retK Try.prog Try.f134.results.toList (outK 0 (List.range 0) [] (.k) fun v U N => (v, U, N) = (q134 (m134 a0_0 a0_1)))) :=
  propOf (x134 a0_0 a0_1 _) (leaf_of (l := ((IntKind.i64.wrap (0 - a0_1)), (IntKind.i64.wrap (0 - a0_0)))) rfl rfl)
theorem k134 : CtrOk Try.prog c134 134 := ctr_of tabOk_nil mix_ok 8 (fn := Try.f134) (c := (Try.f134.body.getD .skip)) (grs := []) (rh := .k) (Λ := (fun _ => none)) Try.func134 rfl (by kernel_rfl) noLam fun vs bs q h _ => by
  unfold g134 at h
  split at h <;> cases h
  exact ⟨_, rfl, p134 _ _⟩
/-! ### shotline/site.root -/
noncomputable def l131_0 (t0 : Int) : Nat → Int → Int → Option (Int)
  | 0, _, _ => none
  | f + 1, t3, t4 => (cond ((decide (t4 < t3))) (cond ((bif (decide (t4 = 0)) then false else true)) (l131_0 t0 f t4 (IntKind.i64.wrap ((IntKind.i64.wrap (t4 + (IntKind.i64.wrap (t0.tdiv t4)))).tdiv 2))) none) (some t3))
noncomputable abbrev o131_0 (t0 : Int) (t3 : Int) (t4 : Int) : Option (Int) := l131_0 t0 (t0.toNat + t3.toNat + t4.toNat + 8) t3 t4
noncomputable def e131_0 (t0 : Int) (r : Int) (K : XR) : Prop := K (XE.exit 0) [.int .i64 r] []
noncomputable def g131_0 : LSum := fun s k => match czv 0 23 [0, 3, 4] 0 [] s with
  | some ([.int .i64 t0, .int .i64 t3, .int .i64 t4], []) => needs [(o131_0 t0 t3 t4).isSome] (e131_0 t0 ((o131_0 t0 t3 t4).getD default) fun e vs bs => inBlk 0 k e (mkSt 0 23 [3] vs 0 bs))
  | _ => False
theorem y131_0 (t0 : Int) (t3 : Int) (t4 : Int) (R : XR) : exec Try.prog [] (fun _ => none) 8 (unloop (bodyAt (Try.f131.body.getD .skip) 0)) (mkSt 0 23 [0, 3, 4] [.int .i64 t0, .int .i64 t3, .int .i64 t4] 0 []) (canonK 0 23 [0, 3, 4] [3] 0 [] R) =
 (cnd ((decide (t4 < t3)))
 (cnd ((bif (decide (t4 = 0)) then false else true))
 (R (XE.normal) [.int .i64 t0, .int .i64 t4, .int .i64 (IntKind.i64.wrap ((IntKind.i64.wrap (t4 + (IntKind.i64.wrap (t0.tdiv t4)))).tdiv 2))] [])
   False)
 (R (XE.exit 0) [.int .i64 t3] [])) := by kernel_rfl
theorem z131_0 : LOk Try.prog g131_0 (.block 0 (bodyAt (Try.f131.body.getD .skip) 0)) := by
  refine loop_blk (ι := Int × Int × Int) (L := []) (Λ := (fun _ => none)) (fuel := 8) (na := 0) (nt := 23) (nx := 0) (Lh := [0, 3, 4]) (Le := [3]) (gl := []) tabOk_nil mix_ok noLam rfl (fun f x K => GG default (e131_0 x.1) K (l131_0 x.1 f x.2.1 x.2.2)) (fun x => [.int .i64 x.1, .int .i64 x.2.1, .int .i64 x.2.2]) (fun x => []) (fun x K => gg_none) ?_ ?_
  · rintro f ⟨t0, t3, t4⟩ K hG
    have hG : GG default (e131_0 t0) K (cond ((decide (t4 < t3))) (cond ((bif (decide (t4 = 0)) then false else true)) (l131_0 t0 f t4 (IntKind.i64.wrap ((IntKind.i64.wrap (t4 + (IntKind.i64.wrap (t0.tdiv t4)))).tdiv 2))) none) (some t3)) := hG
    refine propOf (y131_0 t0 t3 t4 _) ?_
    exact cnd_gg2 hG (fun h0 => cnd_gg h0 fun h1 => ⟨(t0, t4, (IntKind.i64.wrap ((IntKind.i64.wrap (t4 + (IntKind.i64.wrap (t0.tdiv t4)))).tdiv 2))), rfl, rfl, h1⟩) (fun h0 => h0.2)
  · intro s k h
    unfold g131_0 at h
    split at h <;> try exact h.elim
    rename_i e1
    rw [needs_iff] at h
    exact ⟨_, e1, _, (_, _, _), rfl, rfl, h.1 _ (List.mem_singleton.2 rfl), h.2⟩
theorem x131 (a0 : Int) (R : SV → List Blk → List Blk → Prop) : exec Try.prog [] (lamOf [(0, g131_0)]) 8 (Try.f131.body.getD .skip) (initS Try.f131.ntmps [.int .i64 a0] 0 (memOf [])) (retK Try.prog Try.f131.results.toList (outK 0 (List.range 0) [] (.k) fun v U N => R v U N)) =
 (cnd ((decide (a0 < (2 : Int))))
 (R (.int .i64 a0) [] [])
 (cnd (((o131_0 a0 a0 (IntKind.i64.wrap ((IntKind.i64.wrap (a0 + 1)).tdiv 2))).isSome))
 (R (.int .i64 ((o131_0 a0 a0 (IntKind.i64.wrap ((IntKind.i64.wrap (a0 + 1)).tdiv 2))).getD default)) [] [])
   False)) := by kernel_rfl
noncomputable def m131 (a0 : Int) : Int :=
 (cond ((decide (a0 < (2 : Int)))) a0 ((o131_0 a0 a0 (IntKind.i64.wrap ((IntKind.i64.wrap (a0 + 1)).tdiv 2))).getD default))
noncomputable def n131 (a0 : Int) : Bool :=
 (cond ((decide (a0 < (2 : Int)))) true ((((o131_0 a0 a0 (IntKind.i64.wrap ((IntKind.i64.wrap (a0 + 1)).tdiv 2))).isSome)) && true))
noncomputable def q131 (r : Int) : SV × List Blk × List Blk := (.int .i64 r, [], [])
noncomputable def g131 : List SV → List Blk → Option OpRes := fun vs bs => match vs, bs with
  | [.int .i64 a0], [] => some (resOf 0 (q131 (m131 a0)) [n131 a0])
  | _, _ => none
noncomputable def c131 : Ctr := genC [.k] g131
theorem p131 (a0 : Int) (hn : n131 a0 = true) : exec Try.prog [] (lamOf [(0, g131_0)]) 8 (Try.f131.body.getD .skip) (initS Try.f131.ntmps [.int .i64 a0] 0 (memOf [])) (retK Try.prog Try.f131.results.toList (outK 0 (List.range 0) [] (.k) fun v U N => (v, U, N) = (q131 (m131 a0)))) :=
  propOf (x131 a0 _) (cnd_of (fun h0 => leaf_of (l := a0) (condT h0 rfl) rfl) (fun h0 => cnd_need (and_l (cond_f h0 hn)) (leaf_of (l := ((o131_0 a0 a0 (IntKind.i64.wrap ((IntKind.i64.wrap (a0 + 1)).tdiv 2))).getD default)) (condF h0 rfl) rfl)))
theorem k131 : CtrOk Try.prog c131 131 := ctr_of tabOk_nil mix_ok 8 (fn := Try.f131) (c := (Try.f131.body.getD .skip)) (grs := []) (rh := .k) (Λ := (lamOf [(0, g131_0)])) Try.func131 rfl (by kernel_rfl) (lam_of rfl (lams_cons z131_0 lams_nil)) fun vs bs q h hn => by
  unfold g131 at h
  split at h <;> cases h
  exact ⟨_, rfl, p131 _ (hn _ (List.mem_singleton.2 rfl))⟩
/-! ### shotline/shotlineref08.IsMinute -/
theorem x22 (a0 : Int) (R : SV → List Blk → List Blk → Prop) : exec Try.prog [(29, c29)] (fun _ => none) 8 (Try.f22.body.getD .skip) (initS Try.f22.ntmps [.int .i64 a0] 0 (memOf [])) (retK Try.prog Try.f22.results.toList (outK 0 (List.range 0) [] (.k) fun v U N => R v U N)) =
 (R (.bool (m29 a0 0 1000000)) [] []) := by kernel_rfl
noncomputable def m22 (a0 : Int) : Bool :=
 (m29 a0 0 1000000)
noncomputable def q22 (r : Bool) : SV × List Blk × List Blk := (.bool r, [], [])
noncomputable def g22 : List SV → List Blk → Option OpRes := fun vs bs => match vs, bs with
  | [.int .i64 a0], [] => some (resOf 0 (q22 (m22 a0)) [])
  | _, _ => none
noncomputable def c22 : Ctr := genC [.k] g22
theorem p22 (a0 : Int) : exec Try.prog [(29, c29)] (fun _ => none) 8 (Try.f22.body.getD .skip) (initS Try.f22.ntmps [.int .i64 a0] 0 (memOf [])) (retK Try.prog Try.f22.results.toList (outK 0 (List.range 0) [] (.k) fun v U N => (v, U, N) = (q22 (m22 a0)))) :=
  propOf (x22 a0 _) (leaf_of (l := (m29 a0 0 1000000)) rfl rfl)
theorem k22 : CtrOk Try.prog c22 22 := ctr_of (tabOk_cons k29 tabOk_nil) mix_ok 8 (fn := Try.f22) (c := (Try.f22.body.getD .skip)) (grs := []) (rh := .k) (Λ := (fun _ => none)) Try.func22 rfl (by kernel_rfl) noLam fun vs bs q h _ => by
  unfold g22 at h
  split at h <;> cases h
  exact ⟨_, rfl, p22 _⟩
/-! ### shotline/site.isMinute -/
theorem x80 (a0 : Int) (R : SV → List Blk → List Blk → Prop) : exec Try.prog [(96, c96)] (fun _ => none) 8 (Try.f80.body.getD .skip) (initS Try.f80.ntmps [.int .i64 a0] 0 (memOf [])) (retK Try.prog Try.f80.results.toList (outK 0 (List.range 0) [] (.k) fun v U N => R v U N)) =
 (R (.bool (m96 a0 0 1000000)) [] []) := by kernel_rfl
noncomputable def m80 (a0 : Int) : Bool :=
 (m96 a0 0 1000000)
noncomputable def q80 (r : Bool) : SV × List Blk × List Blk := (.bool r, [], [])
noncomputable def g80 : List SV → List Blk → Option OpRes := fun vs bs => match vs, bs with
  | [.int .i64 a0], [] => some (resOf 0 (q80 (m80 a0)) [])
  | _, _ => none
noncomputable def c80 : Ctr := genC [.k] g80
theorem p80 (a0 : Int) : exec Try.prog [(96, c96)] (fun _ => none) 8 (Try.f80.body.getD .skip) (initS Try.f80.ntmps [.int .i64 a0] 0 (memOf [])) (retK Try.prog Try.f80.results.toList (outK 0 (List.range 0) [] (.k) fun v U N => (v, U, N) = (q80 (m80 a0)))) :=
  propOf (x80 a0 _) (leaf_of (l := (m96 a0 0 1000000)) rfl rfl)
theorem k80 : CtrOk Try.prog c80 80 := ctr_of (tabOk_cons k96 tabOk_nil) mix_ok 8 (fn := Try.f80) (c := (Try.f80.body.getD .skip)) (grs := []) (rh := .k) (Λ := (fun _ => none)) Try.func80 rfl (by kernel_rfl) noLam fun vs bs q h _ => by
  unfold g80 at h
  split at h <;> cases h
  exact ⟨_, rfl, p80 _⟩
/-! ### shotline/site.isWave -/
theorem x102 (a0_0 : Int) (a0_1 : Int) (a0_2 : Int) (R : SV → List Blk → List Blk → Prop) : exec Try.prog [(96, c96)] (fun _ => none) 8 (Try.f102.body.getD .skip) (initS Try.f102.ntmps [.agg [.int .i64 a0_0, .int .i64 a0_1, .int .i64 a0_2]] 0 (memOf [])) (retK Try.prog Try.f102.results.toList (outK 0 (List.range 0) [] (.k) fun v U N => R v U N)) =
 (R (.bool (bif (bif (m96 a0_0 0 100000) then (m96 a0_1 1 100000) else false) then (m96 a0_2 0 4095) else false)) [] []) := by kernel_rfl
noncomputable def m102 (a0_0 : Int) (a0_1 : Int) (a0_2 : Int) : Bool :=
 (bif (bif (m96 a0_0 0 100000) then (m96 a0_1 1 100000) else false) then (m96 a0_2 0 4095) else false)
noncomputable def q102 (r : Bool) : SV × List Blk × List Blk := (.bool r, [], [])
noncomputable def g102 : List SV → List Blk → Option OpRes := fun vs bs => match vs, bs with
  | [.agg [.int .i64 a0_0, .int .i64 a0_1, .int .i64 a0_2]], [] => some (resOf 0 (q102 (m102 a0_0 a0_1 a0_2)) [])
  | _, _ => none
noncomputable def c102 : Ctr := genC [.k] g102
theorem p102 (a0_0 : Int) (a0_1 : Int) (a0_2 : Int) : exec Try.prog [(96, c96)] (fun _ => none) 8 (Try.f102.body.getD .skip) (initS Try.f102.ntmps [.agg [.int .i64 a0_0, .int .i64 a0_1, .int .i64 a0_2]] 0 (memOf [])) (retK Try.prog Try.f102.results.toList (outK 0 (List.range 0) [] (.k) fun v U N => (v, U, N) = (q102 (m102 a0_0 a0_1 a0_2)))) :=
  propOf (x102 a0_0 a0_1 a0_2 _) (leaf_of (l := (bif (bif (m96 a0_0 0 100000) then (m96 a0_1 1 100000) else false) then (m96 a0_2 0 4095) else false)) rfl rfl)
theorem k102 : CtrOk Try.prog c102 102 := ctr_of (tabOk_cons k96 tabOk_nil) mix_ok 8 (fn := Try.f102) (c := (Try.f102.body.getD .skip)) (grs := []) (rh := .k) (Λ := (fun _ => none)) Try.func102 rfl (by kernel_rfl) noLam fun vs bs q h _ => by
  unfold g102 at h
  split at h <;> cases h
  exact ⟨_, rfl, p102 _ _ _⟩
/-! ### shotline/site.up -/
theorem x128 (a0 : Int) (a1 : Int) (R : SV → List Blk → List Blk → Prop) : exec Try.prog [(127, c127)] (fun _ => none) 8 (Try.f128.body.getD .skip) (initS Try.f128.ntmps [.int .i64 a0, .int .i64 a1] 0 (memOf [])) (retK Try.prog Try.f128.results.toList (outK 0 (List.range 0) [] (.k) fun v U N => R v U N)) =
 (cnd ((n127 (IntKind.i64.wrap (0 - a0)) a1))
 (R (.int .i64 (IntKind.i64.wrap (0 - (m127 (IntKind.i64.wrap (0 - a0)) a1)))) [] [])
  False) := by kernel_rfl
noncomputable def m128 (a0 : Int) (a1 : Int) : Int :=
 (IntKind.i64.wrap (0 - (m127 (IntKind.i64.wrap (0 - a0)) a1)))
noncomputable def n128 (a0 : Int) (a1 : Int) : Bool :=
 (((n127 (IntKind.i64.wrap (0 - a0)) a1)) && true)
noncomputable def q128 (r : Int) : SV × List Blk × List Blk := (.int .i64 r, [], [])
noncomputable def g128 : List SV → List Blk → Option OpRes := fun vs bs => match vs, bs with
  | [.int .i64 a0, .int .i64 a1], [] => some (resOf 0 (q128 (m128 a0 a1)) [n128 a0 a1])
  | _, _ => none
noncomputable def c128 : Ctr := genC [.k, .k] g128
theorem p128 (a0 : Int) (a1 : Int) (hn : n128 a0 a1 = true) : exec Try.prog [(127, c127)] (fun _ => none) 8 (Try.f128.body.getD .skip) (initS Try.f128.ntmps [.int .i64 a0, .int .i64 a1] 0 (memOf [])) (retK Try.prog Try.f128.results.toList (outK 0 (List.range 0) [] (.k) fun v U N => (v, U, N) = (q128 (m128 a0 a1)))) :=
  propOf (x128 a0 a1 _) (cnd_need (and_l hn) (leaf_of (l := (IntKind.i64.wrap (0 - (m127 (IntKind.i64.wrap (0 - a0)) a1)))) rfl rfl))
theorem k128 : CtrOk Try.prog c128 128 := ctr_of (tabOk_cons k127 tabOk_nil) mix_ok 8 (fn := Try.f128) (c := (Try.f128.body.getD .skip)) (grs := []) (rh := .k) (Λ := (fun _ => none)) Try.func128 rfl (by kernel_rfl) noLam fun vs bs q h hn => by
  unfold g128 at h
  split at h <;> cases h
  exact ⟨_, rfl, p128 _ _ (hn _ (List.mem_singleton.2 rfl))⟩
/-! ### shotline/site.isForce -/
theorem x124 (a0 : Int) (R : SV → List Blk → List Blk → Prop) : exec Try.prog [(96, c96)] (fun _ => none) 8 (Try.f124.body.getD .skip) (initS Try.f124.ntmps [.int .i64 a0] 0 (memOf [])) (retK Try.prog Try.f124.results.toList (outK 0 (List.range 0) [] (.k) fun v U N => R v U N)) =
 (R (.bool (m96 a0 0 200)) [] []) := by kernel_rfl
noncomputable def m124 (a0 : Int) : Bool :=
 (m96 a0 0 200)
noncomputable def q124 (r : Bool) : SV × List Blk × List Blk := (.bool r, [], [])
noncomputable def g124 : List SV → List Blk → Option OpRes := fun vs bs => match vs, bs with
  | [.int .i64 a0], [] => some (resOf 0 (q124 (m124 a0)) [])
  | _, _ => none
noncomputable def c124 : Ctr := genC [.k] g124
theorem p124 (a0 : Int) : exec Try.prog [(96, c96)] (fun _ => none) 8 (Try.f124.body.getD .skip) (initS Try.f124.ntmps [.int .i64 a0] 0 (memOf [])) (retK Try.prog Try.f124.results.toList (outK 0 (List.range 0) [] (.k) fun v U N => (v, U, N) = (q124 (m124 a0)))) :=
  propOf (x124 a0 _) (leaf_of (l := (m96 a0 0 200)) rfl rfl)
theorem k124 : CtrOk Try.prog c124 124 := ctr_of (tabOk_cons k96 tabOk_nil) mix_ok 8 (fn := Try.f124) (c := (Try.f124.body.getD .skip)) (grs := []) (rh := .k) (Λ := (fun _ => none)) Try.func124 rfl (by kernel_rfl) noLam fun vs bs q h _ => by
  unfold g124 at h
  split at h <;> cases h
  exact ⟨_, rfl, p124 _⟩
/-! ### shotline/site.rootUp -/
theorem x132 (a0 : Int) (R : SV → List Blk → List Blk → Prop) : exec Try.prog [(131, c131)] (fun _ => none) 8 (Try.f132.body.getD .skip) (initS Try.f132.ntmps [.int .i64 a0] 0 (memOf [])) (retK Try.prog Try.f132.results.toList (outK 0 (List.range 0) [] (.k) fun v U N => R v U N)) =
 (cnd ((n131 a0))
 (cnd ((decide ((IntKind.i64.wrap ((m131 a0) * (m131 a0))) < a0)))
 (R (.int .i64 (IntKind.i64.wrap ((m131 a0) + 1))) [] [])
 (R (.int .i64 (m131 a0)) [] []))
  False) := by kernel_rfl
noncomputable def m132 (a0 : Int) : Int :=
 (cond ((decide ((IntKind.i64.wrap ((m131 a0) * (m131 a0))) < a0))) (IntKind.i64.wrap ((m131 a0) + 1)) (m131 a0))
noncomputable def n132 (a0 : Int) : Bool :=
 (((n131 a0)) && true)
noncomputable def q132 (r : Int) : SV × List Blk × List Blk := (.int .i64 r, [], [])
noncomputable def g132 : List SV → List Blk → Option OpRes := fun vs bs => match vs, bs with
  | [.int .i64 a0], [] => some (resOf 0 (q132 (m132 a0)) [n132 a0])
  | _, _ => none
noncomputable def c132 : Ctr := genC [.k] g132
theorem p132 (a0 : Int) (hn : n132 a0 = true) : exec Try.prog [(131, c131)] (fun _ => none) 8 (Try.f132.body.getD .skip) (initS Try.f132.ntmps [.int .i64 a0] 0 (memOf [])) (retK Try.prog Try.f132.results.toList (outK 0 (List.range 0) [] (.k) fun v U N => (v, U, N) = (q132 (m132 a0)))) :=
  propOf (x132 a0 _) (cnd_need (and_l hn) (cnd_of (fun h0 => leaf_of (l := (IntKind.i64.wrap ((m131 a0) + 1))) (condT h0 rfl) rfl) (fun h0 => leaf_of (l := (m131 a0)) (condF h0 rfl) rfl)))
theorem k132 : CtrOk Try.prog c132 132 := ctr_of (tabOk_cons k131 tabOk_nil) mix_ok 8 (fn := Try.f132) (c := (Try.f132.body.getD .skip)) (grs := []) (rh := .k) (Λ := (fun _ => none)) Try.func132 rfl (by kernel_rfl) noLam fun vs bs q h hn => by
  unfold g132 at h
  split at h <;> cases h
  exact ⟨_, rfl, p132 _ (hn _ (List.mem_singleton.2 rfl))⟩
/-! ### shotline/site.angle -/
theorem x103 (a0_0 : Int) (a0_1 : Int) (a0_2 : Int) (a1 : Int) (R : SV → List Blk → List Blk → Prop) : exec Try.prog [(127, c127), (128, c128)] (fun _ => none) 8 (Try.f103.body.getD .skip) (initS Try.f103.ntmps [.agg [.int .i64 a0_0, .int .i64 a0_1, .int .i64 a0_2], .int .i64 a1] 0 (memOf [])) (retK Try.prog Try.f103.results.toList (outK 0 (List.range 0) [] (.k) fun v U N => R v U N)) =
 (cnd ((bif (decide ((IntKind.i64.wrap (4096 * a0_1)) = 0)) then false else true))
 (cnd ((n127 ((IntKind.i64.wrap ((IntKind.i64.wrap (a0_2 * a0_1)) + (IntKind.i64.wrap (4096 * a1)))).tmod (IntKind.i64.wrap (4096 * a0_1))) a0_1))
 (cnd ((n128 ((IntKind.i64.wrap ((IntKind.i64.wrap (a0_2 * a0_1)) + (IntKind.i64.wrap (4096 * a1)))).tmod (IntKind.i64.wrap (4096 * a0_1))) a0_1))
 (R (.agg [.int .i64 (m127 ((IntKind.i64.wrap ((IntKind.i64.wrap (a0_2 * a0_1)) + (IntKind.i64.wrap (4096 * a1)))).tmod (IntKind.i64.wrap (4096 * a0_1))) a0_1), .int .i64 (m128 ((IntKind.i64.wrap ((IntKind.i64.wrap (a0_2 * a0_1)) + (IntKind.i64.wrap (4096 * a1)))).tmod (IntKind.i64.wrap (4096 * a0_1))) a0_1)]) [] [])
    False)
   False)
  False) := by kernel_rfl
noncomputable def m103 (a0_0 : Int) (a0_1 : Int) (a0_2 : Int) (a1 : Int) : Int × Int :=
 ((m127 ((IntKind.i64.wrap ((IntKind.i64.wrap (a0_2 * a0_1)) + (IntKind.i64.wrap (4096 * a1)))).tmod (IntKind.i64.wrap (4096 * a0_1))) a0_1), (m128 ((IntKind.i64.wrap ((IntKind.i64.wrap (a0_2 * a0_1)) + (IntKind.i64.wrap (4096 * a1)))).tmod (IntKind.i64.wrap (4096 * a0_1))) a0_1))
noncomputable def n103 (a0_0 : Int) (a0_1 : Int) (a0_2 : Int) (a1 : Int) : Bool :=
 (((bif (decide ((IntKind.i64.wrap (4096 * a0_1)) = 0)) then false else true)) && (((n127 ((IntKind.i64.wrap ((IntKind.i64.wrap (a0_2 * a0_1)) + (IntKind.i64.wrap (4096 * a1)))).tmod (IntKind.i64.wrap (4096 * a0_1))) a0_1)) && (((n128 ((IntKind.i64.wrap ((IntKind.i64.wrap (a0_2 * a0_1)) + (IntKind.i64.wrap (4096 * a1)))).tmod (IntKind.i64.wrap (4096 * a0_1))) a0_1)) && true)))
noncomputable def q103 (r : Int × Int) : SV × List Blk × List Blk := (.agg [.int .i64 r.1, .int .i64 r.2], [], [])
noncomputable def g103 : List SV → List Blk → Option OpRes := fun vs bs => match vs, bs with
  | [.agg [.int .i64 a0_0, .int .i64 a0_1, .int .i64 a0_2], .int .i64 a1], [] => some (resOf 0 (q103 (m103 a0_0 a0_1 a0_2 a1)) [n103 a0_0 a0_1 a0_2 a1])
  | _, _ => none
noncomputable def c103 : Ctr := genC [.k, .k] g103
theorem p103 (a0_0 : Int) (a0_1 : Int) (a0_2 : Int) (a1 : Int) (hn : n103 a0_0 a0_1 a0_2 a1 = true) : exec Try.prog [(127, c127), (128, c128)] (fun _ => none) 8 (Try.f103.body.getD .skip) (initS Try.f103.ntmps [.agg [.int .i64 a0_0, .int .i64 a0_1, .int .i64 a0_2], .int .i64 a1] 0 (memOf [])) (retK Try.prog Try.f103.results.toList (outK 0 (List.range 0) [] (.k) fun v U N => (v, U, N) = (q103 (m103 a0_0 a0_1 a0_2 a1)))) :=
  propOf (x103 a0_0 a0_1 a0_2 a1 _) (cnd_need (and_l hn) (cnd_need (and_l (and_r hn)) (cnd_need (and_l (and_r (and_r hn))) (leaf_of (l := ((m127 ((IntKind.i64.wrap ((IntKind.i64.wrap (a0_2 * a0_1)) + (IntKind.i64.wrap (4096 * a1)))).tmod (IntKind.i64.wrap (4096 * a0_1))) a0_1), (m128 ((IntKind.i64.wrap ((IntKind.i64.wrap (a0_2 * a0_1)) + (IntKind.i64.wrap (4096 * a1)))).tmod (IntKind.i64.wrap (4096 * a0_1))) a0_1))) rfl rfl))))
theorem k103 : CtrOk Try.prog c103 103 := ctr_of (tabOk_cons k127 (tabOk_cons k128 tabOk_nil)) mix_ok 8 (fn := Try.f103) (c := (Try.f103.body.getD .skip)) (grs := []) (rh := .k) (Λ := (fun _ => none)) Try.func103 rfl (by kernel_rfl) noLam fun vs bs q h hn => by
  unfold g103 at h
  split at h <;> cases h
  exact ⟨_, rfl, p103 _ _ _ _ (hn _ (List.mem_singleton.2 rfl))⟩
/-! ### shotline/site.checkSpan -/
theorem x116 (a0_0 : Int) (a0_1 : Int) (R : SV → List Blk → List Blk → Prop) : exec Try.prog [(80, c80)] (fun _ => none) 8 (Try.f116.body.getD .skip) (initS Try.f116.ntmps [.agg [.int .i64 a0_0, .int .i64 a0_1]] 0 (memOf [])) (retK Try.prog Try.f116.results.toList (outK 0 (List.range 0) [] (.k) fun v U N => R v U N)) =
 (cnd ((bif (bif (m80 a0_0) then false else true) then true else (bif (m80 a0_1) then false else true)))
 (R (.int .i64 2) [] [])
 (cnd ((decide (a0_1 < a0_0)))
 (R (.int .i64 9) [] [])
 (cnd ((decide ((3000 : Int) < (IntKind.i64.wrap ((IntKind.i64.wrap (a0_1 - a0_0)) + 1)))))
 (R (.int .i64 8) [] [])
 (R (.int .i64 0) [] [])))) := by kernel_rfl
noncomputable def m116 (a0_0 : Int) (a0_1 : Int) : Int :=
 (cond ((bif (bif (m80 a0_0) then false else true) then true else (bif (m80 a0_1) then false else true))) 2 (cond ((decide (a0_1 < a0_0))) 9 (cond ((decide ((3000 : Int) < (IntKind.i64.wrap ((IntKind.i64.wrap (a0_1 - a0_0)) + 1))))) 8 0)))
noncomputable def q116 (r : Int) : SV × List Blk × List Blk := (.int .i64 r, [], [])
noncomputable def g116 : List SV → List Blk → Option OpRes := fun vs bs => match vs, bs with
  | [.agg [.int .i64 a0_0, .int .i64 a0_1]], [] => some (resOf 0 (q116 (m116 a0_0 a0_1)) [])
  | _, _ => none
noncomputable def c116 : Ctr := genC [.k] g116
theorem p116 (a0_0 : Int) (a0_1 : Int) : exec Try.prog [(80, c80)] (fun _ => none) 8 (Try.f116.body.getD .skip) (initS Try.f116.ntmps [.agg [.int .i64 a0_0, .int .i64 a0_1]] 0 (memOf [])) (retK Try.prog Try.f116.results.toList (outK 0 (List.range 0) [] (.k) fun v U N => (v, U, N) = (q116 (m116 a0_0 a0_1)))) :=
  propOf (x116 a0_0 a0_1 _) (cnd_of (fun h0 => leaf_of (l := 2) (condT h0 rfl) rfl) (fun h0 => cnd_of (fun h1 => leaf_of (l := 9) (condF h0 (condT h1 rfl)) rfl) (fun h1 => cnd_of (fun h2 => leaf_of (l := 8) (condF h0 (condF h1 (condT h2 rfl))) rfl) (fun h2 => leaf_of (l := 0) (condF h0 (condF h1 (condF h2 rfl))) rfl))))
theorem k116 : CtrOk Try.prog c116 116 := ctr_of (tabOk_cons k80 tabOk_nil) mix_ok 8 (fn := Try.f116) (c := (Try.f116.body.getD .skip)) (grs := []) (rh := .k) (Λ := (fun _ => none)) Try.func116 rfl (by kernel_rfl) noLam fun vs bs q h _ => by
  unfold g116 at h
  split at h <;> cases h
  exact ⟨_, rfl, p116 _ _⟩
/-! ### shotline/shotlineref08.CheckSpan -/
theorem x67 (a0_0 : Int) (a0_1 : Int) (R : SV → List Blk → List Blk → Prop) : exec Try.prog [(22, c22)] (fun _ => none) 8 (Try.f67.body.getD .skip) (initS Try.f67.ntmps [.agg [.int .i64 a0_0, .int .i64 a0_1]] 0 (memOf [])) (retK Try.prog Try.f67.results.toList (outK 0 (List.range 0) [] (.k) fun v U N => R v U N)) =
 (cnd ((bif (bif (m22 a0_0) then false else true) then true else (bif (m22 a0_1) then false else true)))
 (R (.int .i64 2) [] [])
 (cnd ((decide (a0_1 < a0_0)))
 (R (.int .i64 9) [] [])
 (cnd ((decide (3000 ≤ (IntKind.i64.wrap (a0_1 - a0_0)))))
 (R (.int .i64 8) [] [])
 (R (.int .i64 0) [] [])))) := by kernel_rfl
noncomputable def m67 (a0_0 : Int) (a0_1 : Int) : Int :=
 (cond ((bif (bif (m22 a0_0) then false else true) then true else (bif (m22 a0_1) then false else true))) 2 (cond ((decide (a0_1 < a0_0))) 9 (cond ((decide (3000 ≤ (IntKind.i64.wrap (a0_1 - a0_0))))) 8 0)))
noncomputable def q67 (r : Int) : SV × List Blk × List Blk := (.int .i64 r, [], [])
noncomputable def g67 : List SV → List Blk → Option OpRes := fun vs bs => match vs, bs with
  | [.agg [.int .i64 a0_0, .int .i64 a0_1]], [] => some (resOf 0 (q67 (m67 a0_0 a0_1)) [])
  | _, _ => none
noncomputable def c67 : Ctr := genC [.k] g67
theorem p67 (a0_0 : Int) (a0_1 : Int) : exec Try.prog [(22, c22)] (fun _ => none) 8 (Try.f67.body.getD .skip) (initS Try.f67.ntmps [.agg [.int .i64 a0_0, .int .i64 a0_1]] 0 (memOf [])) (retK Try.prog Try.f67.results.toList (outK 0 (List.range 0) [] (.k) fun v U N => (v, U, N) = (q67 (m67 a0_0 a0_1)))) :=
  propOf (x67 a0_0 a0_1 _) (cnd_of (fun h0 => leaf_of (l := 2) (condT h0 rfl) rfl) (fun h0 => cnd_of (fun h1 => leaf_of (l := 9) (condF h0 (condT h1 rfl)) rfl) (fun h1 => cnd_of (fun h2 => leaf_of (l := 8) (condF h0 (condF h1 (condT h2 rfl))) rfl) (fun h2 => leaf_of (l := 0) (condF h0 (condF h1 (condF h2 rfl))) rfl))))
theorem k67 : CtrOk Try.prog c67 67 := ctr_of (tabOk_cons k22 tabOk_nil) mix_ok 8 (fn := Try.f67) (c := (Try.f67.body.getD .skip)) (grs := []) (rh := .k) (Λ := (fun _ => none)) Try.func67 rfl (by kernel_rfl) noLam fun vs bs q h _ => by
  unfold g67 at h
  split at h <;> cases h
  exact ⟨_, rfl, p67 _ _⟩
/-! ### (shotline/site.ray).turned -/
theorem x144 (a0_0 : Int) (a0_1 : Int) (a0_2 : Int) (a0_3 : Int) (a1_0 : Int) (a1_1 : Int) (a1_2 : Int) (a1_3 : Int) (R : SV → List Blk → List Blk → Prop) : exec Try.prog [(127, c127), (128, c128)] (fun _ => none) 8 (Try.f144.body.getD .skip) (initS Try.f144.ntmps [.agg [.int .i64 a0_0, .int .i64 a0_1, .int .i64 a0_2, .int .i64 a0_3], .agg [.int .i64 a1_0, .int .i64 a1_1, .int .i64 a1_2, .int .i64 a1_3]] 0 (memOf [])) (retK Try.prog Try.f144.results.toList (outK 0 (List.range 0) [] (.k) fun v U N => R v U N)) =
 (cnd ((n127 (IntKind.i64.wrap ((IntKind.i64.wrap (a0_0 * a1_0)) - (IntKind.i64.wrap (a0_3 * a1_3)))) 100000000))
 (cnd ((n128 (IntKind.i64.wrap ((IntKind.i64.wrap (a0_1 * a1_1)) - (IntKind.i64.wrap (a0_2 * a1_2)))) 100000000))
 (cnd ((n127 (IntKind.i64.wrap ((IntKind.i64.wrap (a0_2 * a1_0)) + (IntKind.i64.wrap (a0_0 * a1_2)))) 100000000))
 (cnd ((n128 (IntKind.i64.wrap ((IntKind.i64.wrap (a0_3 * a1_1)) + (IntKind.i64.wrap (a0_1 * a1_3)))) 100000000))
 (R (.agg [.int .i64 (imax 0 (m127 (IntKind.i64.wrap ((IntKind.i64.wrap (a0_0 * a1_0)) - (IntKind.i64.wrap (a0_3 * a1_3)))) 100000000)), .int .i64 (m128 (IntKind.i64.wrap ((IntKind.i64.wrap (a0_1 * a1_1)) - (IntKind.i64.wrap (a0_2 * a1_2)))) 100000000), .int .i64 (m127 (IntKind.i64.wrap ((IntKind.i64.wrap (a0_2 * a1_0)) + (IntKind.i64.wrap (a0_0 * a1_2)))) 100000000), .int .i64 (imin 100000000 (m128 (IntKind.i64.wrap ((IntKind.i64.wrap (a0_3 * a1_1)) + (IntKind.i64.wrap (a0_1 * a1_3)))) 100000000))]) [] [])
     False)
    False)
   False)
  False) := by kernel_rfl
noncomputable def m144 (a0_0 : Int) (a0_1 : Int) (a0_2 : Int) (a0_3 : Int) (a1_0 : Int) (a1_1 : Int) (a1_2 : Int) (a1_3 : Int) : Int × Int × Int × Int :=
 ((imax 0 (m127 (IntKind.i64.wrap ((IntKind.i64.wrap (a0_0 * a1_0)) - (IntKind.i64.wrap (a0_3 * a1_3)))) 100000000)), (m128 (IntKind.i64.wrap ((IntKind.i64.wrap (a0_1 * a1_1)) - (IntKind.i64.wrap (a0_2 * a1_2)))) 100000000), (m127 (IntKind.i64.wrap ((IntKind.i64.wrap (a0_2 * a1_0)) + (IntKind.i64.wrap (a0_0 * a1_2)))) 100000000), (imin 100000000 (m128 (IntKind.i64.wrap ((IntKind.i64.wrap (a0_3 * a1_1)) + (IntKind.i64.wrap (a0_1 * a1_3)))) 100000000)))
noncomputable def n144 (a0_0 : Int) (a0_1 : Int) (a0_2 : Int) (a0_3 : Int) (a1_0 : Int) (a1_1 : Int) (a1_2 : Int) (a1_3 : Int) : Bool :=
 (((n127 (IntKind.i64.wrap ((IntKind.i64.wrap (a0_0 * a1_0)) - (IntKind.i64.wrap (a0_3 * a1_3)))) 100000000)) && (((n128 (IntKind.i64.wrap ((IntKind.i64.wrap (a0_1 * a1_1)) - (IntKind.i64.wrap (a0_2 * a1_2)))) 100000000)) && (((n127 (IntKind.i64.wrap ((IntKind.i64.wrap (a0_2 * a1_0)) + (IntKind.i64.wrap (a0_0 * a1_2)))) 100000000)) && (((n128 (IntKind.i64.wrap ((IntKind.i64.wrap (a0_3 * a1_1)) + (IntKind.i64.wrap (a0_1 * a1_3)))) 100000000)) && true))))
noncomputable def q144 (r : Int × Int × Int × Int) : SV × List Blk × List Blk := (.agg [.int .i64 r.1, .int .i64 r.2.1, .int .i64 r.2.2.1, .int .i64 r.2.2.2], [], [])
noncomputable def g144 : List SV → List Blk → Option OpRes := fun vs bs => match vs, bs with
  | [.agg [.int .i64 a0_0, .int .i64 a0_1, .int .i64 a0_2, .int .i64 a0_3], .agg [.int .i64 a1_0, .int .i64 a1_1, .int .i64 a1_2, .int .i64 a1_3]], [] => some (resOf 0 (q144 (m144 a0_0 a0_1 a0_2 a0_3 a1_0 a1_1 a1_2 a1_3)) [n144 a0_0 a0_1 a0_2 a0_3 a1_0 a1_1 a1_2 a1_3])
  | _, _ => none
noncomputable def c144 : Ctr := genC [.k, .k] g144
theorem p144 (a0_0 : Int) (a0_1 : Int) (a0_2 : Int) (a0_3 : Int) (a1_0 : Int) (a1_1 : Int) (a1_2 : Int) (a1_3 : Int) (hn : n144 a0_0 a0_1 a0_2 a0_3 a1_0 a1_1 a1_2 a1_3 = true) : exec Try.prog [(127, c127), (128, c128)] (fun _ => none) 8 (Try.f144.body.getD .skip) (initS Try.f144.ntmps [.agg [.int .i64 a0_0, .int .i64 a0_1, .int .i64 a0_2, .int .i64 a0_3], .agg [.int .i64 a1_0, .int .i64 a1_1, .int .i64 a1_2, .int .i64 a1_3]] 0 (memOf [])) (retK Try.prog Try.f144.results.toList (outK 0 (List.range 0) [] (.k) fun v U N => (v, U, N) = (q144 (m144 a0_0 a0_1 a0_2 a0_3 a1_0 a1_1 a1_2 a1_3)))) :=
  propOf (x144 a0_0 a0_1 a0_2 a0_3 a1_0 a1_1 a1_2 a1_3 _) (cnd_need (and_l hn) (cnd_need (and_l (and_r hn)) (cnd_need (and_l (and_r (and_r hn))) (cnd_need (and_l (and_r (and_r (and_r hn)))) (leaf_of (l := ((imax 0 (m127 (IntKind.i64.wrap ((IntKind.i64.wrap (a0_0 * a1_0)) - (IntKind.i64.wrap (a0_3 * a1_3)))) 100000000)), (m128 (IntKind.i64.wrap ((IntKind.i64.wrap (a0_1 * a1_1)) - (IntKind.i64.wrap (a0_2 * a1_2)))) 100000000), (m127 (IntKind.i64.wrap ((IntKind.i64.wrap (a0_2 * a1_0)) + (IntKind.i64.wrap (a0_0 * a1_2)))) 100000000), (imin 100000000 (m128 (IntKind.i64.wrap ((IntKind.i64.wrap (a0_3 * a1_1)) + (IntKind.i64.wrap (a0_1 * a1_3)))) 100000000)))) rfl rfl)))))
theorem k144 : CtrOk Try.prog c144 144 := ctr_of (tabOk_cons k127 (tabOk_cons k128 tabOk_nil)) mix_ok 8 (fn := Try.f144) (c := (Try.f144.body.getD .skip)) (grs := []) (rh := .k) (Λ := (fun _ => none)) Try.func144 rfl (by kernel_rfl) noLam fun vs bs q h hn => by
  unfold g144 at h
  split at h <;> cases h
  exact ⟨_, rfl, p144 _ _ _ _ _ _ _ _ (hn _ (List.mem_singleton.2 rfl))⟩
/-! ### shotline/site.CheckTide$1 -/
theorem x143 (a0_0 : Int) (a0_1 : Int) (a0_2 : Int) (R : SV → List Blk → List Blk → Prop) : exec Try.prog [(102, c102)] (fun _ => none) 8 (Try.f143.body.getD .skip) (initS Try.f143.ntmps [.agg [.int .i64 a0_0, .int .i64 a0_1, .int .i64 a0_2]] 0 (memOf [])) (retK Try.prog Try.f143.results.toList (outK 0 (List.range 0) [] (.k) fun v U N => R v U N)) =
 (R (.bool (bif (m102 a0_0 a0_1 a0_2) then false else true)) [] []) := by kernel_rfl
noncomputable def m143 (a0_0 : Int) (a0_1 : Int) (a0_2 : Int) : Bool :=
 (bif (m102 a0_0 a0_1 a0_2) then false else true)
noncomputable def q143 (r : Bool) : SV × List Blk × List Blk := (.bool r, [], [])
noncomputable def g143 : List SV → List Blk → Option OpRes := fun vs bs => match vs, bs with
  | [.agg [.int .i64 a0_0, .int .i64 a0_1, .int .i64 a0_2]], [] => some (resOf 0 (q143 (m143 a0_0 a0_1 a0_2)) [])
  | _, _ => none
noncomputable def c143 : Ctr := genC [.k] g143
theorem p143 (a0_0 : Int) (a0_1 : Int) (a0_2 : Int) : exec Try.prog [(102, c102)] (fun _ => none) 8 (Try.f143.body.getD .skip) (initS Try.f143.ntmps [.agg [.int .i64 a0_0, .int .i64 a0_1, .int .i64 a0_2]] 0 (memOf [])) (retK Try.prog Try.f143.results.toList (outK 0 (List.range 0) [] (.k) fun v U N => (v, U, N) = (q143 (m143 a0_0 a0_1 a0_2)))) :=
  propOf (x143 a0_0 a0_1 a0_2 _) (leaf_of (l := (bif (m102 a0_0 a0_1 a0_2) then false else true)) rfl rfl)
theorem k143 : CtrOk Try.prog c143 143 := ctr_of (tabOk_cons k102 tabOk_nil) mix_ok 8 (fn := Try.f143) (c := (Try.f143.body.getD .skip)) (grs := []) (rh := .k) (Λ := (fun _ => none)) Try.func143 rfl (by kernel_rfl) noLam fun vs bs q h _ => by
  unfold g143 at h
  split at h <;> cases h
  exact ⟨_, rfl, p143 _ _ _⟩
/-! ### shotline/site.Join$1 -/
theorem x109 (a0_0 : Int) (a0_1 : Int) (a1_0 : Int) (a1_1 : Int) (R : SV → List Blk → List Blk → Prop) : exec Try.prog [] (fun _ => none) 8 (Try.f109.body.getD .skip) (initS Try.f109.ntmps [.agg [.int .i64 a0_0, .int .i64 a0_1], .agg [.int .i64 a1_0, .int .i64 a1_1]] 0 (memOf [])) (retK Try.prog Try.f109.results.toList (outK 0 (List.range 0) [] (.k) fun v U N => R v U N)) =
 (R (.int .i64 (IntKind.i64.wrap (a0_0 - a1_0))) [] []) := by kernel_rfl
noncomputable def m109 (a0_0 : Int) (a0_1 : Int) (a1_0 : Int) (a1_1 : Int) : Int :=
 (IntKind.i64.wrap (a0_0 - a1_0))
noncomputable def q109 (r : Int) : SV × List Blk × List Blk := (.int .i64 r, [], [])
noncomputable def g109 : List SV → List Blk → Option OpRes := fun vs bs => match vs, bs with
  | [.agg [.int .i64 a0_0, .int .i64 a0_1], .agg [.int .i64 a1_0, .int .i64 a1_1]], [] => some (resOf 0 (q109 (m109 a0_0 a0_1 a1_0 a1_1)) [])
  | _, _ => none
noncomputable def c109 : Ctr := genC [.k, .k] g109
theorem p109 (a0_0 : Int) (a0_1 : Int) (a1_0 : Int) (a1_1 : Int) : exec Try.prog [] (fun _ => none) 8 (Try.f109.body.getD .skip) (initS Try.f109.ntmps [.agg [.int .i64 a0_0, .int .i64 a0_1], .agg [.int .i64 a1_0, .int .i64 a1_1]] 0 (memOf [])) (retK Try.prog Try.f109.results.toList (outK 0 (List.range 0) [] (.k) fun v U N => (v, U, N) = (q109 (m109 a0_0 a0_1 a1_0 a1_1)))) :=
  propOf (x109 a0_0 a0_1 a1_0 a1_1 _) (leaf_of (l := (IntKind.i64.wrap (a0_0 - a1_0))) rfl rfl)
theorem k109 : CtrOk Try.prog c109 109 := ctr_of tabOk_nil mix_ok 8 (fn := Try.f109) (c := (Try.f109.body.getD .skip)) (grs := []) (rh := .k) (Λ := (fun _ => none)) Try.func109 rfl (by kernel_rfl) noLam fun vs bs q h _ => by
  unfold g109 at h
  split at h <;> cases h
  exact ⟨_, rfl, p109 _ _ _ _⟩
/-! ### slices.IndexFunc[[]shotline/api.TideWave,shotline/api.TideWave] -/
noncomputable def l158c143_0 (t0_0 : Nat) (t0_1 : Dat) (t7 : Int) : Nat → Int → Option (Bool × (Int) × (Unit))
  | 0, _ => none
  | f + 1, t8 => (cond ((decide (t8 < t7))) (cond ((decide (0 ≤ t8 ∧ t8 < (↑t0_0 : Int)))) (cond ((m143 (t0_1.ii t8.toNat 0) (t0_1.ii t8.toNat (0 + 1)) (t0_1.ii t8.toNat ((0 + 1) + 1)))) (some (true, t8, default)) (l158c143_0 t0_0 t0_1 t7 f (IntKind.i64.wrap (t8 + 1)))) none) (some (false, default, ())))
noncomputable abbrev o158c143_0 (t0_0 : Nat) (t0_1 : Dat) (t7 : Int) (t8 : Int) : Option (Bool × (Int) × (Unit)) := l158c143_0 t0_0 t0_1 t7 (t0_0 + t7.toNat + t8.toNat + 8) t8
noncomputable def e158c143_0 (t0_0 : Nat) (t0_1 : Dat) (t7 : Int) (r : Bool × (Int) × (Unit)) (K : XR) : Prop := cnd r.1 (K (XE.ret) [.int .i64 r.2.1] []) (K (XE.exit 0) [.any] [])
noncomputable def g158c143_0 : LSum := fun s k => match czv 0 19 [0, 1, 7, 8] 0 [] s with
  | some ([.ro [.int .i64, .int .i64, .int .i64] t0_0 t0_1, .fn 143 [], .int .i64 t7, .int .i64 t8], []) => needs [(o158c143_0 t0_0 t0_1 t7 t8).isSome] (e158c143_0 t0_0 t0_1 t7 ((o158c143_0 t0_0 t0_1 t7 t8).getD default) fun e vs bs => inBlk 0 k e (mkSt 0 19 [4] vs 0 bs))
  | _ => False
theorem y158c143_0 (t0_0 : Nat) (t0_1 : Dat) (t7 : Int) (t8 : Int) (R : XR) : exec Try.prog [(143, c143)] (fun _ => none) 8 (unloop (bodyAt (Try.f158.body.getD .skip) 0)) (mkSt 0 19 [0, 1, 7, 8] [.ro [.int .i64, .int .i64, .int .i64] t0_0 t0_1, .fn 143 [], .int .i64 t7, .int .i64 t8] 0 []) (canonK 0 19 [0, 1, 7, 8] [4] 0 [] R) =
 (cnd ((decide (t8 < t7)))
 (cnd ((decide (0 ≤ t8 ∧ t8 < (↑t0_0 : Int))))
 (cnd ((m143 (t0_1.ii t8.toNat 0) (t0_1.ii t8.toNat (0 + 1)) (t0_1.ii t8.toNat ((0 + 1) + 1))))
 (R (XE.ret) [.int .i64 t8] [])
 (R (XE.normal) [.ro [.int .i64, .int .i64, .int .i64] t0_0 t0_1, .fn 143 [], .int .i64 t7, .int .i64 (IntKind.i64.wrap (t8 + 1))] []))
   False)
 (R (XE.exit 0) [.any] [])) := by kernel_rfl
theorem z158c143_0 : LOk Try.prog g158c143_0 (.block 0 (bodyAt (Try.f158.body.getD .skip) 0)) := by
  refine loop_blk (ι := Nat × Dat × Int × Int) (L := [(143, c143)]) (Λ := (fun _ => none)) (fuel := 8) (na := 0) (nt := 19) (nx := 0) (Lh := [0, 1, 7, 8]) (Le := [4]) (gl := []) (tabOk_cons k143 tabOk_nil) mix_ok noLam rfl (fun f x K => GG default (e158c143_0 x.1 x.2.1 x.2.2.1) K (l158c143_0 x.1 x.2.1 x.2.2.1 f x.2.2.2)) (fun x => [.ro [.int .i64, .int .i64, .int .i64] x.1 x.2.1, .fn 143 [], .int .i64 x.2.2.1, .int .i64 x.2.2.2]) (fun x => []) (fun x K => gg_none) ?_ ?_
  · rintro f ⟨t0_0, t0_1, t7, t8⟩ K hG
    have hG : GG default (e158c143_0 t0_0 t0_1 t7) K (cond ((decide (t8 < t7))) (cond ((decide (0 ≤ t8 ∧ t8 < (↑t0_0 : Int)))) (cond ((m143 (t0_1.ii t8.toNat 0) (t0_1.ii t8.toNat (0 + 1)) (t0_1.ii t8.toNat ((0 + 1) + 1)))) (some (true, t8, default)) (l158c143_0 t0_0 t0_1 t7 f (IntKind.i64.wrap (t8 + 1)))) none) (some (false, default, ()))) := hG
    refine propOf (y158c143_0 t0_0 t0_1 t7 t8 _) ?_
    exact cnd_gg2 hG (fun h0 => cnd_gg h0 fun h1 => cnd_gg2 h1 (fun h2 => h2.2) (fun h2 => ⟨(t0_0, t0_1, t7, (IntKind.i64.wrap (t8 + 1))), rfl, rfl, h2⟩)) (fun h0 => h0.2)
  · intro s k h
    unfold g158c143_0 at h
    split at h <;> try exact h.elim
    rename_i e1
    rw [needs_iff] at h
    exact ⟨_, e1, _, (_, _, _, _), rfl, rfl, h.1 _ (List.mem_singleton.2 rfl), h.2⟩
theorem x158c143 (na0 : Nat) (da0 : Dat) (R : SV → List Blk → List Blk → Prop) : exec Try.prog [(143, c143)] (lamOf [(0, g158c143_0)]) 8 (Try.f158.body.getD .skip) (initS Try.f158.ntmps [.ro [.int .i64, .int .i64, .int .i64] na0 da0, .fn 143 []] 0 (memOf [])) (retK Try.prog Try.f158.results.toList (outK 0 (List.range 0) [] (.k) fun v U N => R v U N)) =
 (cnd (((o158c143_0 na0 da0 ((↑na0 : Int)) 0).isSome))
 (cnd ((((o158c143_0 na0 da0 ((↑na0 : Int)) 0).getD default).1))
 (R (.int .i64 (((o158c143_0 na0 da0 ((↑na0 : Int)) 0).getD default).2.1)) [] [])
 (R (.int .i64 (-1)) [] []))
  False) := by kernel_rfl
noncomputable def m158c143 (na0 : Nat) (da0 : Dat) : Int :=
 (cond ((((o158c143_0 na0 da0 ((↑na0 : Int)) 0).getD default).1)) (((o158c143_0 na0 da0 ((↑na0 : Int)) 0).getD default).2.1) (-1))
noncomputable def n158c143 (na0 : Nat) (da0 : Dat) : Bool :=
 ((((o158c143_0 na0 da0 ((↑na0 : Int)) 0).isSome)) && true)
noncomputable def q158c143 (r : Int) : SV × List Blk × List Blk := (.int .i64 r, [], [])
noncomputable def g158c143 : List SV → List Blk → Option OpRes := fun vs bs => match vs, bs with
  | [.ro [.int .i64, .int .i64, .int .i64] na0 da0, .fn 143 []], [] => some (resOf 0 (q158c143 (m158c143 na0 da0)) [n158c143 na0 da0])
  | _, _ => none
noncomputable def c158c143 : Ctr := genC [.ro [.int .i64, .int .i64, .int .i64], .f []] g158c143
theorem p158c143 (na0 : Nat) (da0 : Dat) (hn : n158c143 na0 da0 = true) : exec Try.prog [(143, c143)] (lamOf [(0, g158c143_0)]) 8 (Try.f158.body.getD .skip) (initS Try.f158.ntmps [.ro [.int .i64, .int .i64, .int .i64] na0 da0, .fn 143 []] 0 (memOf [])) (retK Try.prog Try.f158.results.toList (outK 0 (List.range 0) [] (.k) fun v U N => (v, U, N) = (q158c143 (m158c143 na0 da0)))) :=
  propOf (x158c143 na0 da0 _) (cnd_need (and_l hn) (cnd_of (fun h0 => leaf_of (l := (((o158c143_0 na0 da0 ((↑na0 : Int)) 0).getD default).2.1)) (condT h0 rfl) rfl) (fun h0 => leaf_of (l := (-1)) (condF h0 rfl) rfl)))
theorem k158c143 : CtrOk Try.prog c158c143 158 := ctr_of (tabOk_cons k143 tabOk_nil) mix_ok 8 (fn := Try.f158) (c := (Try.f158.body.getD .skip)) (grs := []) (rh := .k) (Λ := (lamOf [(0, g158c143_0)])) Try.func158 rfl (by kernel_rfl) (lam_of rfl (lams_cons z158c143_0 lams_nil)) fun vs bs q h hn => by
  unfold g158c143 at h
  split at h <;> cases h
  exact ⟨_, rfl, p158c143 _ _ (hn _ (List.mem_singleton.2 rfl))⟩
/-! ### (*shotline/site.circle).ray -/
noncomputable def l133_0 (t0 : Dat) (t1 : Int) (b0_0 : Int) (b0_1 : Int) (b0_2 : Int) (b0_3 : Int) : Nat → Int → Int → Int → Int → Int → Option (Int × Int × Int × Int)
  | 0, _, _, _, _, _ => none
  | f + 1, t6, b1_0, b1_1, b1_2, b1_3 => (cond ((decide (t6 ≤ 10))) (cond ((decide (0 ≤ t6))) (cond ((bif (decide ((IntKind.i64.wrap ((↑((BitVec.ofInt IntKind.i64.bits t1 &&& BitVec.ofInt IntKind.i64.bits (Int.fdiv 1024 (2 ^ (min t6.toNat IntKind.i64.bits)))).toNat) : Int))) = 0)) then false else true)) (cond ((decide (0 ≤ t6 ∧ t6 < (↑11 : Int)))) (cond ((decide (t6 < ((↑11 : Int))))) (cond ((n144 b1_0 b1_1 b1_2 b1_3 (t0.ii t6.toNat 0) (t0.ii t6.toNat (0 + 1)) (t0.ii t6.toNat ((0 + 1) + 1)) (t0.ii t6.toNat (((0 + 1) + 1) + 1)))) (l133_0 t0 t1 b0_0 b0_1 b0_2 b0_3 f (IntKind.i64.wrap (t6 + 1)) ((m144 b1_0 b1_1 b1_2 b1_3 (t0.ii t6.toNat 0) (t0.ii t6.toNat (0 + 1)) (t0.ii t6.toNat ((0 + 1) + 1)) (t0.ii t6.toNat (((0 + 1) + 1) + 1))).1) ((m144 b1_0 b1_1 b1_2 b1_3 (t0.ii t6.toNat 0) (t0.ii t6.toNat (0 + 1)) (t0.ii t6.toNat ((0 + 1) + 1)) (t0.ii t6.toNat (((0 + 1) + 1) + 1))).2.1) ((m144 b1_0 b1_1 b1_2 b1_3 (t0.ii t6.toNat 0) (t0.ii t6.toNat (0 + 1)) (t0.ii t6.toNat ((0 + 1) + 1)) (t0.ii t6.toNat (((0 + 1) + 1) + 1))).2.2.1) ((m144 b1_0 b1_1 b1_2 b1_3 (t0.ii t6.toNat 0) (t0.ii t6.toNat (0 + 1)) (t0.ii t6.toNat ((0 + 1) + 1)) (t0.ii t6.toNat (((0 + 1) + 1) + 1))).2.2.2)) none) none) none) (l133_0 t0 t1 b0_0 b0_1 b0_2 b0_3 f (IntKind.i64.wrap (t6 + 1)) b1_0 b1_1 b1_2 b1_3)) none) (some (b1_0, b1_1, b1_2, b1_3)))
noncomputable abbrev o133_0 (t0 : Dat) (t1 : Int) (b0_0 : Int) (b0_1 : Int) (b0_2 : Int) (b0_3 : Int) (t6 : Int) (b1_0 : Int) (b1_1 : Int) (b1_2 : Int) (b1_3 : Int) : Option (Int × Int × Int × Int) := l133_0 t0 t1 b0_0 b0_1 b0_2 b0_3 (30 + t1.toNat) t6 b1_0 b1_1 b1_2 b1_3
noncomputable def e133_0 (t0 : Dat) (t1 : Int) (b0_0 : Int) (b0_1 : Int) (b0_2 : Int) (b0_3 : Int) (r : Int × Int × Int × Int) (K : XR) : Prop := K (XE.exit 0) [.ptr 0 0, .ptr 1 0] [.cells 171 [.int .i64 b0_0, .int .i64 b0_1, .int .i64 b0_2, .int .i64 b0_3], .cells 171 [.int .i64 r.1, .int .i64 r.2.1, .int .i64 r.2.2.1, .int .i64 r.2.2.2]]
noncomputable def g133_0 : LSum := fun s k => match czv 0 26 [0, 1, 4, 5, 6] 2 [] s with
  | some ([.ra [.int .i64, .int .i64, .int .i64, .int .i64] 11 t0, .int .i64 t1, .ptr 0 0, .ptr 1 0, .int .i64 t6], [.cells 171 [.int .i64 b0_0, .int .i64 b0_1, .int .i64 b0_2, .int .i64 b0_3], .cells 171 [.int .i64 b1_0, .int .i64 b1_1, .int .i64 b1_2, .int .i64 b1_3]]) => needs [(o133_0 t0 t1 b0_0 b0_1 b0_2 b0_3 t6 b1_0 b1_1 b1_2 b1_3).isSome] (e133_0 t0 t1 b0_0 b0_1 b0_2 b0_3 ((o133_0 t0 t1 b0_0 b0_1 b0_2 b0_3 t6 b1_0 b1_1 b1_2 b1_3).getD default) fun e vs bs => inBlk 0 k e (mkSt 0 26 [4, 5] vs 2 bs))
  | _ => False
theorem y133_0 (t0 : Dat) (t1 : Int) (t6 : Int) (b0_0 : Int) (b0_1 : Int) (b0_2 : Int) (b0_3 : Int) (b1_0 : Int) (b1_1 : Int) (b1_2 : Int) (b1_3 : Int) (R : XR) : exec Try.prog [(144, c144)] (fun _ => none) 8 (unloop (bodyAt (Try.f133.body.getD .skip) 0)) (mkSt 0 26 [0, 1, 4, 5, 6] [.ra [.int .i64, .int .i64, .int .i64, .int .i64] 11 t0, .int .i64 t1, .ptr 0 0, .ptr 1 0, .int .i64 t6] 2 [.cells 171 [.int .i64 b0_0, .int .i64 b0_1, .int .i64 b0_2, .int .i64 b0_3], .cells 171 [.int .i64 b1_0, .int .i64 b1_1, .int .i64 b1_2, .int .i64 b1_3]]) (canonK 0 26 [0, 1, 4, 5, 6] [4, 5] 2 [] R) =
 (cnd ((decide (t6 ≤ 10)))
 (cnd ((decide (0 ≤ t6)))
 (cnd ((bif (decide ((IntKind.i64.wrap ((↑((BitVec.ofInt IntKind.i64.bits t1 &&& BitVec.ofInt IntKind.i64.bits (Int.fdiv 1024 (2 ^ (min t6.toNat IntKind.i64.bits)))).toNat) : Int))) = 0)) then false else true))
 (cnd ((decide (0 ≤ t6 ∧ t6 < (↑11 : Int))))
 (cnd ((decide (t6 < ((↑11 : Int)))))
 (cnd ((n144 b1_0 b1_1 b1_2 b1_3 (t0.ii t6.toNat 0) (t0.ii t6.toNat (0 + 1)) (t0.ii t6.toNat ((0 + 1) + 1)) (t0.ii t6.toNat (((0 + 1) + 1) + 1))))
 (R (XE.normal) [.ra [.int .i64, .int .i64, .int .i64, .int .i64] 11 t0, .int .i64 t1, .ptr 0 0, .ptr 1 0, .int .i64 (IntKind.i64.wrap (t6 + 1))] [.cells 171 [.int .i64 b0_0, .int .i64 b0_1, .int .i64 b0_2, .int .i64 b0_3], .cells 171 [.int .i64 ((m144 b1_0 b1_1 b1_2 b1_3 (t0.ii t6.toNat 0) (t0.ii t6.toNat (0 + 1)) (t0.ii t6.toNat ((0 + 1) + 1)) (t0.ii t6.toNat (((0 + 1) + 1) + 1))).1), .int .i64 ((m144 b1_0 b1_1 b1_2 b1_3 (t0.ii t6.toNat 0) (t0.ii t6.toNat (0 + 1)) (t0.ii t6.toNat ((0 + 1) + 1)) (t0.ii t6.toNat (((0 + 1) + 1) + 1))).2.1), .int .i64 ((m144 b1_0 b1_1 b1_2 b1_3 (t0.ii t6.toNat 0) (t0.ii t6.toNat (0 + 1)) (t0.ii t6.toNat ((0 + 1) + 1)) (t0.ii t6.toNat (((0 + 1) + 1) + 1))).2.2.1), .int .i64 ((m144 b1_0 b1_1 b1_2 b1_3 (t0.ii t6.toNat 0) (t0.ii t6.toNat (0 + 1)) (t0.ii t6.toNat ((0 + 1) + 1)) (t0.ii t6.toNat (((0 + 1) + 1) + 1))).2.2.2)]])
       False)
      False)
     False)
 (R (XE.normal) [.ra [.int .i64, .int .i64, .int .i64, .int .i64] 11 t0, .int .i64 t1, .ptr 0 0, .ptr 1 0, .int .i64 (IntKind.i64.wrap (t6 + 1))] [.cells 171 [.int .i64 b0_0, .int .i64 b0_1, .int .i64 b0_2, .int .i64 b0_3], .cells 171 [.int .i64 b1_0, .int .i64 b1_1, .int .i64 b1_2, .int .i64 b1_3]]))
   False)
 (R (XE.exit 0) [.ptr 0 0, .ptr 1 0] [.cells 171 [.int .i64 b0_0, .int .i64 b0_1, .int .i64 b0_2, .int .i64 b0_3], .cells 171 [.int .i64 b1_0, .int .i64 b1_1, .int .i64 b1_2, .int .i64 b1_3]])) := by kernel_rfl
theorem z133_0 : LOk Try.prog g133_0 (.block 0 (bodyAt (Try.f133.body.getD .skip) 0)) := by
  refine loop_blk (ι := Dat × Int × Int × Int × Int × Int × Int × Int × Int × Int × Int) (L := [(144, c144)]) (Λ := (fun _ => none)) (fuel := 8) (na := 0) (nt := 26) (nx := 2) (Lh := [0, 1, 4, 5, 6]) (Le := [4, 5]) (gl := []) (tabOk_cons k144 tabOk_nil) mix_ok noLam rfl (fun f x K => GG default (e133_0 x.1 x.2.1 x.2.2.2.1 x.2.2.2.2.1 x.2.2.2.2.2.1 x.2.2.2.2.2.2.1) K (l133_0 x.1 x.2.1 x.2.2.2.1 x.2.2.2.2.1 x.2.2.2.2.2.1 x.2.2.2.2.2.2.1 f x.2.2.1 x.2.2.2.2.2.2.2.1 x.2.2.2.2.2.2.2.2.1 x.2.2.2.2.2.2.2.2.2.1 x.2.2.2.2.2.2.2.2.2.2)) (fun x => [.ra [.int .i64, .int .i64, .int .i64, .int .i64] 11 x.1, .int .i64 x.2.1, .ptr 0 0, .ptr 1 0, .int .i64 x.2.2.1]) (fun x => [.cells 171 [.int .i64 x.2.2.2.1, .int .i64 x.2.2.2.2.1, .int .i64 x.2.2.2.2.2.1, .int .i64 x.2.2.2.2.2.2.1], .cells 171 [.int .i64 x.2.2.2.2.2.2.2.1, .int .i64 x.2.2.2.2.2.2.2.2.1, .int .i64 x.2.2.2.2.2.2.2.2.2.1, .int .i64 x.2.2.2.2.2.2.2.2.2.2]]) (fun x K => gg_none) ?_ ?_
  · rintro f ⟨t0, t1, t6, b0_0, b0_1, b0_2, b0_3, b1_0, b1_1, b1_2, b1_3⟩ K hG
    have hG : GG default (e133_0 t0 t1 b0_0 b0_1 b0_2 b0_3) K (cond ((decide (t6 ≤ 10))) (cond ((decide (0 ≤ t6))) (cond ((bif (decide ((IntKind.i64.wrap ((↑((BitVec.ofInt IntKind.i64.bits t1 &&& BitVec.ofInt IntKind.i64.bits (Int.fdiv 1024 (2 ^ (min t6.toNat IntKind.i64.bits)))).toNat) : Int))) = 0)) then false else true)) (cond ((decide (0 ≤ t6 ∧ t6 < (↑11 : Int)))) (cond ((decide (t6 < ((↑11 : Int))))) (cond ((n144 b1_0 b1_1 b1_2 b1_3 (t0.ii t6.toNat 0) (t0.ii t6.toNat (0 + 1)) (t0.ii t6.toNat ((0 + 1) + 1)) (t0.ii t6.toNat (((0 + 1) + 1) + 1)))) (l133_0 t0 t1 b0_0 b0_1 b0_2 b0_3 f (IntKind.i64.wrap (t6 + 1)) ((m144 b1_0 b1_1 b1_2 b1_3 (t0.ii t6.toNat 0) (t0.ii t6.toNat (0 + 1)) (t0.ii t6.toNat ((0 + 1) + 1)) (t0.ii t6.toNat (((0 + 1) + 1) + 1))).1) ((m144 b1_0 b1_1 b1_2 b1_3 (t0.ii t6.toNat 0) (t0.ii t6.toNat (0 + 1)) (t0.ii t6.toNat ((0 + 1) + 1)) (t0.ii t6.toNat (((0 + 1) + 1) + 1))).2.1) ((m144 b1_0 b1_1 b1_2 b1_3 (t0.ii t6.toNat 0) (t0.ii t6.toNat (0 + 1)) (t0.ii t6.toNat ((0 + 1) + 1)) (t0.ii t6.toNat (((0 + 1) + 1) + 1))).2.2.1) ((m144 b1_0 b1_1 b1_2 b1_3 (t0.ii t6.toNat 0) (t0.ii t6.toNat (0 + 1)) (t0.ii t6.toNat ((0 + 1) + 1)) (t0.ii t6.toNat (((0 + 1) + 1) + 1))).2.2.2)) none) none) none) (l133_0 t0 t1 b0_0 b0_1 b0_2 b0_3 f (IntKind.i64.wrap (t6 + 1)) b1_0 b1_1 b1_2 b1_3)) none) (some (b1_0, b1_1, b1_2, b1_3))) := hG
    refine propOf (y133_0 t0 t1 t6 b0_0 b0_1 b0_2 b0_3 b1_0 b1_1 b1_2 b1_3 _) ?_
    exact cnd_gg2 hG (fun h0 => cnd_gg h0 fun h1 => cnd_gg2 h1 (fun h2 => cnd_gg h2 fun h3 => cnd_gg h3 fun h4 => cnd_gg h4 fun h5 => ⟨(t0, t1, (IntKind.i64.wrap (t6 + 1)), b0_0, b0_1, b0_2, b0_3, ((m144 b1_0 b1_1 b1_2 b1_3 (t0.ii t6.toNat 0) (t0.ii t6.toNat (0 + 1)) (t0.ii t6.toNat ((0 + 1) + 1)) (t0.ii t6.toNat (((0 + 1) + 1) + 1))).1), ((m144 b1_0 b1_1 b1_2 b1_3 (t0.ii t6.toNat 0) (t0.ii t6.toNat (0 + 1)) (t0.ii t6.toNat ((0 + 1) + 1)) (t0.ii t6.toNat (((0 + 1) + 1) + 1))).2.1), ((m144 b1_0 b1_1 b1_2 b1_3 (t0.ii t6.toNat 0) (t0.ii t6.toNat (0 + 1)) (t0.ii t6.toNat ((0 + 1) + 1)) (t0.ii t6.toNat (((0 + 1) + 1) + 1))).2.2.1), ((m144 b1_0 b1_1 b1_2 b1_3 (t0.ii t6.toNat 0) (t0.ii t6.toNat (0 + 1)) (t0.ii t6.toNat ((0 + 1) + 1)) (t0.ii t6.toNat (((0 + 1) + 1) + 1))).2.2.2)), rfl, rfl, h5⟩) (fun h2 => ⟨(t0, t1, (IntKind.i64.wrap (t6 + 1)), b0_0, b0_1, b0_2, b0_3, b1_0, b1_1, b1_2, b1_3), rfl, rfl, h2⟩)) (fun h0 => h0.2)
  · intro s k h
    unfold g133_0 at h
    split at h <;> try exact h.elim
    rename_i e1
    rw [needs_iff] at h
    exact ⟨_, e1, _, (_, _, _, _, _, _, _, _, _, _, _), rfl, rfl, h.1 _ (List.mem_singleton.2 rfl), h.2⟩
theorem x133 (da0 : Dat) (a1 : Int) (R : SV → List Blk → List Blk → Prop) : exec Try.prog [(144, c144)] (lamOf [(0, g133_0)]) 8 (Try.f133.body.getD .skip) (initS Try.f133.ntmps [.ra [.int .i64, .int .i64, .int .i64, .int .i64] 11 da0, .int .i64 a1] 0 (memOf [])) (retK Try.prog Try.f133.results.toList (outK 0 (List.range 0) [] (.k) fun v U N => R v U N)) =
 (cnd (((o133_0 da0 a1 0 0 0 0 1 100000000 100000000 0 0).isSome))
 (R (.agg [.int .i64 (((o133_0 da0 a1 0 0 0 0 1 100000000 100000000 0 0).getD default).1), .int .i64 (((o133_0 da0 a1 0 0 0 0 1 100000000 100000000 0 0).getD default).2.1), .int .i64 (((o133_0 da0 a1 0 0 0 0 1 100000000 100000000 0 0).getD default).2.2.1), .int .i64 (((o133_0 da0 a1 0 0 0 0 1 100000000 100000000 0 0).getD default).2.2.2)]) [] [])
  False) := by kernel_rfl
noncomputable def m133 (da0 : Dat) (a1 : Int) : Int × Int × Int × Int :=
 ((((o133_0 da0 a1 0 0 0 0 1 100000000 100000000 0 0).getD default).1), (((o133_0 da0 a1 0 0 0 0 1 100000000 100000000 0 0).getD default).2.1), (((o133_0 da0 a1 0 0 0 0 1 100000000 100000000 0 0).getD default).2.2.1), (((o133_0 da0 a1 0 0 0 0 1 100000000 100000000 0 0).getD default).2.2.2))
noncomputable def n133 (da0 : Dat) (a1 : Int) : Bool :=
 ((((o133_0 da0 a1 0 0 0 0 1 100000000 100000000 0 0).isSome)) && true)
noncomputable def q133 (r : Int × Int × Int × Int) : SV × List Blk × List Blk := (.agg [.int .i64 r.1, .int .i64 r.2.1, .int .i64 r.2.2.1, .int .i64 r.2.2.2], [], [])
noncomputable def g133 : List SV → List Blk → Option OpRes := fun vs bs => match vs, bs with
  | [.ra [.int .i64, .int .i64, .int .i64, .int .i64] 11 da0, .int .i64 a1], [] => some (resOf 0 (q133 (m133 da0 a1)) [n133 da0 a1])
  | _, _ => none
noncomputable def c133 : Ctr := genC [.ra [.int .i64, .int .i64, .int .i64, .int .i64] 11, .k] g133
theorem p133 (da0 : Dat) (a1 : Int) (hn : n133 da0 a1 = true) : exec Try.prog [(144, c144)] (lamOf [(0, g133_0)]) 8 (Try.f133.body.getD .skip) (initS Try.f133.ntmps [.ra [.int .i64, .int .i64, .int .i64, .int .i64] 11 da0, .int .i64 a1] 0 (memOf [])) (retK Try.prog Try.f133.results.toList (outK 0 (List.range 0) [] (.k) fun v U N => (v, U, N) = (q133 (m133 da0 a1)))) :=
  propOf (x133 da0 a1 _) (cnd_need (and_l hn) (leaf_of (l := ((((o133_0 da0 a1 0 0 0 0 1 100000000 100000000 0 0).getD default).1), (((o133_0 da0 a1 0 0 0 0 1 100000000 100000000 0 0).getD default).2.1), (((o133_0 da0 a1 0 0 0 0 1 100000000 100000000 0 0).getD default).2.2.1), (((o133_0 da0 a1 0 0 0 0 1 100000000 100000000 0 0).getD default).2.2.2))) rfl rfl))
theorem k133 : CtrOk Try.prog c133 133 := ctr_of (tabOk_cons k144 tabOk_nil) mix_ok 8 (fn := Try.f133) (c := (Try.f133.body.getD .skip)) (grs := []) (rh := .k) (Λ := (lamOf [(0, g133_0)])) Try.func133 rfl (by kernel_rfl) (lam_of rfl (lams_cons z133_0 lams_nil)) fun vs bs q h hn => by
  unfold g133 at h
  split at h <;> cases h
  exact ⟨_, rfl, p133 _ _ (hn _ (List.mem_singleton.2 rfl))⟩
/-! ### slices.ContainsFunc[[]shotline/api.TideWave,shotline/api.TideWave] -/
theorem x142c143 (na0 : Nat) (da0 : Dat) (R : SV → List Blk → List Blk → Prop) : exec Try.prog [(143, c143), (158, c158c143)] (fun _ => none) 8 (Try.f142.body.getD .skip) (initS Try.f142.ntmps [.ro [.int .i64, .int .i64, .int .i64] na0 da0, .fn 143 []] 0 (memOf [])) (retK Try.prog Try.f142.results.toList (outK 0 (List.range 0) [] (.k) fun v U N => R v U N)) =
 (cnd ((n158c143 na0 da0))
 (R (.bool (decide (0 ≤ (m158c143 na0 da0)))) [] [])
  False) := by kernel_rfl
noncomputable def m142c143 (na0 : Nat) (da0 : Dat) : Bool :=
 (decide (0 ≤ (m158c143 na0 da0)))
noncomputable def n142c143 (na0 : Nat) (da0 : Dat) : Bool :=
 (((n158c143 na0 da0)) && true)
noncomputable def q142c143 (r : Bool) : SV × List Blk × List Blk := (.bool r, [], [])
noncomputable def g142c143 : List SV → List Blk → Option OpRes := fun vs bs => match vs, bs with
  | [.ro [.int .i64, .int .i64, .int .i64] na0 da0, .fn 143 []], [] => some (resOf 0 (q142c143 (m142c143 na0 da0)) [n142c143 na0 da0])
  | _, _ => none
noncomputable def c142c143 : Ctr := genC [.ro [.int .i64, .int .i64, .int .i64], .f []] g142c143
theorem p142c143 (na0 : Nat) (da0 : Dat) (hn : n142c143 na0 da0 = true) : exec Try.prog [(143, c143), (158, c158c143)] (fun _ => none) 8 (Try.f142.body.getD .skip) (initS Try.f142.ntmps [.ro [.int .i64, .int .i64, .int .i64] na0 da0, .fn 143 []] 0 (memOf [])) (retK Try.prog Try.f142.results.toList (outK 0 (List.range 0) [] (.k) fun v U N => (v, U, N) = (q142c143 (m142c143 na0 da0)))) :=
  propOf (x142c143 na0 da0 _) (cnd_need (and_l hn) (leaf_of (l := (decide (0 ≤ (m158c143 na0 da0)))) rfl rfl))
theorem k142c143 : CtrOk Try.prog c142c143 142 := ctr_of (tabOk_cons k143 (tabOk_cons k158c143 tabOk_nil)) mix_ok 8 (fn := Try.f142) (c := (Try.f142.body.getD .skip)) (grs := []) (rh := .k) (Λ := (fun _ => none)) Try.func142 rfl (by kernel_rfl) noLam fun vs bs q h hn => by
  unfold g142c143 at h
  split at h <;> cases h
  exact ⟨_, rfl, p142c143 _ _ (hn _ (List.mem_singleton.2 rfl))⟩
/-! ### shotline/site.CheckTide -/
theorem x126 (a0_0 : Int) (na0_1 : Nat) (da0_1 : Dat) (R : SV → List Blk → List Blk → Prop) : exec Try.prog [(96, c96), (142, c142c143), (143, c143)] (fun _ => none) 8 (Try.f126.body.getD .skip) (initS Try.f126.ntmps [.agg [.int .i64 a0_0, .ro [.int .i64, .int .i64, .int .i64] na0_1 da0_1]] 0 (memOf [])) (retK Try.prog Try.f126.results.toList (outK 0 (List.range 0) [] (.k) fun v U N => R v U N)) =
 (cnd ((bif (m96 a0_0 (-100000) 100000) then false else true))
 (R (.int .i64 2) [] [])
 (cnd ((decide ((10 : Int) < ((↑na0_1 : Int)))))
 (R (.int .i64 8) [] [])
 (cnd ((n142c143 na0_1 da0_1))
 (cnd ((m142c143 na0_1 da0_1))
 (R (.int .i64 2) [] [])
 (R (.int .i64 0) [] []))
    False))) := by kernel_rfl
noncomputable def m126 (a0_0 : Int) (na0_1 : Nat) (da0_1 : Dat) : Int :=
 (cond ((bif (m96 a0_0 (-100000) 100000) then false else true)) 2 (cond ((decide ((10 : Int) < ((↑na0_1 : Int))))) 8 (cond ((m142c143 na0_1 da0_1)) 2 0)))
noncomputable def n126 (a0_0 : Int) (na0_1 : Nat) (da0_1 : Dat) : Bool :=
 (cond ((bif (m96 a0_0 (-100000) 100000) then false else true)) true (cond ((decide ((10 : Int) < ((↑na0_1 : Int))))) true (((n142c143 na0_1 da0_1)) && true)))
noncomputable def q126 (r : Int) : SV × List Blk × List Blk := (.int .i64 r, [], [])
noncomputable def g126 : List SV → List Blk → Option OpRes := fun vs bs => match vs, bs with
  | [.agg [.int .i64 a0_0, .ro [.int .i64, .int .i64, .int .i64] na0_1 da0_1]], [] => some (resOf 0 (q126 (m126 a0_0 na0_1 da0_1)) [n126 a0_0 na0_1 da0_1])
  | _, _ => none
noncomputable def c126 : Ctr := genC [.a [.k, .ro [.int .i64, .int .i64, .int .i64]]] g126
theorem p126 (a0_0 : Int) (na0_1 : Nat) (da0_1 : Dat) (hn : n126 a0_0 na0_1 da0_1 = true) : exec Try.prog [(96, c96), (142, c142c143), (143, c143)] (fun _ => none) 8 (Try.f126.body.getD .skip) (initS Try.f126.ntmps [.agg [.int .i64 a0_0, .ro [.int .i64, .int .i64, .int .i64] na0_1 da0_1]] 0 (memOf [])) (retK Try.prog Try.f126.results.toList (outK 0 (List.range 0) [] (.k) fun v U N => (v, U, N) = (q126 (m126 a0_0 na0_1 da0_1)))) :=
  propOf (x126 a0_0 na0_1 da0_1 _) (cnd_of (fun h0 => leaf_of (l := 2) (condT h0 rfl) rfl) (fun h0 => cnd_of (fun h1 => leaf_of (l := 8) (condF h0 (condT h1 rfl)) rfl) (fun h1 => cnd_need (and_l (cond_f h1 (cond_f h0 hn))) (cnd_of (fun h2 => leaf_of (l := 2) (condF h0 (condF h1 (condT h2 rfl))) rfl) (fun h2 => leaf_of (l := 0) (condF h0 (condF h1 (condF h2 rfl))) rfl)))))
theorem k126 : CtrOk Try.prog c126 126 := ctr_of (tabOk_cons k96 (tabOk_cons k142c143 (tabOk_cons k143 tabOk_nil))) mix_ok 8 (fn := Try.f126) (c := (Try.f126.body.getD .skip)) (grs := []) (rh := .k) (Λ := (fun _ => none)) Try.func126 rfl (by kernel_rfl) noLam fun vs bs q h hn => by
  unfold g126 at h
  split at h <;> cases h
  exact ⟨_, rfl, p126 _ _ _ (hn _ (List.mem_singleton.2 rfl))⟩
/-! ### (*shotline/site.circle).cos -/
theorem x99 (da0 : Dat) (a1 : Int) (R : SV → List Blk → List Blk → Prop) : exec Try.prog [(133, c133), (134, c134)] (fun _ => none) 8 (Try.f99.body.getD .skip) (initS Try.f99.ntmps [.ra [.int .i64, .int .i64, .int .i64, .int .i64] 11 da0, .int .i64 a1] 0 (memOf [])) (retK Try.prog Try.f99.results.toList (outK 0 (List.range 0) [] (.k) fun v U N => R v U N)) =
 (cnd ((n133 da0 (a1.tmod 1024)))
 (cnd ((decide (((IntKind.i64.wrap (a1.tdiv 1024)).tmod 4) = 0)))
 (R (.agg [.int .i64 ((m133 da0 (a1.tmod 1024)).1), .int .i64 ((m133 da0 (a1.tmod 1024)).2.1)]) [] [])
 (cnd ((decide (((IntKind.i64.wrap (a1.tdiv 1024)).tmod 4) = 1)))
 (R (.agg [.int .i64 ((m134 ((m133 da0 (a1.tmod 1024)).2.2.1) ((m133 da0 (a1.tmod 1024)).2.2.2)).1), .int .i64 ((m134 ((m133 da0 (a1.tmod 1024)).2.2.1) ((m133 da0 (a1.tmod 1024)).2.2.2)).2)]) [] [])
 (cnd ((decide (((IntKind.i64.wrap (a1.tdiv 1024)).tmod 4) = 2)))
 (R (.agg [.int .i64 ((m134 ((m133 da0 (a1.tmod 1024)).1) ((m133 da0 (a1.tmod 1024)).2.1)).1), .int .i64 ((m134 ((m133 da0 (a1.tmod 1024)).1) ((m133 da0 (a1.tmod 1024)).2.1)).2)]) [] [])
 (R (.agg [.int .i64 ((m133 da0 (a1.tmod 1024)).2.2.1), .int .i64 ((m133 da0 (a1.tmod 1024)).2.2.2)]) [] []))))
  False) := by kernel_rfl
noncomputable def m99 (da0 : Dat) (a1 : Int) : Int × Int :=
 (cond ((decide (((IntKind.i64.wrap (a1.tdiv 1024)).tmod 4) = 0))) (((m133 da0 (a1.tmod 1024)).1), ((m133 da0 (a1.tmod 1024)).2.1)) (cond ((decide (((IntKind.i64.wrap (a1.tdiv 1024)).tmod 4) = 1))) (((m134 ((m133 da0 (a1.tmod 1024)).2.2.1) ((m133 da0 (a1.tmod 1024)).2.2.2)).1), ((m134 ((m133 da0 (a1.tmod 1024)).2.2.1) ((m133 da0 (a1.tmod 1024)).2.2.2)).2)) (cond ((decide (((IntKind.i64.wrap (a1.tdiv 1024)).tmod 4) = 2))) (((m134 ((m133 da0 (a1.tmod 1024)).1) ((m133 da0 (a1.tmod 1024)).2.1)).1), ((m134 ((m133 da0 (a1.tmod 1024)).1) ((m133 da0 (a1.tmod 1024)).2.1)).2)) (((m133 da0 (a1.tmod 1024)).2.2.1), ((m133 da0 (a1.tmod 1024)).2.2.2)))))
noncomputable def n99 (da0 : Dat) (a1 : Int) : Bool :=
 (((n133 da0 (a1.tmod 1024))) && true)
noncomputable def q99 (r : Int × Int) : SV × List Blk × List Blk := (.agg [.int .i64 r.1, .int .i64 r.2], [], [])
noncomputable def g99 : List SV → List Blk → Option OpRes := fun vs bs => match vs, bs with
  | [.ra [.int .i64, .int .i64, .int .i64, .int .i64] 11 da0, .int .i64 a1], [] => some (resOf 0 (q99 (m99 da0 a1)) [n99 da0 a1])
  | _, _ => none
noncomputable def c99 : Ctr := genC [.ra [.int .i64, .int .i64, .int .i64, .int .i64] 11, .k] g99
theorem p99 (da0 : Dat) (a1 : Int) (hn : n99 da0 a1 = true) : exec Try.prog [(133, c133), (134, c134)] (fun _ => none) 8 (Try.f99.body.getD .skip) (initS Try.f99.ntmps [.ra [.int .i64, .int .i64, .int .i64, .int .i64] 11 da0, .int .i64 a1] 0 (memOf [])) (retK Try.prog Try.f99.results.toList (outK 0 (List.range 0) [] (.k) fun v U N => (v, U, N) = (q99 (m99 da0 a1)))) :=
  propOf (x99 da0 a1 _) (cnd_need (and_l hn) (cnd_of (fun h0 => leaf_of (l := (((m133 da0 (a1.tmod 1024)).1), ((m133 da0 (a1.tmod 1024)).2.1))) (condT h0 rfl) rfl) (fun h0 => cnd_of (fun h1 => leaf_of (l := (((m134 ((m133 da0 (a1.tmod 1024)).2.2.1) ((m133 da0 (a1.tmod 1024)).2.2.2)).1), ((m134 ((m133 da0 (a1.tmod 1024)).2.2.1) ((m133 da0 (a1.tmod 1024)).2.2.2)).2))) (condF h0 (condT h1 rfl)) rfl) (fun h1 => cnd_of (fun h2 => leaf_of (l := (((m134 ((m133 da0 (a1.tmod 1024)).1) ((m133 da0 (a1.tmod 1024)).2.1)).1), ((m134 ((m133 da0 (a1.tmod 1024)).1) ((m133 da0 (a1.tmod 1024)).2.1)).2))) (condF h0 (condF h1 (condT h2 rfl))) rfl) (fun h2 => leaf_of (l := (((m133 da0 (a1.tmod 1024)).2.2.1), ((m133 da0 (a1.tmod 1024)).2.2.2))) (condF h0 (condF h1 (condF h2 rfl))) rfl)))))
theorem k99 : CtrOk Try.prog c99 99 := ctr_of (tabOk_cons k133 (tabOk_cons k134 tabOk_nil)) mix_ok 8 (fn := Try.f99) (c := (Try.f99.body.getD .skip)) (grs := []) (rh := .k) (Λ := (fun _ => none)) Try.func99 rfl (by kernel_rfl) noLam fun vs bs q h hn => by
  unfold g99 at h
  split at h <;> cases h
  exact ⟨_, rfl, p99 _ _ (hn _ (List.mem_singleton.2 rfl))⟩
/-! ### (*shotline/site.tide).level -/
noncomputable def l81_0 (t1 : Int) (t16_0 : Nat) (t16_1 : Dat) (t17 : Int) (b0_0 : Int) (b0_2 : Dat) (b0_3 : Dat) (b1_0 : Int) (b1_1 : Int) : Nat → Int → Int → Int → Option (Int × Int)
  | 0, _, _, _ => none
  | f + 1, t5, t6, t18 => (cond ((decide (t18 < t17))) (cond ((decide (0 ≤ t18 ∧ t18 < (↑t16_0 : Int)))) (cond ((n103 (t16_1.ii t18.toNat 0) (t16_1.ii t18.toNat 1) (t16_1.ii t18.toNat 2) t1)) (cond ((n99 b0_3 ((m103 (t16_1.ii t18.toNat 0) (t16_1.ii t18.toNat 1) (t16_1.ii t18.toNat 2) t1).1))) (cond ((n99 b0_3 ((m103 (t16_1.ii t18.toNat 0) (t16_1.ii t18.toNat 1) (t16_1.ii t18.toNat 2) t1).2))) (l81_0 t1 t16_0 t16_1 t17 b0_0 b0_2 b0_3 b1_0 b1_1 f (IntKind.i64.wrap (t5 + (IntKind.i64.wrap ((t16_1.ii t18.toNat 0) * (imin ((m99 b0_3 ((m103 (t16_1.ii t18.toNat 0) (t16_1.ii t18.toNat 1) (t16_1.ii t18.toNat 2) t1).1)).1) ((m99 b0_3 ((m103 (t16_1.ii t18.toNat 0) (t16_1.ii t18.toNat 1) (t16_1.ii t18.toNat 2) t1).2)).1)))))) (IntKind.i64.wrap (t6 + (IntKind.i64.wrap ((t16_1.ii t18.toNat 0) * (imax ((m99 b0_3 ((m103 (t16_1.ii t18.toNat 0) (t16_1.ii t18.toNat 1) (t16_1.ii t18.toNat 2) t1).1)).2) ((m99 b0_3 ((m103 (t16_1.ii t18.toNat 0) (t16_1.ii t18.toNat 1) (t16_1.ii t18.toNat 2) t1).2)).2)))))) (IntKind.i64.wrap (t18 + 1))) none) none) none) none) (some (t5, t6)))
noncomputable abbrev o81_0 (t1 : Int) (t16_0 : Nat) (t16_1 : Dat) (t17 : Int) (b0_0 : Int) (b0_2 : Dat) (b0_3 : Dat) (b1_0 : Int) (b1_1 : Int) (t5 : Int) (t6 : Int) (t18 : Int) : Option (Int × Int) := l81_0 t1 t16_0 t16_1 t17 b0_0 b0_2 b0_3 b1_0 b1_1 (t1.toNat + t5.toNat + t6.toNat + t16_0 + t17.toNat + t18.toNat + b0_0.toNat + b1_0.toNat + b1_1.toNat + 8) t5 t6 t18
noncomputable def e81_0 (t1 : Int) (t16_0 : Nat) (t16_1 : Dat) (t17 : Int) (b0_0 : Int) (b0_2 : Dat) (b0_3 : Dat) (b1_0 : Int) (b1_1 : Int) (r : Int × Int) (K : XR) : Prop := K (XE.exit 0) [.ptr 0 0, .ptr 1 0, .int .i64 r.1, .int .i64 r.2] [.cells 166 [.int .i64 b0_0, .ro [.int .i64, .int .i64, .int .i64] t16_0 b0_2, .ra [.int .i64, .int .i64, .int .i64, .int .i64] 11 b0_3], .cells 28 [.int .i64 b1_0, .int .i64 b1_1]]
noncomputable def g81_0 : LSum := fun s k => match czv 1 77 [0, 1, 4, 5, 6, 16, 17, 18] 2 [] s with
  | some ([.ptr 0 0, .int .i64 t1, .ptr 1 0, .int .i64 t5, .int .i64 t6, .ro [.int .i64, .int .i64, .int .i64] t16_0 t16_1, .int .i64 t17, .int .i64 t18], [.cells 166 [.int .i64 b0_0, .ro [.int .i64, .int .i64, .int .i64] b0_1 b0_2, .ra [.int .i64, .int .i64, .int .i64, .int .i64] 11 b0_3], .cells 28 [.int .i64 b1_0, .int .i64 b1_1]]) => needs [decide (t16_0 = b0_1), (o81_0 t1 t16_0 t16_1 t17 b0_0 b0_2 b0_3 b1_0 b1_1 t5 t6 t18).isSome] (e81_0 t1 t16_0 t16_1 t17 b0_0 b0_2 b0_3 b1_0 b1_1 ((o81_0 t1 t16_0 t16_1 t17 b0_0 b0_2 b0_3 b1_0 b1_1 t5 t6 t18).getD default) fun e vs bs => inBlk 0 k e (mkSt 1 77 [0, 4, 5, 6] vs 2 bs))
  | _ => False
theorem y81_0 (t1 : Int) (t5 : Int) (t6 : Int) (t16_0 : Nat) (t16_1 : Dat) (t17 : Int) (t18 : Int) (b0_0 : Int) (b0_2 : Dat) (b0_3 : Dat) (b1_0 : Int) (b1_1 : Int) (R : XR) : exec Try.prog [(99, c99), (103, c103), (127, c127), (128, c128)] (fun _ => none) 8 (unloop (bodyAt (Try.f81.body.getD .skip) 0)) (mkSt 1 77 [0, 1, 4, 5, 6, 16, 17, 18] [.ptr 0 0, .int .i64 t1, .ptr 1 0, .int .i64 t5, .int .i64 t6, .ro [.int .i64, .int .i64, .int .i64] t16_0 t16_1, .int .i64 t17, .int .i64 t18] 2 [.cells 166 [.int .i64 b0_0, .ro [.int .i64, .int .i64, .int .i64] t16_0 b0_2, .ra [.int .i64, .int .i64, .int .i64, .int .i64] 11 b0_3], .cells 28 [.int .i64 b1_0, .int .i64 b1_1]]) (canonK 1 77 [0, 1, 4, 5, 6, 16, 17, 18] [0, 4, 5, 6] 2 [] R) =
 (cnd ((decide (t18 < t17)))
 (cnd ((decide (0 ≤ t18 ∧ t18 < (↑t16_0 : Int))))
 (cnd ((n103 (t16_1.ii t18.toNat 0) (t16_1.ii t18.toNat 1) (t16_1.ii t18.toNat 2) t1))
 (cnd ((n99 b0_3 ((m103 (t16_1.ii t18.toNat 0) (t16_1.ii t18.toNat 1) (t16_1.ii t18.toNat 2) t1).1)))
 (cnd ((n99 b0_3 ((m103 (t16_1.ii t18.toNat 0) (t16_1.ii t18.toNat 1) (t16_1.ii t18.toNat 2) t1).2)))
 (R (XE.normal) [.ptr 0 0, .int .i64 t1, .ptr 1 0, .int .i64 (IntKind.i64.wrap (t5 + (IntKind.i64.wrap ((t16_1.ii t18.toNat 0) * (imin ((m99 b0_3 ((m103 (t16_1.ii t18.toNat 0) (t16_1.ii t18.toNat 1) (t16_1.ii t18.toNat 2) t1).1)).1) ((m99 b0_3 ((m103 (t16_1.ii t18.toNat 0) (t16_1.ii t18.toNat 1) (t16_1.ii t18.toNat 2) t1).2)).1)))))), .int .i64 (IntKind.i64.wrap (t6 + (IntKind.i64.wrap ((t16_1.ii t18.toNat 0) * (imax ((m99 b0_3 ((m103 (t16_1.ii t18.toNat 0) (t16_1.ii t18.toNat 1) (t16_1.ii t18.toNat 2) t1).1)).2) ((m99 b0_3 ((m103 (t16_1.ii t18.toNat 0) (t16_1.ii t18.toNat 1) (t16_1.ii t18.toNat 2) t1).2)).2)))))), .ro [.int .i64, .int .i64, .int .i64] t16_0 t16_1, .int .i64 t17, .int .i64 (IntKind.i64.wrap (t18 + 1))] [.cells 166 [.int .i64 b0_0, .ro [.int .i64, .int .i64, .int .i64] t16_0 b0_2, .ra [.int .i64, .int .i64, .int .i64, .int .i64] 11 b0_3], .cells 28 [.int .i64 b1_0, .int .i64 b1_1]])
      False)
     False)
    False)
   False)
 (R (XE.exit 0) [.ptr 0 0, .ptr 1 0, .int .i64 t5, .int .i64 t6] [.cells 166 [.int .i64 b0_0, .ro [.int .i64, .int .i64, .int .i64] t16_0 b0_2, .ra [.int .i64, .int .i64, .int .i64, .int .i64] 11 b0_3], .cells 28 [.int .i64 b1_0, .int .i64 b1_1]])) := by kernel_rfl
theorem z81_0 : LOk Try.prog g81_0 (.block 0 (bodyAt (Try.f81.body.getD .skip) 0)) := by
  refine loop_blk (ι := Int × Int × Int × Nat × Dat × Int × Int × Int × Dat × Dat × Int × Int) (L := [(99, c99), (103, c103), (127, c127), (128, c128)]) (Λ := (fun _ => none)) (fuel := 8) (na := 1) (nt := 77) (nx := 2) (Lh := [0, 1, 4, 5, 6, 16, 17, 18]) (Le := [0, 4, 5, 6]) (gl := []) (tabOk_cons k99 (tabOk_cons k103 (tabOk_cons k127 (tabOk_cons k128 tabOk_nil)))) mix_ok noLam rfl (fun f x K => GG default (e81_0 x.1 x.2.2.2.1 x.2.2.2.2.1 x.2.2.2.2.2.1 x.2.2.2.2.2.2.2.1 x.2.2.2.2.2.2.2.2.1 x.2.2.2.2.2.2.2.2.2.1 x.2.2.2.2.2.2.2.2.2.2.1 x.2.2.2.2.2.2.2.2.2.2.2) K (l81_0 x.1 x.2.2.2.1 x.2.2.2.2.1 x.2.2.2.2.2.1 x.2.2.2.2.2.2.2.1 x.2.2.2.2.2.2.2.2.1 x.2.2.2.2.2.2.2.2.2.1 x.2.2.2.2.2.2.2.2.2.2.1 x.2.2.2.2.2.2.2.2.2.2.2 f x.2.1 x.2.2.1 x.2.2.2.2.2.2.1)) (fun x => [.ptr 0 0, .int .i64 x.1, .ptr 1 0, .int .i64 x.2.1, .int .i64 x.2.2.1, .ro [.int .i64, .int .i64, .int .i64] x.2.2.2.1 x.2.2.2.2.1, .int .i64 x.2.2.2.2.2.1, .int .i64 x.2.2.2.2.2.2.1]) (fun x => [.cells 166 [.int .i64 x.2.2.2.2.2.2.2.1, .ro [.int .i64, .int .i64, .int .i64] x.2.2.2.1 x.2.2.2.2.2.2.2.2.1, .ra [.int .i64, .int .i64, .int .i64, .int .i64] 11 x.2.2.2.2.2.2.2.2.2.1], .cells 28 [.int .i64 x.2.2.2.2.2.2.2.2.2.2.1, .int .i64 x.2.2.2.2.2.2.2.2.2.2.2]]) (fun x K => gg_none) ?_ ?_
  · rintro f ⟨t1, t5, t6, t16_0, t16_1, t17, t18, b0_0, b0_2, b0_3, b1_0, b1_1⟩ K hG
    have hG : GG default (e81_0 t1 t16_0 t16_1 t17 b0_0 b0_2 b0_3 b1_0 b1_1) K (cond ((decide (t18 < t17))) (cond ((decide (0 ≤ t18 ∧ t18 < (↑t16_0 : Int)))) (cond ((n103 (t16_1.ii t18.toNat 0) (t16_1.ii t18.toNat 1) (t16_1.ii t18.toNat 2) t1)) (cond ((n99 b0_3 ((m103 (t16_1.ii t18.toNat 0) (t16_1.ii t18.toNat 1) (t16_1.ii t18.toNat 2) t1).1))) (cond ((n99 b0_3 ((m103 (t16_1.ii t18.toNat 0) (t16_1.ii t18.toNat 1) (t16_1.ii t18.toNat 2) t1).2))) (l81_0 t1 t16_0 t16_1 t17 b0_0 b0_2 b0_3 b1_0 b1_1 f (IntKind.i64.wrap (t5 + (IntKind.i64.wrap ((t16_1.ii t18.toNat 0) * (imin ((m99 b0_3 ((m103 (t16_1.ii t18.toNat 0) (t16_1.ii t18.toNat 1) (t16_1.ii t18.toNat 2) t1).1)).1) ((m99 b0_3 ((m103 (t16_1.ii t18.toNat 0) (t16_1.ii t18.toNat 1) (t16_1.ii t18.toNat 2) t1).2)).1)))))) (IntKind.i64.wrap (t6 + (IntKind.i64.wrap ((t16_1.ii t18.toNat 0) * (imax ((m99 b0_3 ((m103 (t16_1.ii t18.toNat 0) (t16_1.ii t18.toNat 1) (t16_1.ii t18.toNat 2) t1).1)).2) ((m99 b0_3 ((m103 (t16_1.ii t18.toNat 0) (t16_1.ii t18.toNat 1) (t16_1.ii t18.toNat 2) t1).2)).2)))))) (IntKind.i64.wrap (t18 + 1))) none) none) none) none) (some (t5, t6))) := hG
    refine propOf (y81_0 t1 t5 t6 t16_0 t16_1 t17 t18 b0_0 b0_2 b0_3 b1_0 b1_1 _) ?_
    exact cnd_gg2 hG (fun h0 => cnd_gg h0 fun h1 => cnd_gg h1 fun h2 => cnd_gg h2 fun h3 => cnd_gg h3 fun h4 => ⟨(t1, (IntKind.i64.wrap (t5 + (IntKind.i64.wrap ((t16_1.ii t18.toNat 0) * (imin ((m99 b0_3 ((m103 (t16_1.ii t18.toNat 0) (t16_1.ii t18.toNat 1) (t16_1.ii t18.toNat 2) t1).1)).1) ((m99 b0_3 ((m103 (t16_1.ii t18.toNat 0) (t16_1.ii t18.toNat 1) (t16_1.ii t18.toNat 2) t1).2)).1)))))), (IntKind.i64.wrap (t6 + (IntKind.i64.wrap ((t16_1.ii t18.toNat 0) * (imax ((m99 b0_3 ((m103 (t16_1.ii t18.toNat 0) (t16_1.ii t18.toNat 1) (t16_1.ii t18.toNat 2) t1).1)).2) ((m99 b0_3 ((m103 (t16_1.ii t18.toNat 0) (t16_1.ii t18.toNat 1) (t16_1.ii t18.toNat 2) t1).2)).2)))))), t16_0, t16_1, t17, (IntKind.i64.wrap (t18 + 1)), b0_0, b0_2, b0_3, b1_0, b1_1), rfl, rfl, h4⟩) (fun h0 => h0.2)
  · intro s k h
    unfold g81_0 at h
    split at h <;> try exact h.elim
    rename_i e1
    rw [needs_iff] at h
    have hq := h.1
    simp only [List.mem_cons, forall_eq_or_imp, decide_eq_true_eq, List.not_mem_nil, false_imp_iff, implies_true, and_true] at hq
    obtain ⟨rfl, hq⟩ := hq
    exact ⟨_, e1, _, (_, _, _, _, _, _, _, _, _, _, _, _), rfl, rfl, hq, h.2⟩
theorem x81 (a0_0 : Int) (na0_1 : Nat) (da0_1 : Dat) (da0_2 : Dat) (a1 : Int) (R : SV → List Blk → List Blk → Prop) : exec Try.prog [(99, c99), (103, c103), (127, c127), (128, c128)] (lamOf [(0, g81_0)]) 8 (Try.f81.body.getD .skip) (initS Try.f81.ntmps [.ptr 0 0, .int .i64 a1] 1 (memOf [.cells 166 [.int .i64 a0_0, .ro [.int .i64, .int .i64, .int .i64] na0_1 da0_1, .ra [.int .i64, .int .i64, .int .i64, .int .i64] 11 da0_2]])) (retK Try.prog Try.f81.results.toList (outK 1 (List.range 1) [] (.k) fun v U N => R v U N)) =
 (cnd ((decide (na0_1 = na0_1)))
 (cnd (((o81_0 a1 na0_1 da0_1 ((↑na0_1 : Int)) a0_0 da0_1 da0_2 0 0 0 0 0).isSome))
 (cnd ((n127 (((o81_0 a1 na0_1 da0_1 ((↑na0_1 : Int)) a0_0 da0_1 da0_2 0 0 0 0 0).getD default).1) 100000000))
 (cnd ((n128 (((o81_0 a1 na0_1 da0_1 ((↑na0_1 : Int)) a0_0 da0_1 da0_2 0 0 0 0 0).getD default).2) 100000000))
 (R (.agg [.int .i64 (IntKind.i64.wrap (a0_0 + (m127 (((o81_0 a1 na0_1 da0_1 ((↑na0_1 : Int)) a0_0 da0_1 da0_2 0 0 0 0 0).getD default).1) 100000000))), .int .i64 (IntKind.i64.wrap (a0_0 + (m128 (((o81_0 a1 na0_1 da0_1 ((↑na0_1 : Int)) a0_0 da0_1 da0_2 0 0 0 0 0).getD default).2) 100000000)))]) [.cells 166 [.int .i64 a0_0, .ro [.int .i64, .int .i64, .int .i64] na0_1 da0_1, .ra [.int .i64, .int .i64, .int .i64, .int .i64] 11 da0_2]] [])
     False)
    False)
   False)
  False) := by kernel_rfl
noncomputable def m81 (a0_0 : Int) (na0_1 : Nat) (da0_1 : Dat) (da0_2 : Dat) (a1 : Int) : Int × Int × Int × Nat × Dat × Dat :=
 ((IntKind.i64.wrap (a0_0 + (m127 (((o81_0 a1 na0_1 da0_1 ((↑na0_1 : Int)) a0_0 da0_1 da0_2 0 0 0 0 0).getD default).1) 100000000))), (IntKind.i64.wrap (a0_0 + (m128 (((o81_0 a1 na0_1 da0_1 ((↑na0_1 : Int)) a0_0 da0_1 da0_2 0 0 0 0 0).getD default).2) 100000000))), a0_0, na0_1, da0_1, da0_2)
noncomputable def n81 (a0_0 : Int) (na0_1 : Nat) (da0_1 : Dat) (da0_2 : Dat) (a1 : Int) : Bool :=
 ((((o81_0 a1 na0_1 da0_1 ((↑na0_1 : Int)) a0_0 da0_1 da0_2 0 0 0 0 0).isSome)) && (((n127 (((o81_0 a1 na0_1 da0_1 ((↑na0_1 : Int)) a0_0 da0_1 da0_2 0 0 0 0 0).getD default).1) 100000000)) && (((n128 (((o81_0 a1 na0_1 da0_1 ((↑na0_1 : Int)) a0_0 da0_1 da0_2 0 0 0 0 0).getD default).2) 100000000)) && true)))
noncomputable def q81 (r : Int × Int × Int × Nat × Dat × Dat) : SV × List Blk × List Blk := (.agg [.int .i64 r.1, .int .i64 r.2.1], [.cells 166 [.int .i64 r.2.2.1, .ro [.int .i64, .int .i64, .int .i64] r.2.2.2.1 r.2.2.2.2.1, .ra [.int .i64, .int .i64, .int .i64, .int .i64] 11 r.2.2.2.2.2]], [])
noncomputable def g81 : List SV → List Blk → Option OpRes := fun vs bs => match vs, bs with
  | [.ptr 0 0, .int .i64 a1], [.cells 166 [.int .i64 a0_0, .ro [.int .i64, .int .i64, .int .i64] na0_1 da0_1, .ra [.int .i64, .int .i64, .int .i64, .int .i64] 11 da0_2]] => some (resOf 1 (q81 (m81 a0_0 na0_1 da0_1 da0_2 a1)) [n81 a0_0 na0_1 da0_1 da0_2 a1])
  | _, _ => none
noncomputable def c81 : Ctr := genC [.c [.k, .ro [.int .i64, .int .i64, .int .i64], .ra [.int .i64, .int .i64, .int .i64, .int .i64] 11], .k] g81
theorem p81 (a0_0 : Int) (na0_1 : Nat) (da0_1 : Dat) (da0_2 : Dat) (a1 : Int) (hn : n81 a0_0 na0_1 da0_1 da0_2 a1 = true) : exec Try.prog [(99, c99), (103, c103), (127, c127), (128, c128)] (lamOf [(0, g81_0)]) 8 (Try.f81.body.getD .skip) (initS Try.f81.ntmps [.ptr 0 0, .int .i64 a1] 1 (memOf [.cells 166 [.int .i64 a0_0, .ro [.int .i64, .int .i64, .int .i64] na0_1 da0_1, .ra [.int .i64, .int .i64, .int .i64, .int .i64] 11 da0_2]])) (retK Try.prog Try.f81.results.toList (outK 1 (List.range 1) [] (.k) fun v U N => (v, U, N) = (q81 (m81 a0_0 na0_1 da0_1 da0_2 a1)))) :=
  propOf (x81 a0_0 na0_1 da0_1 da0_2 a1 _) (cnd_need (decide_eq_true rfl) (cnd_need (and_l hn) (cnd_need (and_l (and_r hn)) (cnd_need (and_l (and_r (and_r hn))) (leaf_of (l := ((IntKind.i64.wrap (a0_0 + (m127 (((o81_0 a1 na0_1 da0_1 ((↑na0_1 : Int)) a0_0 da0_1 da0_2 0 0 0 0 0).getD default).1) 100000000))), (IntKind.i64.wrap (a0_0 + (m128 (((o81_0 a1 na0_1 da0_1 ((↑na0_1 : Int)) a0_0 da0_1 da0_2 0 0 0 0 0).getD default).2) 100000000))), a0_0, na0_1, da0_1, da0_2)) rfl rfl)))))
theorem k81 : CtrOk Try.prog c81 81 := ctr_of (tabOk_cons k99 (tabOk_cons k103 (tabOk_cons k127 (tabOk_cons k128 tabOk_nil)))) mix_ok 8 (fn := Try.f81) (c := (Try.f81.body.getD .skip)) (grs := []) (rh := .k) (Λ := (lamOf [(0, g81_0)])) Try.func81 rfl (by kernel_rfl) (lam_of rfl (lams_cons z81_0 lams_nil)) fun vs bs q h hn => by
  unfold g81 at h
  split at h <;> cases h
  exact ⟨_, rfl, p81 _ _ _ _ _ (hn _ (List.mem_singleton.2 rfl))⟩
/-! ### shotline/site.CheckWindows -/
noncomputable def l45_0 (t0_0 : Nat) (t0_1 : Dat) (t8_1 : Dat) (t9 : Int) : Nat → Int → Option (Bool × (Int) × (Unit))
  | 0, _ => none
  | f + 1, t10 => (cond ((decide (t10 < t9))) (cond ((decide ((0 : Int) ≤ t10 ∧ t10 < (↑t0_0 : Int)))) (cond ((bif (bif (m80 (t8_1.ii t10.toNat 0)) then false else true) then true else (bif (m80 (t8_1.ii t10.toNat 1)) then false else true))) (some (true, 2, default)) (cond ((decide ((t8_1.ii t10.toNat 1) < (t8_1.ii t10.toNat 0)))) (some (true, 9, default)) (cond ((bif (bif (decide ((0 : Int) < t10)) then false else true) then true else (decide (0 ≤ IntKind.i64.wrap (t10 - 1) ∧ IntKind.i64.wrap (t10 - 1) < (↑t0_0 : Int))))) (cond ((bif (decide ((0 : Int) < t10)) then (decide ((t8_1.ii t10.toNat 0) ≤ (IntKind.i64.wrap ((t0_1.ii ((IntKind.i64.wrap (t10 - 1)).toNat) 1) + 1)))) else false)) (some (true, 13, default)) (l45_0 t0_0 t0_1 t8_1 t9 f (IntKind.i64.wrap (t10 + 1)))) none))) none) (some (false, default, ())))
noncomputable abbrev o45_0 (t0_0 : Nat) (t0_1 : Dat) (t8_1 : Dat) (t9 : Int) (t10 : Int) : Option (Bool × (Int) × (Unit)) := l45_0 t0_0 t0_1 t8_1 t9 (t0_0 + t9.toNat + t10.toNat + 8) t10
noncomputable def e45_0 (t0_0 : Nat) (t0_1 : Dat) (t8_1 : Dat) (t9 : Int) (r : Bool × (Int) × (Unit)) (K : XR) : Prop := cnd r.1 (K (XE.ret) [.int .i64 r.2.1] []) (K (XE.exit 0) [.any] [])
noncomputable def g45_0 : LSum := fun s k => match czv 0 48 [0, 8, 9, 10] 0 [] s with
  | some ([.ro [.int .i64, .int .i64] t0_0 t0_1, .ro [.int .i64, .int .i64] t8_0 t8_1, .int .i64 t9, .int .i64 t10], []) => needs [decide (t0_0 = t8_0), (o45_0 t0_0 t0_1 t8_1 t9 t10).isSome] (e45_0 t0_0 t0_1 t8_1 t9 ((o45_0 t0_0 t0_1 t8_1 t9 t10).getD default) fun e vs bs => inBlk 0 k e (mkSt 0 48 [2] vs 0 bs))
  | _ => False
theorem y45_0 (t0_0 : Nat) (t0_1 : Dat) (t8_1 : Dat) (t9 : Int) (t10 : Int) (R : XR) : exec Try.prog [(80, c80)] (fun _ => none) 8 (unloop (bodyAt (Try.f45.body.getD .skip) 0)) (mkSt 0 48 [0, 8, 9, 10] [.ro [.int .i64, .int .i64] t0_0 t0_1, .ro [.int .i64, .int .i64] t0_0 t8_1, .int .i64 t9, .int .i64 t10] 0 []) (canonK 0 48 [0, 8, 9, 10] [2] 0 [] R) =
 (cnd ((decide (t10 < t9)))
 (cnd ((decide ((0 : Int) ≤ t10 ∧ t10 < (↑t0_0 : Int))))
 (cnd ((bif (bif (m80 (t8_1.ii t10.toNat 0)) then false else true) then true else (bif (m80 (t8_1.ii t10.toNat 1)) then false else true)))
 (R (XE.ret) [.int .i64 2] [])
 (cnd ((decide ((t8_1.ii t10.toNat 1) < (t8_1.ii t10.toNat 0))))
 (R (XE.ret) [.int .i64 9] [])
 (cnd ((bif (bif (decide ((0 : Int) < t10)) then false else true) then true else (decide (0 ≤ IntKind.i64.wrap (t10 - 1) ∧ IntKind.i64.wrap (t10 - 1) < (↑t0_0 : Int)))))
 (cnd ((bif (decide ((0 : Int) < t10)) then (decide ((t8_1.ii t10.toNat 0) ≤ (IntKind.i64.wrap ((t0_1.ii ((IntKind.i64.wrap (t10 - 1)).toNat) 1) + 1)))) else false))
 (R (XE.ret) [.int .i64 13] [])
 (R (XE.normal) [.ro [.int .i64, .int .i64] t0_0 t0_1, .ro [.int .i64, .int .i64] t0_0 t8_1, .int .i64 t9, .int .i64 (IntKind.i64.wrap (t10 + 1))] []))
      False)))
   False)
 (R (XE.exit 0) [.any] [])) := by kernel_rfl
theorem z45_0 : LOk Try.prog g45_0 (.block 0 (bodyAt (Try.f45.body.getD .skip) 0)) := by
  refine loop_blk (ι := Nat × Dat × Dat × Int × Int) (L := [(80, c80)]) (Λ := (fun _ => none)) (fuel := 8) (na := 0) (nt := 48) (nx := 0) (Lh := [0, 8, 9, 10]) (Le := [2]) (gl := []) (tabOk_cons k80 tabOk_nil) mix_ok noLam rfl (fun f x K => GG default (e45_0 x.1 x.2.1 x.2.2.1 x.2.2.2.1) K (l45_0 x.1 x.2.1 x.2.2.1 x.2.2.2.1 f x.2.2.2.2)) (fun x => [.ro [.int .i64, .int .i64] x.1 x.2.1, .ro [.int .i64, .int .i64] x.1 x.2.2.1, .int .i64 x.2.2.2.1, .int .i64 x.2.2.2.2]) (fun x => []) (fun x K => gg_none) ?_ ?_
  · rintro f ⟨t0_0, t0_1, t8_1, t9, t10⟩ K hG
    have hG : GG default (e45_0 t0_0 t0_1 t8_1 t9) K (cond ((decide (t10 < t9))) (cond ((decide ((0 : Int) ≤ t10 ∧ t10 < (↑t0_0 : Int)))) (cond ((bif (bif (m80 (t8_1.ii t10.toNat 0)) then false else true) then true else (bif (m80 (t8_1.ii t10.toNat 1)) then false else true))) (some (true, 2, default)) (cond ((decide ((t8_1.ii t10.toNat 1) < (t8_1.ii t10.toNat 0)))) (some (true, 9, default)) (cond ((bif (bif (decide ((0 : Int) < t10)) then false else true) then true else (decide (0 ≤ IntKind.i64.wrap (t10 - 1) ∧ IntKind.i64.wrap (t10 - 1) < (↑t0_0 : Int))))) (cond ((bif (decide ((0 : Int) < t10)) then (decide ((t8_1.ii t10.toNat 0) ≤ (IntKind.i64.wrap ((t0_1.ii ((IntKind.i64.wrap (t10 - 1)).toNat) 1) + 1)))) else false)) (some (true, 13, default)) (l45_0 t0_0 t0_1 t8_1 t9 f (IntKind.i64.wrap (t10 + 1)))) none))) none) (some (false, default, ()))) := hG
    refine propOf (y45_0 t0_0 t0_1 t8_1 t9 t10 _) ?_
    exact cnd_gg2 hG (fun h0 => cnd_gg h0 fun h1 => cnd_gg2 h1 (fun h2 => h2.2) (fun h2 => cnd_gg2 h2 (fun h3 => h3.2) (fun h3 => cnd_gg h3 fun h4 => cnd_gg2 h4 (fun h5 => h5.2) (fun h5 => ⟨(t0_0, t0_1, t8_1, t9, (IntKind.i64.wrap (t10 + 1))), rfl, rfl, h5⟩)))) (fun h0 => h0.2)
  · intro s k h
    unfold g45_0 at h
    split at h <;> try exact h.elim
    rename_i e1
    rw [needs_iff] at h
    have hq := h.1
    simp only [List.mem_cons, forall_eq_or_imp, decide_eq_true_eq, List.not_mem_nil, false_imp_iff, implies_true, and_true] at hq
    obtain ⟨rfl, hq⟩ := hq
    exact ⟨_, e1, _, (_, _, _, _, _), rfl, rfl, hq, h.2⟩
theorem x45 (na0 : Nat) (da0 : Dat) (R : SV → List Blk → List Blk → Prop) : exec Try.prog [(80, c80)] (lamOf [(0, g45_0)]) 8 (Try.f45.body.getD .skip) (initS Try.f45.ntmps [.ro [.int .i64, .int .i64] na0 da0] 0 (memOf [])) (retK Try.prog Try.f45.results.toList (outK 0 (List.range 0) [] (.k) fun v U N => R v U N)) =
 (cnd ((decide ((60 : Int) < ((↑na0 : Int)))))
 (R (.int .i64 8) [] [])
 (cnd ((decide (na0 = na0)))
 (cnd (((o45_0 na0 da0 da0 ((↑na0 : Int)) 0).isSome))
 (cnd ((((o45_0 na0 da0 da0 ((↑na0 : Int)) 0).getD default).1))
 (R (.int .i64 (((o45_0 na0 da0 da0 ((↑na0 : Int)) 0).getD default).2.1)) [] [])
 (R (.int .i64 0) [] []))
    False)
   False)) := by kernel_rfl
noncomputable def m45 (na0 : Nat) (da0 : Dat) : Int :=
 (cond ((decide ((60 : Int) < ((↑na0 : Int))))) 8 (cond ((((o45_0 na0 da0 da0 ((↑na0 : Int)) 0).getD default).1)) (((o45_0 na0 da0 da0 ((↑na0 : Int)) 0).getD default).2.1) 0))
noncomputable def n45 (na0 : Nat) (da0 : Dat) : Bool :=
 (cond ((decide ((60 : Int) < ((↑na0 : Int))))) true ((((o45_0 na0 da0 da0 ((↑na0 : Int)) 0).isSome)) && true))
noncomputable def q45 (r : Int) : SV × List Blk × List Blk := (.int .i64 r, [], [])
noncomputable def g45 : List SV → List Blk → Option OpRes := fun vs bs => match vs, bs with
  | [.ro [.int .i64, .int .i64] na0 da0], [] => some (resOf 0 (q45 (m45 na0 da0)) [n45 na0 da0])
  | _, _ => none
noncomputable def c45 : Ctr := genC [.ro [.int .i64, .int .i64]] g45
theorem p45 (na0 : Nat) (da0 : Dat) (hn : n45 na0 da0 = true) : exec Try.prog [(80, c80)] (lamOf [(0, g45_0)]) 8 (Try.f45.body.getD .skip) (initS Try.f45.ntmps [.ro [.int .i64, .int .i64] na0 da0] 0 (memOf [])) (retK Try.prog Try.f45.results.toList (outK 0 (List.range 0) [] (.k) fun v U N => (v, U, N) = (q45 (m45 na0 da0)))) :=
  propOf (x45 na0 da0 _) (cnd_of (fun h0 => leaf_of (l := 8) (condT h0 rfl) rfl) (fun h0 => cnd_need (decide_eq_true rfl) (cnd_need (and_l (cond_f h0 hn)) (cnd_of (fun h1 => leaf_of (l := (((o45_0 na0 da0 da0 ((↑na0 : Int)) 0).getD default).2.1)) (condF h0 (condT h1 rfl)) rfl) (fun h1 => leaf_of (l := 0) (condF h0 (condF h1 rfl)) rfl)))))
theorem k45 : CtrOk Try.prog c45 45 := ctr_of (tabOk_cons k80 tabOk_nil) mix_ok 8 (fn := Try.f45) (c := (Try.f45.body.getD .skip)) (grs := []) (rh := .k) (Λ := (lamOf [(0, g45_0)])) Try.func45 rfl (by kernel_rfl) (lam_of rfl (lams_cons z45_0 lams_nil)) fun vs bs q h hn => by
  unfold g45 at h
  split at h <;> cases h
  exact ⟨_, rfl, p45 _ _ (hn _ (List.mem_singleton.2 rfl))⟩
/-! ### shotline/site.isPlace -/
theorem x85 (na0_0 : Nat) (da0_0 : Dat) (na0_1 : Nat) (da0_1 : Dat) (a1 : Int) (R : SV → List Blk → List Blk → Prop) : exec Try.prog [(96, c96)] (fun _ => none) 8 (Try.f85.body.getD .skip) (initS Try.f85.ntmps [.agg [.ro [.str] na0_0 da0_0, .ro [.sl [.int .i64]] na0_1 da0_1], .int .i64 a1] 0 (memOf [])) (retK Try.prog Try.f85.results.toList (outK 0 (List.range 0) [] (.k) fun v U N => R v U N)) =
 (R (.bool (m96 a1 0 (IntKind.i64.wrap (((↑na0_0 : Int)) - 1)))) [] []) := by kernel_rfl
noncomputable def m85 (na0_0 : Nat) (da0_0 : Dat) (na0_1 : Nat) (da0_1 : Dat) (a1 : Int) : Bool :=
 (m96 a1 0 (IntKind.i64.wrap (((↑na0_0 : Int)) - 1)))
noncomputable def q85 (r : Bool) : SV × List Blk × List Blk := (.bool r, [], [])
noncomputable def g85 : List SV → List Blk → Option OpRes := fun vs bs => match vs, bs with
  | [.agg [.ro [.str] na0_0 da0_0, .ro [.sl [.int .i64]] na0_1 da0_1], .int .i64 a1], [] => some (resOf 0 (q85 (m85 na0_0 da0_0 na0_1 da0_1 a1)) [])
  | _, _ => none
noncomputable def c85 : Ctr := genC [.a [.ro [.str], .ro [.sl [.int .i64]]], .k] g85
theorem p85 (na0_0 : Nat) (da0_0 : Dat) (na0_1 : Nat) (da0_1 : Dat) (a1 : Int) : exec Try.prog [(96, c96)] (fun _ => none) 8 (Try.f85.body.getD .skip) (initS Try.f85.ntmps [.agg [.ro [.str] na0_0 da0_0, .ro [.sl [.int .i64]] na0_1 da0_1], .int .i64 a1] 0 (memOf [])) (retK Try.prog Try.f85.results.toList (outK 0 (List.range 0) [] (.k) fun v U N => (v, U, N) = (q85 (m85 na0_0 da0_0 na0_1 da0_1 a1)))) :=
  propOf (x85 na0_0 da0_0 na0_1 da0_1 a1 _) (leaf_of (l := (m96 a1 0 (IntKind.i64.wrap (((↑na0_0 : Int)) - 1)))) rfl rfl)
theorem k85 : CtrOk Try.prog c85 85 := ctr_of (tabOk_cons k96 tabOk_nil) mix_ok 8 (fn := Try.f85) (c := (Try.f85.body.getD .skip)) (grs := []) (rh := .k) (Λ := (fun _ => none)) Try.func85 rfl (by kernel_rfl) noLam fun vs bs q h _ => by
  unfold g85 at h
  split at h <;> cases h
  exact ⟨_, rfl, p85 _ _ _ _ _⟩
/-! ### shotline/site.nearest -/
noncomputable def l86_0 (t0_0 : Nat) (t0_1 : Dat) (t6_1 : Dat) (t7 : Int) : Nat → Int → Int → Option (Int)
  | 0, _, _ => none
  | f + 1, t3, t8 => (cond ((decide (t8 < t7))) (cond ((decide (0 ≤ t8 ∧ t8 < (↑t0_0 : Int)))) (cond ((bif (bif (bif (bif (t6_1.bb t8.toNat 2) then (bif (t6_1.bb t8.toNat 3) then false else true) else false) then (bif (decide (t3 < 0)) then false else true) else false) then false else true) then true else (decide (0 ≤ t3 ∧ t3 < (↑t0_0 : Int))))) (cond ((bif (bif (t6_1.bb t8.toNat 2) then (bif (t6_1.bb t8.toNat 3) then false else true) else false) then (bif (decide (t3 < 0)) then true else (decide ((t6_1.ii t8.toNat 1) < (t0_1.ii t3.toNat 1)))) else false)) (l86_0 t0_0 t0_1 t6_1 t7 f t8 (IntKind.i64.wrap (t8 + 1))) (l86_0 t0_0 t0_1 t6_1 t7 f t3 (IntKind.i64.wrap (t8 + 1)))) none) none) (some t3))
noncomputable abbrev o86_0 (t0_0 : Nat) (t0_1 : Dat) (t6_1 : Dat) (t7 : Int) (t3 : Int) (t8 : Int) : Option (Int) := l86_0 t0_0 t0_1 t6_1 t7 (t0_0 + t3.toNat + t7.toNat + t8.toNat + 8) t3 t8
noncomputable def e86_0 (t0_0 : Nat) (t0_1 : Dat) (t6_1 : Dat) (t7 : Int) (r : Int) (K : XR) : Prop := K (XE.exit 0) [.int .i64 r] []
noncomputable def g86_0 : LSum := fun s k => match czv 0 37 [0, 3, 6, 7, 8] 0 [] s with
  | some ([.ro [.int .i64, .int .i64, .bool, .bool] t0_0 t0_1, .int .i64 t3, .ro [.int .i64, .int .i64, .bool, .bool] t6_0 t6_1, .int .i64 t7, .int .i64 t8], []) => needs [decide (t0_0 = t6_0), (o86_0 t0_0 t0_1 t6_1 t7 t3 t8).isSome] (e86_0 t0_0 t0_1 t6_1 t7 ((o86_0 t0_0 t0_1 t6_1 t7 t3 t8).getD default) fun e vs bs => inBlk 0 k e (mkSt 0 37 [3] vs 0 bs))
  | _ => False
theorem y86_0 (t0_0 : Nat) (t0_1 : Dat) (t3 : Int) (t6_1 : Dat) (t7 : Int) (t8 : Int) (R : XR) : exec Try.prog [] (fun _ => none) 8 (unloop (bodyAt (Try.f86.body.getD .skip) 0)) (mkSt 0 37 [0, 3, 6, 7, 8] [.ro [.int .i64, .int .i64, .bool, .bool] t0_0 t0_1, .int .i64 t3, .ro [.int .i64, .int .i64, .bool, .bool] t0_0 t6_1, .int .i64 t7, .int .i64 t8] 0 []) (canonK 0 37 [0, 3, 6, 7, 8] [3] 0 [] R) =
 (cnd ((decide (t8 < t7)))
 (cnd ((decide (0 ≤ t8 ∧ t8 < (↑t0_0 : Int))))
 (cnd ((bif (bif (bif (bif (t6_1.bb t8.toNat 2) then (bif (t6_1.bb t8.toNat 3) then false else true) else false) then (bif (decide (t3 < 0)) then false else true) else false) then false else true) then true else (decide (0 ≤ t3 ∧ t3 < (↑t0_0 : Int)))))
 (cnd ((bif (bif (t6_1.bb t8.toNat 2) then (bif (t6_1.bb t8.toNat 3) then false else true) else false) then (bif (decide (t3 < 0)) then true else (decide ((t6_1.ii t8.toNat 1) < (t0_1.ii t3.toNat 1)))) else false))
 (R (XE.normal) [.ro [.int .i64, .int .i64, .bool, .bool] t0_0 t0_1, .int .i64 t8, .ro [.int .i64, .int .i64, .bool, .bool] t0_0 t6_1, .int .i64 t7, .int .i64 (IntKind.i64.wrap (t8 + 1))] [])
 (R (XE.normal) [.ro [.int .i64, .int .i64, .bool, .bool] t0_0 t0_1, .int .i64 t3, .ro [.int .i64, .int .i64, .bool, .bool] t0_0 t6_1, .int .i64 t7, .int .i64 (IntKind.i64.wrap (t8 + 1))] []))
    False)
   False)
 (R (XE.exit 0) [.int .i64 t3] [])) := by kernel_rfl
theorem z86_0 : LOk Try.prog g86_0 (.block 0 (bodyAt (Try.f86.body.getD .skip) 0)) := by
  refine loop_blk (ι := Nat × Dat × Int × Dat × Int × Int) (L := []) (Λ := (fun _ => none)) (fuel := 8) (na := 0) (nt := 37) (nx := 0) (Lh := [0, 3, 6, 7, 8]) (Le := [3]) (gl := []) tabOk_nil mix_ok noLam rfl (fun f x K => GG default (e86_0 x.1 x.2.1 x.2.2.2.1 x.2.2.2.2.1) K (l86_0 x.1 x.2.1 x.2.2.2.1 x.2.2.2.2.1 f x.2.2.1 x.2.2.2.2.2)) (fun x => [.ro [.int .i64, .int .i64, .bool, .bool] x.1 x.2.1, .int .i64 x.2.2.1, .ro [.int .i64, .int .i64, .bool, .bool] x.1 x.2.2.2.1, .int .i64 x.2.2.2.2.1, .int .i64 x.2.2.2.2.2]) (fun x => []) (fun x K => gg_none) ?_ ?_
  · rintro f ⟨t0_0, t0_1, t3, t6_1, t7, t8⟩ K hG
    have hG : GG default (e86_0 t0_0 t0_1 t6_1 t7) K (cond ((decide (t8 < t7))) (cond ((decide (0 ≤ t8 ∧ t8 < (↑t0_0 : Int)))) (cond ((bif (bif (bif (bif (t6_1.bb t8.toNat 2) then (bif (t6_1.bb t8.toNat 3) then false else true) else false) then (bif (decide (t3 < 0)) then false else true) else false) then false else true) then true else (decide (0 ≤ t3 ∧ t3 < (↑t0_0 : Int))))) (cond ((bif (bif (t6_1.bb t8.toNat 2) then (bif (t6_1.bb t8.toNat 3) then false else true) else false) then (bif (decide (t3 < 0)) then true else (decide ((t6_1.ii t8.toNat 1) < (t0_1.ii t3.toNat 1)))) else false)) (l86_0 t0_0 t0_1 t6_1 t7 f t8 (IntKind.i64.wrap (t8 + 1))) (l86_0 t0_0 t0_1 t6_1 t7 f t3 (IntKind.i64.wrap (t8 + 1)))) none) none) (some t3)) := hG
    refine propOf (y86_0 t0_0 t0_1 t3 t6_1 t7 t8 _) ?_
    exact cnd_gg2 hG (fun h0 => cnd_gg h0 fun h1 => cnd_gg h1 fun h2 => cnd_gg2 h2 (fun h3 => ⟨(t0_0, t0_1, t8, t6_1, t7, (IntKind.i64.wrap (t8 + 1))), rfl, rfl, h3⟩) (fun h3 => ⟨(t0_0, t0_1, t3, t6_1, t7, (IntKind.i64.wrap (t8 + 1))), rfl, rfl, h3⟩)) (fun h0 => h0.2)
  · intro s k h
    unfold g86_0 at h
    split at h <;> try exact h.elim
    rename_i e1
    rw [needs_iff] at h
    have hq := h.1
    simp only [List.mem_cons, forall_eq_or_imp, decide_eq_true_eq, List.not_mem_nil, false_imp_iff, implies_true, and_true] at hq
    obtain ⟨rfl, hq⟩ := hq
    exact ⟨_, e1, _, (_, _, _, _, _, _), rfl, rfl, hq, h.2⟩
theorem x86 (na0 : Nat) (da0 : Dat) (R : SV → List Blk → List Blk → Prop) : exec Try.prog [] (lamOf [(0, g86_0)]) 8 (Try.f86.body.getD .skip) (initS Try.f86.ntmps [.ro [.int .i64, .int .i64, .bool, .bool] na0 da0] 0 (memOf [])) (retK Try.prog Try.f86.results.toList (outK 0 (List.range 0) [] (.k) fun v U N => R v U N)) =
 (cnd ((decide (na0 = na0)))
 (cnd (((o86_0 na0 da0 da0 ((↑na0 : Int)) (-1) 0).isSome))
 (R (.int .i64 ((o86_0 na0 da0 da0 ((↑na0 : Int)) (-1) 0).getD 0)) [] [])
   False)
  False) := by kernel_rfl
noncomputable def m86 (na0 : Nat) (da0 : Dat) : Int :=
 ((o86_0 na0 da0 da0 ((↑na0 : Int)) (-1) 0).getD 0)
noncomputable def n86 (na0 : Nat) (da0 : Dat) : Bool :=
 ((((o86_0 na0 da0 da0 ((↑na0 : Int)) (-1) 0).isSome)) && true)
noncomputable def q86 (r : Int) : SV × List Blk × List Blk := (.int .i64 r, [], [])
noncomputable def g86 : List SV → List Blk → Option OpRes := fun vs bs => match vs, bs with
  | [.ro [.int .i64, .int .i64, .bool, .bool] na0 da0], [] => some (resOf 0 (q86 (m86 na0 da0)) [n86 na0 da0])
  | _, _ => none
noncomputable def c86 : Ctr := genC [.ro [.int .i64, .int .i64, .bool, .bool]] g86
theorem p86 (na0 : Nat) (da0 : Dat) (hn : n86 na0 da0 = true) : exec Try.prog [] (lamOf [(0, g86_0)]) 8 (Try.f86.body.getD .skip) (initS Try.f86.ntmps [.ro [.int .i64, .int .i64, .bool, .bool] na0 da0] 0 (memOf [])) (retK Try.prog Try.f86.results.toList (outK 0 (List.range 0) [] (.k) fun v U N => (v, U, N) = (q86 (m86 na0 da0)))) :=
  propOf (x86 na0 da0 _) (cnd_need (decide_eq_true rfl) (cnd_need (and_l hn) (leaf_of (l := ((o86_0 na0 da0 da0 ((↑na0 : Int)) (-1) 0).getD 0)) rfl rfl)))
theorem k86 : CtrOk Try.prog c86 86 := ctr_of tabOk_nil mix_ok 8 (fn := Try.f86) (c := (Try.f86.body.getD .skip)) (grs := []) (rh := .k) (Λ := (lamOf [(0, g86_0)])) Try.func86 rfl (by kernel_rfl) (lam_of rfl (lams_cons z86_0 lams_nil)) fun vs bs q h hn => by
  unfold g86 at h
  split at h <;> cases h
  exact ⟨_, rfl, p86 _ _ (hn _ (List.mem_singleton.2 rfl))⟩
/-! ### shotline/shotlinebase.Ranges -/
noncomputable def l46_0 (t0_0 : Nat) (t0_1 : Dat) (t1_0 : Nat) (t1_1 : Dat) : Nat → Int → Option (Bool × (Bool) × (Unit))
  | 0, _ => none
  | f + 1, t5 => (cond ((decide (t5 < ((↑t0_0 : Int))))) (cond ((decide (0 ≤ t5 ∧ t5 < (↑t0_0 : Int)))) (cond ((decide (0 ≤ t5 ∧ t5 < (↑t1_0 : Int)))) (cond ((bif (bif (decide ((t0_1.ii t5.toNat 0) = (t1_1.ii t5.toNat 0))) then (bif (decide ((t0_1.ii t5.toNat 1) = (t1_1.ii t5.toNat 1))) then true else false) else false) then false else true)) (some (true, false, default)) (l46_0 t0_0 t0_1 t1_0 t1_1 f (IntKind.i64.wrap (t5 + 1)))) none) none) (some (false, default, ())))
noncomputable abbrev o46_0 (t0_0 : Nat) (t0_1 : Dat) (t1_0 : Nat) (t1_1 : Dat) (t5 : Int) : Option (Bool × (Bool) × (Unit)) := l46_0 t0_0 t0_1 t1_0 t1_1 (t0_0 + t1_0 + t5.toNat + 8) t5
noncomputable def e46_0 (t0_0 : Nat) (t0_1 : Dat) (t1_0 : Nat) (t1_1 : Dat) (r : Bool × (Bool) × (Unit)) (K : XR) : Prop := cnd r.1 (K (XE.ret) [.bool r.2.1] []) (K (XE.exit 0) [.any] [])
noncomputable def g46_0 : LSum := fun s k => match czv 0 26 [0, 1, 5] 0 [] s with
  | some ([.ro [.int .i64, .int .i64] t0_0 t0_1, .ro [.int .i64, .int .i64] t1_0 t1_1, .int .i64 t5], []) => needs [(o46_0 t0_0 t0_1 t1_0 t1_1 t5).isSome] (e46_0 t0_0 t0_1 t1_0 t1_1 ((o46_0 t0_0 t0_1 t1_0 t1_1 t5).getD default) fun e vs bs => inBlk 0 k e (mkSt 0 26 [4] vs 0 bs))
  | _ => False
theorem y46_0 (t0_0 : Nat) (t0_1 : Dat) (t1_0 : Nat) (t1_1 : Dat) (t5 : Int) (R : XR) : exec Try.prog [] (fun _ => none) 8 (unloop (bodyAt (Try.f46.body.getD .skip) 0)) (mkSt 0 26 [0, 1, 5] [.ro [.int .i64, .int .i64] t0_0 t0_1, .ro [.int .i64, .int .i64] t1_0 t1_1, .int .i64 t5] 0 []) (canonK 0 26 [0, 1, 5] [4] 0 [] R) =
 (cnd ((decide (t5 < ((↑t0_0 : Int)))))
 (cnd ((decide (0 ≤ t5 ∧ t5 < (↑t0_0 : Int))))
 (cnd ((decide (0 ≤ t5 ∧ t5 < (↑t1_0 : Int))))
 (cnd ((bif (bif (decide ((t0_1.ii t5.toNat 0) = (t1_1.ii t5.toNat 0))) then (bif (decide ((t0_1.ii t5.toNat 1) = (t1_1.ii t5.toNat 1))) then true else false) else false) then false else true))
 (R (XE.ret) [.bool false] [])
 (R (XE.normal) [.ro [.int .i64, .int .i64] t0_0 t0_1, .ro [.int .i64, .int .i64] t1_0 t1_1, .int .i64 (IntKind.i64.wrap (t5 + 1))] []))
    False)
   False)
 (R (XE.exit 0) [.any] [])) := by kernel_rfl
theorem z46_0 : LOk Try.prog g46_0 (.block 0 (bodyAt (Try.f46.body.getD .skip) 0)) := by
  refine loop_blk (ι := Nat × Dat × Nat × Dat × Int) (L := []) (Λ := (fun _ => none)) (fuel := 8) (na := 0) (nt := 26) (nx := 0) (Lh := [0, 1, 5]) (Le := [4]) (gl := []) tabOk_nil mix_ok noLam rfl (fun f x K => GG default (e46_0 x.1 x.2.1 x.2.2.1 x.2.2.2.1) K (l46_0 x.1 x.2.1 x.2.2.1 x.2.2.2.1 f x.2.2.2.2)) (fun x => [.ro [.int .i64, .int .i64] x.1 x.2.1, .ro [.int .i64, .int .i64] x.2.2.1 x.2.2.2.1, .int .i64 x.2.2.2.2]) (fun x => []) (fun x K => gg_none) ?_ ?_
  · rintro f ⟨t0_0, t0_1, t1_0, t1_1, t5⟩ K hG
    have hG : GG default (e46_0 t0_0 t0_1 t1_0 t1_1) K (cond ((decide (t5 < ((↑t0_0 : Int))))) (cond ((decide (0 ≤ t5 ∧ t5 < (↑t0_0 : Int)))) (cond ((decide (0 ≤ t5 ∧ t5 < (↑t1_0 : Int)))) (cond ((bif (bif (decide ((t0_1.ii t5.toNat 0) = (t1_1.ii t5.toNat 0))) then (bif (decide ((t0_1.ii t5.toNat 1) = (t1_1.ii t5.toNat 1))) then true else false) else false) then false else true)) (some (true, false, default)) (l46_0 t0_0 t0_1 t1_0 t1_1 f (IntKind.i64.wrap (t5 + 1)))) none) none) (some (false, default, ()))) := hG
    refine propOf (y46_0 t0_0 t0_1 t1_0 t1_1 t5 _) ?_
    exact cnd_gg2 hG (fun h0 => cnd_gg h0 fun h1 => cnd_gg h1 fun h2 => cnd_gg2 h2 (fun h3 => h3.2) (fun h3 => ⟨(t0_0, t0_1, t1_0, t1_1, (IntKind.i64.wrap (t5 + 1))), rfl, rfl, h3⟩)) (fun h0 => h0.2)
  · intro s k h
    unfold g46_0 at h
    split at h <;> try exact h.elim
    rename_i e1
    rw [needs_iff] at h
    exact ⟨_, e1, _, (_, _, _, _, _), rfl, rfl, h.1 _ (List.mem_singleton.2 rfl), h.2⟩
theorem x46 (na0 : Nat) (da0 : Dat) (na1 : Nat) (da1 : Dat) (R : SV → List Blk → List Blk → Prop) : exec Try.prog [] (lamOf [(0, g46_0)]) 8 (Try.f46.body.getD .skip) (initS Try.f46.ntmps [.ro [.int .i64, .int .i64] na0 da0, .ro [.int .i64, .int .i64] na1 da1] 0 (memOf [])) (retK Try.prog Try.f46.results.toList (outK 0 (List.range 0) [] (.k) fun v U N => R v U N)) =
 (cnd ((bif (decide (((↑na0 : Int)) = ((↑na1 : Int)))) then false else true))
 (R (.bool false) [] [])
 (cnd (((o46_0 na0 da0 na1 da1 0).isSome))
 (cnd ((((o46_0 na0 da0 na1 da1 0).getD default).1))
 (R (.bool (((o46_0 na0 da0 na1 da1 0).getD default).2.1)) [] [])
 (R (.bool true) [] []))
   False)) := by kernel_rfl
noncomputable def m46 (na0 : Nat) (da0 : Dat) (na1 : Nat) (da1 : Dat) : Bool :=
 (cond ((bif (decide (((↑na0 : Int)) = ((↑na1 : Int)))) then false else true)) false (cond ((((o46_0 na0 da0 na1 da1 0).getD default).1)) (((o46_0 na0 da0 na1 da1 0).getD default).2.1) true))
noncomputable def n46 (na0 : Nat) (da0 : Dat) (na1 : Nat) (da1 : Dat) : Bool :=
 (cond ((bif (decide (((↑na0 : Int)) = ((↑na1 : Int)))) then false else true)) true ((((o46_0 na0 da0 na1 da1 0).isSome)) && true))
noncomputable def q46 (r : Bool) : SV × List Blk × List Blk := (.bool r, [], [])
noncomputable def g46 : List SV → List Blk → Option OpRes := fun vs bs => match vs, bs with
  | [.ro [.int .i64, .int .i64] na0 da0, .ro [.int .i64, .int .i64] na1 da1], [] => some (resOf 0 (q46 (m46 na0 da0 na1 da1)) [n46 na0 da0 na1 da1])
  | _, _ => none
noncomputable def c46 : Ctr := genC [.ro [.int .i64, .int .i64], .ro [.int .i64, .int .i64]] g46
theorem p46 (na0 : Nat) (da0 : Dat) (na1 : Nat) (da1 : Dat) (hn : n46 na0 da0 na1 da1 = true) : exec Try.prog [] (lamOf [(0, g46_0)]) 8 (Try.f46.body.getD .skip) (initS Try.f46.ntmps [.ro [.int .i64, .int .i64] na0 da0, .ro [.int .i64, .int .i64] na1 da1] 0 (memOf [])) (retK Try.prog Try.f46.results.toList (outK 0 (List.range 0) [] (.k) fun v U N => (v, U, N) = (q46 (m46 na0 da0 na1 da1)))) :=
  propOf (x46 na0 da0 na1 da1 _) (cnd_of (fun h0 => leaf_of (l := false) (condT h0 rfl) rfl) (fun h0 => cnd_need (and_l (cond_f h0 hn)) (cnd_of (fun h1 => leaf_of (l := (((o46_0 na0 da0 na1 da1 0).getD default).2.1)) (condF h0 (condT h1 rfl)) rfl) (fun h1 => leaf_of (l := true) (condF h0 (condF h1 rfl)) rfl))))
theorem k46 : CtrOk Try.prog c46 46 := ctr_of tabOk_nil mix_ok 8 (fn := Try.f46) (c := (Try.f46.body.getD .skip)) (grs := []) (rh := .k) (Λ := (lamOf [(0, g46_0)])) Try.func46 rfl (by kernel_rfl) (lam_of rfl (lams_cons z46_0 lams_nil)) fun vs bs q h hn => by
  unfold g46 at h
  split at h <;> cases h
  exact ⟨_, rfl, p46 _ _ _ _ (hn _ (List.mem_singleton.2 rfl))⟩
/-! ### math/bits.Len64 -/
noncomputable def t156_0 (a0 : Int) : Int := (a0.fdiv 4294967296).fdiv 65536
noncomputable def t156_1 (a0 : Int) : ByteArray := bt64104_0
noncomputable def U156 (a0 : Int) (z0 : Int) (z1 : ByteArray) (R : SV → List Blk → List Blk → Prop) : Prop :=
 (cnd ((decide (4294967296 ≤ a0)))
 (cnd ((decide (65536 ≤ (a0.fdiv 4294967296))))
 (cnd ((decide (256 ≤ z0)))
 (cnd ((decide (0 ≤ IntKind.u8.wrap (((a0.fdiv (2 ^ min (Int.toNat 32) IntKind.u64.bits)).fdiv (2 ^ min (Int.toNat 16) IntKind.u64.bits)).fdiv (2 ^ min (Int.toNat 8) IntKind.u64.bits)) ∧ IntKind.u8.wrap (((a0.fdiv (2 ^ min (Int.toNat 32) IntKind.u64.bits)).fdiv (2 ^ min (Int.toNat 16) IntKind.u64.bits)).fdiv (2 ^ min (Int.toNat 8) IntKind.u64.bits)) < (↑bt36767_1.size : Int))))
 (R (.int .i64 (IntKind.i64.wrap (56 + (IntKind.i64.wrap (byteAt z1 ((IntKind.u8.wrap (z0.fdiv 256)).toNat)))))) [] [])
     False)
 (cnd ((decide (0 ≤ IntKind.u8.wrap ((a0.fdiv (2 ^ min (Int.toNat 32) IntKind.u64.bits)).fdiv (2 ^ min (Int.toNat 16) IntKind.u64.bits)) ∧ IntKind.u8.wrap ((a0.fdiv (2 ^ min (Int.toNat 32) IntKind.u64.bits)).fdiv (2 ^ min (Int.toNat 16) IntKind.u64.bits)) < (↑bt36767_1.size : Int))))
 (R (.int .i64 (IntKind.i64.wrap (48 + (IntKind.i64.wrap (byteAt z1 ((IntKind.u8.wrap z0).toNat)))))) [] [])
     False))
 (cnd ((decide (256 ≤ (a0.fdiv 4294967296))))
 (cnd ((decide (0 ≤ IntKind.u8.wrap ((a0.fdiv (2 ^ min (Int.toNat 32) IntKind.u64.bits)).fdiv (2 ^ min (Int.toNat 8) IntKind.u64.bits)) ∧ IntKind.u8.wrap ((a0.fdiv (2 ^ min (Int.toNat 32) IntKind.u64.bits)).fdiv (2 ^ min (Int.toNat 8) IntKind.u64.bits)) < (↑bt36767_1.size : Int))))
 (R (.int .i64 (IntKind.i64.wrap (40 + (IntKind.i64.wrap (byteAt z1 ((IntKind.u8.wrap ((a0.fdiv 4294967296).fdiv 256)).toNat)))))) [] [])
     False)
 (cnd ((decide (0 ≤ IntKind.u8.wrap (a0.fdiv (2 ^ min (Int.toNat 32) IntKind.u64.bits)) ∧ IntKind.u8.wrap (a0.fdiv (2 ^ min (Int.toNat 32) IntKind.u64.bits)) < (↑bt36767_1.size : Int))))
 (R (.int .i64 (IntKind.i64.wrap (32 + (IntKind.i64.wrap (byteAt z1 ((IntKind.u8.wrap (a0.fdiv 4294967296)).toNat)))))) [] [])
     False)))
 (cnd ((decide (65536 ≤ a0)))
 (cnd ((decide (256 ≤ (a0.fdiv 65536))))
 (cnd ((decide (0 ≤ IntKind.u8.wrap ((a0.fdiv (2 ^ min (Int.toNat 16) IntKind.u64.bits)).fdiv (2 ^ min (Int.toNat 8) IntKind.u64.bits)) ∧ IntKind.u8.wrap ((a0.fdiv (2 ^ min (Int.toNat 16) IntKind.u64.bits)).fdiv (2 ^ min (Int.toNat 8) IntKind.u64.bits)) < (↑bt36767_1.size : Int))))
 (R (.int .i64 (IntKind.i64.wrap (24 + (IntKind.i64.wrap (byteAt z1 ((IntKind.u8.wrap ((a0.fdiv 65536).fdiv 256)).toNat)))))) [] [])
     False)
 (cnd ((decide (0 ≤ IntKind.u8.wrap (a0.fdiv (2 ^ min (Int.toNat 16) IntKind.u64.bits)) ∧ IntKind.u8.wrap (a0.fdiv (2 ^ min (Int.toNat 16) IntKind.u64.bits)) < (↑bt36767_1.size : Int))))
 (R (.int .i64 (IntKind.i64.wrap (16 + (IntKind.i64.wrap (byteAt z1 ((IntKind.u8.wrap (a0.fdiv 65536)).toNat)))))) [] [])
     False))
 (cnd ((decide (256 ≤ a0)))
 (cnd ((decide (0 ≤ IntKind.u8.wrap (a0.fdiv (2 ^ min (Int.toNat 8) IntKind.u64.bits)) ∧ IntKind.u8.wrap (a0.fdiv (2 ^ min (Int.toNat 8) IntKind.u64.bits)) < (↑bt36767_1.size : Int))))
 (R (.int .i64 (IntKind.i64.wrap (8 + (IntKind.i64.wrap (byteAt z1 ((IntKind.u8.wrap (a0.fdiv 256)).toNat)))))) [] [])
     False)
 (cnd ((decide ((0 : Int) ≤ IntKind.u8.wrap a0 ∧ IntKind.u8.wrap a0 < (↑bt14506_2.size : Int))))
 (R (.int .i64 (IntKind.i64.wrap (0 + (IntKind.i64.wrap (byteAt z1 ((IntKind.u8.wrap a0).toNat)))))) [] [])
     False))))
theorem x156 (a0 : Int) (R : SV → List Blk → List Blk → Prop) : exec Try.prog [] (fun _ => none) 8 (Try.f156.body.getD .skip) (initS Try.f156.ntmps [.int .u64 a0] 0 (memOf [])) (retK Try.prog Try.f156.results.toList (outK 0 (List.range 0) [] (.k) fun v U N => R v U N)) =
  U156 a0 (t156_0 a0) (t156_1 a0) R := by kernel_rfl
noncomputable def w156 (a0 : Int) (z0 : Int) (z1 : ByteArray) : Int :=
 (cond ((decide (4294967296 ≤ a0))) (cond ((decide (65536 ≤ (a0.fdiv 4294967296)))) (cond ((decide (256 ≤ z0))) (IntKind.i64.wrap (56 + (IntKind.i64.wrap (byteAt z1 ((IntKind.u8.wrap (z0.fdiv 256)).toNat))))) (IntKind.i64.wrap (48 + (IntKind.i64.wrap (byteAt z1 ((IntKind.u8.wrap z0).toNat)))))) (cond ((decide (256 ≤ (a0.fdiv 4294967296)))) (IntKind.i64.wrap (40 + (IntKind.i64.wrap (byteAt z1 ((IntKind.u8.wrap ((a0.fdiv 4294967296).fdiv 256)).toNat))))) (IntKind.i64.wrap (32 + (IntKind.i64.wrap (byteAt z1 ((IntKind.u8.wrap (a0.fdiv 4294967296)).toNat))))))) (cond ((decide (65536 ≤ a0))) (cond ((decide (256 ≤ (a0.fdiv 65536)))) (IntKind.i64.wrap (24 + (IntKind.i64.wrap (byteAt z1 ((IntKind.u8.wrap ((a0.fdiv 65536).fdiv 256)).toNat))))) (IntKind.i64.wrap (16 + (IntKind.i64.wrap (byteAt z1 ((IntKind.u8.wrap (a0.fdiv 65536)).toNat)))))) (cond ((decide (256 ≤ a0))) (IntKind.i64.wrap (8 + (IntKind.i64.wrap (byteAt z1 ((IntKind.u8.wrap (a0.fdiv 256)).toNat))))) (IntKind.i64.wrap (0 + (IntKind.i64.wrap (byteAt z1 ((IntKind.u8.wrap a0).toNat))))))))
noncomputable def v156 (a0 : Int) (z0 : Int) (z1 : ByteArray) : Bool :=
 (cond ((decide (4294967296 ≤ a0))) (cond ((decide (65536 ≤ (a0.fdiv 4294967296)))) (cond ((decide (256 ≤ z0))) (((decide (0 ≤ IntKind.u8.wrap (((a0.fdiv (2 ^ min (Int.toNat 32) IntKind.u64.bits)).fdiv (2 ^ min (Int.toNat 16) IntKind.u64.bits)).fdiv (2 ^ min (Int.toNat 8) IntKind.u64.bits)) ∧ IntKind.u8.wrap (((a0.fdiv (2 ^ min (Int.toNat 32) IntKind.u64.bits)).fdiv (2 ^ min (Int.toNat 16) IntKind.u64.bits)).fdiv (2 ^ min (Int.toNat 8) IntKind.u64.bits)) < (↑bt36767_1.size : Int)))) && true) (((decide (0 ≤ IntKind.u8.wrap ((a0.fdiv (2 ^ min (Int.toNat 32) IntKind.u64.bits)).fdiv (2 ^ min (Int.toNat 16) IntKind.u64.bits)) ∧ IntKind.u8.wrap ((a0.fdiv (2 ^ min (Int.toNat 32) IntKind.u64.bits)).fdiv (2 ^ min (Int.toNat 16) IntKind.u64.bits)) < (↑bt36767_1.size : Int)))) && true)) (cond ((decide (256 ≤ (a0.fdiv 4294967296)))) (((decide (0 ≤ IntKind.u8.wrap ((a0.fdiv (2 ^ min (Int.toNat 32) IntKind.u64.bits)).fdiv (2 ^ min (Int.toNat 8) IntKind.u64.bits)) ∧ IntKind.u8.wrap ((a0.fdiv (2 ^ min (Int.toNat 32) IntKind.u64.bits)).fdiv (2 ^ min (Int.toNat 8) IntKind.u64.bits)) < (↑bt36767_1.size : Int)))) && true) (((decide (0 ≤ IntKind.u8.wrap (a0.fdiv (2 ^ min (Int.toNat 32) IntKind.u64.bits)) ∧ IntKind.u8.wrap (a0.fdiv (2 ^ min (Int.toNat 32) IntKind.u64.bits)) < (↑bt36767_1.size : Int)))) && true))) (cond ((decide (65536 ≤ a0))) (cond ((decide (256 ≤ (a0.fdiv 65536)))) (((decide (0 ≤ IntKind.u8.wrap ((a0.fdiv (2 ^ min (Int.toNat 16) IntKind.u64.bits)).fdiv (2 ^ min (Int.toNat 8) IntKind.u64.bits)) ∧ IntKind.u8.wrap ((a0.fdiv (2 ^ min (Int.toNat 16) IntKind.u64.bits)).fdiv (2 ^ min (Int.toNat 8) IntKind.u64.bits)) < (↑bt36767_1.size : Int)))) && true) (((decide (0 ≤ IntKind.u8.wrap (a0.fdiv (2 ^ min (Int.toNat 16) IntKind.u64.bits)) ∧ IntKind.u8.wrap (a0.fdiv (2 ^ min (Int.toNat 16) IntKind.u64.bits)) < (↑bt36767_1.size : Int)))) && true)) (cond ((decide (256 ≤ a0))) (((decide (0 ≤ IntKind.u8.wrap (a0.fdiv (2 ^ min (Int.toNat 8) IntKind.u64.bits)) ∧ IntKind.u8.wrap (a0.fdiv (2 ^ min (Int.toNat 8) IntKind.u64.bits)) < (↑bt36767_1.size : Int)))) && true) (((decide ((0 : Int) ≤ IntKind.u8.wrap a0 ∧ IntKind.u8.wrap a0 < (↑bt14506_2.size : Int)))) && true))))
noncomputable def m156 (a0 : Int) : Int := w156 a0 (t156_0 a0) (t156_1 a0)
noncomputable def n156 (a0 : Int) : Bool := v156 a0 (t156_0 a0) (t156_1 a0)
noncomputable def q156 (r : Int) : SV × List Blk × List Blk := (.int .i64 r, [], [])
noncomputable def g156 : List SV → List Blk → Option OpRes := fun vs bs => match vs, bs with
  | [.int .u64 a0], [] => some (resOf 0 (q156 (m156 a0)) [n156 a0])
  | _, _ => none
noncomputable def c156 : Ctr := genC [.k] g156
theorem u156 (a0 : Int) (z0 : Int) (z1 : ByteArray) (hn : v156 a0 z0 z1 = true) : U156 a0 z0 z1 (fun v U N => (v, U, N) = q156 (w156 a0 z0 z1)) :=
  cnd_of (fun h0 => cnd_of (fun h1 => cnd_of (fun h2 => cnd_need (and_l (cond_t h2 (cond_t h1 (cond_t h0 hn)))) (leaf_of (l := (IntKind.i64.wrap (56 + (IntKind.i64.wrap (byteAt z1 ((IntKind.u8.wrap (z0.fdiv 256)).toNat)))))) (condT h0 (condT h1 (condT h2 rfl))) rfl)) (fun h2 => cnd_need (and_l (cond_f h2 (cond_t h1 (cond_t h0 hn)))) (leaf_of (l := (IntKind.i64.wrap (48 + (IntKind.i64.wrap (byteAt z1 ((IntKind.u8.wrap z0).toNat)))))) (condT h0 (condT h1 (condF h2 rfl))) rfl))) (fun h1 => cnd_of (fun h2 => cnd_need (and_l (cond_t h2 (cond_f h1 (cond_t h0 hn)))) (leaf_of (l := (IntKind.i64.wrap (40 + (IntKind.i64.wrap (byteAt z1 ((IntKind.u8.wrap ((a0.fdiv 4294967296).fdiv 256)).toNat)))))) (condT h0 (condF h1 (condT h2 rfl))) rfl)) (fun h2 => cnd_need (and_l (cond_f h2 (cond_f h1 (cond_t h0 hn)))) (leaf_of (l := (IntKind.i64.wrap (32 + (IntKind.i64.wrap (byteAt z1 ((IntKind.u8.wrap (a0.fdiv 4294967296)).toNat)))))) (condT h0 (condF h1 (condF h2 rfl))) rfl)))) (fun h0 => cnd_of (fun h1 => cnd_of (fun h2 => cnd_need (and_l (cond_t h2 (cond_t h1 (cond_f h0 hn)))) (leaf_of (l := (IntKind.i64.wrap (24 + (IntKind.i64.wrap (byteAt z1 ((IntKind.u8.wrap ((a0.fdiv 65536).fdiv 256)).toNat)))))) (condF h0 (condT h1 (condT h2 rfl))) rfl)) (fun h2 => cnd_need (and_l (cond_f h2 (cond_t h1 (cond_f h0 hn)))) (leaf_of (l := (IntKind.i64.wrap (16 + (IntKind.i64.wrap (byteAt z1 ((IntKind.u8.wrap (a0.fdiv 65536)).toNat)))))) (condF h0 (condT h1 (condF h2 rfl))) rfl))) (fun h1 => cnd_of (fun h2 => cnd_need (and_l (cond_t h2 (cond_f h1 (cond_f h0 hn)))) (leaf_of (l := (IntKind.i64.wrap (8 + (IntKind.i64.wrap (byteAt z1 ((IntKind.u8.wrap (a0.fdiv 256)).toNat)))))) (condF h0 (condF h1 (condT h2 rfl))) rfl)) (fun h2 => cnd_need (and_l (cond_f h2 (cond_f h1 (cond_f h0 hn)))) (leaf_of (l := (IntKind.i64.wrap (0 + (IntKind.i64.wrap (byteAt z1 ((IntKind.u8.wrap a0).toNat)))))) (condF h0 (condF h1 (condF h2 rfl))) rfl))))
theorem p156 (a0 : Int) (hn : n156 a0 = true) : exec Try.prog [] (fun _ => none) 8 (Try.f156.body.getD .skip) (initS Try.f156.ntmps [.int .u64 a0] 0 (memOf [])) (retK Try.prog Try.f156.results.toList (outK 0 (List.range 0) [] (.k) fun v U N => (v, U, N) = (q156 (m156 a0)))) :=
  propOf (x156 a0 _) (u156 a0 (t156_0 a0) (t156_1 a0) hn)
theorem k156 : CtrOk Try.prog c156 156 := ctr_of tabOk_nil mix_ok 8 (fn := Try.f156) (c := (Try.f156.body.getD .skip)) (grs := []) (rh := .k) (Λ := (fun _ => none)) Try.func156 rfl (by kernel_rfl) noLam fun vs bs q h hn => by
  unfold g156 at h
  split at h <;> cases h
  exact ⟨_, rfl, p156 _ (hn _ (List.mem_singleton.2 rfl))⟩
/-! ### shotline/site.isName -/
noncomputable def l92_0 (t14_0 : Nat) (t14_1 : Dat) (t15 : Int) : Nat → Int → Option (Bool × (Bool) × (Unit))
  | 0, _ => none
  | f + 1, t16 => (cond ((decide (t16 < t15))) (cond ((decide (0 ≤ t16 ∧ t16 < (↑t14_0 : Int)))) (cond ((bif (bif (bif (bif (decide (97 ≤ (t14_1.ii t16.toNat 0))) then (decide ((t14_1.ii t16.toNat 0) ≤ 122)) else false) then true else (bif (decide (65 ≤ (t14_1.ii t16.toNat 0))) then (decide ((t14_1.ii t16.toNat 0) ≤ 90)) else false)) then false else true) then (bif (decide (t16 = 0)) then true else (bif (bif (decide ((t14_1.ii t16.toNat 0) = 45)) then false else true) then (bif (decide ((t14_1.ii t16.toNat 0) < 48)) then true else (decide (57 < (t14_1.ii t16.toNat 0)))) else false)) else false)) (some (true, false, default)) (l92_0 t14_0 t14_1 t15 f (IntKind.i64.wrap (t16 + 1)))) none) (some (false, default, ())))
noncomputable abbrev o92_0 (t14_0 : Nat) (t14_1 : Dat) (t15 : Int) (t16 : Int) : Option (Bool × (Bool) × (Unit)) := l92_0 t14_0 t14_1 t15 (t14_0 + t15.toNat + t16.toNat + 8) t16
noncomputable def e92_0 (t14_0 : Nat) (t14_1 : Dat) (t15 : Int) (r : Bool × (Bool) × (Unit)) (K : XR) : Prop := cnd r.1 (K (XE.ret) [.bool r.2.1] []) (K (XE.exit 0) [.any] [])
noncomputable def g92_0 : LSum := fun s k => match czv 0 54 [14, 15, 16] 0 [] s with
  | some ([.ro [.int .u8] t14_0 t14_1, .int .i64 t15, .int .i64 t16], []) => needs [(o92_0 t14_0 t14_1 t15 t16).isSome] (e92_0 t14_0 t14_1 t15 ((o92_0 t14_0 t14_1 t15 t16).getD default) fun e vs bs => inBlk 0 k e (mkSt 0 54 [2] vs 0 bs))
  | _ => False
theorem y92_0 (t14_0 : Nat) (t14_1 : Dat) (t15 : Int) (t16 : Int) (R : XR) : exec Try.prog [] (fun _ => none) 8 (unloop (bodyAt (Try.f92.body.getD .skip) 0)) (mkSt 0 54 [14, 15, 16] [.ro [.int .u8] t14_0 t14_1, .int .i64 t15, .int .i64 t16] 0 []) (canonK 0 54 [14, 15, 16] [2] 0 [] R) =
 (cnd ((decide (t16 < t15)))
 (cnd ((decide (0 ≤ t16 ∧ t16 < (↑t14_0 : Int))))
 (cnd ((bif (bif (bif (bif (decide (97 ≤ (t14_1.ii t16.toNat 0))) then (decide ((t14_1.ii t16.toNat 0) ≤ 122)) else false) then true else (bif (decide (65 ≤ (t14_1.ii t16.toNat 0))) then (decide ((t14_1.ii t16.toNat 0) ≤ 90)) else false)) then false else true) then (bif (decide (t16 = 0)) then true else (bif (bif (decide ((t14_1.ii t16.toNat 0) = 45)) then false else true) then (bif (decide ((t14_1.ii t16.toNat 0) < 48)) then true else (decide (57 < (t14_1.ii t16.toNat 0)))) else false)) else false))
 (R (XE.ret) [.bool false] [])
 (R (XE.normal) [.ro [.int .u8] t14_0 t14_1, .int .i64 t15, .int .i64 (IntKind.i64.wrap (t16 + 1))] []))
   False)
 (R (XE.exit 0) [.any] [])) := by kernel_rfl
theorem z92_0 : LOk Try.prog g92_0 (.block 0 (bodyAt (Try.f92.body.getD .skip) 0)) := by
  refine loop_blk (ι := Nat × Dat × Int × Int) (L := []) (Λ := (fun _ => none)) (fuel := 8) (na := 0) (nt := 54) (nx := 0) (Lh := [14, 15, 16]) (Le := [2]) (gl := []) tabOk_nil mix_ok noLam rfl (fun f x K => GG default (e92_0 x.1 x.2.1 x.2.2.1) K (l92_0 x.1 x.2.1 x.2.2.1 f x.2.2.2)) (fun x => [.ro [.int .u8] x.1 x.2.1, .int .i64 x.2.2.1, .int .i64 x.2.2.2]) (fun x => []) (fun x K => gg_none) ?_ ?_
  · rintro f ⟨t14_0, t14_1, t15, t16⟩ K hG
    have hG : GG default (e92_0 t14_0 t14_1 t15) K (cond ((decide (t16 < t15))) (cond ((decide (0 ≤ t16 ∧ t16 < (↑t14_0 : Int)))) (cond ((bif (bif (bif (bif (decide (97 ≤ (t14_1.ii t16.toNat 0))) then (decide ((t14_1.ii t16.toNat 0) ≤ 122)) else false) then true else (bif (decide (65 ≤ (t14_1.ii t16.toNat 0))) then (decide ((t14_1.ii t16.toNat 0) ≤ 90)) else false)) then false else true) then (bif (decide (t16 = 0)) then true else (bif (bif (decide ((t14_1.ii t16.toNat 0) = 45)) then false else true) then (bif (decide ((t14_1.ii t16.toNat 0) < 48)) then true else (decide (57 < (t14_1.ii t16.toNat 0)))) else false)) else false)) (some (true, false, default)) (l92_0 t14_0 t14_1 t15 f (IntKind.i64.wrap (t16 + 1)))) none) (some (false, default, ()))) := hG
    refine propOf (y92_0 t14_0 t14_1 t15 t16 _) ?_
    exact cnd_gg2 hG (fun h0 => cnd_gg h0 fun h1 => cnd_gg2 h1 (fun h2 => h2.2) (fun h2 => ⟨(t14_0, t14_1, t15, (IntKind.i64.wrap (t16 + 1))), rfl, rfl, h2⟩)) (fun h0 => h0.2)
  · intro s k h
    unfold g92_0 at h
    split at h <;> try exact h.elim
    rename_i e1
    rw [needs_iff] at h
    exact ⟨_, e1, _, (_, _, _, _), rfl, rfl, h.1 _ (List.mem_singleton.2 rfl), h.2⟩
theorem x92 (a0 : ByteArray) (R : SV → List Blk → List Blk → Prop) : exec Try.prog [] (lamOf [(0, g92_0)]) 8 (Try.f92.body.getD .skip) (initS Try.f92.ntmps [.str a0] 0 (memOf [])) (retK Try.prog Try.f92.results.toList (outK 0 (List.range 0) [] (.k) fun v U N => R v U N)) =
 (cnd ((bif (decide (a0 = (({ data := #[] } : ByteArray)))) then true else (decide (12 < ((↑a0.size : Int))))))
 (R (.bool false) [] [])
 (cnd (((o92_0 a0.size ({ ii := fun q x => (↑(a0.data.toList.getD q 0).toNat : Int), ss := noDat.ss, bb := noDat.bb, sn := noDat.sn, sd := noDat.sd }) ((↑a0.size : Int)) 0).isSome))
 (cnd ((((o92_0 a0.size ({ ii := fun q x => (↑(a0.data.toList.getD q 0).toNat : Int), ss := noDat.ss, bb := noDat.bb, sn := noDat.sn, sd := noDat.sd }) ((↑a0.size : Int)) 0).getD default).1))
 (R (.bool (((o92_0 a0.size ({ ii := fun q x => (↑(a0.data.toList.getD q 0).toNat : Int), ss := noDat.ss, bb := noDat.bb, sn := noDat.sn, sd := noDat.sd }) ((↑a0.size : Int)) 0).getD default).2.1)) [] [])
 (R (.bool true) [] []))
   False)) := by kernel_rfl
noncomputable def m92 (a0 : ByteArray) : Bool :=
 (cond ((bif (decide (a0 = (({ data := #[] } : ByteArray)))) then true else (decide (12 < ((↑a0.size : Int)))))) false (cond ((((o92_0 a0.size ({ ii := fun q x => (↑(a0.data.toList.getD q 0).toNat : Int), ss := noDat.ss, bb := noDat.bb, sn := noDat.sn, sd := noDat.sd }) ((↑a0.size : Int)) 0).getD default).1)) (((o92_0 a0.size ({ ii := fun q x => (↑(a0.data.toList.getD q 0).toNat : Int), ss := noDat.ss, bb := noDat.bb, sn := noDat.sn, sd := noDat.sd }) ((↑a0.size : Int)) 0).getD default).2.1) true))
noncomputable def n92 (a0 : ByteArray) : Bool :=
 (cond ((bif (decide (a0 = (({ data := #[] } : ByteArray)))) then true else (decide (12 < ((↑a0.size : Int)))))) true ((((o92_0 a0.size ({ ii := fun q x => (↑(a0.data.toList.getD q 0).toNat : Int), ss := noDat.ss, bb := noDat.bb, sn := noDat.sn, sd := noDat.sd }) ((↑a0.size : Int)) 0).isSome)) && true))
noncomputable def q92 (r : Bool) : SV × List Blk × List Blk := (.bool r, [], [])
noncomputable def g92 : List SV → List Blk → Option OpRes := fun vs bs => match vs, bs with
  | [.str a0], [] => some (resOf 0 (q92 (m92 a0)) [n92 a0])
  | _, _ => none
noncomputable def c92 : Ctr := genC [.k] g92
theorem p92 (a0 : ByteArray) (hn : n92 a0 = true) : exec Try.prog [] (lamOf [(0, g92_0)]) 8 (Try.f92.body.getD .skip) (initS Try.f92.ntmps [.str a0] 0 (memOf [])) (retK Try.prog Try.f92.results.toList (outK 0 (List.range 0) [] (.k) fun v U N => (v, U, N) = (q92 (m92 a0)))) :=
  propOf (x92 a0 _) (cnd_of (fun h0 => leaf_of (l := false) (condT h0 rfl) rfl) (fun h0 => cnd_need (and_l (cond_f h0 hn)) (cnd_of (fun h1 => leaf_of (l := (((o92_0 a0.size ({ ii := fun q x => (↑(a0.data.toList.getD q 0).toNat : Int), ss := noDat.ss, bb := noDat.bb, sn := noDat.sn, sd := noDat.sd }) ((↑a0.size : Int)) 0).getD default).2.1)) (condF h0 (condT h1 rfl)) rfl) (fun h1 => leaf_of (l := true) (condF h0 (condF h1 rfl)) rfl))))
theorem k92 : CtrOk Try.prog c92 92 := ctr_of tabOk_nil mix_ok 8 (fn := Try.f92) (c := (Try.f92.body.getD .skip)) (grs := []) (rh := .k) (Λ := (lamOf [(0, g92_0)])) Try.func92 rfl (by kernel_rfl) (lam_of rfl (lams_cons z92_0 lams_nil)) fun vs bs q h hn => by
  unfold g92 at h
  split at h <;> cases h
  exact ⟨_, rfl, p92 _ (hn _ (List.mem_singleton.2 rfl))⟩
/-! ### shotline/site.CheckChart$1 -/
theorem x95 (na0 : Nat) (da0 : Dat) (da1 : Dat) (R : SV → List Blk → List Blk → Prop) : exec Try.prog [] (fun _ => none) 8 (Try.f95.body.getD .skip) (initS Try.f95.ntmps [.ro [.int .i64] na0 da0, .rp [.int .i64] da1 0 0] 0 (memOf [])) (retK Try.prog Try.f95.results.toList (outK 0 (List.range 0) [] (.k) fun v U N => R v U N)) =
 (R (.bool (bif (decide (((↑na0 : Int)) = (da1.ii 0 0))) then false else true)) [] []) := by kernel_rfl
noncomputable def m95 (na0 : Nat) (da0 : Dat) (da1 : Dat) : Bool :=
 (bif (decide (((↑na0 : Int)) = (da1.ii 0 0))) then false else true)
noncomputable def q95 (r : Bool) : SV × List Blk × List Blk := (.bool r, [], [])
noncomputable def g95 : List SV → List Blk → Option OpRes := fun vs bs => match vs, bs with
  | [.ro [.int .i64] na0 da0, .rp [.int .i64] da1 0 0], [] => some (resOf 0 (q95 (m95 na0 da0 da1)) [])
  | _, _ => none
noncomputable def c95 : Ctr := genC [.ro [.int .i64], .rp [.int .i64]] g95
theorem p95 (na0 : Nat) (da0 : Dat) (da1 : Dat) : exec Try.prog [] (fun _ => none) 8 (Try.f95.body.getD .skip) (initS Try.f95.ntmps [.ro [.int .i64] na0 da0, .rp [.int .i64] da1 0 0] 0 (memOf [])) (retK Try.prog Try.f95.results.toList (outK 0 (List.range 0) [] (.k) fun v U N => (v, U, N) = (q95 (m95 na0 da0 da1)))) :=
  propOf (x95 na0 da0 da1 _) (leaf_of (l := (bif (decide (((↑na0 : Int)) = (da1.ii 0 0))) then false else true)) rfl rfl)
theorem k95 : CtrOk Try.prog c95 95 := ctr_of tabOk_nil mix_ok 8 (fn := Try.f95) (c := (Try.f95.body.getD .skip)) (grs := []) (rh := .k) (Λ := (fun _ => none)) Try.func95 rfl (by kernel_rfl) noLam fun vs bs q h _ => by
  unfold g95 at h
  split at h <;> cases h
  exact ⟨_, rfl, p95 _ _ _⟩
/-! ### (*shotline/site.windows).add -/
theorem x105 (na0_0 : Nat) (ma0_0 : Nat) (da0_0 : Dat) (a1_0 : Int) (a1_1 : Int) (R : SV → List Blk → List Blk → Prop) : exec Try.prog [] (fun _ => none) 8 (Try.f105.body.getD .skip) (initS Try.f105.ntmps [.ptr 0 0, .agg [.int .i64 a1_0, .int .i64 a1_1]] 2 (memOf [.cells 151 [.gr 1 2 na0_0], .row 28 [.int .i64, .int .i64] ma0_0 da0_0])) (retK Try.prog Try.f105.results.toList (outK 2 (List.range 2) [1] (.k) fun v U N => R v U N)) =
 (cnd ((bif (bif (decide ((0 : Int) < ((↑na0_0 : Int)))) then false else true) then true else (decide (0 ≤ IntKind.i64.wrap ((↑na0_0 : Int) - 1) ∧ IntKind.i64.wrap ((↑na0_0 : Int) - 1) < (↑na0_0 : Int)))))
 (cnd ((bif (bif (decide ((0 : Int) < ((↑na0_0 : Int)))) then false else true) then true else (decide (((IntKind.i64.wrap (((↑na0_0 : Int)) - 1)).toNat) < ma0_0))))
 (cnd ((bif (decide ((0 : Int) < ((↑na0_0 : Int)))) then (decide (a1_0 ≤ (IntKind.i64.wrap ((da0_0.ii ((IntKind.i64.wrap (((↑na0_0 : Int)) - 1)).toNat) 1) + 1)))) else false))
 (cnd ((decide (0 ≤ IntKind.i64.wrap ((↑na0_0 : Int) - 1) ∧ IntKind.i64.wrap ((↑na0_0 : Int) - 1) < (↑na0_0 : Int))))
 (cnd ((decide (((IntKind.i64.wrap (((↑na0_0 : Int)) - 1)).toNat) < ma0_0)))
 (cnd ((decide (0 ≤ IntKind.i64.wrap ((↑na0_0 : Int) - 1) ∧ IntKind.i64.wrap ((↑na0_0 : Int) - 1) < (↑na0_0 : Int))))
 (cnd ((decide (((IntKind.i64.wrap (((↑na0_0 : Int)) - 1)).toNat) < ma0_0)))
 (R (.tup []) [.cells 151 [.gr 2 2 na0_0], .unk] [.row 28 [.int .i64, .int .i64] ma0_0 (da0_0.upd ((IntKind.i64.wrap (((↑na0_0 : Int)) - 1)).toNat) 1 [.int .i64 (imax (da0_0.ii ((IntKind.i64.wrap (((↑na0_0 : Int)) - 1)).toNat) 1) a1_1)])])
        False)
       False)
      False)
     False)
 (cnd ((decide (na0_0 ≤ ma0_0)))
 (cnd ((decide ((na0_0 + 1) ≤ 1073741824)))
 (R (.tup []) [.cells 151 [.gr 2 2 (na0_0 + 1)], .unk] [.row 28 [.int .i64, .int .i64] (na0_0 + 1) (da0_0.app na0_0 (datS [.int .i64 a1_0, .int .i64 a1_1] 2))])
      False)
     False))
   False)
  False) := by kernel_rfl
noncomputable def m105 (na0_0 : Nat) (ma0_0 : Nat) (da0_0 : Dat) (a1_0 : Int) (a1_1 : Int) : Nat × Nat × Dat :=
 (cond ((bif (decide ((0 : Int) < ((↑na0_0 : Int)))) then (decide (a1_0 ≤ (IntKind.i64.wrap ((da0_0.ii ((IntKind.i64.wrap (((↑na0_0 : Int)) - 1)).toNat) 1) + 1)))) else false)) (na0_0, ma0_0, (da0_0.upd ((IntKind.i64.wrap (((↑na0_0 : Int)) - 1)).toNat) 1 [.int .i64 (imax (da0_0.ii ((IntKind.i64.wrap (((↑na0_0 : Int)) - 1)).toNat) 1) a1_1)])) ((na0_0 + 1), (na0_0 + 1), (da0_0.app na0_0 (datS [.int .i64 a1_0, .int .i64 a1_1] 2))))
noncomputable def n105 (na0_0 : Nat) (ma0_0 : Nat) (da0_0 : Dat) (a1_0 : Int) (a1_1 : Int) : Bool :=
 (((bif (bif (decide ((0 : Int) < ((↑na0_0 : Int)))) then false else true) then true else (decide (0 ≤ IntKind.i64.wrap ((↑na0_0 : Int) - 1) ∧ IntKind.i64.wrap ((↑na0_0 : Int) - 1) < (↑na0_0 : Int))))) && (((bif (bif (decide ((0 : Int) < ((↑na0_0 : Int)))) then false else true) then true else (decide (((IntKind.i64.wrap (((↑na0_0 : Int)) - 1)).toNat) < ma0_0)))) && (cond ((bif (decide ((0 : Int) < ((↑na0_0 : Int)))) then (decide (a1_0 ≤ (IntKind.i64.wrap ((da0_0.ii ((IntKind.i64.wrap (((↑na0_0 : Int)) - 1)).toNat) 1) + 1)))) else false)) (((decide (0 ≤ IntKind.i64.wrap ((↑na0_0 : Int) - 1) ∧ IntKind.i64.wrap ((↑na0_0 : Int) - 1) < (↑na0_0 : Int)))) && (((decide (((IntKind.i64.wrap (((↑na0_0 : Int)) - 1)).toNat) < ma0_0))) && (((decide (0 ≤ IntKind.i64.wrap ((↑na0_0 : Int) - 1) ∧ IntKind.i64.wrap ((↑na0_0 : Int) - 1) < (↑na0_0 : Int)))) && (((decide (((IntKind.i64.wrap (((↑na0_0 : Int)) - 1)).toNat) < ma0_0))) && true)))) (((decide (na0_0 ≤ ma0_0))) && (((decide ((na0_0 + 1) ≤ 1073741824))) && true)))))
noncomputable def q105 (r : Nat × Nat × Dat) : SV × List Blk × List Blk := (.tup [], [.cells 151 [.gr 2 2 r.1], .unk], [.row 28 [.int .i64, .int .i64] r.2.1 r.2.2])
noncomputable def g105 : List SV → List Blk → Option OpRes := fun vs bs => match vs, bs with
  | [.ptr 0 0, .agg [.int .i64 a1_0, .int .i64 a1_1]], [.cells 151 [.gr 1 2 na0_0], .row 28 [.int .i64, .int .i64] ma0_0 da0_0] => some (resOf 2 (q105 (m105 na0_0 ma0_0 da0_0 a1_0 a1_1)) [n105 na0_0 ma0_0 da0_0 a1_0 a1_1])
  | _, _ => none
noncomputable def c105 : Ctr := genC [.c [.gr 28 [.int .i64, .int .i64]], .k] g105
theorem p105 (na0_0 : Nat) (ma0_0 : Nat) (da0_0 : Dat) (a1_0 : Int) (a1_1 : Int) (hn : n105 na0_0 ma0_0 da0_0 a1_0 a1_1 = true) : exec Try.prog [] (fun _ => none) 8 (Try.f105.body.getD .skip) (initS Try.f105.ntmps [.ptr 0 0, .agg [.int .i64 a1_0, .int .i64 a1_1]] 2 (memOf [.cells 151 [.gr 1 2 na0_0], .row 28 [.int .i64, .int .i64] ma0_0 da0_0])) (retK Try.prog Try.f105.results.toList (outK 2 (List.range 2) [1] (.k) fun v U N => (v, U, N) = (q105 (m105 na0_0 ma0_0 da0_0 a1_0 a1_1)))) :=
  propOf (x105 na0_0 ma0_0 da0_0 a1_0 a1_1 _) (cnd_need (and_l hn) (cnd_need (and_l (and_r hn)) (cnd_of (fun h0 => cnd_need (and_l (cond_t h0 (and_r (and_r hn)))) (cnd_need (and_l (and_r (cond_t h0 (and_r (and_r hn))))) (cnd_need (and_l (and_r (and_r (cond_t h0 (and_r (and_r hn)))))) (cnd_need (and_l (and_r (and_r (and_r (cond_t h0 (and_r (and_r hn))))))) (leaf_of (l := (na0_0, ma0_0, (da0_0.upd ((IntKind.i64.wrap (((↑na0_0 : Int)) - 1)).toNat) 1 [.int .i64 (imax (da0_0.ii ((IntKind.i64.wrap (((↑na0_0 : Int)) - 1)).toNat) 1) a1_1)]))) (condT h0 rfl) rfl))))) (fun h0 => cnd_need (and_l (cond_f h0 (and_r (and_r hn)))) (cnd_need (and_l (and_r (cond_f h0 (and_r (and_r hn))))) (leaf_of (l := ((na0_0 + 1), (na0_0 + 1), (da0_0.app na0_0 (datS [.int .i64 a1_0, .int .i64 a1_1] 2)))) (condF h0 rfl) rfl))))))
theorem k105 : CtrOk Try.prog c105 105 := ctr_of tabOk_nil mix_ok 8 (fn := Try.f105) (c := (Try.f105.body.getD .skip)) (grs := [1]) (rh := .k) (Λ := (fun _ => none)) Try.func105 rfl (by kernel_rfl) noLam fun vs bs q h hn => by
  unfold g105 at h
  split at h <;> cases h
  exact ⟨_, rfl, p105 _ _ _ _ _ (hn _ (List.mem_singleton.2 rfl))⟩
/-! ### slices.Index[[]string,string] -/
noncomputable def l129_0 (t0_0 : Nat) (t0_1 : Dat) (t1 : ByteArray) (t7 : Int) : Nat → Int → Option (Bool × (Int) × (Unit))
  | 0, _ => none
  | f + 1, t8 => (cond ((decide (t8 < t7))) (cond ((decide (0 ≤ t8 ∧ t8 < (↑t0_0 : Int)))) (cond ((decide (t1 = (t0_1.ss t8.toNat 0)))) (some (true, t8, default)) (l129_0 t0_0 t0_1 t1 t7 f (IntKind.i64.wrap (t8 + 1)))) none) (some (false, default, ())))
noncomputable abbrev o129_0 (t0_0 : Nat) (t0_1 : Dat) (t1 : ByteArray) (t7 : Int) (t8 : Int) : Option (Bool × (Int) × (Unit)) := l129_0 t0_0 t0_1 t1 t7 (t0_0 + t1.size + t7.toNat + t8.toNat + 8) t8
noncomputable def e129_0 (t0_0 : Nat) (t0_1 : Dat) (t1 : ByteArray) (t7 : Int) (r : Bool × (Int) × (Unit)) (K : XR) : Prop := cnd r.1 (K (XE.ret) [.int .i64 r.2.1] []) (K (XE.exit 0) [.any] [])
noncomputable def g129_0 : LSum := fun s k => match czv 0 19 [0, 1, 7, 8] 0 [] s with
  | some ([.ro [.str] t0_0 t0_1, .str t1, .int .i64 t7, .int .i64 t8], []) => needs [(o129_0 t0_0 t0_1 t1 t7 t8).isSome] (e129_0 t0_0 t0_1 t1 t7 ((o129_0 t0_0 t0_1 t1 t7 t8).getD default) fun e vs bs => inBlk 0 k e (mkSt 0 19 [4] vs 0 bs))
  | _ => False
theorem y129_0 (t0_0 : Nat) (t0_1 : Dat) (t1 : ByteArray) (t7 : Int) (t8 : Int) (R : XR) : exec Try.prog [] (fun _ => none) 8 (unloop (bodyAt (Try.f129.body.getD .skip) 0)) (mkSt 0 19 [0, 1, 7, 8] [.ro [.str] t0_0 t0_1, .str t1, .int .i64 t7, .int .i64 t8] 0 []) (canonK 0 19 [0, 1, 7, 8] [4] 0 [] R) =
 (cnd ((decide (t8 < t7)))
 (cnd ((decide (0 ≤ t8 ∧ t8 < (↑t0_0 : Int))))
 (cnd ((decide (t1 = (t0_1.ss t8.toNat 0))))
 (R (XE.ret) [.int .i64 t8] [])
 (R (XE.normal) [.ro [.str] t0_0 t0_1, .str t1, .int .i64 t7, .int .i64 (IntKind.i64.wrap (t8 + 1))] []))
   False)
 (R (XE.exit 0) [.any] [])) := by kernel_rfl
theorem z129_0 : LOk Try.prog g129_0 (.block 0 (bodyAt (Try.f129.body.getD .skip) 0)) := by
  refine loop_blk (ι := Nat × Dat × ByteArray × Int × Int) (L := []) (Λ := (fun _ => none)) (fuel := 8) (na := 0) (nt := 19) (nx := 0) (Lh := [0, 1, 7, 8]) (Le := [4]) (gl := []) tabOk_nil mix_ok noLam rfl (fun f x K => GG default (e129_0 x.1 x.2.1 x.2.2.1 x.2.2.2.1) K (l129_0 x.1 x.2.1 x.2.2.1 x.2.2.2.1 f x.2.2.2.2)) (fun x => [.ro [.str] x.1 x.2.1, .str x.2.2.1, .int .i64 x.2.2.2.1, .int .i64 x.2.2.2.2]) (fun x => []) (fun x K => gg_none) ?_ ?_
  · rintro f ⟨t0_0, t0_1, t1, t7, t8⟩ K hG
    have hG : GG default (e129_0 t0_0 t0_1 t1 t7) K (cond ((decide (t8 < t7))) (cond ((decide (0 ≤ t8 ∧ t8 < (↑t0_0 : Int)))) (cond ((decide (t1 = (t0_1.ss t8.toNat 0)))) (some (true, t8, default)) (l129_0 t0_0 t0_1 t1 t7 f (IntKind.i64.wrap (t8 + 1)))) none) (some (false, default, ()))) := hG
    refine propOf (y129_0 t0_0 t0_1 t1 t7 t8 _) ?_
    exact cnd_gg2 hG (fun h0 => cnd_gg h0 fun h1 => cnd_gg2 h1 (fun h2 => h2.2) (fun h2 => ⟨(t0_0, t0_1, t1, t7, (IntKind.i64.wrap (t8 + 1))), rfl, rfl, h2⟩)) (fun h0 => h0.2)
  · intro s k h
    unfold g129_0 at h
    split at h <;> try exact h.elim
    rename_i e1
    rw [needs_iff] at h
    exact ⟨_, e1, _, (_, _, _, _, _), rfl, rfl, h.1 _ (List.mem_singleton.2 rfl), h.2⟩
theorem x129 (na0 : Nat) (da0 : Dat) (a1 : ByteArray) (R : SV → List Blk → List Blk → Prop) : exec Try.prog [] (lamOf [(0, g129_0)]) 8 (Try.f129.body.getD .skip) (initS Try.f129.ntmps [.ro [.str] na0 da0, .str a1] 0 (memOf [])) (retK Try.prog Try.f129.results.toList (outK 0 (List.range 0) [] (.k) fun v U N => R v U N)) =
 (cnd (((o129_0 na0 da0 a1 ((↑na0 : Int)) 0).isSome))
 (cnd ((((o129_0 na0 da0 a1 ((↑na0 : Int)) 0).getD default).1))
 (R (.int .i64 (((o129_0 na0 da0 a1 ((↑na0 : Int)) 0).getD default).2.1)) [] [])
 (R (.int .i64 (-1)) [] []))
  False) := by kernel_rfl
noncomputable def m129 (na0 : Nat) (da0 : Dat) (a1 : ByteArray) : Int :=
 (cond ((((o129_0 na0 da0 a1 ((↑na0 : Int)) 0).getD default).1)) (((o129_0 na0 da0 a1 ((↑na0 : Int)) 0).getD default).2.1) (-1))
noncomputable def n129 (na0 : Nat) (da0 : Dat) (a1 : ByteArray) : Bool :=
 ((((o129_0 na0 da0 a1 ((↑na0 : Int)) 0).isSome)) && true)
noncomputable def q129 (r : Int) : SV × List Blk × List Blk := (.int .i64 r, [], [])
noncomputable def g129 : List SV → List Blk → Option OpRes := fun vs bs => match vs, bs with
  | [.ro [.str] na0 da0, .str a1], [] => some (resOf 0 (q129 (m129 na0 da0 a1)) [n129 na0 da0 a1])
  | _, _ => none
noncomputable def c129 : Ctr := genC [.ro [.str], .k] g129
theorem p129 (na0 : Nat) (da0 : Dat) (a1 : ByteArray) (hn : n129 na0 da0 a1 = true) : exec Try.prog [] (lamOf [(0, g129_0)]) 8 (Try.f129.body.getD .skip) (initS Try.f129.ntmps [.ro [.str] na0 da0, .str a1] 0 (memOf [])) (retK Try.prog Try.f129.results.toList (outK 0 (List.range 0) [] (.k) fun v U N => (v, U, N) = (q129 (m129 na0 da0 a1)))) :=
  propOf (x129 na0 da0 a1 _) (cnd_need (and_l hn) (cnd_of (fun h0 => leaf_of (l := (((o129_0 na0 da0 a1 ((↑na0 : Int)) 0).getD default).2.1)) (condT h0 rfl) rfl) (fun h0 => leaf_of (l := (-1)) (condF h0 rfl) rfl)))
theorem k129 : CtrOk Try.prog c129 129 := ctr_of tabOk_nil mix_ok 8 (fn := Try.f129) (c := (Try.f129.body.getD .skip)) (grs := []) (rh := .k) (Λ := (lamOf [(0, g129_0)])) Try.func129 rfl (by kernel_rfl) (lam_of rfl (lams_cons z129_0 lams_nil)) fun vs bs q h hn => by
  unfold g129 at h
  split at h <;> cases h
  exact ⟨_, rfl, p129 _ _ _ (hn _ (List.mem_singleton.2 rfl))⟩
/-! ### slices.IndexFunc[[][]int,[]int] -/
noncomputable def l130c95_0 (t0_0 : Nat) (t0_1 : Dat) (t1 : Dat) (t7 : Int) : Nat → Int → Option (Bool × (Int) × (Unit))
  | 0, _ => none
  | f + 1, t8 => (cond ((decide (t8 < t7))) (cond ((decide (0 ≤ t8 ∧ t8 < (↑t0_0 : Int)))) (cond ((m95 (t0_1.sn t8.toNat 0) (t0_1.sub t8.toNat 0) t1)) (some (true, t8, default)) (l130c95_0 t0_0 t0_1 t1 t7 f (IntKind.i64.wrap (t8 + 1)))) none) (some (false, default, ())))
noncomputable abbrev o130c95_0 (t0_0 : Nat) (t0_1 : Dat) (t1 : Dat) (t7 : Int) (t8 : Int) : Option (Bool × (Int) × (Unit)) := l130c95_0 t0_0 t0_1 t1 t7 (t0_0 + t7.toNat + t8.toNat + 8) t8
noncomputable def e130c95_0 (t0_0 : Nat) (t0_1 : Dat) (t1 : Dat) (t7 : Int) (r : Bool × (Int) × (Unit)) (K : XR) : Prop := cnd r.1 (K (XE.ret) [.int .i64 r.2.1] []) (K (XE.exit 0) [.any] [])
noncomputable def g130c95_0 : LSum := fun s k => match czv 0 19 [0, 1, 7, 8] 0 [] s with
  | some ([.ro [.sl [.int .i64]] t0_0 t0_1, .fn 95 [.rp [.int .i64] t1 0 0], .int .i64 t7, .int .i64 t8], []) => needs [(o130c95_0 t0_0 t0_1 t1 t7 t8).isSome] (e130c95_0 t0_0 t0_1 t1 t7 ((o130c95_0 t0_0 t0_1 t1 t7 t8).getD default) fun e vs bs => inBlk 0 k e (mkSt 0 19 [4] vs 0 bs))
  | _ => False
theorem y130c95_0 (t0_0 : Nat) (t0_1 : Dat) (t1 : Dat) (t7 : Int) (t8 : Int) (R : XR) : exec Try.prog [(95, c95)] (fun _ => none) 8 (unloop (bodyAt (Try.f130.body.getD .skip) 0)) (mkSt 0 19 [0, 1, 7, 8] [.ro [.sl [.int .i64]] t0_0 t0_1, .fn 95 [.rp [.int .i64] t1 0 0], .int .i64 t7, .int .i64 t8] 0 []) (canonK 0 19 [0, 1, 7, 8] [4] 0 [] R) =
 (cnd ((decide (t8 < t7)))
 (cnd ((decide (0 ≤ t8 ∧ t8 < (↑t0_0 : Int))))
 (cnd ((m95 (t0_1.sn t8.toNat 0) (t0_1.sub t8.toNat 0) t1))
 (R (XE.ret) [.int .i64 t8] [])
 (R (XE.normal) [.ro [.sl [.int .i64]] t0_0 t0_1, .fn 95 [.rp [.int .i64] t1 0 0], .int .i64 t7, .int .i64 (IntKind.i64.wrap (t8 + 1))] []))
   False)
 (R (XE.exit 0) [.any] [])) := by kernel_rfl
theorem z130c95_0 : LOk Try.prog g130c95_0 (.block 0 (bodyAt (Try.f130.body.getD .skip) 0)) := by
  refine loop_blk (ι := Nat × Dat × Dat × Int × Int) (L := [(95, c95)]) (Λ := (fun _ => none)) (fuel := 8) (na := 0) (nt := 19) (nx := 0) (Lh := [0, 1, 7, 8]) (Le := [4]) (gl := []) (tabOk_cons k95 tabOk_nil) mix_ok noLam rfl (fun f x K => GG default (e130c95_0 x.1 x.2.1 x.2.2.1 x.2.2.2.1) K (l130c95_0 x.1 x.2.1 x.2.2.1 x.2.2.2.1 f x.2.2.2.2)) (fun x => [.ro [.sl [.int .i64]] x.1 x.2.1, .fn 95 [.rp [.int .i64] x.2.2.1 0 0], .int .i64 x.2.2.2.1, .int .i64 x.2.2.2.2]) (fun x => []) (fun x K => gg_none) ?_ ?_
  · rintro f ⟨t0_0, t0_1, t1, t7, t8⟩ K hG
    have hG : GG default (e130c95_0 t0_0 t0_1 t1 t7) K (cond ((decide (t8 < t7))) (cond ((decide (0 ≤ t8 ∧ t8 < (↑t0_0 : Int)))) (cond ((m95 (t0_1.sn t8.toNat 0) (t0_1.sub t8.toNat 0) t1)) (some (true, t8, default)) (l130c95_0 t0_0 t0_1 t1 t7 f (IntKind.i64.wrap (t8 + 1)))) none) (some (false, default, ()))) := hG
    refine propOf (y130c95_0 t0_0 t0_1 t1 t7 t8 _) ?_
    exact cnd_gg2 hG (fun h0 => cnd_gg h0 fun h1 => cnd_gg2 h1 (fun h2 => h2.2) (fun h2 => ⟨(t0_0, t0_1, t1, t7, (IntKind.i64.wrap (t8 + 1))), rfl, rfl, h2⟩)) (fun h0 => h0.2)
  · intro s k h
    unfold g130c95_0 at h
    split at h <;> try exact h.elim
    rename_i e1
    rw [needs_iff] at h
    exact ⟨_, e1, _, (_, _, _, _, _), rfl, rfl, h.1 _ (List.mem_singleton.2 rfl), h.2⟩
theorem x130c95 (na0 : Nat) (da0 : Dat) (da1c0 : Dat) (R : SV → List Blk → List Blk → Prop) : exec Try.prog [(95, c95)] (lamOf [(0, g130c95_0)]) 8 (Try.f130.body.getD .skip) (initS Try.f130.ntmps [.ro [.sl [.int .i64]] na0 da0, .fn 95 [.rp [.int .i64] da1c0 0 0]] 0 (memOf [])) (retK Try.prog Try.f130.results.toList (outK 0 (List.range 0) [] (.k) fun v U N => R v U N)) =
 (cnd (((o130c95_0 na0 da0 da1c0 ((↑na0 : Int)) 0).isSome))
 (cnd ((((o130c95_0 na0 da0 da1c0 ((↑na0 : Int)) 0).getD default).1))
 (R (.int .i64 (((o130c95_0 na0 da0 da1c0 ((↑na0 : Int)) 0).getD default).2.1)) [] [])
 (R (.int .i64 (-1)) [] []))
  False) := by kernel_rfl
noncomputable def m130c95 (na0 : Nat) (da0 : Dat) (da1c0 : Dat) : Int :=
 (cond ((((o130c95_0 na0 da0 da1c0 ((↑na0 : Int)) 0).getD default).1)) (((o130c95_0 na0 da0 da1c0 ((↑na0 : Int)) 0).getD default).2.1) (-1))
noncomputable def n130c95 (na0 : Nat) (da0 : Dat) (da1c0 : Dat) : Bool :=
 ((((o130c95_0 na0 da0 da1c0 ((↑na0 : Int)) 0).isSome)) && true)
noncomputable def q130c95 (r : Int) : SV × List Blk × List Blk := (.int .i64 r, [], [])
noncomputable def g130c95 : List SV → List Blk → Option OpRes := fun vs bs => match vs, bs with
  | [.ro [.sl [.int .i64]] na0 da0, .fn 95 [.rp [.int .i64] da1c0 0 0]], [] => some (resOf 0 (q130c95 (m130c95 na0 da0 da1c0)) [n130c95 na0 da0 da1c0])
  | _, _ => none
noncomputable def c130c95 : Ctr := genC [.ro [.sl [.int .i64]], .f [.rp [.int .i64]]] g130c95
theorem p130c95 (na0 : Nat) (da0 : Dat) (da1c0 : Dat) (hn : n130c95 na0 da0 da1c0 = true) : exec Try.prog [(95, c95)] (lamOf [(0, g130c95_0)]) 8 (Try.f130.body.getD .skip) (initS Try.f130.ntmps [.ro [.sl [.int .i64]] na0 da0, .fn 95 [.rp [.int .i64] da1c0 0 0]] 0 (memOf [])) (retK Try.prog Try.f130.results.toList (outK 0 (List.range 0) [] (.k) fun v U N => (v, U, N) = (q130c95 (m130c95 na0 da0 da1c0)))) :=
  propOf (x130c95 na0 da0 da1c0 _) (cnd_need (and_l hn) (cnd_of (fun h0 => leaf_of (l := (((o130c95_0 na0 da0 da1c0 ((↑na0 : Int)) 0).getD default).2.1)) (condT h0 rfl) rfl) (fun h0 => leaf_of (l := (-1)) (condF h0 rfl) rfl)))
theorem k130c95 : CtrOk Try.prog c130c95 130 := ctr_of (tabOk_cons k95 tabOk_nil) mix_ok 8 (fn := Try.f130) (c := (Try.f130.body.getD .skip)) (grs := []) (rh := .k) (Λ := (lamOf [(0, g130c95_0)])) Try.func130 rfl (by kernel_rfl) (lam_of rfl (lams_cons z130c95_0 lams_nil)) fun vs bs q h hn => by
  unfold g130c95 at h
  split at h <;> cases h
  exact ⟨_, rfl, p130c95 _ _ _ (hn _ (List.mem_singleton.2 rfl))⟩
/-! ### shotline/site.checkLists -/
noncomputable def l104_0 (t6_0 : Nat) (t6_1 : Dat) (t7 : Int) : Nat → Int → Option (Bool × (Int) × (Unit))
  | 0, _ => none
  | f + 1, t8 => (cond ((decide (t8 < t7))) (cond ((decide (0 ≤ t8 ∧ t8 < (↑t6_0 : Int)))) (cond ((n45 (t6_1.sn t8.toNat 0) (t6_1.sub t8.toNat 0))) (cond ((bif (decide ((m45 (t6_1.sn t8.toNat 0) (t6_1.sub t8.toNat 0)) = 0)) then false else true)) (some (true, (m45 (t6_1.sn t8.toNat 0) (t6_1.sub t8.toNat 0)), default)) (l104_0 t6_0 t6_1 t7 f (IntKind.i64.wrap (t8 + 1)))) none) none) (some (false, default, ())))
noncomputable abbrev o104_0 (t6_0 : Nat) (t6_1 : Dat) (t7 : Int) (t8 : Int) : Option (Bool × (Int) × (Unit)) := l104_0 t6_0 t6_1 t7 (t6_0 + t7.toNat + t8.toNat + 8) t8
noncomputable def e104_0 (t6_0 : Nat) (t6_1 : Dat) (t7 : Int) (r : Bool × (Int) × (Unit)) (K : XR) : Prop := cnd r.1 (K (XE.ret) [.int .i64 r.2.1] []) (K (XE.exit 0) [.any] [])
noncomputable def g104_0 : LSum := fun s k => match czv 0 18 [6, 7, 8] 0 [] s with
  | some ([.ro [.sl [.int .i64, .int .i64]] t6_0 t6_1, .int .i64 t7, .int .i64 t8], []) => needs [(o104_0 t6_0 t6_1 t7 t8).isSome] (e104_0 t6_0 t6_1 t7 ((o104_0 t6_0 t6_1 t7 t8).getD default) fun e vs bs => inBlk 0 k e (mkSt 0 18 [2] vs 0 bs))
  | _ => False
theorem y104_0 (t6_0 : Nat) (t6_1 : Dat) (t7 : Int) (t8 : Int) (R : XR) : exec Try.prog [(45, c45)] (fun _ => none) 8 (unloop (bodyAt (Try.f104.body.getD .skip) 0)) (mkSt 0 18 [6, 7, 8] [.ro [.sl [.int .i64, .int .i64]] t6_0 t6_1, .int .i64 t7, .int .i64 t8] 0 []) (canonK 0 18 [6, 7, 8] [2] 0 [] R) =
 (cnd ((decide (t8 < t7)))
 (cnd ((decide (0 ≤ t8 ∧ t8 < (↑t6_0 : Int))))
 (cnd ((n45 (t6_1.sn t8.toNat 0) (t6_1.sub t8.toNat 0)))
 (cnd ((bif (decide ((m45 (t6_1.sn t8.toNat 0) (t6_1.sub t8.toNat 0)) = 0)) then false else true))
 (R (XE.ret) [.int .i64 (m45 (t6_1.sn t8.toNat 0) (t6_1.sub t8.toNat 0))] [])
 (R (XE.normal) [.ro [.sl [.int .i64, .int .i64]] t6_0 t6_1, .int .i64 t7, .int .i64 (IntKind.i64.wrap (t8 + 1))] []))
    False)
   False)
 (R (XE.exit 0) [.any] [])) := by kernel_rfl
theorem z104_0 : LOk Try.prog g104_0 (.block 0 (bodyAt (Try.f104.body.getD .skip) 0)) := by
  refine loop_blk (ι := Nat × Dat × Int × Int) (L := [(45, c45)]) (Λ := (fun _ => none)) (fuel := 8) (na := 0) (nt := 18) (nx := 0) (Lh := [6, 7, 8]) (Le := [2]) (gl := []) (tabOk_cons k45 tabOk_nil) mix_ok noLam rfl (fun f x K => GG default (e104_0 x.1 x.2.1 x.2.2.1) K (l104_0 x.1 x.2.1 x.2.2.1 f x.2.2.2)) (fun x => [.ro [.sl [.int .i64, .int .i64]] x.1 x.2.1, .int .i64 x.2.2.1, .int .i64 x.2.2.2]) (fun x => []) (fun x K => gg_none) ?_ ?_
  · rintro f ⟨t6_0, t6_1, t7, t8⟩ K hG
    have hG : GG default (e104_0 t6_0 t6_1 t7) K (cond ((decide (t8 < t7))) (cond ((decide (0 ≤ t8 ∧ t8 < (↑t6_0 : Int)))) (cond ((n45 (t6_1.sn t8.toNat 0) (t6_1.sub t8.toNat 0))) (cond ((bif (decide ((m45 (t6_1.sn t8.toNat 0) (t6_1.sub t8.toNat 0)) = 0)) then false else true)) (some (true, (m45 (t6_1.sn t8.toNat 0) (t6_1.sub t8.toNat 0)), default)) (l104_0 t6_0 t6_1 t7 f (IntKind.i64.wrap (t8 + 1)))) none) none) (some (false, default, ()))) := hG
    refine propOf (y104_0 t6_0 t6_1 t7 t8 _) ?_
    exact cnd_gg2 hG (fun h0 => cnd_gg h0 fun h1 => cnd_gg h1 fun h2 => cnd_gg2 h2 (fun h3 => h3.2) (fun h3 => ⟨(t6_0, t6_1, t7, (IntKind.i64.wrap (t8 + 1))), rfl, rfl, h3⟩)) (fun h0 => h0.2)
  · intro s k h
    unfold g104_0 at h
    split at h <;> try exact h.elim
    rename_i e1
    rw [needs_iff] at h
    exact ⟨_, e1, _, (_, _, _, _), rfl, rfl, h.1 _ (List.mem_singleton.2 rfl), h.2⟩
theorem x104 (na0 : Nat) (da0 : Dat) (R : SV → List Blk → List Blk → Prop) : exec Try.prog [(45, c45)] (lamOf [(0, g104_0)]) 8 (Try.f104.body.getD .skip) (initS Try.f104.ntmps [.ro [.sl [.int .i64, .int .i64]] na0 da0] 0 (memOf [])) (retK Try.prog Try.f104.results.toList (outK 0 (List.range 0) [] (.k) fun v U N => R v U N)) =
 (cnd (((o104_0 na0 da0 ((↑na0 : Int)) 0).isSome))
 (cnd ((((o104_0 na0 da0 ((↑na0 : Int)) 0).getD default).1))
 (R (.int .i64 (((o104_0 na0 da0 ((↑na0 : Int)) 0).getD default).2.1)) [] [])
 (R (.int .i64 0) [] []))
  False) := by kernel_rfl
noncomputable def m104 (na0 : Nat) (da0 : Dat) : Int :=
 (cond ((((o104_0 na0 da0 ((↑na0 : Int)) 0).getD default).1)) (((o104_0 na0 da0 ((↑na0 : Int)) 0).getD default).2.1) 0)
noncomputable def n104 (na0 : Nat) (da0 : Dat) : Bool :=
 ((((o104_0 na0 da0 ((↑na0 : Int)) 0).isSome)) && true)
noncomputable def q104 (r : Int) : SV × List Blk × List Blk := (.int .i64 r, [], [])
noncomputable def g104 : List SV → List Blk → Option OpRes := fun vs bs => match vs, bs with
  | [.ro [.sl [.int .i64, .int .i64]] na0 da0], [] => some (resOf 0 (q104 (m104 na0 da0)) [n104 na0 da0])
  | _, _ => none
noncomputable def c104 : Ctr := genC [.ro [.sl [.int .i64, .int .i64]]] g104
theorem p104 (na0 : Nat) (da0 : Dat) (hn : n104 na0 da0 = true) : exec Try.prog [(45, c45)] (lamOf [(0, g104_0)]) 8 (Try.f104.body.getD .skip) (initS Try.f104.ntmps [.ro [.sl [.int .i64, .int .i64]] na0 da0] 0 (memOf [])) (retK Try.prog Try.f104.results.toList (outK 0 (List.range 0) [] (.k) fun v U N => (v, U, N) = (q104 (m104 na0 da0)))) :=
  propOf (x104 na0 da0 _) (cnd_need (and_l hn) (cnd_of (fun h0 => leaf_of (l := (((o104_0 na0 da0 ((↑na0 : Int)) 0).getD default).2.1)) (condT h0 rfl) rfl) (fun h0 => leaf_of (l := 0) (condF h0 rfl) rfl)))
theorem k104 : CtrOk Try.prog c104 104 := ctr_of (tabOk_cons k45 tabOk_nil) mix_ok 8 (fn := Try.f104) (c := (Try.f104.body.getD .skip)) (grs := []) (rh := .k) (Λ := (lamOf [(0, g104_0)])) Try.func104 rfl (by kernel_rfl) (lam_of rfl (lams_cons z104_0 lams_nil)) fun vs bs q h hn => by
  unfold g104 at h
  split at h <;> cases h
  exact ⟨_, rfl, p104 _ _ (hn _ (List.mem_singleton.2 rfl))⟩
/-! ### shotline/shotlinelaw08.Tide -/
theorem x77  (R : SV → List Blk → List Blk → Prop) : exec Try.prog [] (fun _ => none) 8 (Try.f77.body.getD .skip) (initS Try.f77.ntmps [] 0 (memOf [])) (retK Try.prog Try.f77.results.toList (outK 0 (List.range 0) [] (.t [.k, .ro [.int .i64, .int .i64, .int .i64]]) fun v U N => R v U N)) =
 (R (.agg [.int .i64 200, .ro [.int .i64, .int .i64, .int .i64] 1 (datS [.int .i64 100, .int .i64 4096, .int .i64 0] 3)]) [] []) := by kernel_rfl
noncomputable def m77  : Int × Dat :=
 (200, (datS [.int .i64 100, .int .i64 4096, .int .i64 0] 3))
noncomputable def q77 (r : Int × Dat) : SV × List Blk × List Blk := (.agg [.int .i64 r.1, .ro [.int .i64, .int .i64, .int .i64] 1 r.2], [], [])
noncomputable def g77 : List SV → List Blk → Option OpRes := fun vs bs => match vs, bs with
  | [], [] => some (resOf 0 (q77 (m77)) [])
  | _, _ => none
noncomputable def c77 : Ctr := genC [] g77
theorem p77  : exec Try.prog [] (fun _ => none) 8 (Try.f77.body.getD .skip) (initS Try.f77.ntmps [] 0 (memOf [])) (retK Try.prog Try.f77.results.toList (outK 0 (List.range 0) [] (.t [.k, .ro [.int .i64, .int .i64, .int .i64]]) fun v U N => (v, U, N) = (q77 (m77)))) :=
  propOf (x77  _) (leaf_of (l := (200, (datS [.int .i64 100, .int .i64 4096, .int .i64 0] 3))) rfl rfl)
theorem k77 : CtrOk Try.prog c77 77 := ctr_of tabOk_nil mix_ok 8 (fn := Try.f77) (c := (Try.f77.body.getD .skip)) (grs := []) (rh := .t [.k, .ro [.int .i64, .int .i64, .int .i64]]) (Λ := (fun _ => none)) Try.func77 rfl (by kernel_rfl) noLam fun vs bs q h _ => by
  unfold g77 at h
  split at h <;> cases h
  exact ⟨_, rfl, p77 ⟩
/-! ### math/bits.Len32 -/
theorem x155 (a0 : Int) (R : SV → List Blk → List Blk → Prop) : exec Try.prog [] (fun _ => none) 8 (Try.f155.body.getD .skip) (initS Try.f155.ntmps [.int .u32 a0] 0 (memOf [])) (retK Try.prog Try.f155.results.toList (outK 0 (List.range 0) [] (.k) fun v U N => R v U N)) =
 (cnd ((decide (65536 ≤ a0)))
 (cnd ((decide (256 ≤ (a0.fdiv 65536))))
 (cnd ((decide (0 ≤ IntKind.u8.wrap ((a0.fdiv (2 ^ min (Int.toNat 16) IntKind.u32.bits)).fdiv (2 ^ min (Int.toNat 8) IntKind.u32.bits)) ∧ IntKind.u8.wrap ((a0.fdiv (2 ^ min (Int.toNat 16) IntKind.u32.bits)).fdiv (2 ^ min (Int.toNat 8) IntKind.u32.bits)) < (↑bt8314_0.size : Int))))
 (R (.int .i64 (IntKind.i64.wrap (24 + (IntKind.i64.wrap (byteAt (bt78892_1) ((IntKind.u8.wrap ((a0.fdiv 65536).fdiv 256)).toNat)))))) [] [])
    False)
 (cnd ((decide (0 ≤ IntKind.u8.wrap (a0.fdiv (2 ^ min (Int.toNat 16) IntKind.u32.bits)) ∧ IntKind.u8.wrap (a0.fdiv (2 ^ min (Int.toNat 16) IntKind.u32.bits)) < (↑bt8314_0.size : Int))))
 (R (.int .i64 (IntKind.i64.wrap (16 + (IntKind.i64.wrap (byteAt (bt78892_1) ((IntKind.u8.wrap (a0.fdiv 65536)).toNat)))))) [] [])
    False))
 (cnd ((decide (256 ≤ a0)))
 (cnd ((decide (0 ≤ IntKind.u8.wrap (a0.fdiv (2 ^ min (Int.toNat 8) IntKind.u32.bits)) ∧ IntKind.u8.wrap (a0.fdiv (2 ^ min (Int.toNat 8) IntKind.u32.bits)) < (↑bt8314_0.size : Int))))
 (R (.int .i64 (IntKind.i64.wrap (8 + (IntKind.i64.wrap (byteAt (bt78892_1) ((IntKind.u8.wrap (a0.fdiv 256)).toNat)))))) [] [])
    False)
 (cnd ((decide ((0 : Int) ≤ IntKind.u8.wrap a0 ∧ IntKind.u8.wrap a0 < (↑bt67477_2.size : Int))))
 (R (.int .i64 (IntKind.i64.wrap (0 + (IntKind.i64.wrap (byteAt (bt78892_1) ((IntKind.u8.wrap a0).toNat)))))) [] [])
    False))) := by kernel_rfl
noncomputable def m155 (a0 : Int) : Int :=
 (cond ((decide (65536 ≤ a0))) (cond ((decide (256 ≤ (a0.fdiv 65536)))) (IntKind.i64.wrap (24 + (IntKind.i64.wrap (byteAt (bt78892_1) ((IntKind.u8.wrap ((a0.fdiv 65536).fdiv 256)).toNat))))) (IntKind.i64.wrap (16 + (IntKind.i64.wrap (byteAt (bt78892_1) ((IntKind.u8.wrap (a0.fdiv 65536)).toNat)))))) (cond ((decide (256 ≤ a0))) (IntKind.i64.wrap (8 + (IntKind.i64.wrap (byteAt (bt78892_1) ((IntKind.u8.wrap (a0.fdiv 256)).toNat))))) (IntKind.i64.wrap (0 + (IntKind.i64.wrap (byteAt (bt78892_1) ((IntKind.u8.wrap a0).toNat)))))))
noncomputable def n155 (a0 : Int) : Bool :=
 (cond ((decide (65536 ≤ a0))) (cond ((decide (256 ≤ (a0.fdiv 65536)))) (((decide (0 ≤ IntKind.u8.wrap ((a0.fdiv (2 ^ min (Int.toNat 16) IntKind.u32.bits)).fdiv (2 ^ min (Int.toNat 8) IntKind.u32.bits)) ∧ IntKind.u8.wrap ((a0.fdiv (2 ^ min (Int.toNat 16) IntKind.u32.bits)).fdiv (2 ^ min (Int.toNat 8) IntKind.u32.bits)) < (↑bt8314_0.size : Int)))) && true) (((decide (0 ≤ IntKind.u8.wrap (a0.fdiv (2 ^ min (Int.toNat 16) IntKind.u32.bits)) ∧ IntKind.u8.wrap (a0.fdiv (2 ^ min (Int.toNat 16) IntKind.u32.bits)) < (↑bt8314_0.size : Int)))) && true)) (cond ((decide (256 ≤ a0))) (((decide (0 ≤ IntKind.u8.wrap (a0.fdiv (2 ^ min (Int.toNat 8) IntKind.u32.bits)) ∧ IntKind.u8.wrap (a0.fdiv (2 ^ min (Int.toNat 8) IntKind.u32.bits)) < (↑bt8314_0.size : Int)))) && true) (((decide ((0 : Int) ≤ IntKind.u8.wrap a0 ∧ IntKind.u8.wrap a0 < (↑bt67477_2.size : Int)))) && true)))
noncomputable def q155 (r : Int) : SV × List Blk × List Blk := (.int .i64 r, [], [])
noncomputable def g155 : List SV → List Blk → Option OpRes := fun vs bs => match vs, bs with
  | [.int .u32 a0], [] => some (resOf 0 (q155 (m155 a0)) [n155 a0])
  | _, _ => none
noncomputable def c155 : Ctr := genC [.k] g155
theorem p155 (a0 : Int) (hn : n155 a0 = true) : exec Try.prog [] (fun _ => none) 8 (Try.f155.body.getD .skip) (initS Try.f155.ntmps [.int .u32 a0] 0 (memOf [])) (retK Try.prog Try.f155.results.toList (outK 0 (List.range 0) [] (.k) fun v U N => (v, U, N) = (q155 (m155 a0)))) :=
  propOf (x155 a0 _) (cnd_of (fun h0 => cnd_of (fun h1 => cnd_need (and_l (cond_t h1 (cond_t h0 hn))) (leaf_of (l := (IntKind.i64.wrap (24 + (IntKind.i64.wrap (byteAt (bt78892_1) ((IntKind.u8.wrap ((a0.fdiv 65536).fdiv 256)).toNat)))))) (condT h0 (condT h1 rfl)) rfl)) (fun h1 => cnd_need (and_l (cond_f h1 (cond_t h0 hn))) (leaf_of (l := (IntKind.i64.wrap (16 + (IntKind.i64.wrap (byteAt (bt78892_1) ((IntKind.u8.wrap (a0.fdiv 65536)).toNat)))))) (condT h0 (condF h1 rfl)) rfl))) (fun h0 => cnd_of (fun h1 => cnd_need (and_l (cond_t h1 (cond_f h0 hn))) (leaf_of (l := (IntKind.i64.wrap (8 + (IntKind.i64.wrap (byteAt (bt78892_1) ((IntKind.u8.wrap (a0.fdiv 256)).toNat)))))) (condF h0 (condT h1 rfl)) rfl)) (fun h1 => cnd_need (and_l (cond_f h1 (cond_f h0 hn))) (leaf_of (l := (IntKind.i64.wrap (0 + (IntKind.i64.wrap (byteAt (bt78892_1) ((IntKind.u8.wrap a0).toNat)))))) (condF h0 (condF h1 rfl)) rfl))))
theorem k155 : CtrOk Try.prog c155 155 := ctr_of tabOk_nil mix_ok 8 (fn := Try.f155) (c := (Try.f155.body.getD .skip)) (grs := []) (rh := .k) (Λ := (fun _ => none)) Try.func155 rfl (by kernel_rfl) noLam fun vs bs q h hn => by
  unfold g155 at h
  split at h <;> cases h
  exact ⟨_, rfl, p155 _ (hn _ (List.mem_singleton.2 rfl))⟩
/-! ### shotline/shotlinelaw08.Chart -/
theorem x78  (R : SV → List Blk → List Blk → Prop) : exec Try.prog [(3, cSeal)] (fun _ => none) 8 (Try.f78.body.getD .skip) (initS Try.f78.ntmps [] 0 (memOf [])) (retK Try.prog Try.f78.results.toList (outK 0 (List.range 0) [] (.t [.ro [.str], .ro [.sl [.int .i64]]]) fun v U N => R v U N)) =
 (R (.agg [.ro [.str] 3 (datS [SV.str (({ data := #[OfNat.ofNat 97] } : ByteArray)), SV.str (({ data := #[OfNat.ofNat 98] } : ByteArray)), SV.str (({ data := #[OfNat.ofNat 99] } : ByteArray))] 1), .ro [.sl [.int .i64]] 3 (datS [SV.ro [Kd.int IntKind.i64] 3 (datS [.int .i64 0, .int .i64 10, .int .i64 30] 1), SV.ro [Kd.int IntKind.i64] 3 (datS [.int .i64 10, .int .i64 0, .int .i64 10] 1), SV.ro [Kd.int IntKind.i64] 3 (datS [.int .i64 30, .int .i64 10, .int .i64 0] 1)] 1)]) [] []) := by kernel_rfl
noncomputable def m78  : Dat × Dat :=
 ((datS [SV.str (({ data := #[OfNat.ofNat 97] } : ByteArray)), SV.str (({ data := #[OfNat.ofNat 98] } : ByteArray)), SV.str (({ data := #[OfNat.ofNat 99] } : ByteArray))] 1), (datS [SV.ro [Kd.int IntKind.i64] 3 (datS [.int .i64 0, .int .i64 10, .int .i64 30] 1), SV.ro [Kd.int IntKind.i64] 3 (datS [.int .i64 10, .int .i64 0, .int .i64 10] 1), SV.ro [Kd.int IntKind.i64] 3 (datS [.int .i64 30, .int .i64 10, .int .i64 0] 1)] 1))
noncomputable def q78 (r : Dat × Dat) : SV × List Blk × List Blk := (.agg [.ro [.str] 3 r.1, .ro [.sl [.int .i64]] 3 r.2], [], [])
noncomputable def g78 : List SV → List Blk → Option OpRes := fun vs bs => match vs, bs with
  | [], [] => some (resOf 0 (q78 (m78)) [])
  | _, _ => none
noncomputable def c78 : Ctr := genC [] g78
theorem p78  : exec Try.prog [(3, cSeal)] (fun _ => none) 8 (Try.f78.body.getD .skip) (initS Try.f78.ntmps [] 0 (memOf [])) (retK Try.prog Try.f78.results.toList (outK 0 (List.range 0) [] (.t [.ro [.str], .ro [.sl [.int .i64]]]) fun v U N => (v, U, N) = (q78 (m78)))) :=
  propOf (x78  _) (leaf_of (l := ((datS [SV.str (({ data := #[OfNat.ofNat 97] } : ByteArray)), SV.str (({ data := #[OfNat.ofNat 98] } : ByteArray)), SV.str (({ data := #[OfNat.ofNat 99] } : ByteArray))] 1), (datS [SV.ro [Kd.int IntKind.i64] 3 (datS [.int .i64 0, .int .i64 10, .int .i64 30] 1), SV.ro [Kd.int IntKind.i64] 3 (datS [.int .i64 10, .int .i64 0, .int .i64 10] 1), SV.ro [Kd.int IntKind.i64] 3 (datS [.int .i64 30, .int .i64 10, .int .i64 0] 1)] 1))) rfl rfl)
theorem k78 : CtrOk Try.prog c78 78 := ctr_of (tabOk_cons kSeal tabOk_nil) mix_ok 8 (fn := Try.f78) (c := (Try.f78.body.getD .skip)) (grs := []) (rh := .t [.ro [.str], .ro [.sl [.int .i64]]]) (Λ := (fun _ => none)) Try.func78 rfl (by kernel_rfl) noLam fun vs bs q h _ => by
  unfold g78 at h
  split at h <;> cases h
  exact ⟨_, rfl, p78 ⟩
/-! ### slices.Contains[[]string,string] -/
theorem x93 (na0 : Nat) (da0 : Dat) (a1 : ByteArray) (R : SV → List Blk → List Blk → Prop) : exec Try.prog [(129, c129)] (fun _ => none) 8 (Try.f93.body.getD .skip) (initS Try.f93.ntmps [.ro [.str] na0 da0, .str a1] 0 (memOf [])) (retK Try.prog Try.f93.results.toList (outK 0 (List.range 0) [] (.k) fun v U N => R v U N)) =
 (cnd ((n129 na0 da0 a1))
 (R (.bool (decide (0 ≤ (m129 na0 da0 a1)))) [] [])
  False) := by kernel_rfl
noncomputable def m93 (na0 : Nat) (da0 : Dat) (a1 : ByteArray) : Bool :=
 (decide (0 ≤ (m129 na0 da0 a1)))
noncomputable def n93 (na0 : Nat) (da0 : Dat) (a1 : ByteArray) : Bool :=
 (((n129 na0 da0 a1)) && true)
noncomputable def q93 (r : Bool) : SV × List Blk × List Blk := (.bool r, [], [])
noncomputable def g93 : List SV → List Blk → Option OpRes := fun vs bs => match vs, bs with
  | [.ro [.str] na0 da0, .str a1], [] => some (resOf 0 (q93 (m93 na0 da0 a1)) [n93 na0 da0 a1])
  | _, _ => none
noncomputable def c93 : Ctr := genC [.ro [.str], .k] g93
theorem p93 (na0 : Nat) (da0 : Dat) (a1 : ByteArray) (hn : n93 na0 da0 a1 = true) : exec Try.prog [(129, c129)] (fun _ => none) 8 (Try.f93.body.getD .skip) (initS Try.f93.ntmps [.ro [.str] na0 da0, .str a1] 0 (memOf [])) (retK Try.prog Try.f93.results.toList (outK 0 (List.range 0) [] (.k) fun v U N => (v, U, N) = (q93 (m93 na0 da0 a1)))) :=
  propOf (x93 na0 da0 a1 _) (cnd_need (and_l hn) (leaf_of (l := (decide (0 ≤ (m129 na0 da0 a1)))) rfl rfl))
theorem k93 : CtrOk Try.prog c93 93 := ctr_of (tabOk_cons k129 tabOk_nil) mix_ok 8 (fn := Try.f93) (c := (Try.f93.body.getD .skip)) (grs := []) (rh := .k) (Λ := (fun _ => none)) Try.func93 rfl (by kernel_rfl) noLam fun vs bs q h hn => by
  unfold g93 at h
  split at h <;> cases h
  exact ⟨_, rfl, p93 _ _ _ (hn _ (List.mem_singleton.2 rfl))⟩
/-! ### slices.ContainsFunc[[][]int,[]int] -/
theorem x94c95 (na0 : Nat) (da0 : Dat) (da1c0 : Dat) (R : SV → List Blk → List Blk → Prop) : exec Try.prog [(95, c95), (130, c130c95)] (fun _ => none) 8 (Try.f94.body.getD .skip) (initS Try.f94.ntmps [.ro [.sl [.int .i64]] na0 da0, .fn 95 [.rp [.int .i64] da1c0 0 0]] 0 (memOf [])) (retK Try.prog Try.f94.results.toList (outK 0 (List.range 0) [] (.k) fun v U N => R v U N)) =
 (cnd ((n130c95 na0 da0 da1c0))
 (R (.bool (decide (0 ≤ (m130c95 na0 da0 da1c0)))) [] [])
  False) := by kernel_rfl
noncomputable def m94c95 (na0 : Nat) (da0 : Dat) (da1c0 : Dat) : Bool :=
 (decide (0 ≤ (m130c95 na0 da0 da1c0)))
noncomputable def n94c95 (na0 : Nat) (da0 : Dat) (da1c0 : Dat) : Bool :=
 (((n130c95 na0 da0 da1c0)) && true)
noncomputable def q94c95 (r : Bool) : SV × List Blk × List Blk := (.bool r, [], [])
noncomputable def g94c95 : List SV → List Blk → Option OpRes := fun vs bs => match vs, bs with
  | [.ro [.sl [.int .i64]] na0 da0, .fn 95 [.rp [.int .i64] da1c0 0 0]], [] => some (resOf 0 (q94c95 (m94c95 na0 da0 da1c0)) [n94c95 na0 da0 da1c0])
  | _, _ => none
noncomputable def c94c95 : Ctr := genC [.ro [.sl [.int .i64]], .f [.rp [.int .i64]]] g94c95
theorem p94c95 (na0 : Nat) (da0 : Dat) (da1c0 : Dat) (hn : n94c95 na0 da0 da1c0 = true) : exec Try.prog [(95, c95), (130, c130c95)] (fun _ => none) 8 (Try.f94.body.getD .skip) (initS Try.f94.ntmps [.ro [.sl [.int .i64]] na0 da0, .fn 95 [.rp [.int .i64] da1c0 0 0]] 0 (memOf [])) (retK Try.prog Try.f94.results.toList (outK 0 (List.range 0) [] (.k) fun v U N => (v, U, N) = (q94c95 (m94c95 na0 da0 da1c0)))) :=
  propOf (x94c95 na0 da0 da1c0 _) (cnd_need (and_l hn) (leaf_of (l := (decide (0 ≤ (m130c95 na0 da0 da1c0)))) rfl rfl))
theorem k94c95 : CtrOk Try.prog c94c95 94 := ctr_of (tabOk_cons k95 (tabOk_cons k130c95 tabOk_nil)) mix_ok 8 (fn := Try.f94) (c := (Try.f94.body.getD .skip)) (grs := []) (rh := .k) (Λ := (fun _ => none)) Try.func94 rfl (by kernel_rfl) noLam fun vs bs q h hn => by
  unfold g94c95 at h
  split at h <;> cases h
  exact ⟨_, rfl, p94c95 _ _ _ (hn _ (List.mem_singleton.2 rfl))⟩
/-! ### math/bits.Len -/
theorem x138 (a0 : Int) (R : SV → List Blk → List Blk → Prop) : exec Try.prog [(155, c155), (156, c156)] (fun _ => none) 8 (Try.f138.body.getD .skip) (initS Try.f138.ntmps [.int .u64 a0] 0 (memOf [])) (retK Try.prog Try.f138.results.toList (outK 0 (List.range 0) [] (.k) fun v U N => R v U N)) =
 (cnd ((n156 a0))
 (R (.int .i64 (m156 a0)) [] [])
  False) := by kernel_rfl
noncomputable def m138 (a0 : Int) : Int :=
 (m156 a0)
noncomputable def n138 (a0 : Int) : Bool :=
 (((n156 a0)) && true)
noncomputable def q138 (r : Int) : SV × List Blk × List Blk := (.int .i64 r, [], [])
noncomputable def g138 : List SV → List Blk → Option OpRes := fun vs bs => match vs, bs with
  | [.int .u64 a0], [] => some (resOf 0 (q138 (m138 a0)) [n138 a0])
  | _, _ => none
noncomputable def c138 : Ctr := genC [.k] g138
theorem p138 (a0 : Int) (hn : n138 a0 = true) : exec Try.prog [(155, c155), (156, c156)] (fun _ => none) 8 (Try.f138.body.getD .skip) (initS Try.f138.ntmps [.int .u64 a0] 0 (memOf [])) (retK Try.prog Try.f138.results.toList (outK 0 (List.range 0) [] (.k) fun v U N => (v, U, N) = (q138 (m138 a0)))) :=
  propOf (x138 a0 _) (cnd_need (and_l hn) (leaf_of (l := (m156 a0)) rfl rfl))
theorem k138 : CtrOk Try.prog c138 138 := ctr_of (tabOk_cons k155 (tabOk_cons k156 tabOk_nil)) mix_ok 8 (fn := Try.f138) (c := (Try.f138.body.getD .skip)) (grs := []) (rh := .k) (Λ := (fun _ => none)) Try.func138 rfl (by kernel_rfl) noLam fun vs bs q h hn => by
  unfold g138 at h
  split at h <;> cases h
  exact ⟨_, rfl, p138 _ (hn _ (List.mem_singleton.2 rfl))⟩
/-! ### shotline/site.CheckChart -/
noncomputable def l28_0 (t16_0 : Nat) (t16_1 : Dat) (t17 : Int) (b0_1 : Dat) (b0_2 : Nat) (b0_3 : Dat) (b1_0 : Int) : Nat → Int → Option (Bool × (Int) × (Unit))
  | 0, _ => none
  | f + 1, t18 => (cond ((decide (t18 < t17))) (cond ((decide (0 ≤ t18 ∧ t18 < (↑t16_0 : Int)))) (cond ((n92 (t16_1.ss t18.toNat 0))) (cond ((bif (m92 (t16_1.ss t18.toNat 0)) then false else true)) (some (true, 4, default)) (cond ((decide ((0 : Int) ≤ (0 : Int) ∧ (0 : Int) ≤ t18 ∧ t18 ≤ (↑t16_0 : Int)))) (cond ((n93 ((t18 - 0).toNat) b0_1 (t16_1.ss t18.toNat 0))) (cond ((m93 ((t18 - 0).toNat) b0_1 (t16_1.ss t18.toNat 0))) (some (true, 5, default)) (l28_0 t16_0 t16_1 t17 b0_1 b0_2 b0_3 b1_0 f (IntKind.i64.wrap (t18 + 1)))) none) none)) none) none) (some (false, default, ())))
noncomputable abbrev o28_0 (t16_0 : Nat) (t16_1 : Dat) (t17 : Int) (b0_1 : Dat) (b0_2 : Nat) (b0_3 : Dat) (b1_0 : Int) (t18 : Int) : Option (Bool × (Int) × (Unit)) := l28_0 t16_0 t16_1 t17 b0_1 b0_2 b0_3 b1_0 (t16_0 + t17.toNat + t18.toNat + b0_2 + b1_0.toNat + 8) t18
noncomputable def e28_0 (t16_0 : Nat) (t16_1 : Dat) (t17 : Int) (b0_1 : Dat) (b0_2 : Nat) (b0_3 : Dat) (b1_0 : Int) (r : Bool × (Int) × (Unit)) (K : XR) : Prop := cnd r.1 (K (XE.ret) [.ptr 0 0, .int .i64 r.2.1, .ptr 1 0] [.cells 43 [.ro [.str] t16_0 b0_1, .ro [.sl [.int .i64]] b0_2 b0_3], .cells 3 [.int .i64 b1_0]]) (K (XE.exit 0) [.ptr 0 0, .any, .ptr 1 0] [.cells 43 [.ro [.str] t16_0 b0_1, .ro [.sl [.int .i64]] b0_2 b0_3], .cells 3 [.int .i64 b1_0]])
noncomputable def g28_0 : LSum := fun s k => match czv 0 75 [1, 3, 16, 17, 18] 2 [] s with
  | some ([.ptr 0 0, .ptr 1 0, .ro [.str] t16_0 t16_1, .int .i64 t17, .int .i64 t18], [.cells 43 [.ro [.str] b0_0 b0_1, .ro [.sl [.int .i64]] b0_2 b0_3], .cells 3 [.int .i64 b1_0]]) => needs [decide (t16_0 = b0_0), (o28_0 t16_0 t16_1 t17 b0_1 b0_2 b0_3 b1_0 t18).isSome] (e28_0 t16_0 t16_1 t17 b0_1 b0_2 b0_3 b1_0 ((o28_0 t16_0 t16_1 t17 b0_1 b0_2 b0_3 b1_0 t18).getD default) fun e vs bs => inBlk 0 k e (mkSt 0 75 [1, 2, 3] vs 2 bs))
  | _ => False
theorem y28_0 (t16_0 : Nat) (t16_1 : Dat) (t17 : Int) (t18 : Int) (b0_1 : Dat) (b0_2 : Nat) (b0_3 : Dat) (b1_0 : Int) (R : XR) : exec Try.prog [(92, c92), (93, c93), (94, c94c95), (95, c95), (96, c96)] (fun _ => none) 8 (unloop (bodyAt (Try.f28.body.getD .skip) 0)) (mkSt 0 75 [1, 3, 16, 17, 18] [.ptr 0 0, .ptr 1 0, .ro [.str] t16_0 t16_1, .int .i64 t17, .int .i64 t18] 2 [.cells 43 [.ro [.str] t16_0 b0_1, .ro [.sl [.int .i64]] b0_2 b0_3], .cells 3 [.int .i64 b1_0]]) (canonK 0 75 [1, 3, 16, 17, 18] [1, 2, 3] 2 [] R) =
 (cnd ((decide (t18 < t17)))
 (cnd ((decide (0 ≤ t18 ∧ t18 < (↑t16_0 : Int))))
 (cnd ((n92 (t16_1.ss t18.toNat 0)))
 (cnd ((bif (m92 (t16_1.ss t18.toNat 0)) then false else true))
 (R (XE.ret) [.ptr 0 0, .int .i64 4, .ptr 1 0] [.cells 43 [.ro [.str] t16_0 b0_1, .ro [.sl [.int .i64]] b0_2 b0_3], .cells 3 [.int .i64 b1_0]])
 (cnd ((decide ((0 : Int) ≤ (0 : Int) ∧ (0 : Int) ≤ t18 ∧ t18 ≤ (↑t16_0 : Int))))
 (cnd ((n93 ((t18 - 0).toNat) b0_1 (t16_1.ss t18.toNat 0)))
 (cnd ((m93 ((t18 - 0).toNat) b0_1 (t16_1.ss t18.toNat 0)))
 (R (XE.ret) [.ptr 0 0, .int .i64 5, .ptr 1 0] [.cells 43 [.ro [.str] t16_0 b0_1, .ro [.sl [.int .i64]] b0_2 b0_3], .cells 3 [.int .i64 b1_0]])
 (R (XE.normal) [.ptr 0 0, .ptr 1 0, .ro [.str] t16_0 t16_1, .int .i64 t17, .int .i64 (IntKind.i64.wrap (t18 + 1))] [.cells 43 [.ro [.str] t16_0 b0_1, .ro [.sl [.int .i64]] b0_2 b0_3], .cells 3 [.int .i64 b1_0]]))
       False)
      False))
    False)
   False)
 (R (XE.exit 0) [.ptr 0 0, .any, .ptr 1 0] [.cells 43 [.ro [.str] t16_0 b0_1, .ro [.sl [.int .i64]] b0_2 b0_3], .cells 3 [.int .i64 b1_0]])) := by kernel_rfl
theorem z28_0 : LOk Try.prog g28_0 (.block 0 (bodyAt (Try.f28.body.getD .skip) 0)) := by
  refine loop_blk (ι := Nat × Dat × Int × Int × Dat × Nat × Dat × Int) (L := [(92, c92), (93, c93), (94, c94c95), (95, c95), (96, c96)]) (Λ := (fun _ => none)) (fuel := 8) (na := 0) (nt := 75) (nx := 2) (Lh := [1, 3, 16, 17, 18]) (Le := [1, 2, 3]) (gl := []) (tabOk_cons k92 (tabOk_cons k93 (tabOk_cons k94c95 (tabOk_cons k95 (tabOk_cons k96 tabOk_nil))))) mix_ok noLam rfl (fun f x K => GG default (e28_0 x.1 x.2.1 x.2.2.1 x.2.2.2.2.1 x.2.2.2.2.2.1 x.2.2.2.2.2.2.1 x.2.2.2.2.2.2.2) K (l28_0 x.1 x.2.1 x.2.2.1 x.2.2.2.2.1 x.2.2.2.2.2.1 x.2.2.2.2.2.2.1 x.2.2.2.2.2.2.2 f x.2.2.2.1)) (fun x => [.ptr 0 0, .ptr 1 0, .ro [.str] x.1 x.2.1, .int .i64 x.2.2.1, .int .i64 x.2.2.2.1]) (fun x => [.cells 43 [.ro [.str] x.1 x.2.2.2.2.1, .ro [.sl [.int .i64]] x.2.2.2.2.2.1 x.2.2.2.2.2.2.1], .cells 3 [.int .i64 x.2.2.2.2.2.2.2]]) (fun x K => gg_none) ?_ ?_
  · rintro f ⟨t16_0, t16_1, t17, t18, b0_1, b0_2, b0_3, b1_0⟩ K hG
    have hG : GG default (e28_0 t16_0 t16_1 t17 b0_1 b0_2 b0_3 b1_0) K (cond ((decide (t18 < t17))) (cond ((decide (0 ≤ t18 ∧ t18 < (↑t16_0 : Int)))) (cond ((n92 (t16_1.ss t18.toNat 0))) (cond ((bif (m92 (t16_1.ss t18.toNat 0)) then false else true)) (some (true, 4, default)) (cond ((decide ((0 : Int) ≤ (0 : Int) ∧ (0 : Int) ≤ t18 ∧ t18 ≤ (↑t16_0 : Int)))) (cond ((n93 ((t18 - 0).toNat) b0_1 (t16_1.ss t18.toNat 0))) (cond ((m93 ((t18 - 0).toNat) b0_1 (t16_1.ss t18.toNat 0))) (some (true, 5, default)) (l28_0 t16_0 t16_1 t17 b0_1 b0_2 b0_3 b1_0 f (IntKind.i64.wrap (t18 + 1)))) none) none)) none) none) (some (false, default, ()))) := hG
    refine propOf (y28_0 t16_0 t16_1 t17 t18 b0_1 b0_2 b0_3 b1_0 _) ?_
    exact cnd_gg2 hG (fun h0 => cnd_gg h0 fun h1 => cnd_gg h1 fun h2 => cnd_gg2 h2 (fun h3 => h3.2) (fun h3 => cnd_gg h3 fun h4 => cnd_gg h4 fun h5 => cnd_gg2 h5 (fun h6 => h6.2) (fun h6 => ⟨(t16_0, t16_1, t17, (IntKind.i64.wrap (t18 + 1)), b0_1, b0_2, b0_3, b1_0), rfl, rfl, h6⟩))) (fun h0 => h0.2)
  · intro s k h
    unfold g28_0 at h
    split at h <;> try exact h.elim
    rename_i e1
    rw [needs_iff] at h
    have hq := h.1
    simp only [List.mem_cons, forall_eq_or_imp, decide_eq_true_eq, List.not_mem_nil, false_imp_iff, implies_true, and_true] at hq
    obtain ⟨rfl, hq⟩ := hq
    exact ⟨_, e1, _, (_, _, _, _, _, _, _, _), rfl, rfl, hq, h.2⟩
noncomputable def l28_5 (t6 : Int) (t47_0 : Nat) (t47_1 : Dat) (t48 : Int) (t49 : Int) (t54_0 : Nat) (t54_1 : Dat) (t55 : Int) (b0_1 : Dat) (b0_3 : Dat) (b1_0 : Int) : Nat → Int → Option (Bool × (Int) × (Unit))
  | 0, _ => none
  | f + 1, t56 => (cond ((decide (t56 < t55))) (cond ((decide (0 ≤ t56 ∧ t56 < (↑t54_0 : Int)))) (cond ((bif (m96 (t54_1.ii t56.toNat 0) (-1) 10000) then false else true)) (some (true, 2, default)) (cond ((bif (decide (t6 = t56)) then (bif (decide ((t54_1.ii t56.toNat 0) = 0)) then false else true) else false)) (some (true, 3, default)) (l28_5 t6 t47_0 t47_1 t48 t49 t54_0 t54_1 t55 b0_1 b0_3 b1_0 f (IntKind.i64.wrap (t56 + 1))))) none) (some (false, default, ())))
noncomputable abbrev o28_5 (t6 : Int) (t47_0 : Nat) (t47_1 : Dat) (t48 : Int) (t49 : Int) (t54_0 : Nat) (t54_1 : Dat) (t55 : Int) (b0_1 : Dat) (b0_3 : Dat) (b1_0 : Int) (t56 : Int) : Option (Bool × (Int) × (Unit)) := l28_5 t6 t47_0 t47_1 t48 t49 t54_0 t54_1 t55 b0_1 b0_3 b1_0 (t6.toNat + t47_0 + t48.toNat + t49.toNat + t54_0 + t55.toNat + t56.toNat + b1_0.toNat + 8) t56
noncomputable def e28_5 (t6 : Int) (t47_0 : Nat) (t47_1 : Dat) (t48 : Int) (t49 : Int) (t54_0 : Nat) (t54_1 : Dat) (t55 : Int) (b0_1 : Dat) (b0_3 : Dat) (b1_0 : Int) (r : Bool × (Int) × (Unit)) (K : XR) : Prop := cnd r.1 (K (XE.ret) [.int .i64 r.2.1, .ro [.sl [.int .i64]] t47_0 t47_1, .int .i64 t48, .int .i64 t49] [.cells 43 [.ro [.str] t47_0 b0_1, .ro [.sl [.int .i64]] t47_0 b0_3], .cells 3 [.int .i64 b1_0]]) (K (XE.exit 5) [.any, .ro [.sl [.int .i64]] t47_0 t47_1, .int .i64 t48, .int .i64 t49] [.cells 43 [.ro [.str] t47_0 b0_1, .ro [.sl [.int .i64]] t47_0 b0_3], .cells 3 [.int .i64 b1_0]])
noncomputable def g28_5 : LSum := fun s k => match czv 0 75 [6, 47, 48, 49, 54, 55, 56] 2 [] s with
  | some ([.int .i64 t6, .ro [.sl [.int .i64]] t47_0 t47_1, .int .i64 t48, .int .i64 t49, .ro [.int .i64] t54_0 t54_1, .int .i64 t55, .int .i64 t56], [.cells 43 [.ro [.str] b0_0 b0_1, .ro [.sl [.int .i64]] b0_2 b0_3], .cells 3 [.int .i64 b1_0]]) => needs [decide (t47_0 = b0_0), decide (t47_0 = b0_2), (o28_5 t6 t47_0 t47_1 t48 t49 t54_0 t54_1 t55 b0_1 b0_3 b1_0 t56).isSome] (e28_5 t6 t47_0 t47_1 t48 t49 t54_0 t54_1 t55 b0_1 b0_3 b1_0 ((o28_5 t6 t47_0 t47_1 t48 t49 t54_0 t54_1 t55 b0_1 b0_3 b1_0 t56).getD default) fun e vs bs => inBlk 5 k e (mkSt 0 75 [2, 47, 48, 49] vs 2 bs))
  | _ => False
theorem y28_5 (t6 : Int) (t47_0 : Nat) (t47_1 : Dat) (t48 : Int) (t49 : Int) (t54_0 : Nat) (t54_1 : Dat) (t55 : Int) (t56 : Int) (b0_1 : Dat) (b0_3 : Dat) (b1_0 : Int) (R : XR) : exec Try.prog [(92, c92), (93, c93), (94, c94c95), (95, c95), (96, c96)] (lamOf [(0, g28_0)]) 8 (unloop (bodyAt (Try.f28.body.getD .skip) 5)) (mkSt 0 75 [6, 47, 48, 49, 54, 55, 56] [.int .i64 t6, .ro [.sl [.int .i64]] t47_0 t47_1, .int .i64 t48, .int .i64 t49, .ro [.int .i64] t54_0 t54_1, .int .i64 t55, .int .i64 t56] 2 [.cells 43 [.ro [.str] t47_0 b0_1, .ro [.sl [.int .i64]] t47_0 b0_3], .cells 3 [.int .i64 b1_0]]) (canonK 0 75 [6, 47, 48, 49, 54, 55, 56] [2, 47, 48, 49] 2 [] R) =
 (cnd ((decide (t56 < t55)))
 (cnd ((decide (0 ≤ t56 ∧ t56 < (↑t54_0 : Int))))
 (cnd ((bif (m96 (t54_1.ii t56.toNat 0) (-1) 10000) then false else true))
 (R (XE.ret) [.int .i64 2, .ro [.sl [.int .i64]] t47_0 t47_1, .int .i64 t48, .int .i64 t49] [.cells 43 [.ro [.str] t47_0 b0_1, .ro [.sl [.int .i64]] t47_0 b0_3], .cells 3 [.int .i64 b1_0]])
 (cnd ((bif (decide (t6 = t56)) then (bif (decide ((t54_1.ii t56.toNat 0) = 0)) then false else true) else false))
 (R (XE.ret) [.int .i64 3, .ro [.sl [.int .i64]] t47_0 t47_1, .int .i64 t48, .int .i64 t49] [.cells 43 [.ro [.str] t47_0 b0_1, .ro [.sl [.int .i64]] t47_0 b0_3], .cells 3 [.int .i64 b1_0]])
 (R (XE.normal) [.int .i64 t6, .ro [.sl [.int .i64]] t47_0 t47_1, .int .i64 t48, .int .i64 t49, .ro [.int .i64] t54_0 t54_1, .int .i64 t55, .int .i64 (IntKind.i64.wrap (t56 + 1))] [.cells 43 [.ro [.str] t47_0 b0_1, .ro [.sl [.int .i64]] t47_0 b0_3], .cells 3 [.int .i64 b1_0]])))
   False)
 (R (XE.exit 5) [.any, .ro [.sl [.int .i64]] t47_0 t47_1, .int .i64 t48, .int .i64 t49] [.cells 43 [.ro [.str] t47_0 b0_1, .ro [.sl [.int .i64]] t47_0 b0_3], .cells 3 [.int .i64 b1_0]])) := by kernel_rfl
theorem z28_5 : LOk Try.prog g28_5 (.block 5 (bodyAt (Try.f28.body.getD .skip) 5)) := by
  refine loop_blk (ι := Int × Nat × Dat × Int × Int × Nat × Dat × Int × Int × Dat × Dat × Int) (L := [(92, c92), (93, c93), (94, c94c95), (95, c95), (96, c96)]) (Λ := (lamOf [(0, g28_0)])) (fuel := 8) (na := 0) (nt := 75) (nx := 2) (Lh := [6, 47, 48, 49, 54, 55, 56]) (Le := [2, 47, 48, 49]) (gl := []) (tabOk_cons k92 (tabOk_cons k93 (tabOk_cons k94c95 (tabOk_cons k95 (tabOk_cons k96 tabOk_nil))))) mix_ok (lam_of rfl (lams_cons z28_0 lams_nil)) rfl (fun f x K => GG default (e28_5 x.1 x.2.1 x.2.2.1 x.2.2.2.1 x.2.2.2.2.1 x.2.2.2.2.2.1 x.2.2.2.2.2.2.1 x.2.2.2.2.2.2.2.1 x.2.2.2.2.2.2.2.2.2.1 x.2.2.2.2.2.2.2.2.2.2.1 x.2.2.2.2.2.2.2.2.2.2.2) K (l28_5 x.1 x.2.1 x.2.2.1 x.2.2.2.1 x.2.2.2.2.1 x.2.2.2.2.2.1 x.2.2.2.2.2.2.1 x.2.2.2.2.2.2.2.1 x.2.2.2.2.2.2.2.2.2.1 x.2.2.2.2.2.2.2.2.2.2.1 x.2.2.2.2.2.2.2.2.2.2.2 f x.2.2.2.2.2.2.2.2.1)) (fun x => [.int .i64 x.1, .ro [.sl [.int .i64]] x.2.1 x.2.2.1, .int .i64 x.2.2.2.1, .int .i64 x.2.2.2.2.1, .ro [.int .i64] x.2.2.2.2.2.1 x.2.2.2.2.2.2.1, .int .i64 x.2.2.2.2.2.2.2.1, .int .i64 x.2.2.2.2.2.2.2.2.1]) (fun x => [.cells 43 [.ro [.str] x.2.1 x.2.2.2.2.2.2.2.2.2.1, .ro [.sl [.int .i64]] x.2.1 x.2.2.2.2.2.2.2.2.2.2.1], .cells 3 [.int .i64 x.2.2.2.2.2.2.2.2.2.2.2]]) (fun x K => gg_none) ?_ ?_
  · rintro f ⟨t6, t47_0, t47_1, t48, t49, t54_0, t54_1, t55, t56, b0_1, b0_3, b1_0⟩ K hG
    have hG : GG default (e28_5 t6 t47_0 t47_1 t48 t49 t54_0 t54_1 t55 b0_1 b0_3 b1_0) K (cond ((decide (t56 < t55))) (cond ((decide (0 ≤ t56 ∧ t56 < (↑t54_0 : Int)))) (cond ((bif (m96 (t54_1.ii t56.toNat 0) (-1) 10000) then false else true)) (some (true, 2, default)) (cond ((bif (decide (t6 = t56)) then (bif (decide ((t54_1.ii t56.toNat 0) = 0)) then false else true) else false)) (some (true, 3, default)) (l28_5 t6 t47_0 t47_1 t48 t49 t54_0 t54_1 t55 b0_1 b0_3 b1_0 f (IntKind.i64.wrap (t56 + 1))))) none) (some (false, default, ()))) := hG
    refine propOf (y28_5 t6 t47_0 t47_1 t48 t49 t54_0 t54_1 t55 t56 b0_1 b0_3 b1_0 _) ?_
    exact cnd_gg2 hG (fun h0 => cnd_gg h0 fun h1 => cnd_gg2 h1 (fun h2 => h2.2) (fun h2 => cnd_gg2 h2 (fun h3 => h3.2) (fun h3 => ⟨(t6, t47_0, t47_1, t48, t49, t54_0, t54_1, t55, (IntKind.i64.wrap (t56 + 1)), b0_1, b0_3, b1_0), rfl, rfl, h3⟩))) (fun h0 => h0.2)
  · intro s k h
    unfold g28_5 at h
    split at h <;> try exact h.elim
    rename_i e1
    rw [needs_iff] at h
    have hq := h.1
    simp only [List.mem_cons, forall_eq_or_imp, decide_eq_true_eq, List.not_mem_nil, false_imp_iff, implies_true, and_true] at hq
    obtain ⟨rfl, rfl, hq⟩ := hq
    exact ⟨_, e1, _, (_, _, _, _, _, _, _, _, _, _, _, _), rfl, rfl, hq, h.2⟩
noncomputable def l28_3 (t47_0 : Nat) (t47_1 : Dat) (t48 : Int) (b0_1 : Dat) (b0_3 : Dat) (b1_0 : Int) : Nat → Int → Nat → Option (Bool × (Int) × (Nat))
  | 0, _, _ => none
  | f + 1, t49, b0_0 => (cond ((decide (t49 < t48))) (cond ((decide (0 ≤ t49 ∧ t49 < (↑t47_0 : Int)))) (cond ((decide (t47_0 = b0_0))) (cond (((o28_5 t49 t47_0 t47_1 t48 t49 (t47_1.sn t49.toNat 0) (t47_1.sub t49.toNat 0) ((↑(t47_1.sn t49.toNat 0) : Int)) b0_1 b0_3 b1_0 0).isSome)) (cond ((((o28_5 t49 t47_0 t47_1 t48 t49 (t47_1.sn t49.toNat 0) (t47_1.sub t49.toNat 0) ((↑(t47_1.sn t49.toNat 0) : Int)) b0_1 b0_3 b1_0 0).getD default).1)) (some (true, (((o28_5 t49 t47_0 t47_1 t48 t49 (t47_1.sn t49.toNat 0) (t47_1.sub t49.toNat 0) ((↑(t47_1.sn t49.toNat 0) : Int)) b0_1 b0_3 b1_0 0).getD default).2.1), default)) (l28_3 t47_0 t47_1 t48 b0_1 b0_3 b1_0 f (IntKind.i64.wrap (t49 + 1)) t47_0)) none) none) none) (some (false, default, b0_0)))
noncomputable abbrev o28_3 (t47_0 : Nat) (t47_1 : Dat) (t48 : Int) (b0_1 : Dat) (b0_3 : Dat) (b1_0 : Int) (t49 : Int) (b0_0 : Nat) : Option (Bool × (Int) × (Nat)) := l28_3 t47_0 t47_1 t48 b0_1 b0_3 b1_0 (t47_0 + t48.toNat + t49.toNat + b0_0 + b1_0.toNat + 8) t49 b0_0
noncomputable def e28_3 (t47_0 : Nat) (t47_1 : Dat) (t48 : Int) (b0_1 : Dat) (b0_3 : Dat) (b1_0 : Int) (r : Bool × (Int) × (Nat)) (K : XR) : Prop := cnd r.1 (K (XE.ret) [.int .i64 r.2.1] [.cells 43 [.ro [.str] t47_0 b0_1, .ro [.sl [.int .i64]] t47_0 b0_3], .cells 3 [.int .i64 b1_0]]) (K (XE.exit 3) [.any] [.cells 43 [.ro [.str] r.2.2 b0_1, .ro [.sl [.int .i64]] t47_0 b0_3], .cells 3 [.int .i64 b1_0]])
noncomputable def g28_3 : LSum := fun s k => match czv 0 75 [47, 48, 49] 2 [] s with
  | some ([.ro [.sl [.int .i64]] t47_0 t47_1, .int .i64 t48, .int .i64 t49], [.cells 43 [.ro [.str] b0_0 b0_1, .ro [.sl [.int .i64]] b0_2 b0_3], .cells 3 [.int .i64 b1_0]]) => needs [decide (t47_0 = b0_2), (o28_3 t47_0 t47_1 t48 b0_1 b0_3 b1_0 t49 b0_0).isSome] (e28_3 t47_0 t47_1 t48 b0_1 b0_3 b1_0 ((o28_3 t47_0 t47_1 t48 b0_1 b0_3 b1_0 t49 b0_0).getD default) fun e vs bs => inBlk 3 k e (mkSt 0 75 [2] vs 2 bs))
  | _ => False
theorem y28_3 (t47_0 : Nat) (t47_1 : Dat) (t48 : Int) (t49 : Int) (b0_0 : Nat) (b0_1 : Dat) (b0_3 : Dat) (b1_0 : Int) (R : XR) : exec Try.prog [(92, c92), (93, c93), (94, c94c95), (95, c95), (96, c96)] (lamOf [(0, g28_0), (5, g28_5)]) 8 (unloop (bodyAt (Try.f28.body.getD .skip) 3)) (mkSt 0 75 [47, 48, 49] [.ro [.sl [.int .i64]] t47_0 t47_1, .int .i64 t48, .int .i64 t49] 2 [.cells 43 [.ro [.str] b0_0 b0_1, .ro [.sl [.int .i64]] t47_0 b0_3], .cells 3 [.int .i64 b1_0]]) (canonK 0 75 [47, 48, 49] [2] 2 [] R) =
 (cnd ((decide (t49 < t48)))
 (cnd ((decide (0 ≤ t49 ∧ t49 < (↑t47_0 : Int))))
 (cnd ((decide (t47_0 = b0_0)))
 (cnd ((decide (t47_0 = t47_0)))
 (cnd (((o28_5 t49 t47_0 t47_1 t48 t49 (t47_1.sn t49.toNat 0) (t47_1.sub t49.toNat 0) ((↑(t47_1.sn t49.toNat 0) : Int)) b0_1 b0_3 b1_0 0).isSome))
 (cnd ((((o28_5 t49 t47_0 t47_1 t48 t49 (t47_1.sn t49.toNat 0) (t47_1.sub t49.toNat 0) ((↑(t47_1.sn t49.toNat 0) : Int)) b0_1 b0_3 b1_0 0).getD default).1))
 (R (XE.ret) [.int .i64 (((o28_5 t49 t47_0 t47_1 t48 t49 (t47_1.sn t49.toNat 0) (t47_1.sub t49.toNat 0) ((↑(t47_1.sn t49.toNat 0) : Int)) b0_1 b0_3 b1_0 0).getD default).2.1)] [.cells 43 [.ro [.str] t47_0 b0_1, .ro [.sl [.int .i64]] t47_0 b0_3], .cells 3 [.int .i64 b1_0]])
 (R (XE.normal) [.ro [.sl [.int .i64]] t47_0 t47_1, .int .i64 t48, .int .i64 (IntKind.i64.wrap (t49 + 1))] [.cells 43 [.ro [.str] t47_0 b0_1, .ro [.sl [.int .i64]] t47_0 b0_3], .cells 3 [.int .i64 b1_0]]))
      False)
     False)
    False)
   False)
 (R (XE.exit 3) [.any] [.cells 43 [.ro [.str] b0_0 b0_1, .ro [.sl [.int .i64]] t47_0 b0_3], .cells 3 [.int .i64 b1_0]])) := by kernel_rfl
theorem z28_3 : LOk Try.prog g28_3 (.block 3 (bodyAt (Try.f28.body.getD .skip) 3)) := by
  refine loop_blk (ι := Nat × Dat × Int × Int × Nat × Dat × Dat × Int) (L := [(92, c92), (93, c93), (94, c94c95), (95, c95), (96, c96)]) (Λ := (lamOf [(0, g28_0), (5, g28_5)])) (fuel := 8) (na := 0) (nt := 75) (nx := 2) (Lh := [47, 48, 49]) (Le := [2]) (gl := []) (tabOk_cons k92 (tabOk_cons k93 (tabOk_cons k94c95 (tabOk_cons k95 (tabOk_cons k96 tabOk_nil))))) mix_ok (lam_of rfl (lams_cons z28_0 (lams_cons z28_5 lams_nil))) rfl (fun f x K => GG default (e28_3 x.1 x.2.1 x.2.2.1 x.2.2.2.2.2.1 x.2.2.2.2.2.2.1 x.2.2.2.2.2.2.2) K (l28_3 x.1 x.2.1 x.2.2.1 x.2.2.2.2.2.1 x.2.2.2.2.2.2.1 x.2.2.2.2.2.2.2 f x.2.2.2.1 x.2.2.2.2.1)) (fun x => [.ro [.sl [.int .i64]] x.1 x.2.1, .int .i64 x.2.2.1, .int .i64 x.2.2.2.1]) (fun x => [.cells 43 [.ro [.str] x.2.2.2.2.1 x.2.2.2.2.2.1, .ro [.sl [.int .i64]] x.1 x.2.2.2.2.2.2.1], .cells 3 [.int .i64 x.2.2.2.2.2.2.2]]) (fun x K => gg_none) ?_ ?_
  · rintro f ⟨t47_0, t47_1, t48, t49, b0_0, b0_1, b0_3, b1_0⟩ K hG
    have hG : GG default (e28_3 t47_0 t47_1 t48 b0_1 b0_3 b1_0) K (cond ((decide (t49 < t48))) (cond ((decide (0 ≤ t49 ∧ t49 < (↑t47_0 : Int)))) (cond ((decide (t47_0 = b0_0))) (cond (((o28_5 t49 t47_0 t47_1 t48 t49 (t47_1.sn t49.toNat 0) (t47_1.sub t49.toNat 0) ((↑(t47_1.sn t49.toNat 0) : Int)) b0_1 b0_3 b1_0 0).isSome)) (cond ((((o28_5 t49 t47_0 t47_1 t48 t49 (t47_1.sn t49.toNat 0) (t47_1.sub t49.toNat 0) ((↑(t47_1.sn t49.toNat 0) : Int)) b0_1 b0_3 b1_0 0).getD default).1)) (some (true, (((o28_5 t49 t47_0 t47_1 t48 t49 (t47_1.sn t49.toNat 0) (t47_1.sub t49.toNat 0) ((↑(t47_1.sn t49.toNat 0) : Int)) b0_1 b0_3 b1_0 0).getD default).2.1), default)) (l28_3 t47_0 t47_1 t48 b0_1 b0_3 b1_0 f (IntKind.i64.wrap (t49 + 1)) t47_0)) none) none) none) (some (false, default, b0_0))) := hG
    refine propOf (y28_3 t47_0 t47_1 t48 t49 b0_0 b0_1 b0_3 b1_0 _) ?_
    exact cnd_gg2 hG (fun h0 => cnd_gg h0 fun h1 => cnd_gg h1 fun h2 => cnd_need (decide_eq_true rfl) (cnd_gg h2 fun h3 => cnd_gg2 h3 (fun h4 => h4.2) (fun h4 => ⟨(t47_0, t47_1, t48, (IntKind.i64.wrap (t49 + 1)), t47_0, b0_1, b0_3, b1_0), rfl, rfl, h4⟩))) (fun h0 => h0.2)
  · intro s k h
    unfold g28_3 at h
    split at h <;> try exact h.elim
    rename_i e1
    rw [needs_iff] at h
    have hq := h.1
    simp only [List.mem_cons, forall_eq_or_imp, decide_eq_true_eq, List.not_mem_nil, false_imp_iff, implies_true, and_true] at hq
    obtain ⟨rfl, hq⟩ := hq
    exact ⟨_, e1, _, (_, _, _, _, _, _, _, _), rfl, rfl, hq, h.2⟩
theorem x28 (na0_0 : Nat) (da0_0 : Dat) (na0_1 : Nat) (da0_1 : Dat) (R : SV → List Blk → List Blk → Prop) : exec Try.prog [(92, c92), (93, c93), (94, c94c95), (95, c95), (96, c96)] (lamOf [(0, g28_0), (5, g28_5), (3, g28_3)]) 8 (Try.f28.body.getD .skip) (initS Try.f28.ntmps [.agg [.ro [.str] na0_0 da0_0, .ro [.sl [.int .i64]] na0_1 da0_1]] 0 (memOf [])) (retK Try.prog Try.f28.results.toList (outK 0 (List.range 0) [] (.k) fun v U N => R v U N)) =
 (cnd ((decide (12 < ((↑na0_0 : Int)))))
 (R (.int .i64 8) [] [])
 (cnd ((decide (na0_0 = na0_0)))
 (cnd (((o28_0 na0_0 da0_0 ((↑na0_0 : Int)) da0_0 na0_1 da0_1 ((↑na0_0 : Int)) 0).isSome))
 (cnd ((((o28_0 na0_0 da0_0 ((↑na0_0 : Int)) da0_0 na0_1 da0_1 ((↑na0_0 : Int)) 0).getD default).1))
 (R (.int .i64 (((o28_0 na0_0 da0_0 ((↑na0_0 : Int)) da0_0 na0_1 da0_1 ((↑na0_0 : Int)) 0).getD default).2.1)) [] [])
 (cnd ((bif (bif (bif (bif (decide (((↑na0_1 : Int)) = ((↑na0_0 : Int)))) then false else true) then false else true) then false else true) then true else (n94c95 na0_1 da0_1 (datC [.int .i64 ((↑na0_0 : Int))]))))
 (cnd ((bif (bif (decide (((↑na0_1 : Int)) = ((↑na0_0 : Int)))) then false else true) then true else (m94c95 na0_1 da0_1 (datC [.int .i64 ((↑na0_0 : Int))]))))
 (R (.int .i64 10) [] [])
 (cnd ((decide (na0_1 = na0_1)))
 (cnd (((o28_3 na0_1 da0_1 ((↑na0_1 : Int)) da0_0 da0_1 ((↑na0_0 : Int)) 0 na0_0).isSome))
 (cnd ((((o28_3 na0_1 da0_1 ((↑na0_1 : Int)) da0_0 da0_1 ((↑na0_0 : Int)) 0 na0_0).getD default).1))
 (R (.int .i64 (((o28_3 na0_1 da0_1 ((↑na0_1 : Int)) da0_0 da0_1 ((↑na0_0 : Int)) 0 na0_0).getD default).2.1)) [] [])
 (R (.int .i64 0) [] []))
         False)
        False))
      False))
    False)
   False)) := by kernel_rfl
noncomputable def m28 (na0_0 : Nat) (da0_0 : Dat) (na0_1 : Nat) (da0_1 : Dat) : Int :=
 (cond ((decide (12 < ((↑na0_0 : Int))))) 8 (cond ((((o28_0 na0_0 da0_0 ((↑na0_0 : Int)) da0_0 na0_1 da0_1 ((↑na0_0 : Int)) 0).getD default).1)) (((o28_0 na0_0 da0_0 ((↑na0_0 : Int)) da0_0 na0_1 da0_1 ((↑na0_0 : Int)) 0).getD default).2.1) (cond ((bif (bif (decide (((↑na0_1 : Int)) = ((↑na0_0 : Int)))) then false else true) then true else (m94c95 na0_1 da0_1 (datC [.int .i64 ((↑na0_0 : Int))])))) 10 (cond ((((o28_3 na0_1 da0_1 ((↑na0_1 : Int)) da0_0 da0_1 ((↑na0_0 : Int)) 0 na0_0).getD default).1)) (((o28_3 na0_1 da0_1 ((↑na0_1 : Int)) da0_0 da0_1 ((↑na0_0 : Int)) 0 na0_0).getD default).2.1) 0))))
noncomputable def n28 (na0_0 : Nat) (da0_0 : Dat) (na0_1 : Nat) (da0_1 : Dat) : Bool :=
 (cond ((decide (12 < ((↑na0_0 : Int))))) true ((((o28_0 na0_0 da0_0 ((↑na0_0 : Int)) da0_0 na0_1 da0_1 ((↑na0_0 : Int)) 0).isSome)) && (cond ((((o28_0 na0_0 da0_0 ((↑na0_0 : Int)) da0_0 na0_1 da0_1 ((↑na0_0 : Int)) 0).getD default).1)) true (((bif (bif (bif (bif (decide (((↑na0_1 : Int)) = ((↑na0_0 : Int)))) then false else true) then false else true) then false else true) then true else (n94c95 na0_1 da0_1 (datC [.int .i64 ((↑na0_0 : Int))])))) && (cond ((bif (bif (decide (((↑na0_1 : Int)) = ((↑na0_0 : Int)))) then false else true) then true else (m94c95 na0_1 da0_1 (datC [.int .i64 ((↑na0_0 : Int))])))) true ((((o28_3 na0_1 da0_1 ((↑na0_1 : Int)) da0_0 da0_1 ((↑na0_0 : Int)) 0 na0_0).isSome)) && true))))))
noncomputable def q28 (r : Int) : SV × List Blk × List Blk := (.int .i64 r, [], [])
noncomputable def g28 : List SV → List Blk → Option OpRes := fun vs bs => match vs, bs with
  | [.agg [.ro [.str] na0_0 da0_0, .ro [.sl [.int .i64]] na0_1 da0_1]], [] => some (resOf 0 (q28 (m28 na0_0 da0_0 na0_1 da0_1)) [n28 na0_0 da0_0 na0_1 da0_1])
  | _, _ => none
noncomputable def c28 : Ctr := genC [.a [.ro [.str], .ro [.sl [.int .i64]]]] g28
theorem p28 (na0_0 : Nat) (da0_0 : Dat) (na0_1 : Nat) (da0_1 : Dat) (hn : n28 na0_0 da0_0 na0_1 da0_1 = true) : exec Try.prog [(92, c92), (93, c93), (94, c94c95), (95, c95), (96, c96)] (lamOf [(0, g28_0), (5, g28_5), (3, g28_3)]) 8 (Try.f28.body.getD .skip) (initS Try.f28.ntmps [.agg [.ro [.str] na0_0 da0_0, .ro [.sl [.int .i64]] na0_1 da0_1]] 0 (memOf [])) (retK Try.prog Try.f28.results.toList (outK 0 (List.range 0) [] (.k) fun v U N => (v, U, N) = (q28 (m28 na0_0 da0_0 na0_1 da0_1)))) :=
  propOf (x28 na0_0 da0_0 na0_1 da0_1 _) (cnd_of (fun h0 => leaf_of (l := 8) (condT h0 rfl) rfl) (fun h0 => cnd_need (decide_eq_true rfl) (cnd_need (and_l (cond_f h0 hn)) (cnd_of (fun h1 => leaf_of (l := (((o28_0 na0_0 da0_0 ((↑na0_0 : Int)) da0_0 na0_1 da0_1 ((↑na0_0 : Int)) 0).getD default).2.1)) (condF h0 (condT h1 rfl)) rfl) (fun h1 => cnd_need (and_l (cond_f h1 (and_r (cond_f h0 hn)))) (cnd_of (fun h2 => leaf_of (l := 10) (condF h0 (condF h1 (condT h2 rfl))) rfl) (fun h2 => cnd_need (decide_eq_true rfl) (cnd_need (and_l (cond_f h2 (and_r (cond_f h1 (and_r (cond_f h0 hn)))))) (cnd_of (fun h3 => leaf_of (l := (((o28_3 na0_1 da0_1 ((↑na0_1 : Int)) da0_0 da0_1 ((↑na0_0 : Int)) 0 na0_0).getD default).2.1)) (condF h0 (condF h1 (condF h2 (condT h3 rfl)))) rfl) (fun h3 => leaf_of (l := 0) (condF h0 (condF h1 (condF h2 (condF h3 rfl)))) rfl))))))))))
theorem k28 : CtrOk Try.prog c28 28 := ctr_of (tabOk_cons k92 (tabOk_cons k93 (tabOk_cons k94c95 (tabOk_cons k95 (tabOk_cons k96 tabOk_nil))))) mix_ok 8 (fn := Try.f28) (c := (Try.f28.body.getD .skip)) (grs := []) (rh := .k) (Λ := (lamOf [(0, g28_0), (5, g28_5), (3, g28_3)])) Try.func28 rfl (by kernel_rfl) (lam_of rfl (lams_cons z28_0 (lams_cons z28_5 (lams_cons z28_3 lams_nil)))) fun vs bs q h hn => by
  unfold g28 at h
  split at h <;> cases h
  exact ⟨_, rfl, p28 _ _ _ _ (hn _ (List.mem_singleton.2 rfl))⟩
/-! ### slices.Grow[[]shotline/api.Range,shotline/api.Range] -/
theorem x136 (a1 : Int) (R : SV → List Blk → List Blk → Prop) : exec Try.prog [] (fun _ => none) 8 (Try.f136.body.getD .skip) (initS Try.f136.ntmps [.nsl, .int .i64 a1] 0 (memOf [])) (retK Try.prog Try.f136.results.toList (outK 0 (List.range 0) [] (.k) fun v U N => R v U N)) =
 (cnd ((decide (a1 < 0)))
  False
 (cnd ((decide ((0 : Int) < (IntKind.i64.wrap (a1 - 0)))))
 (cnd ((decide (0 ≤ IntKind.i64.wrap (a1 - IntKind.i64.wrap (0 - 0)) ∧ IntKind.i64.wrap (a1 - IntKind.i64.wrap (0 - 0)) ≤ 1073741824)))
 (R (.gr 0 2 0) [] [.row 28 [.int .i64, .int .i64] (IntKind.i64.wrap (a1 - IntKind.i64.wrap (0 - 0))).toNat (datC [.int .i64 0, .int .i64 0])])
    False)
 (R (.nsl) [] []))) := by kernel_rfl
noncomputable def m136a (a1 : Int) : Nat × Dat :=
 ((IntKind.i64.wrap (a1 - IntKind.i64.wrap (0 - 0))).toNat, (datC [.int .i64 0, .int .i64 0]))
noncomputable def n136a (a1 : Int) : Bool :=
 (!((decide (a1 < 0))) && (((decide ((0 : Int) < (IntKind.i64.wrap (a1 - 0))))) && (((decide (0 ≤ IntKind.i64.wrap (a1 - IntKind.i64.wrap (0 - 0)) ∧ IntKind.i64.wrap (a1 - IntKind.i64.wrap (0 - 0)) ≤ 1073741824))) && true)))
noncomputable def q136a (r : Nat × Dat) : SV × List Blk × List Blk := (.gr 0 2 0, [], [.row 28 [.int .i64, .int .i64] r.1 r.2])
noncomputable def g136a : List SV → List Blk → Option OpRes := fun vs bs => match vs, bs with
  | [.nsl, .int .i64 a1], [] => some (resOf 0 (q136a (m136a a1)) [n136a a1])
  | _, _ => none
noncomputable def c136a : Ctr := genC [.k, .k] g136a
theorem p136a (a1 : Int) (hn : n136a a1 = true) : exec Try.prog [] (fun _ => none) 8 (Try.f136.body.getD .skip) (initS Try.f136.ntmps [.nsl, .int .i64 a1] 0 (memOf [])) (retK Try.prog Try.f136.results.toList (outK 0 (List.range 0) [] (.k) fun v U N => (v, U, N) = (q136a (m136a a1)))) :=
  propOf (x136 a1 _) (cnd_not (not_l hn) (cnd_of (fun _ => cnd_need (and_l (and_r (not_r hn))) (leaf_of (l := ((IntKind.i64.wrap (a1 - IntKind.i64.wrap (0 - 0))).toNat, (datC [.int .i64 0, .int .i64 0]))) rfl rfl)) (fun h0 => (Bool.false_ne_true (h0.symm.trans (and_l (not_r hn)))).elim)))
theorem k136a : CtrOk Try.prog c136a 136 := ctr_of tabOk_nil mix_ok 8 (fn := Try.f136) (c := (Try.f136.body.getD .skip)) (grs := []) (rh := .k) (Λ := (fun _ => none)) Try.func136 rfl (by kernel_rfl) noLam fun vs bs q h hn => by
  unfold g136a at h
  split at h <;> cases h
  exact ⟨_, rfl, p136a _ (hn _ (List.mem_singleton.2 rfl))⟩
noncomputable def n136b (a1 : Int) : Bool :=
 (!((decide (a1 < 0))) && (!((decide ((0 : Int) < (IntKind.i64.wrap (a1 - 0))))) && true))
noncomputable def q136b : SV × List Blk × List Blk := (.nsl, [], [])
noncomputable def g136b : List SV → List Blk → Option OpRes := fun vs bs => match vs, bs with
  | [.nsl, .int .i64 a1], [] => some (resOf 0 q136b [n136b a1])
  | _, _ => none
noncomputable def c136b : Ctr := genC [.k, .k] g136b
theorem p136b (a1 : Int) (hn : n136b a1 = true) : exec Try.prog [] (fun _ => none) 8 (Try.f136.body.getD .skip) (initS Try.f136.ntmps [.nsl, .int .i64 a1] 0 (memOf [])) (retK Try.prog Try.f136.results.toList (outK 0 (List.range 0) [] (.k) fun v U N => (v, U, N) = q136b)) :=
  propOf (x136 a1 _) (cnd_not (not_l hn) (cnd_of (fun h0 => (Bool.false_ne_true ((not_l (not_r hn)).symm.trans h0)).elim) (fun _ => rfl)))
theorem k136b : CtrOk Try.prog c136b 136 := ctr_of tabOk_nil mix_ok 8 (fn := Try.f136) (c := (Try.f136.body.getD .skip)) (grs := []) (rh := .k) (Λ := (fun _ => none)) Try.func136 rfl (by kernel_rfl) noLam fun vs bs q h hn => by
  unfold g136b at h
  split at h <;> cases h
  exact ⟨_, rfl, p136b _ (hn _ (List.mem_singleton.2 rfl))⟩
/-! ### slices.Grow, of nothing: both outcomes -/
noncomputable def n136 (a1 : Int) : Bool := decide (0 ≤ a1 ∧ a1 ≤ 1073741824)
noncomputable def c136 : Ctr := fun off _ args => match args with
  | [.nsl, .int .i64 a1] => some { v := .gr off 2 0, news := [.row 28 [.int .i64, .int .i64] 0 noDat], need := [n136 a1] }
  | _ => none
theorem k136 : CtrOk Try.prog c136 136 := by
  refine ⟨k136a.1, fun B M ρ mem off args r hr hn hf xs w hd hm hB hfr => ?_⟩
  unfold c136 at hr
  split at hr <;> cases hr
  rename_i a1
  have hn1 : 0 ≤ a1 ∧ a1 ≤ 1073741824 := by simpa [n136] using hn (n136 a1) (List.mem_singleton.2 rfl)
  have w0 : IntKind.i64.wrap (0 - 0) = 0 := by rw [IntKind.wrap_i64]; omega
  have w1 : IntKind.i64.wrap (a1 - 0) = a1 := by rw [IntKind.wrap_i64]; omega
  by_cases h0 : 0 < a1
  · have ha : n136a a1 = true := by
      unfold n136a
      rw [w0, w1]
      simp [h0, hn1]
    refine (k136a.2 B M ρ mem off [.nsl, .int .i64 a1] { v := .gr off 2 0, news := [.row 28 [.int .i64, .int .i64] (m136a a1).1 (m136a a1).2], need := [n136a a1] } rfl (fun b hb => by cases List.mem_singleton.1 hb; exact ha) ⟨fun u hu => by simp at hu, fun u hu => by simp at hu⟩ xs w hd hm hB hfr).mono ?_
    rintro e w' ⟨x, ρ', rfl, hp⟩
    refine ⟨x, ρ', rfl, hp.val, hp.ext, hp.old, hp.os, hp.tape, hp.output, hp.size, hp.keep, hp.odn, fun u hu => by simp at hu, fun j b hj hk => ?_, fun j j' b b' m m' hne hj hj' => ?_⟩
    · cases j with
      | succ j => simp at hj
      | zero =>
        simp at hj; subst hj
        obtain ⟨g1, _⟩ := hp.new 0 _ rfl rfl
        refine ⟨fun m hmm => ?_, fun _ => rfl⟩
        obtain ⟨a1', a2, a3, a4⟩ := g1 m hmm
        obtain ⟨b1, b2, b3, b4⟩ := a2
        exact ⟨a1', ⟨b1, Nat.zero_le _, b3, fun q hq => absurd hq (Nat.not_lt_zero _)⟩, a3, a4.imp id fun ⟨u, hu, _⟩ => by simp at hu⟩
    · cases j <;> cases j' <;> simp at hj hj' hne
  · have hb : n136b a1 = true := by
      unfold n136b
      rw [w1]
      simp [h0]
      omega
    refine (k136b.2 B M ρ mem off [.nsl, .int .i64 a1] { v := .nsl, need := [n136b a1] } rfl (fun b hb' => by cases List.mem_singleton.1 hb'; exact hb) ⟨fun u hu => by simp at hu, fun u hu => by simp at hu⟩ xs w hd hm hB (fun j hj => by simp at hj)).mono ?_
    rintro e w' ⟨x, ρ', rfl, hp⟩
    have hx : x = .slice none 0 0 := hp.val
    refine ⟨x, ρ', rfl, .inl ⟨rfl, none, hx⟩, hp.ext, fun i _ => hp.old i (by simp; omega), hp.os, hp.tape, hp.output, hp.size, fun b hb _ => hp.keep b hb fun u hu => by simp at hu, hp.odn, fun u hu => by simp at hu, fun j b hj hk => ?_, fun j j' b b' m m' hne hj hj' => ?_⟩
    · cases j with
      | succ j => simp at hj
      | zero =>
        simp at hj; subst hj
        refine ⟨fun m hmm => ?_, fun _ => rfl⟩
        rw [hp.old (off + 0) (by simp), hfr 0 (by simp)] at hmm
        cases hmm
    · cases j <;> cases j' <;> simp at hj hj' hne
/-! ### slices.Concat[[]shotline/api.Range,shotline/api.Range] -/
noncomputable def l107_0 (t0_0 : Nat) (t0_1 : Dat) (t9_1 : Dat) (t10 : Int) : Nat → Int → Int → Option (Int)
  | 0, _, _ => none
  | f + 1, t3, t11 => (cond ((decide (t11 < t10))) (cond ((decide (0 ≤ t11 ∧ t11 < (↑t0_0 : Int)))) (cond ((decide ((IntKind.i64.wrap (t3 + ((↑(t9_1.sn t11.toNat 0) : Int)))) < 0))) none (l107_0 t0_0 t0_1 t9_1 t10 f (IntKind.i64.wrap (t3 + ((↑(t9_1.sn t11.toNat 0) : Int)))) (IntKind.i64.wrap (t11 + 1)))) none) (some t3))
noncomputable abbrev o107_0 (t0_0 : Nat) (t0_1 : Dat) (t9_1 : Dat) (t10 : Int) (t3 : Int) (t11 : Int) : Option (Int) := l107_0 t0_0 t0_1 t9_1 t10 (t0_0 + t3.toNat + t10.toNat + t11.toNat + 8) t3 t11
noncomputable def e107_0 (t0_0 : Nat) (t0_1 : Dat) (t9_1 : Dat) (t10 : Int) (r : Int) (K : XR) : Prop := K (XE.exit 0) [.ro [.sl [.int .i64, .int .i64]] t0_0 t0_1, .int .i64 r] []
noncomputable def g107_0 : LSum := fun s k => match czv 0 36 [0, 3, 9, 10, 11] 0 [] s with
  | some ([.ro [.sl [.int .i64, .int .i64]] t0_0 t0_1, .int .i64 t3, .ro [.sl [.int .i64, .int .i64]] t9_0 t9_1, .int .i64 t10, .int .i64 t11], []) => needs [decide (t0_0 = t9_0), (o107_0 t0_0 t0_1 t9_1 t10 t3 t11).isSome] (e107_0 t0_0 t0_1 t9_1 t10 ((o107_0 t0_0 t0_1 t9_1 t10 t3 t11).getD default) fun e vs bs => inBlk 0 k e (mkSt 0 36 [0, 3] vs 0 bs))
  | _ => False
theorem y107_0 (t0_0 : Nat) (t0_1 : Dat) (t3 : Int) (t9_1 : Dat) (t10 : Int) (t11 : Int) (R : XR) : exec Try.prog [(136, c136)] (fun _ => none) 8 (unloop (bodyAt (Try.f107.body.getD .skip) 0)) (mkSt 0 36 [0, 3, 9, 10, 11] [.ro [.sl [.int .i64, .int .i64]] t0_0 t0_1, .int .i64 t3, .ro [.sl [.int .i64, .int .i64]] t0_0 t9_1, .int .i64 t10, .int .i64 t11] 0 []) (canonK 0 36 [0, 3, 9, 10, 11] [0, 3] 0 [] R) =
 (cnd ((decide (t11 < t10)))
 (cnd ((decide (0 ≤ t11 ∧ t11 < (↑t0_0 : Int))))
 (cnd ((decide ((IntKind.i64.wrap (t3 + ((↑(t9_1.sn t11.toNat 0) : Int)))) < 0)))
    False
 (R (XE.normal) [.ro [.sl [.int .i64, .int .i64]] t0_0 t0_1, .int .i64 (IntKind.i64.wrap (t3 + ((↑(t9_1.sn t11.toNat 0) : Int)))), .ro [.sl [.int .i64, .int .i64]] t0_0 t9_1, .int .i64 t10, .int .i64 (IntKind.i64.wrap (t11 + 1))] []))
   False)
 (R (XE.exit 0) [.ro [.sl [.int .i64, .int .i64]] t0_0 t0_1, .int .i64 t3] [])) := by kernel_rfl
theorem z107_0 : LOk Try.prog g107_0 (.block 0 (bodyAt (Try.f107.body.getD .skip) 0)) := by
  refine loop_blk (ι := Nat × Dat × Int × Dat × Int × Int) (L := [(136, c136)]) (Λ := (fun _ => none)) (fuel := 8) (na := 0) (nt := 36) (nx := 0) (Lh := [0, 3, 9, 10, 11]) (Le := [0, 3]) (gl := []) (tabOk_cons k136 tabOk_nil) mix_ok noLam rfl (fun f x K => GG default (e107_0 x.1 x.2.1 x.2.2.2.1 x.2.2.2.2.1) K (l107_0 x.1 x.2.1 x.2.2.2.1 x.2.2.2.2.1 f x.2.2.1 x.2.2.2.2.2)) (fun x => [.ro [.sl [.int .i64, .int .i64]] x.1 x.2.1, .int .i64 x.2.2.1, .ro [.sl [.int .i64, .int .i64]] x.1 x.2.2.2.1, .int .i64 x.2.2.2.2.1, .int .i64 x.2.2.2.2.2]) (fun x => []) (fun x K => gg_none) ?_ ?_
  · rintro f ⟨t0_0, t0_1, t3, t9_1, t10, t11⟩ K hG
    have hG : GG default (e107_0 t0_0 t0_1 t9_1 t10) K (cond ((decide (t11 < t10))) (cond ((decide (0 ≤ t11 ∧ t11 < (↑t0_0 : Int)))) (cond ((decide ((IntKind.i64.wrap (t3 + ((↑(t9_1.sn t11.toNat 0) : Int)))) < 0))) none (l107_0 t0_0 t0_1 t9_1 t10 f (IntKind.i64.wrap (t3 + ((↑(t9_1.sn t11.toNat 0) : Int)))) (IntKind.i64.wrap (t11 + 1)))) none) (some t3)) := hG
    refine propOf (y107_0 t0_0 t0_1 t3 t9_1 t10 t11 _) ?_
    exact cnd_gg2 hG (fun h0 => cnd_gg h0 fun h1 => cnd_gg2 h1 (fun h2 => absurd h2 gg_none) (fun h2 => ⟨(t0_0, t0_1, (IntKind.i64.wrap (t3 + ((↑(t9_1.sn t11.toNat 0) : Int)))), t9_1, t10, (IntKind.i64.wrap (t11 + 1))), rfl, rfl, h2⟩)) (fun h0 => h0.2)
  · intro s k h
    unfold g107_0 at h
    split at h <;> try exact h.elim
    rename_i e1
    rw [needs_iff] at h
    have hq := h.1
    simp only [List.mem_cons, forall_eq_or_imp, decide_eq_true_eq, List.not_mem_nil, false_imp_iff, implies_true, and_true] at hq
    obtain ⟨rfl, hq⟩ := hq
    exact ⟨_, e1, _, (_, _, _, _, _, _), rfl, rfl, hq, h.2⟩
noncomputable def l107_2 (t25_0 : Nat) (t25_1 : Dat) (t26 : Int) : Nat → Nat → Int → Dat → Option (Nat × Nat × Dat)
  | 0, _, _, _ => none
  | f + 1, t6, t27, b0_1 => (cond ((decide (t27 < t26))) (cond ((decide (0 ≤ t27 ∧ t27 < (↑t25_0 : Int)))) (cond ((decide ((t6 + (t25_1.sn t27.toNat 0)) ≤ 1073741824))) (l107_2 t25_0 t25_1 t26 f (t6 + t25_1.sn t27.toNat 0) (IntKind.i64.wrap (t27 + 1)) (b0_1.app t6 (t25_1.sub t27.toNat 0))) none) none) (some (t6, t6, b0_1)))
noncomputable abbrev o107_2 (t25_0 : Nat) (t25_1 : Dat) (t26 : Int) (t6 : Nat) (t27 : Int) (b0_1 : Dat) : Option (Nat × Nat × Dat) := l107_2 t25_0 t25_1 t26 (t6 + t25_0 + t26.toNat + t27.toNat + 8) t6 t27 b0_1
noncomputable def e107_2 (t25_0 : Nat) (t25_1 : Dat) (t26 : Int) (r : Nat × Nat × Dat) (K : XR) : Prop := K (XE.exit 2) [.gr 0 2 r.1] [.row 28 [.int .i64, .int .i64] r.2.1 r.2.2]
noncomputable def g107_2 : LSum := fun s k => match czv 0 36 [6, 25, 26, 27] 1 [⟨true, 6, 0, 0, 28, [.int .i64, .int .i64]⟩] s with
  | some ([.gr 0 2 t6, .ro [.sl [.int .i64, .int .i64]] t25_0 t25_1, .int .i64 t26, .int .i64 t27], [.row 28 [.int .i64, .int .i64] b0_0 b0_1]) => needs [decide (t6 = b0_0), (o107_2 t25_0 t25_1 t26 t6 t27 b0_1).isSome] (e107_2 t25_0 t25_1 t26 ((o107_2 t25_0 t25_1 t26 t6 t27 b0_1).getD default) fun e vs bs => inBlk 2 k e (mkSt 0 36 [6] vs 1 bs))
  | _ => False
theorem y107_2 (t6 : Nat) (t25_0 : Nat) (t25_1 : Dat) (t26 : Int) (t27 : Int) (b0_1 : Dat) (R : XR) : exec Try.prog [(136, c136)] (lamOf [(0, g107_0)]) 8 (unloop (bodyAt (Try.f107.body.getD .skip) 2)) (mkSt 0 36 [6, 25, 26, 27] [.gr 0 2 t6, .ro [.sl [.int .i64, .int .i64]] t25_0 t25_1, .int .i64 t26, .int .i64 t27] 1 [.row 28 [.int .i64, .int .i64] t6 b0_1]) (canonK 0 36 [6, 25, 26, 27] [6] 1 [⟨true, 6, 0, 0, 28, [.int .i64, .int .i64]⟩] R) =
 (cnd ((decide (t27 < t26)))
 (cnd ((decide (0 ≤ t27 ∧ t27 < (↑t25_0 : Int))))
 (cnd ((decide (t6 ≤ t6)))
 (cnd ((decide ((t6 + (t25_1.sn t27.toNat 0)) ≤ 1073741824)))
 (R (XE.normal) [.gr 0 2 (t6 + t25_1.sn t27.toNat 0), .ro [.sl [.int .i64, .int .i64]] t25_0 t25_1, .int .i64 t26, .int .i64 (IntKind.i64.wrap (t27 + 1))] [.row 28 [.int .i64, .int .i64] (t6 + t25_1.sn t27.toNat 0) (b0_1.app t6 (t25_1.sub t27.toNat 0))])
     False)
    False)
   False)
 (R (XE.exit 2) [.gr 0 2 t6] [.row 28 [.int .i64, .int .i64] t6 b0_1])) := by kernel_rfl
theorem z107_2 : LOk Try.prog g107_2 (.block 2 (bodyAt (Try.f107.body.getD .skip) 2)) := by
  refine loop_blk (ι := Nat × Nat × Dat × Int × Int × Dat) (L := [(136, c136)]) (Λ := (lamOf [(0, g107_0)])) (fuel := 8) (na := 0) (nt := 36) (nx := 1) (Lh := [6, 25, 26, 27]) (Le := [6]) (gl := [⟨true, 6, 0, 0, 28, [.int .i64, .int .i64]⟩]) (tabOk_cons k136 tabOk_nil) mix_ok (lam_of rfl (lams_cons z107_0 lams_nil)) rfl (fun f x K => GG default (e107_2 x.2.1 x.2.2.1 x.2.2.2.1) K (l107_2 x.2.1 x.2.2.1 x.2.2.2.1 f x.1 x.2.2.2.2.1 x.2.2.2.2.2)) (fun x => [.gr 0 2 x.1, .ro [.sl [.int .i64, .int .i64]] x.2.1 x.2.2.1, .int .i64 x.2.2.2.1, .int .i64 x.2.2.2.2.1]) (fun x => [.row 28 [.int .i64, .int .i64] x.1 x.2.2.2.2.2]) (fun x K => gg_none) ?_ ?_
  · rintro f ⟨t6, t25_0, t25_1, t26, t27, b0_1⟩ K hG
    have hG : GG default (e107_2 t25_0 t25_1 t26) K (cond ((decide (t27 < t26))) (cond ((decide (0 ≤ t27 ∧ t27 < (↑t25_0 : Int)))) (cond ((decide ((t6 + (t25_1.sn t27.toNat 0)) ≤ 1073741824))) (l107_2 t25_0 t25_1 t26 f (t6 + t25_1.sn t27.toNat 0) (IntKind.i64.wrap (t27 + 1)) (b0_1.app t6 (t25_1.sub t27.toNat 0))) none) none) (some (t6, t6, b0_1))) := hG
    refine propOf (y107_2 t6 t25_0 t25_1 t26 t27 b0_1 _) ?_
    exact cnd_gg2 hG (fun h0 => cnd_gg h0 fun h1 => cnd_need (decide_eq_true (Nat.le_refl _)) (cnd_gg h1 fun h2 => ⟨((t6 + t25_1.sn t27.toNat 0), t25_0, t25_1, t26, (IntKind.i64.wrap (t27 + 1)), (b0_1.app t6 (t25_1.sub t27.toNat 0))), rfl, rfl, h2⟩)) (fun h0 => h0.2)
  · intro s k h
    unfold g107_2 at h
    split at h <;> try exact h.elim
    rename_i e1
    rw [needs_iff] at h
    have hq := h.1
    simp only [List.mem_cons, forall_eq_or_imp, decide_eq_true_eq, List.not_mem_nil, false_imp_iff, implies_true, and_true] at hq
    obtain ⟨rfl, hq⟩ := hq
    exact ⟨_, e1, _, (_, _, _, _, _, _), rfl, rfl, hq, h.2⟩
theorem x107 (na0 : Nat) (da0 : Dat) (R : SV → List Blk → List Blk → Prop) : exec Try.prog [(136, c136)] (lamOf [(0, g107_0), (2, g107_2)]) 8 (Try.f107.body.getD .skip) (initS Try.f107.ntmps [.ro [.sl [.int .i64, .int .i64]] na0 da0] 0 (memOf [])) (retK Try.prog Try.f107.results.toList (outK 0 (List.range 0) [] (.k) fun v U N => R v U N)) =
 (cnd ((decide (na0 = na0)))
 (cnd (((o107_0 na0 da0 da0 ((↑na0 : Int)) 0 0).isSome))
 (cnd ((n136 ((o107_0 na0 da0 da0 ((↑na0 : Int)) 0 0).getD 0)))
 (cnd (((o107_2 na0 da0 ((↑na0 : Int)) 0 0 noDat).isSome))
 (R (.gr 0 2 ((o107_2 na0 da0 (↑na0 : Int) 0 0 noDat).getD default).1) [] [.row 28 [.int .i64, .int .i64] ((o107_2 na0 da0 (↑na0 : Int) 0 0 noDat).getD default).2.1 (((o107_2 na0 da0 (↑na0 : Int) 0 0 noDat).getD default).2.2)])
     False)
    False)
   False)
  False) := by kernel_rfl
noncomputable def m107 (na0 : Nat) (da0 : Dat) : Nat × Nat × Dat :=
 (((o107_2 na0 da0 (↑na0 : Int) 0 0 noDat).getD default).1, ((o107_2 na0 da0 (↑na0 : Int) 0 0 noDat).getD default).2.1, (((o107_2 na0 da0 (↑na0 : Int) 0 0 noDat).getD default).2.2))
noncomputable def n107 (na0 : Nat) (da0 : Dat) : Bool :=
 ((((o107_0 na0 da0 da0 ((↑na0 : Int)) 0 0).isSome)) && (((n136 ((o107_0 na0 da0 da0 ((↑na0 : Int)) 0 0).getD 0))) && ((((o107_2 na0 da0 ((↑na0 : Int)) 0 0 noDat).isSome)) && true)))
noncomputable def q107 (r : Nat × Nat × Dat) : SV × List Blk × List Blk := (.gr 0 2 r.1, [], [.row 28 [.int .i64, .int .i64] r.2.1 r.2.2])
noncomputable def g107 : List SV → List Blk → Option OpRes := fun vs bs => match vs, bs with
  | [.ro [.sl [.int .i64, .int .i64]] na0 da0], [] => some (resOf 0 (q107 (m107 na0 da0)) [n107 na0 da0])
  | _, _ => none
noncomputable def c107 : Ctr := genC [.ro [.sl [.int .i64, .int .i64]]] g107
theorem p107 (na0 : Nat) (da0 : Dat) (hn : n107 na0 da0 = true) : exec Try.prog [(136, c136)] (lamOf [(0, g107_0), (2, g107_2)]) 8 (Try.f107.body.getD .skip) (initS Try.f107.ntmps [.ro [.sl [.int .i64, .int .i64]] na0 da0] 0 (memOf [])) (retK Try.prog Try.f107.results.toList (outK 0 (List.range 0) [] (.k) fun v U N => (v, U, N) = (q107 (m107 na0 da0)))) :=
  propOf (x107 na0 da0 _) (cnd_need (decide_eq_true rfl) (cnd_need (and_l hn) (cnd_need (and_l (and_r hn)) (cnd_need (and_l (and_r (and_r hn))) (leaf_of (l := (((o107_2 na0 da0 (↑na0 : Int) 0 0 noDat).getD default).1, ((o107_2 na0 da0 (↑na0 : Int) 0 0 noDat).getD default).2.1, (((o107_2 na0 da0 (↑na0 : Int) 0 0 noDat).getD default).2.2))) rfl rfl)))))
theorem k107 : CtrOk Try.prog c107 107 := ctr_of (tabOk_cons k136 tabOk_nil) mix_ok 8 (fn := Try.f107) (c := (Try.f107.body.getD .skip)) (grs := []) (rh := .k) (Λ := (lamOf [(0, g107_0), (2, g107_2)])) Try.func107 rfl (by kernel_rfl) (lam_of rfl (lams_cons z107_0 (lams_cons z107_2 lams_nil))) fun vs bs q h hn => by
  unfold g107 at h
  split at h <;> cases h
  exact ⟨_, rfl, p107 _ _ (hn _ (List.mem_singleton.2 rfl))⟩
/-! ### slices.Reverse[[]int,int] -/
noncomputable def l87_0 (t0 : Nat) (b0_0 : Nat) : Nat → Int → Int → Dat → Option (Dat)
  | 0, _, _, _ => none
  | f + 1, t2, t3, b0_1 => (cond ((decide (t2 < t3))) (cond ((decide (0 ≤ t3 ∧ t3 < (↑t0 : Int)))) (cond ((decide (t3.toNat < b0_0))) (cond ((decide (0 ≤ t2 ∧ t2 < (↑t0 : Int)))) (cond ((decide (t2.toNat < b0_0))) (cond ((decide (0 ≤ t2 ∧ t2 < (↑t0 : Int)))) (cond ((decide (t2.toNat < b0_0))) (cond ((decide (0 ≤ t3 ∧ t3 < (↑t0 : Int)))) (cond ((decide (t3.toNat < b0_0))) (l87_0 t0 b0_0 f (IntKind.i64.wrap (t2 + 1)) (IntKind.i64.wrap (t3 - 1)) ((b0_1.upd t2.toNat 0 [.int .i64 (b0_1.ii t3.toNat 0)]).upd t3.toNat 0 [.int .i64 (b0_1.ii t2.toNat 0)])) none) none) none) none) none) none) none) none) (some b0_1))
noncomputable abbrev o87_0 (t0 : Nat) (b0_0 : Nat) (t2 : Int) (t3 : Int) (b0_1 : Dat) : Option (Dat) := l87_0 t0 b0_0 (t0 + t2.toNat + t3.toNat + b0_0 + 8) t2 t3 b0_1
noncomputable def e87_0 (t0 : Nat) (b0_0 : Nat) (r : Dat) (K : XR) : Prop := K (XE.exit 0) [] [.row 3 [.int .i64] b0_0 r]
noncomputable def g87_0 : LSum := fun s k => match czv 1 28 [0, 2, 3] 1 [] s with
  | some ([.gr 0 1 t0, .int .i64 t2, .int .i64 t3], [.row 3 [.int .i64] b0_0 b0_1]) => needs [(o87_0 t0 b0_0 t2 t3 b0_1).isSome] (e87_0 t0 b0_0 ((o87_0 t0 b0_0 t2 t3 b0_1).getD default) fun e vs bs => inBlk 0 k e (mkSt 1 28 [] vs 1 bs))
  | _ => False
theorem y87_0 (t0 : Nat) (t2 : Int) (t3 : Int) (b0_0 : Nat) (b0_1 : Dat) (R : XR) : exec Try.prog [] (fun _ => none) 8 (unloop (bodyAt (Try.f87.body.getD .skip) 0)) (mkSt 1 28 [0, 2, 3] [.gr 0 1 t0, .int .i64 t2, .int .i64 t3] 1 [.row 3 [.int .i64] b0_0 b0_1]) (canonK 1 28 [0, 2, 3] [] 1 [] R) =
 (cnd ((decide (t2 < t3)))
 (cnd ((decide (0 ≤ t3 ∧ t3 < (↑t0 : Int))))
 (cnd ((decide (t3.toNat < b0_0)))
 (cnd ((decide (0 ≤ t2 ∧ t2 < (↑t0 : Int))))
 (cnd ((decide (t2.toNat < b0_0)))
 (cnd ((decide (0 ≤ t2 ∧ t2 < (↑t0 : Int))))
 (cnd ((decide (t2.toNat < b0_0)))
 (cnd ((decide (0 ≤ t3 ∧ t3 < (↑t0 : Int))))
 (cnd ((decide (t3.toNat < b0_0)))
 (R (XE.normal) [.gr 0 1 t0, .int .i64 (IntKind.i64.wrap (t2 + 1)), .int .i64 (IntKind.i64.wrap (t3 - 1))] [.row 3 [.int .i64] b0_0 ((b0_1.upd t2.toNat 0 [.int .i64 (b0_1.ii t3.toNat 0)]).upd t3.toNat 0 [.int .i64 (b0_1.ii t2.toNat 0)])])
          False)
         False)
        False)
       False)
      False)
     False)
    False)
   False)
 (R (XE.exit 0) [] [.row 3 [.int .i64] b0_0 b0_1])) := by kernel_rfl
theorem z87_0 : LOk Try.prog g87_0 (.block 0 (bodyAt (Try.f87.body.getD .skip) 0)) := by
  refine loop_blk (ι := Nat × Int × Int × Nat × Dat) (L := []) (Λ := (fun _ => none)) (fuel := 8) (na := 1) (nt := 28) (nx := 1) (Lh := [0, 2, 3]) (Le := []) (gl := []) tabOk_nil mix_ok noLam rfl (fun f x K => GG default (e87_0 x.1 x.2.2.2.1) K (l87_0 x.1 x.2.2.2.1 f x.2.1 x.2.2.1 x.2.2.2.2)) (fun x => [.gr 0 1 x.1, .int .i64 x.2.1, .int .i64 x.2.2.1]) (fun x => [.row 3 [.int .i64] x.2.2.2.1 x.2.2.2.2]) (fun x K => gg_none) ?_ ?_
  · rintro f ⟨t0, t2, t3, b0_0, b0_1⟩ K hG
    have hG : GG default (e87_0 t0 b0_0) K (cond ((decide (t2 < t3))) (cond ((decide (0 ≤ t3 ∧ t3 < (↑t0 : Int)))) (cond ((decide (t3.toNat < b0_0))) (cond ((decide (0 ≤ t2 ∧ t2 < (↑t0 : Int)))) (cond ((decide (t2.toNat < b0_0))) (cond ((decide (0 ≤ t2 ∧ t2 < (↑t0 : Int)))) (cond ((decide (t2.toNat < b0_0))) (cond ((decide (0 ≤ t3 ∧ t3 < (↑t0 : Int)))) (cond ((decide (t3.toNat < b0_0))) (l87_0 t0 b0_0 f (IntKind.i64.wrap (t2 + 1)) (IntKind.i64.wrap (t3 - 1)) ((b0_1.upd t2.toNat 0 [.int .i64 (b0_1.ii t3.toNat 0)]).upd t3.toNat 0 [.int .i64 (b0_1.ii t2.toNat 0)])) none) none) none) none) none) none) none) none) (some b0_1)) := hG
    refine propOf (y87_0 t0 t2 t3 b0_0 b0_1 _) ?_
    exact cnd_gg2 hG (fun h0 => cnd_gg h0 fun h1 => cnd_gg h1 fun h2 => cnd_gg h2 fun h3 => cnd_gg h3 fun h4 => cnd_gg h4 fun h5 => cnd_gg h5 fun h6 => cnd_gg h6 fun h7 => cnd_gg h7 fun h8 => ⟨(t0, (IntKind.i64.wrap (t2 + 1)), (IntKind.i64.wrap (t3 - 1)), b0_0, ((b0_1.upd t2.toNat 0 [.int .i64 (b0_1.ii t3.toNat 0)]).upd t3.toNat 0 [.int .i64 (b0_1.ii t2.toNat 0)])), rfl, rfl, h8⟩) (fun h0 => h0.2)
  · intro s k h
    unfold g87_0 at h
    split at h <;> try exact h.elim
    rename_i e1
    rw [needs_iff] at h
    exact ⟨_, e1, _, (_, _, _, _, _), rfl, rfl, h.1 _ (List.mem_singleton.2 rfl), h.2⟩
theorem x87 (na0 : Nat) (ma0 : Nat) (da0 : Dat) (R : SV → List Blk → List Blk → Prop) : exec Try.prog [] (lamOf [(0, g87_0)]) 8 (Try.f87.body.getD .skip) (initS Try.f87.ntmps [.gr 0 1 na0] 1 (memOf [.row 3 [.int .i64] ma0 da0])) (retK Try.prog Try.f87.results.toList (outK 1 (List.range 1) [] (.k) fun v U N => R v U N)) =
 (cnd (((o87_0 na0 ma0 0 (IntKind.i64.wrap (((↑na0 : Int)) - 1)) da0).isSome))
 (R (.tup []) [.row 3 [.int .i64] ma0 ((o87_0 na0 ma0 0 (IntKind.i64.wrap (((↑na0 : Int)) - 1)) da0).getD default)] [])
  False) := by kernel_rfl
noncomputable def m87 (na0 : Nat) (ma0 : Nat) (da0 : Dat) : Nat × Dat :=
 (ma0, ((o87_0 na0 ma0 0 (IntKind.i64.wrap (((↑na0 : Int)) - 1)) da0).getD default))
noncomputable def n87 (na0 : Nat) (ma0 : Nat) (da0 : Dat) : Bool :=
 ((((o87_0 na0 ma0 0 (IntKind.i64.wrap (((↑na0 : Int)) - 1)) da0).isSome)) && true)
noncomputable def q87 (r : Nat × Dat) : SV × List Blk × List Blk := (.tup [], [.row 3 [.int .i64] r.1 r.2], [])
noncomputable def g87 : List SV → List Blk → Option OpRes := fun vs bs => match vs, bs with
  | [.gr 0 1 na0], [.row 3 [.int .i64] ma0 da0] => some (resOf 1 (q87 (m87 na0 ma0 da0)) [n87 na0 ma0 da0])
  | _, _ => none
noncomputable def c87 : Ctr := genC [.gr 3 [.int .i64]] g87
theorem p87 (na0 : Nat) (ma0 : Nat) (da0 : Dat) (hn : n87 na0 ma0 da0 = true) : exec Try.prog [] (lamOf [(0, g87_0)]) 8 (Try.f87.body.getD .skip) (initS Try.f87.ntmps [.gr 0 1 na0] 1 (memOf [.row 3 [.int .i64] ma0 da0])) (retK Try.prog Try.f87.results.toList (outK 1 (List.range 1) [] (.k) fun v U N => (v, U, N) = (q87 (m87 na0 ma0 da0)))) :=
  propOf (x87 na0 ma0 da0 _) (cnd_need (and_l hn) (leaf_of (l := (ma0, ((o87_0 na0 ma0 0 (IntKind.i64.wrap (((↑na0 : Int)) - 1)) da0).getD default))) rfl rfl))
theorem k87 : CtrOk Try.prog c87 87 := ctr_of tabOk_nil mix_ok 8 (fn := Try.f87) (c := (Try.f87.body.getD .skip)) (grs := []) (rh := .k) (Λ := (lamOf [(0, g87_0)])) Try.func87 rfl (by kernel_rfl) (lam_of rfl (lams_cons z87_0 lams_nil)) fun vs bs q h hn => by
  unfold g87 at h
  split at h <;> cases h
  exact ⟨_, rfl, p87 _ _ _ (hn _ (List.mem_singleton.2 rfl))⟩
/-! ### slices.insertionSortCmpFunc[shotline/api.Range] -/
noncomputable def l147c109_2 (t0 : Nat) (t1 : Int) (t2 : Int) (t8 : Int) (b0_0 : Nat) : Nat → Int → Dat → Option (Dat)
  | 0, _, _ => none
  | f + 1, t9, b0_1 => (cond ((bif (bif (decide (t1 < t9)) then false else true) then true else (decide (0 ≤ t9 ∧ t9 < (↑t0 : Int))))) (cond ((bif (bif (decide (t1 < t9)) then false else true) then true else (decide (t9.toNat < b0_0)))) (cond ((bif (bif (decide (t1 < t9)) then false else true) then true else (decide (0 ≤ IntKind.i64.wrap (t9 - 1) ∧ IntKind.i64.wrap (t9 - 1) < (↑t0 : Int))))) (cond ((bif (bif (decide (t1 < t9)) then false else true) then true else (decide (((IntKind.i64.wrap (t9 - 1)).toNat) < b0_0)))) (cond ((bif (decide (t1 < t9)) then (decide ((m109 (b0_1.ii t9.toNat 0) (b0_1.ii t9.toNat 1) (b0_1.ii ((IntKind.i64.wrap (t9 - 1)).toNat) 0) (b0_1.ii ((IntKind.i64.wrap (t9 - 1)).toNat) 1)) < 0)) else false)) (cond ((decide (0 ≤ IntKind.i64.wrap (t9 - 1) ∧ IntKind.i64.wrap (t9 - 1) < (↑t0 : Int)))) (cond ((decide (((IntKind.i64.wrap (t9 - 1)).toNat) < b0_0))) (cond ((decide (0 ≤ t9 ∧ t9 < (↑t0 : Int)))) (cond ((decide (t9.toNat < b0_0))) (cond ((decide (0 ≤ t9 ∧ t9 < (↑t0 : Int)))) (cond ((decide (t9.toNat < b0_0))) (cond ((decide (0 ≤ IntKind.i64.wrap (t9 - 1) ∧ IntKind.i64.wrap (t9 - 1) < (↑t0 : Int)))) (cond ((decide (((IntKind.i64.wrap (t9 - 1)).toNat) < b0_0))) (l147c109_2 t0 t1 t2 t8 b0_0 f (IntKind.i64.wrap (t9 - 1)) ((b0_1.upd t9.toNat 0 [.int .i64 (b0_1.ii ((IntKind.i64.wrap (t9 - 1)).toNat) 0), .int .i64 (b0_1.ii ((IntKind.i64.wrap (t9 - 1)).toNat) 1)]).upd ((IntKind.i64.wrap (t9 - 1)).toNat) 0 [.int .i64 (b0_1.ii t9.toNat 0), .int .i64 (b0_1.ii t9.toNat 1)])) none) none) none) none) none) none) none) none) (some b0_1)) none) none) none) none)
noncomputable abbrev o147c109_2 (t0 : Nat) (t1 : Int) (t2 : Int) (t8 : Int) (b0_0 : Nat) (t9 : Int) (b0_1 : Dat) : Option (Dat) := l147c109_2 t0 t1 t2 t8 b0_0 (t0 + t1.toNat + t2.toNat + t8.toNat + t9.toNat + b0_0 + 8) t9 b0_1
noncomputable def e147c109_2 (t0 : Nat) (t1 : Int) (t2 : Int) (t8 : Int) (b0_0 : Nat) (r : Dat) (K : XR) : Prop := K (XE.exit 2) [.gr 0 2 t0, .int .i64 t1, .int .i64 t2, .fn 109 [], .int .i64 t8] [.row 28 [.int .i64, .int .i64] b0_0 r]
noncomputable def g147c109_2 : LSum := fun s k => match czv 1 53 [0, 1, 2, 3, 8, 9] 1 [] s with
  | some ([.gr 0 2 t0, .int .i64 t1, .int .i64 t2, .fn 109 [], .int .i64 t8, .int .i64 t9], [.row 28 [.int .i64, .int .i64] b0_0 b0_1]) => needs [(o147c109_2 t0 t1 t2 t8 b0_0 t9 b0_1).isSome] (e147c109_2 t0 t1 t2 t8 b0_0 ((o147c109_2 t0 t1 t2 t8 b0_0 t9 b0_1).getD default) fun e vs bs => inBlk 2 k e (mkSt 1 53 [0, 1, 2, 3, 8] vs 1 bs))
  | _ => False
theorem y147c109_2 (t0 : Nat) (t1 : Int) (t2 : Int) (t8 : Int) (t9 : Int) (b0_0 : Nat) (b0_1 : Dat) (R : XR) : exec Try.prog [(109, c109)] (fun _ => none) 8 (unloop (bodyAt (Try.f147.body.getD .skip) 2)) (mkSt 1 53 [0, 1, 2, 3, 8, 9] [.gr 0 2 t0, .int .i64 t1, .int .i64 t2, .fn 109 [], .int .i64 t8, .int .i64 t9] 1 [.row 28 [.int .i64, .int .i64] b0_0 b0_1]) (canonK 1 53 [0, 1, 2, 3, 8, 9] [0, 1, 2, 3, 8] 1 [] R) =
 (cnd ((bif (bif (decide (t1 < t9)) then false else true) then true else (decide (0 ≤ t9 ∧ t9 < (↑t0 : Int)))))
 (cnd ((bif (bif (decide (t1 < t9)) then false else true) then true else (decide (t9.toNat < b0_0))))
 (cnd ((bif (bif (decide (t1 < t9)) then false else true) then true else (decide (0 ≤ IntKind.i64.wrap (t9 - 1) ∧ IntKind.i64.wrap (t9 - 1) < (↑t0 : Int)))))
 (cnd ((bif (bif (decide (t1 < t9)) then false else true) then true else (decide (((IntKind.i64.wrap (t9 - 1)).toNat) < b0_0))))
 (cnd ((bif (decide (t1 < t9)) then (decide ((m109 (b0_1.ii t9.toNat 0) (b0_1.ii t9.toNat 1) (b0_1.ii ((IntKind.i64.wrap (t9 - 1)).toNat) 0) (b0_1.ii ((IntKind.i64.wrap (t9 - 1)).toNat) 1)) < 0)) else false))
 (cnd ((decide (0 ≤ IntKind.i64.wrap (t9 - 1) ∧ IntKind.i64.wrap (t9 - 1) < (↑t0 : Int))))
 (cnd ((decide (((IntKind.i64.wrap (t9 - 1)).toNat) < b0_0)))
 (cnd ((decide (0 ≤ t9 ∧ t9 < (↑t0 : Int))))
 (cnd ((decide (t9.toNat < b0_0)))
 (cnd ((decide (0 ≤ t9 ∧ t9 < (↑t0 : Int))))
 (cnd ((decide (t9.toNat < b0_0)))
 (cnd ((decide (0 ≤ IntKind.i64.wrap (t9 - 1) ∧ IntKind.i64.wrap (t9 - 1) < (↑t0 : Int))))
 (cnd ((decide (((IntKind.i64.wrap (t9 - 1)).toNat) < b0_0)))
 (R (XE.normal) [.gr 0 2 t0, .int .i64 t1, .int .i64 t2, .fn 109 [], .int .i64 t8, .int .i64 (IntKind.i64.wrap (t9 - 1))] [.row 28 [.int .i64, .int .i64] b0_0 ((b0_1.upd t9.toNat 0 [.int .i64 (b0_1.ii ((IntKind.i64.wrap (t9 - 1)).toNat) 0), .int .i64 (b0_1.ii ((IntKind.i64.wrap (t9 - 1)).toNat) 1)]).upd ((IntKind.i64.wrap (t9 - 1)).toNat) 0 [.int .i64 (b0_1.ii t9.toNat 0), .int .i64 (b0_1.ii t9.toNat 1)])])
              False)
             False)
            False)
           False)
          False)
         False)
        False)
       False)
 (R (XE.exit 2) [.gr 0 2 t0, .int .i64 t1, .int .i64 t2, .fn 109 [], .int .i64 t8] [.row 28 [.int .i64, .int .i64] b0_0 b0_1]))
     False)
    False)
   False)
  False) := by kernel_rfl
theorem z147c109_2 : LOk Try.prog g147c109_2 (.block 2 (bodyAt (Try.f147.body.getD .skip) 2)) := by
  refine loop_blk (ι := Nat × Int × Int × Int × Int × Nat × Dat) (L := [(109, c109)]) (Λ := (fun _ => none)) (fuel := 8) (na := 1) (nt := 53) (nx := 1) (Lh := [0, 1, 2, 3, 8, 9]) (Le := [0, 1, 2, 3, 8]) (gl := []) (tabOk_cons k109 tabOk_nil) mix_ok noLam rfl (fun f x K => GG default (e147c109_2 x.1 x.2.1 x.2.2.1 x.2.2.2.1 x.2.2.2.2.2.1) K (l147c109_2 x.1 x.2.1 x.2.2.1 x.2.2.2.1 x.2.2.2.2.2.1 f x.2.2.2.2.1 x.2.2.2.2.2.2)) (fun x => [.gr 0 2 x.1, .int .i64 x.2.1, .int .i64 x.2.2.1, .fn 109 [], .int .i64 x.2.2.2.1, .int .i64 x.2.2.2.2.1]) (fun x => [.row 28 [.int .i64, .int .i64] x.2.2.2.2.2.1 x.2.2.2.2.2.2]) (fun x K => gg_none) ?_ ?_
  · rintro f ⟨t0, t1, t2, t8, t9, b0_0, b0_1⟩ K hG
    have hG : GG default (e147c109_2 t0 t1 t2 t8 b0_0) K (cond ((bif (bif (decide (t1 < t9)) then false else true) then true else (decide (0 ≤ t9 ∧ t9 < (↑t0 : Int))))) (cond ((bif (bif (decide (t1 < t9)) then false else true) then true else (decide (t9.toNat < b0_0)))) (cond ((bif (bif (decide (t1 < t9)) then false else true) then true else (decide (0 ≤ IntKind.i64.wrap (t9 - 1) ∧ IntKind.i64.wrap (t9 - 1) < (↑t0 : Int))))) (cond ((bif (bif (decide (t1 < t9)) then false else true) then true else (decide (((IntKind.i64.wrap (t9 - 1)).toNat) < b0_0)))) (cond ((bif (decide (t1 < t9)) then (decide ((m109 (b0_1.ii t9.toNat 0) (b0_1.ii t9.toNat 1) (b0_1.ii ((IntKind.i64.wrap (t9 - 1)).toNat) 0) (b0_1.ii ((IntKind.i64.wrap (t9 - 1)).toNat) 1)) < 0)) else false)) (cond ((decide (0 ≤ IntKind.i64.wrap (t9 - 1) ∧ IntKind.i64.wrap (t9 - 1) < (↑t0 : Int)))) (cond ((decide (((IntKind.i64.wrap (t9 - 1)).toNat) < b0_0))) (cond ((decide (0 ≤ t9 ∧ t9 < (↑t0 : Int)))) (cond ((decide (t9.toNat < b0_0))) (cond ((decide (0 ≤ t9 ∧ t9 < (↑t0 : Int)))) (cond ((decide (t9.toNat < b0_0))) (cond ((decide (0 ≤ IntKind.i64.wrap (t9 - 1) ∧ IntKind.i64.wrap (t9 - 1) < (↑t0 : Int)))) (cond ((decide (((IntKind.i64.wrap (t9 - 1)).toNat) < b0_0))) (l147c109_2 t0 t1 t2 t8 b0_0 f (IntKind.i64.wrap (t9 - 1)) ((b0_1.upd t9.toNat 0 [.int .i64 (b0_1.ii ((IntKind.i64.wrap (t9 - 1)).toNat) 0), .int .i64 (b0_1.ii ((IntKind.i64.wrap (t9 - 1)).toNat) 1)]).upd ((IntKind.i64.wrap (t9 - 1)).toNat) 0 [.int .i64 (b0_1.ii t9.toNat 0), .int .i64 (b0_1.ii t9.toNat 1)])) none) none) none) none) none) none) none) none) (some b0_1)) none) none) none) none) := hG
    refine propOf (y147c109_2 t0 t1 t2 t8 t9 b0_0 b0_1 _) ?_
    exact cnd_gg hG fun h0 => cnd_gg h0 fun h1 => cnd_gg h1 fun h2 => cnd_gg h2 fun h3 => cnd_gg2 h3 (fun h4 => cnd_gg h4 fun h5 => cnd_gg h5 fun h6 => cnd_gg h6 fun h7 => cnd_gg h7 fun h8 => cnd_gg h8 fun h9 => cnd_gg h9 fun h10 => cnd_gg h10 fun h11 => cnd_gg h11 fun h12 => ⟨(t0, t1, t2, t8, (IntKind.i64.wrap (t9 - 1)), b0_0, ((b0_1.upd t9.toNat 0 [.int .i64 (b0_1.ii ((IntKind.i64.wrap (t9 - 1)).toNat) 0), .int .i64 (b0_1.ii ((IntKind.i64.wrap (t9 - 1)).toNat) 1)]).upd ((IntKind.i64.wrap (t9 - 1)).toNat) 0 [.int .i64 (b0_1.ii t9.toNat 0), .int .i64 (b0_1.ii t9.toNat 1)])), rfl, rfl, h12⟩) (fun h4 => h4.2)
  · intro s k h
    unfold g147c109_2 at h
    split at h <;> try exact h.elim
    rename_i e1
    rw [needs_iff] at h
    exact ⟨_, e1, _, (_, _, _, _, _, _, _), rfl, rfl, h.1 _ (List.mem_singleton.2 rfl), h.2⟩
noncomputable def l147c109_0 (t0 : Nat) (t1 : Int) (t2 : Int) (b0_0 : Nat) : Nat → Int → Dat → Option (Dat)
  | 0, _, _ => none
  | f + 1, t8, b0_1 => (cond ((decide (t8 < t2))) (cond (((o147c109_2 t0 t1 t2 t8 b0_0 t8 b0_1).isSome)) (l147c109_0 t0 t1 t2 b0_0 f (IntKind.i64.wrap (t8 + 1)) ((o147c109_2 t0 t1 t2 t8 b0_0 t8 b0_1).getD default)) none) (some b0_1))
noncomputable abbrev o147c109_0 (t0 : Nat) (t1 : Int) (t2 : Int) (b0_0 : Nat) (t8 : Int) (b0_1 : Dat) : Option (Dat) := l147c109_0 t0 t1 t2 b0_0 (t0 + t1.toNat + t2.toNat + t8.toNat + b0_0 + 8) t8 b0_1
noncomputable def e147c109_0 (t0 : Nat) (t1 : Int) (t2 : Int) (b0_0 : Nat) (r : Dat) (K : XR) : Prop := K (XE.exit 0) [] [.row 28 [.int .i64, .int .i64] b0_0 r]
noncomputable def g147c109_0 : LSum := fun s k => match czv 1 53 [0, 1, 2, 3, 8] 1 [] s with
  | some ([.gr 0 2 t0, .int .i64 t1, .int .i64 t2, .fn 109 [], .int .i64 t8], [.row 28 [.int .i64, .int .i64] b0_0 b0_1]) => needs [(o147c109_0 t0 t1 t2 b0_0 t8 b0_1).isSome] (e147c109_0 t0 t1 t2 b0_0 ((o147c109_0 t0 t1 t2 b0_0 t8 b0_1).getD default) fun e vs bs => inBlk 0 k e (mkSt 1 53 [] vs 1 bs))
  | _ => False
theorem y147c109_0 (t0 : Nat) (t1 : Int) (t2 : Int) (t8 : Int) (b0_0 : Nat) (b0_1 : Dat) (R : XR) : exec Try.prog [(109, c109)] (lamOf [(2, g147c109_2)]) 8 (unloop (bodyAt (Try.f147.body.getD .skip) 0)) (mkSt 1 53 [0, 1, 2, 3, 8] [.gr 0 2 t0, .int .i64 t1, .int .i64 t2, .fn 109 [], .int .i64 t8] 1 [.row 28 [.int .i64, .int .i64] b0_0 b0_1]) (canonK 1 53 [0, 1, 2, 3, 8] [] 1 [] R) =
 (cnd ((decide (t8 < t2)))
 (cnd (((o147c109_2 t0 t1 t2 t8 b0_0 t8 b0_1).isSome))
 (R (XE.normal) [.gr 0 2 t0, .int .i64 t1, .int .i64 t2, .fn 109 [], .int .i64 (IntKind.i64.wrap (t8 + 1))] [.row 28 [.int .i64, .int .i64] b0_0 ((o147c109_2 t0 t1 t2 t8 b0_0 t8 b0_1).getD default)])
   False)
 (R (XE.exit 0) [] [.row 28 [.int .i64, .int .i64] b0_0 b0_1])) := by kernel_rfl
theorem z147c109_0 : LOk Try.prog g147c109_0 (.block 0 (bodyAt (Try.f147.body.getD .skip) 0)) := by
  refine loop_blk (ι := Nat × Int × Int × Int × Nat × Dat) (L := [(109, c109)]) (Λ := (lamOf [(2, g147c109_2)])) (fuel := 8) (na := 1) (nt := 53) (nx := 1) (Lh := [0, 1, 2, 3, 8]) (Le := []) (gl := []) (tabOk_cons k109 tabOk_nil) mix_ok (lam_of rfl (lams_cons z147c109_2 lams_nil)) rfl (fun f x K => GG default (e147c109_0 x.1 x.2.1 x.2.2.1 x.2.2.2.2.1) K (l147c109_0 x.1 x.2.1 x.2.2.1 x.2.2.2.2.1 f x.2.2.2.1 x.2.2.2.2.2)) (fun x => [.gr 0 2 x.1, .int .i64 x.2.1, .int .i64 x.2.2.1, .fn 109 [], .int .i64 x.2.2.2.1]) (fun x => [.row 28 [.int .i64, .int .i64] x.2.2.2.2.1 x.2.2.2.2.2]) (fun x K => gg_none) ?_ ?_
  · rintro f ⟨t0, t1, t2, t8, b0_0, b0_1⟩ K hG
    have hG : GG default (e147c109_0 t0 t1 t2 b0_0) K (cond ((decide (t8 < t2))) (cond (((o147c109_2 t0 t1 t2 t8 b0_0 t8 b0_1).isSome)) (l147c109_0 t0 t1 t2 b0_0 f (IntKind.i64.wrap (t8 + 1)) ((o147c109_2 t0 t1 t2 t8 b0_0 t8 b0_1).getD default)) none) (some b0_1)) := hG
    refine propOf (y147c109_0 t0 t1 t2 t8 b0_0 b0_1 _) ?_
    exact cnd_gg2 hG (fun h0 => cnd_gg h0 fun h1 => ⟨(t0, t1, t2, (IntKind.i64.wrap (t8 + 1)), b0_0, ((o147c109_2 t0 t1 t2 t8 b0_0 t8 b0_1).getD default)), rfl, rfl, h1⟩) (fun h0 => h0.2)
  · intro s k h
    unfold g147c109_0 at h
    split at h <;> try exact h.elim
    rename_i e1
    rw [needs_iff] at h
    exact ⟨_, e1, _, (_, _, _, _, _, _), rfl, rfl, h.1 _ (List.mem_singleton.2 rfl), h.2⟩
theorem x147c109 (na0 : Nat) (ma0 : Nat) (da0 : Dat) (a1 : Int) (a2 : Int) (R : SV → List Blk → List Blk → Prop) : exec Try.prog [(109, c109)] (lamOf [(2, g147c109_2), (0, g147c109_0)]) 8 (Try.f147.body.getD .skip) (initS Try.f147.ntmps [.gr 0 2 na0, .int .i64 a1, .int .i64 a2, .fn 109 []] 1 (memOf [.row 28 [.int .i64, .int .i64] ma0 da0])) (retK Try.prog Try.f147.results.toList (outK 1 (List.range 1) [] (.k) fun v U N => R v U N)) =
 (cnd (((o147c109_0 na0 a1 a2 ma0 (IntKind.i64.wrap (a1 + 1)) da0).isSome))
 (R (.tup []) [.row 28 [.int .i64, .int .i64] ma0 ((o147c109_0 na0 a1 a2 ma0 (IntKind.i64.wrap (a1 + 1)) da0).getD default)] [])
  False) := by kernel_rfl
noncomputable def m147c109 (na0 : Nat) (ma0 : Nat) (da0 : Dat) (a1 : Int) (a2 : Int) : Nat × Dat :=
 (ma0, ((o147c109_0 na0 a1 a2 ma0 (IntKind.i64.wrap (a1 + 1)) da0).getD default))
noncomputable def n147c109 (na0 : Nat) (ma0 : Nat) (da0 : Dat) (a1 : Int) (a2 : Int) : Bool :=
 ((((o147c109_0 na0 a1 a2 ma0 (IntKind.i64.wrap (a1 + 1)) da0).isSome)) && true)
noncomputable def q147c109 (r : Nat × Dat) : SV × List Blk × List Blk := (.tup [], [.row 28 [.int .i64, .int .i64] r.1 r.2], [])
noncomputable def g147c109 : List SV → List Blk → Option OpRes := fun vs bs => match vs, bs with
  | [.gr 0 2 na0, .int .i64 a1, .int .i64 a2, .fn 109 []], [.row 28 [.int .i64, .int .i64] ma0 da0] => some (resOf 1 (q147c109 (m147c109 na0 ma0 da0 a1 a2)) [n147c109 na0 ma0 da0 a1 a2])
  | _, _ => none
noncomputable def c147c109 : Ctr := genC [.gr 28 [.int .i64, .int .i64], .k, .k, .f []] g147c109
theorem p147c109 (na0 : Nat) (ma0 : Nat) (da0 : Dat) (a1 : Int) (a2 : Int) (hn : n147c109 na0 ma0 da0 a1 a2 = true) : exec Try.prog [(109, c109)] (lamOf [(2, g147c109_2), (0, g147c109_0)]) 8 (Try.f147.body.getD .skip) (initS Try.f147.ntmps [.gr 0 2 na0, .int .i64 a1, .int .i64 a2, .fn 109 []] 1 (memOf [.row 28 [.int .i64, .int .i64] ma0 da0])) (retK Try.prog Try.f147.results.toList (outK 1 (List.range 1) [] (.k) fun v U N => (v, U, N) = (q147c109 (m147c109 na0 ma0 da0 a1 a2)))) :=
  propOf (x147c109 na0 ma0 da0 a1 a2 _) (cnd_need (and_l hn) (leaf_of (l := (ma0, ((o147c109_0 na0 a1 a2 ma0 (IntKind.i64.wrap (a1 + 1)) da0).getD default))) rfl rfl))
theorem k147c109 : CtrOk Try.prog c147c109 147 := ctr_of (tabOk_cons k109 tabOk_nil) mix_ok 8 (fn := Try.f147) (c := (Try.f147.body.getD .skip)) (grs := []) (rh := .k) (Λ := (lamOf [(2, g147c109_2), (0, g147c109_0)])) Try.func147 rfl (by kernel_rfl) (lam_of rfl (lams_cons z147c109_2 (lams_cons z147c109_0 lams_nil))) fun vs bs q h hn => by
  unfold g147c109 at h
  split at h <;> cases h
  exact ⟨_, rfl, p147c109 _ _ _ _ _ (hn _ (List.mem_singleton.2 rfl))⟩
/-! ### slices.pdqsortCmpFunc[shotline/api.Range] -/
theorem x137c109 (na0 : Nat) (ma0 : Nat) (da0 : Dat) (a1 : Int) (a2 : Int) (a3 : Int) (R : SV → List Blk → List Blk → Prop) : exec Try.prog [(109, c109), (147, c147c109)] (fun _ => none) 8 (Try.f137.body.getD .skip) (initS Try.f137.ntmps [.gr 0 2 na0, .int .i64 a1, .int .i64 a2, .int .i64 a3, .fn 109 []] 1 (memOf [.row 28 [.int .i64, .int .i64] ma0 da0])) (retK Try.prog Try.f137.results.toList (outK 1 (List.range 1) [] (.k) fun v U N => R v U N)) =
 (cnd ((decide ((IntKind.i64.wrap (a2 - a1)) ≤ 12)))
 (cnd ((n147c109 na0 ma0 da0 a1 a2))
 (R (.tup []) [.row 28 [.int .i64, .int .i64] (m147c109 na0 ma0 da0 a1 a2).1 ((m147c109 na0 ma0 da0 a1 a2).2)] [])
   False)
 (cnd ((decide (a3 = 0)))
   False
   False)) := by kernel_rfl
noncomputable def m137c109 (na0 : Nat) (ma0 : Nat) (da0 : Dat) (a1 : Int) (a2 : Int) (a3 : Int) : Nat × Dat :=
 ((m147c109 na0 ma0 da0 a1 a2).1, ((m147c109 na0 ma0 da0 a1 a2).2))
noncomputable def n137c109 (na0 : Nat) (ma0 : Nat) (da0 : Dat) (a1 : Int) (a2 : Int) (a3 : Int) : Bool :=
 (((decide ((IntKind.i64.wrap (a2 - a1)) ≤ 12))) && (((n147c109 na0 ma0 da0 a1 a2)) && true))
noncomputable def q137c109 (r : Nat × Dat) : SV × List Blk × List Blk := (.tup [], [.row 28 [.int .i64, .int .i64] r.1 r.2], [])
noncomputable def g137c109 : List SV → List Blk → Option OpRes := fun vs bs => match vs, bs with
  | [.gr 0 2 na0, .int .i64 a1, .int .i64 a2, .int .i64 a3, .fn 109 []], [.row 28 [.int .i64, .int .i64] ma0 da0] => some (resOf 1 (q137c109 (m137c109 na0 ma0 da0 a1 a2 a3)) [n137c109 na0 ma0 da0 a1 a2 a3])
  | _, _ => none
noncomputable def c137c109 : Ctr := genC [.gr 28 [.int .i64, .int .i64], .k, .k, .k, .f []] g137c109
theorem p137c109 (na0 : Nat) (ma0 : Nat) (da0 : Dat) (a1 : Int) (a2 : Int) (a3 : Int) (hn : n137c109 na0 ma0 da0 a1 a2 a3 = true) : exec Try.prog [(109, c109), (147, c147c109)] (fun _ => none) 8 (Try.f137.body.getD .skip) (initS Try.f137.ntmps [.gr 0 2 na0, .int .i64 a1, .int .i64 a2, .int .i64 a3, .fn 109 []] 1 (memOf [.row 28 [.int .i64, .int .i64] ma0 da0])) (retK Try.prog Try.f137.results.toList (outK 1 (List.range 1) [] (.k) fun v U N => (v, U, N) = (q137c109 (m137c109 na0 ma0 da0 a1 a2 a3)))) :=
  propOf (x137c109 na0 ma0 da0 a1 a2 a3 _) (cnd_of (fun _ => cnd_need (and_l (and_r hn)) (leaf_of (l := ((m147c109 na0 ma0 da0 a1 a2).1, ((m147c109 na0 ma0 da0 a1 a2).2))) rfl rfl)) (fun h0 => (Bool.false_ne_true (h0.symm.trans (and_l hn))).elim))
theorem k137c109 : CtrOk Try.prog c137c109 137 := ctr_of (tabOk_cons k109 (tabOk_cons k147c109 tabOk_nil)) mix_ok 8 (fn := Try.f137) (c := (Try.f137.body.getD .skip)) (grs := []) (rh := .k) (Λ := (fun _ => none)) Try.func137 rfl (by kernel_rfl) noLam fun vs bs q h hn => by
  unfold g137c109 at h
  split at h <;> cases h
  exact ⟨_, rfl, p137c109 _ _ _ _ _ _ (hn _ (List.mem_singleton.2 rfl))⟩
/-! ### slices.SortFunc[[]shotline/api.Range,shotline/api.Range] -/
theorem x108c109 (na0 : Nat) (ma0 : Nat) (da0 : Dat) (R : SV → List Blk → List Blk → Prop) : exec Try.prog [(109, c109), (137, c137c109), (138, c138)] (fun _ => none) 8 (Try.f108.body.getD .skip) (initS Try.f108.ntmps [.gr 0 2 na0, .fn 109 []] 1 (memOf [.row 28 [.int .i64, .int .i64] ma0 da0])) (retK Try.prog Try.f108.results.toList (outK 1 (List.range 1) [] (.k) fun v U N => R v U N)) =
 (cnd ((n138 (IntKind.u64.wrap ((↑na0 : Int)))))
 (cnd ((n137c109 na0 ma0 da0 0 ((↑na0 : Int)) (m138 (IntKind.u64.wrap ((↑na0 : Int))))))
 (R (.tup []) [.row 28 [.int .i64, .int .i64] (m137c109 na0 ma0 da0 0 (↑na0 : Int) (m138 (IntKind.u64.wrap (↑na0 : Int)))).1 ((m137c109 na0 ma0 da0 0 ((↑na0 : Int)) (m138 (IntKind.u64.wrap ((↑na0 : Int))))).2)] [])
   False)
  False) := by kernel_rfl
noncomputable def m108c109 (na0 : Nat) (ma0 : Nat) (da0 : Dat) : Nat × Dat :=
 ((m137c109 na0 ma0 da0 0 (↑na0 : Int) (m138 (IntKind.u64.wrap (↑na0 : Int)))).1, ((m137c109 na0 ma0 da0 0 ((↑na0 : Int)) (m138 (IntKind.u64.wrap ((↑na0 : Int))))).2))
noncomputable def n108c109 (na0 : Nat) (ma0 : Nat) (da0 : Dat) : Bool :=
 (((n138 (IntKind.u64.wrap ((↑na0 : Int))))) && (((n137c109 na0 ma0 da0 0 ((↑na0 : Int)) (m138 (IntKind.u64.wrap ((↑na0 : Int)))))) && true))
noncomputable def q108c109 (r : Nat × Dat) : SV × List Blk × List Blk := (.tup [], [.row 28 [.int .i64, .int .i64] r.1 r.2], [])
noncomputable def g108c109 : List SV → List Blk → Option OpRes := fun vs bs => match vs, bs with
  | [.gr 0 2 na0, .fn 109 []], [.row 28 [.int .i64, .int .i64] ma0 da0] => some (resOf 1 (q108c109 (m108c109 na0 ma0 da0)) [n108c109 na0 ma0 da0])
  | _, _ => none
noncomputable def c108c109 : Ctr := genC [.gr 28 [.int .i64, .int .i64], .f []] g108c109
theorem p108c109 (na0 : Nat) (ma0 : Nat) (da0 : Dat) (hn : n108c109 na0 ma0 da0 = true) : exec Try.prog [(109, c109), (137, c137c109), (138, c138)] (fun _ => none) 8 (Try.f108.body.getD .skip) (initS Try.f108.ntmps [.gr 0 2 na0, .fn 109 []] 1 (memOf [.row 28 [.int .i64, .int .i64] ma0 da0])) (retK Try.prog Try.f108.results.toList (outK 1 (List.range 1) [] (.k) fun v U N => (v, U, N) = (q108c109 (m108c109 na0 ma0 da0)))) :=
  propOf (x108c109 na0 ma0 da0 _) (cnd_need (and_l hn) (cnd_need (and_l (and_r hn)) (leaf_of (l := ((m137c109 na0 ma0 da0 0 (↑na0 : Int) (m138 (IntKind.u64.wrap (↑na0 : Int)))).1, ((m137c109 na0 ma0 da0 0 ((↑na0 : Int)) (m138 (IntKind.u64.wrap ((↑na0 : Int))))).2))) rfl rfl)))
theorem k108c109 : CtrOk Try.prog c108c109 108 := ctr_of (tabOk_cons k109 (tabOk_cons k137c109 (tabOk_cons k138 tabOk_nil))) mix_ok 8 (fn := Try.f108) (c := (Try.f108.body.getD .skip)) (grs := []) (rh := .k) (Λ := (fun _ => none)) Try.func108 rfl (by kernel_rfl) noLam fun vs bs q h hn => by
  unfold g108c109 at h
  split at h <;> cases h
  exact ⟨_, rfl, p108c109 _ _ _ (hn _ (List.mem_singleton.2 rfl))⟩
end Go.Proofs.Ytlaogoojkfjgoaa
