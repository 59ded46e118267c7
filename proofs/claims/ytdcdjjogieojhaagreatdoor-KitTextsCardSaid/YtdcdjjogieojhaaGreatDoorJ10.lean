/-
 Contracts of functions: models, equations by the kernel, contracts. Conditions: none.
-/
import Derived.Test.YtdcdjjogieojhaaGreatDoorJ9
import Derived.KernelRfl
namespace Go.Proofs.YtdcdjjogieojhaaGreatDoor
open Go Go.Sy Go.RowKit Go.ChangeMaps
noncomputable section
set_option linter.unusedVariables false
set_option linter.unusedSimpArgs false
set_option maxRecDepth 100000
set_option maxHeartbeats 2000000
/-! ### shotline/kit.line,all -/
def c29:Ctr:=orC c29k (orC c29u (orC c29f (orC c29a (orC c29i c29r))))
theorem k29:CtrOk Tryz.prog c29 29:=orC_ok k29k (orC_ok k29u (orC_ok k29f (orC_ok k29a (orC_ok k29i k29r))))
/-! ### shotline/kit.scan,all -/
def c31:Ctr:=orC c31k (orC c31u (orC c31f (orC c31a (orC c31i c31r))))
theorem k31:CtrOk Tryz.prog c31 31:=orC_ok k31k (orC_ok k31u (orC_ok k31f (orC_ok k31a (orC_ok k31i k31r))))
end
end Go.Proofs.YtdcdjjogieojhaaGreatDoor
