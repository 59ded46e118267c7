/-
 The law 'KitSetups' returns true for every input, and leaves its input as it was. Conditions: none.
-/
import Derived.Test.YtdcdjjogieojhaaGreatDoorKPWh
set_option linter.unusedVariables false
set_option linter.unusedSimpArgs false
set_option linter.unusedSectionVars false
namespace Go.Proofs.YtdcdjjogieojhaaGreatDoor
open Go
theorem kitSetups_said:Rows.KitSetupsCardSaid:=JR (JT fun nI dI nR dR s _ _ _ _ _=>NI nI dI nR dR s)
end Go.Proofs.YtdcdjjogieojhaaGreatDoor
