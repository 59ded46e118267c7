/-
 The law 'KitTexts' returns true for every input, and leaves its input as it was. Conditions: none.
-/
import Derived.Test.YtdcdjjogieojhaaGreatDoorJPVd
namespace Go.Proofs.YtdcdjjogieojhaaGreatDoor
open Go
theorem kitTexts_said:Rows.KitTextsCardSaid:=cardKitTexts (overKitTexts fun _ _ _ _ _ a _ _ _ _ _ _ _ _ _ _ wa _ _ _ _=>texts_law _ _ _ _ _ _ _ _ _ _ _ (bounds_i64 wa))
end Go.Proofs.YtdcdjjogieojhaaGreatDoor
