/-
 The law SiteTides: for every input it returns true and leaves its input as it was: the tied card. Conditions: none.
-/
import Derived.Test.YtpfipoimpmlmoaaGreatDoorJPTh
namespace Go.Proofs.YtpfipoimpmlmoaaGreatDoor
open Go
theorem siteTides_said:Rows.SiteTidesCardSaid:=cardSiteTides (overSiteTides fun M n d s _ _ _ _=>tides_law M n d s)
end Go.Proofs.YtpfipoimpmlmoaaGreatDoor
