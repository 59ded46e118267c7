/-
  The law 'SiteRuns' returns true for every input, and leaves its input as it was. Conditions: none.
-/
import Derived.Test.YtlaogoojkfjgoaaRFRuns
import Derived.Test.YtlaogoojkfjgoaaRPLoop
import Derived.Test.YtlaogoojkfjgoaaRPAng
import Derived.Test.YtlaogoojkfjgoaaRPChart
import Derived.Test.YtlaogoojkfjgoaaRPFlat
import Derived.Test.YtlaogoojkfjgoaaRPCheckW
import Derived.Test.YtlaogoojkfjgoaaRE17
import Derived.Test.YtlaogoojkfjgoaaRPRuns
namespace Go.Proofs.Ytlaogoojkfjgoaa
open Go
theorem siteRuns_said : Rows.SiteRunsSaid := overSiteRuns fun n d n' d' bg n1 p n2 s nw dw hn _ hn' _ _ _ _ _ _ _ _ => lawRuns n d n' d' bg n1 p n2 s nw dw (Nat.le_trans hn (by decide)) (Nat.le_trans hn' (by decide))
end Go.Proofs.Ytlaogoojkfjgoaa
