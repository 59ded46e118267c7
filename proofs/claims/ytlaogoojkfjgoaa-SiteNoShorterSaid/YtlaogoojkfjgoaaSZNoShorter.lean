/-
  The law 'SiteNoShorter' returns true for every input, and leaves its input as it was. Conditions: none.
-/
import Derived.Test.YtlaogoojkfjgoaaSFNoShorter
import Derived.Test.YtlaogoojkfjgoaaSPLoop
import Derived.Test.YtlaogoojkfjgoaaSPAng
import Derived.Test.YtlaogoojkfjgoaaSPChart
import Derived.Test.YtlaogoojkfjgoaaSPFlat
import Derived.Test.YtlaogoojkfjgoaaSPWay
import Derived.Test.YtlaogoojkfjgoaaSPWay2
import Derived.Test.YtlaogoojkfjgoaaSE17
import Derived.Test.YtlaogoojkfjgoaaSPNoShorter
namespace Go.Proofs.Ytlaogoojkfjgoaa
open Go
theorem siteNoShorter_said : Rows.SiteNoShorterSaid := overSiteNoShorter fun n d n' d' n1 p hn _ hn' _ _ _ => lawNoShorter n d n' d' n1 p (Nat.le_trans hn (by decide)) (Nat.le_trans hn' (by decide))
end Go.Proofs.Ytlaogoojkfjgoaa
