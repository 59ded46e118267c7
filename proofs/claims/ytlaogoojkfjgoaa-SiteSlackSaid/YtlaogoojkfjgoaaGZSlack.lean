/-
  The law 'SiteSlack' returns true for every input, and leaves its input as it was. Conditions: none.
-/
import Derived.Test.YtlaogoojkfjgoaaGFSlack
import Derived.Test.YtlaogoojkfjgoaaGPLoop
import Derived.Test.YtlaogoojkfjgoaaGPAng
import Derived.Test.YtlaogoojkfjgoaaGPCirc
import Derived.Test.YtlaogoojkfjgoaaGPRay
import Derived.Test.YtlaogoojkfjgoaaGPCos
import Derived.Test.YtlaogoojkfjgoaaGPTide
import Derived.Test.YtlaogoojkfjgoaaGE17
import Derived.Test.YtlaogoojkfjgoaaGPLevels
namespace Go.Proofs.Ytlaogoojkfjgoaa
open Go
theorem siteSlack_said : Rows.SiteSlackSaid := overSiteSlack fun a n d t l _ hn _ _ _ => lawSlack a n d t l (Nat.le_trans hn (by decide))
end Go.Proofs.Ytlaogoojkfjgoaa
