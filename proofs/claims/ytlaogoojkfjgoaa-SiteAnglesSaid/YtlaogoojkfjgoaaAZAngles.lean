/-
  The law 'SiteAngles' returns true for every input, and leaves its input as it was. Conditions: none.
-/
import Derived.Test.YtlaogoojkfjgoaaAFAngles
import Derived.Test.YtlaogoojkfjgoaaAPLoop
import Derived.Test.YtlaogoojkfjgoaaAPAng
import Derived.Test.YtlaogoojkfjgoaaAE17
import Derived.Test.YtlaogoojkfjgoaaAPAngles
namespace Go.Proofs.Ytlaogoojkfjgoaa
open Go
theorem siteAngles_said : Rows.SiteAnglesSaid := overSiteAngles fun a b c d _ _ _ _ => lawAngles a b c d
end Go.Proofs.Ytlaogoojkfjgoaa
