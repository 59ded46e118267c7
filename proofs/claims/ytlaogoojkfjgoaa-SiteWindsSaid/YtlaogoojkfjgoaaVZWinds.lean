/-
  The law 'SiteWinds' returns true for every input, and leaves its input as it was. Conditions: none.
-/
import Derived.Test.YtlaogoojkfjgoaaVFWinds
import Derived.Test.YtlaogoojkfjgoaaVPLoop
import Derived.Test.YtlaogoojkfjgoaaVPAng
import Derived.Test.YtlaogoojkfjgoaaVPWinds
import Derived.Test.YtlaogoojkfjgoaaVPTide
import Derived.Test.YtlaogoojkfjgoaaVE17
import Derived.Test.YtlaogoojkfjgoaaVPWin
import Derived.Test.YtlaogoojkfjgoaaVPWinds2
import Derived.Test.YtlaogoojkfjgoaaVPSlackW
import Derived.Test.YtlaogoojkfjgoaaVPFits
import Derived.Test.YtlaogoojkfjgoaaVPWinds3
namespace Go.Proofs.Ytlaogoojkfjgoaa
open Go
theorem siteWinds_said : Rows.SiteWindsSaid := overSiteWinds fun n d s0 s1 s2 s3 s4 s5 s6 s7 t lo hi hn _ _ _ _ _ _ _ _ _ _ _ _ => lawWinds n d s0 s1 s2 s3 s4 s5 s6 s7 t lo hi (Nat.le_trans hn (by decide))
end Go.Proofs.Ytlaogoojkfjgoaa
