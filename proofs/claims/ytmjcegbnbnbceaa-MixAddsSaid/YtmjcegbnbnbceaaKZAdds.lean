/-
  The law 'MixAdds' returns true for every input, and leaves its input as it was. Conditions: none.
-/
import Derived.Test.YtmjcegbnbnbceaaKFAdds
import Derived.Test.YtmjcegbnbnbceaaKE1
import Derived.Test.YtmjcegbnbnbceaaKPMatches
import Derived.Test.YtmjcegbnbnbceaaKPPartials
import Derived.Test.YtmjcegbnbnbceaaKPLoop
import Derived.Test.YtmjcegbnbnbceaaKPFactors
import Derived.Test.YtmjcegbnbnbceaaKPShares
import Derived.Test.YtmjcegbnbnbceaaKPVessels
import Derived.Test.YtmjcegbnbnbceaaKPFills
import Derived.Test.YtmjcegbnbnbceaaKPRead
import Derived.Test.YtmjcegbnbnbceaaKPRun
import Derived.Test.YtmjcegbnbnbceaaKPShort
import Derived.Test.YtmjcegbnbnbceaaKPAdds
namespace Go.Proofs.Ytmjcegbnbnbceaa
open Go
theorem mixAdds_said : Rows.MixAddsSaid := overMixAdds fun nv dv n d k dy fr to ox he am pu hnv hz hn _ _ _ _ _ _ _ _ => lawAdds nv dv n d ⟨k, dy, fr, to, ox, he, am, pu⟩ (Nat.le_trans hnv (by decide)) (Nat.le_trans hn (by decide)) (sizes hz)
end Go.Proofs.Ytmjcegbnbnbceaa
