/-
  The law 'MixBalance' returns true for every input, and leaves its input as it was. Conditions: none.
-/
import Derived.Test.YtmjcegbnbnbceaaJFBalance
import Derived.Test.YtmjcegbnbnbceaaJE1
import Derived.Test.YtmjcegbnbnbceaaJPMatches
import Derived.Test.YtmjcegbnbnbceaaJPPartials
import Derived.Test.YtmjcegbnbnbceaaJPLoop
import Derived.Test.YtmjcegbnbnbceaaJPFactors
import Derived.Test.YtmjcegbnbnbceaaJPShares
import Derived.Test.YtmjcegbnbnbceaaJPVessels
import Derived.Test.YtmjcegbnbnbceaaJPFills
import Derived.Test.YtmjcegbnbnbceaaJPRead
import Derived.Test.YtmjcegbnbnbceaaJPRun
import Derived.Test.YtmjcegbnbnbceaaJPShort
namespace Go.Proofs.Ytmjcegbnbnbceaa
open Go
theorem mixBalance_said : Rows.MixBalanceSaid := overMixBalance fun nv dv n d hnv hz hn _ => lawBalance nv dv n d (Nat.le_trans hnv (by decide)) (Nat.le_trans hn (by decide)) (sizes hz)
end Go.Proofs.Ytmjcegbnbnbceaa
