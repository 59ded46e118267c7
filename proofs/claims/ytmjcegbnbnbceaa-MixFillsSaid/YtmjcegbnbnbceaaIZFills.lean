/-
  The law 'MixFills' returns true for every input, and leaves its input as it was. Conditions: none.
-/
import Derived.Test.YtmjcegbnbnbceaaIFFills
import Derived.Test.YtmjcegbnbnbceaaIE1
import Derived.Test.YtmjcegbnbnbceaaIPMatches
import Derived.Test.YtmjcegbnbnbceaaIPPartials
import Derived.Test.YtmjcegbnbnbceaaIPLoop
import Derived.Test.YtmjcegbnbnbceaaIPFactors
import Derived.Test.YtmjcegbnbnbceaaIPShares
import Derived.Test.YtmjcegbnbnbceaaIPVessels
import Derived.Test.YtmjcegbnbnbceaaIPFills
import Derived.Test.YtmjcegbnbnbceaaIPRead
import Derived.Test.YtmjcegbnbnbceaaIPRun
import Derived.Test.YtmjcegbnbnbceaaIPShort
namespace Go.Proofs.Ytmjcegbnbnbceaa
open Go
theorem mixFills_said : Rows.MixFillsSaid := overMixFills fun nv dv n d hnv hz hn _ => lawFills nv dv n d (Nat.le_trans hnv (by decide)) (Nat.le_trans hn (by decide)) (sizes hz)
end Go.Proofs.Ytmjcegbnbnbceaa
