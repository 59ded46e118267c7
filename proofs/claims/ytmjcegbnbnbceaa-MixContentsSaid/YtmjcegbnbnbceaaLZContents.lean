/-
  The law 'MixContents' returns true for every input, and leaves its input as it was. Conditions: none.
-/
import Derived.Test.YtmjcegbnbnbceaaLFContents
import Derived.Test.YtmjcegbnbnbceaaLE1
import Derived.Test.YtmjcegbnbnbceaaLPMatches
import Derived.Test.YtmjcegbnbnbceaaLPPartials
import Derived.Test.YtmjcegbnbnbceaaLPLoop
import Derived.Test.YtmjcegbnbnbceaaLPFactors
import Derived.Test.YtmjcegbnbnbceaaLPShares
import Derived.Test.YtmjcegbnbnbceaaLPVessels
import Derived.Test.YtmjcegbnbnbceaaLPFills
import Derived.Test.YtmjcegbnbnbceaaLPRead
import Derived.Test.YtmjcegbnbnbceaaLPRun
import Derived.Test.YtmjcegbnbnbceaaLPShort
import Derived.Test.YtmjcegbnbnbceaaLPContents
namespace Go.Proofs.Ytmjcegbnbnbceaa
open Go
theorem mixContents_said : Rows.MixContentsSaid := overMixContents fun nv dv n d nm hnv hz hn _ _ => lawContents nv dv n d nm (Nat.le_trans hnv (by decide)) (Nat.le_trans hn (by decide)) (sizes hz)
end Go.Proofs.Ytmjcegbnbnbceaa
