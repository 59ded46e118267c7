/-
  The law 'MixChecks' returns true for every input, and leaves its input as it was. Conditions: none.
-/
import Derived.Test.YtmjcegbnbnbceaaMFChecks
import Derived.Test.YtmjcegbnbnbceaaME1
import Derived.Test.YtmjcegbnbnbceaaMPMatches
import Derived.Test.YtmjcegbnbnbceaaMPPartials
import Derived.Test.YtmjcegbnbnbceaaMPCheckN
import Derived.Test.YtmjcegbnbnbceaaMPLoop
import Derived.Test.YtmjcegbnbnbceaaMPFactors
import Derived.Test.YtmjcegbnbnbceaaMPShares
import Derived.Test.YtmjcegbnbnbceaaMPVessels
import Derived.Test.YtmjcegbnbnbceaaMPCheckT
import Derived.Test.YtmjcegbnbnbceaaMPCheckP
import Derived.Test.YtmjcegbnbnbceaaMPChecks
namespace Go.Proofs.Ytmjcegbnbnbceaa
open Go
theorem mixChecks_said : Rows.MixChecksSaid := overMixChecks fun n d b1 b2 b3 T ol oh hl hh p dp den W a b c e q hn hd _ _ _ _ _ _ _ _ _ _ _ _ _ _ _ _ _ => lawChecks n (Nat.le_trans hn (by decide)) d (fun i hi => Nat.le_trans ((hd i hi).1) (by decide)) b1 b2 b3 T ol oh hl hh p dp den W a b c e q
end Go.Proofs.Ytmjcegbnbnbceaa
