/-
  The law 'TopGasBalanced' returns true for every input, and leaves its input as it was. Conditions: none.
-/
import Derived.Test.YtmndejpcpfkajaaAFGasBalanced
import Derived.Test.YtmndejpcpfkajaaAPMatches
import Derived.Test.YtmndejpcpfkajaaAPPartials
import Derived.Test.YtmndejpcpfkajaaAPLoop
import Derived.Test.YtmndejpcpfkajaaAPFactors
import Derived.Test.YtmndejpcpfkajaaAPShares
import Derived.Test.YtmndejpcpfkajaaAPVessels
import Derived.Test.YtmndejpcpfkajaaAPFills
import Derived.Test.YtmndejpcpfkajaaAPRead
import Derived.Test.YtmndejpcpfkajaaAPRun
import Derived.Test.YtmndejpcpfkajaaAPShort
import Derived.Test.YtmndejpcpfkajaaAPAdds
import Derived.Test.YtmndejpcpfkajaaAPGas
import Derived.Test.YtmndejpcpfkajaaAPGas2
import Derived.Test.YtmndejpcpfkajaaAPGas3
import Derived.Test.YtmndejpcpfkajaaAPGas4
namespace Go.Proofs.Ytmndejpcpfkajaa
open Go
theorem topGasBalanced_said : Rows.TopGasBalancedSaid := overTopGasBalanced fun nv dv n d c hnv hz hn _ hc => lawGas nv dv n d c (Nat.le_trans hnv (by decide)) (Nat.le_trans hn (by decide)) (sizes hz)
end Go.Proofs.Ytmndejpcpfkajaa
