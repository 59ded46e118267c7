/-
  The law 'TopFillTwoWays' returns true for every input, and leaves its input as it was. Conditions: none.
-/
import Derived.Test.YtmndejpcpfkajaaAPTwoWays
namespace Go.Proofs.Ytmndejpcpfkajaa
open Go
theorem topFillTwoWays_said : Rows.TopFillTwoWaysSaid := overTopFillTwoWays fun a b c o h p q T c0 c1 c2 _ _ _ _ _ _ _ _ _ _ _ => lawTwoWays a b c o h p q T c0 c1 c2
end Go.Proofs.Ytmndejpcpfkajaa
