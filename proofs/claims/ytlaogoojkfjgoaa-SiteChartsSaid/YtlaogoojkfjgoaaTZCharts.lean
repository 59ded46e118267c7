/-
  The law 'SiteCharts' returns true for every input, and leaves its input as it was. Conditions: none.
-/
import Derived.Test.YtlaogoojkfjgoaaTFCharts
import Derived.Test.YtlaogoojkfjgoaaTPLoop
import Derived.Test.YtlaogoojkfjgoaaTPAng
import Derived.Test.YtlaogoojkfjgoaaTPChart
import Derived.Test.YtlaogoojkfjgoaaTPFlat
import Derived.Test.YtlaogoojkfjgoaaTPWay
import Derived.Test.YtlaogoojkfjgoaaTPWay2
import Derived.Test.YtlaogoojkfjgoaaTE17
import Derived.Test.YtlaogoojkfjgoaaTPNoShorter
import Derived.Test.YtlaogoojkfjgoaaTPLeast
import Derived.Test.YtlaogoojkfjgoaaTPCharts
namespace Go.Proofs.Ytlaogoojkfjgoaa
open Go
theorem siteCharts_said : Rows.SiteChartsSaid := overSiteCharts fun n d n' d' a b hn _ hn' _ _ _ => lawCharts n d n' d' a b (Nat.le_trans hn (by decide)) (Nat.le_trans hn' (by decide))
end Go.Proofs.Ytlaogoojkfjgoaa
