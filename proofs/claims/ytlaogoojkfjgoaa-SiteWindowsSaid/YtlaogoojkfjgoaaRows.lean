/-
  No cell of these rows narrows 'for every input' (looked for: loops, veiled, ifaces, maps, wideKeys, modest, calm, conditions, laid).
  DERIVED. THE GIVEN ROWS OF THIS SEAT. 14 by the template 'for every input the law returns true; each argument reads behind the call as it read before'; 0 by the template 'total and deterministic' (their statements: YtlaogoojkfjgoaaTotals.lean).
  GIVEN WITH THE SEED: the statements are not yours to turn. If you find one false, say at which input.
  Laid BY PROGRAM, IN A SANDBOX (cutbox-rows.mjs): the forced cells as the released guide's own fill.sh prints them over the translation 3dce61bc0f19ce28… (all of the seat's roots in one cut). By AI agents, Wed Nov 11 2026. No macro, syntax, notation, axiom, sorry.
-/
import Derived.Test.YtlaogoojkfjgoaaChecked
import GoSem.Claim
import GoSem.ClaimJoined
import GoSem.ClaimMapViews
import Derived.JoinedTies
import Derived.KernelRfl
namespace Go.Proofs.Ytlaogoojkfjgoaa
/- THE CELL 'sum', in the pinned program and in every row, IS THE sha256 OF THE DUMP (.gsa) THAT YtlaogoojkfjgoaaProg.lean LOADS. Nothing in Lean hashes anything: it is a label: what it is worth is what the hold of that sum in a sandbox is worth. -/
noncomputable def Try.pinned : Pinned := { name := "ytlaogoojkfjgoaa", sum := "3dce61bc0f19ce28636515f1588ae97fc9daed6cc60f0c31a0d4dc9eedf07363", checked := Try.checked }
namespace Rows
def none {H : Type} : Left H := { results := [], args := [] }

/-- 'shotlinelaw08.SiteLevels': WHATEVER THE INPUT: true; the input reads as it did. -/
def siteLevelsSpec : ChangeSpec := { name := "siteLevels", fn := fun _ => fun
  | [d1, d2] => { results := [.lit (.bool true)], args := [d1, d2] }
  | _ => none }
def siteLevelsRow : OpenClaim := { program := "ytlaogoojkfjgoaa", sum := "3dce61bc0f19ce28636515f1588ae97fc9daed6cc60f0c31a0d4dc9eedf07363", func := "shotline/shotlinelaw08.SiteLevels", spec := "siteLevels", unfollowed := true, recurses := true, apart := false }
def SiteLevelsSaid : Prop := siteLevelsRow.holds Try.pinned (OpenSpec.ofChange siteLevelsSpec)

/-- ITS FALSE NEIGHBOUR: 'it returns false'. Refute it at one input. -/
def siteLevelsWrong : ChangeSpec := { name := "siteLevels", fn := fun _ => fun
  | [d1, d2] => { results := [.lit (.bool false)], args := [d1, d2] }
  | _ => none }
def SiteLevelsWrongFalsely : Prop := siteLevelsRow.holds Try.pinned (OpenSpec.ofChange siteLevelsWrong)

/-- 'shotlinelaw08.SitePeriods': WHATEVER THE INPUT: true; the input reads as it did. -/
def sitePeriodsSpec : ChangeSpec := { name := "sitePeriods", fn := fun _ => fun
  | [d1, d2, d3] => { results := [.lit (.bool true)], args := [d1, d2, d3] }
  | _ => none }
def sitePeriodsRow : OpenClaim := { program := "ytlaogoojkfjgoaa", sum := "3dce61bc0f19ce28636515f1588ae97fc9daed6cc60f0c31a0d4dc9eedf07363", func := "shotline/shotlinelaw08.SitePeriods", spec := "sitePeriods", unfollowed := true, recurses := true, apart := false }
def SitePeriodsSaid : Prop := sitePeriodsRow.holds Try.pinned (OpenSpec.ofChange sitePeriodsSpec)

/-- ITS FALSE NEIGHBOUR: 'it returns false'. Refute it at one input. -/
def sitePeriodsWrong : ChangeSpec := { name := "sitePeriods", fn := fun _ => fun
  | [d1, d2, d3] => { results := [.lit (.bool false)], args := [d1, d2, d3] }
  | _ => none }
def SitePeriodsWrongFalsely : Prop := sitePeriodsRow.holds Try.pinned (OpenSpec.ofChange sitePeriodsWrong)

/-- 'shotlinelaw08.SiteCharts': WHATEVER THE INPUT: true; the input reads as it did. -/
def siteChartsSpec : ChangeSpec := { name := "siteCharts", fn := fun _ => fun
  | [d1, d2] => { results := [.lit (.bool true)], args := [d1, d2] }
  | _ => none }
def siteChartsRow : OpenClaim := { program := "ytlaogoojkfjgoaa", sum := "3dce61bc0f19ce28636515f1588ae97fc9daed6cc60f0c31a0d4dc9eedf07363", func := "shotline/shotlinelaw08.SiteCharts", spec := "siteCharts", unfollowed := true, recurses := true, apart := false }
def SiteChartsSaid : Prop := siteChartsRow.holds Try.pinned (OpenSpec.ofChange siteChartsSpec)

/-- ITS FALSE NEIGHBOUR: 'it returns false'. Refute it at one input. -/
def siteChartsWrong : ChangeSpec := { name := "siteCharts", fn := fun _ => fun
  | [d1, d2] => { results := [.lit (.bool false)], args := [d1, d2] }
  | _ => none }
def SiteChartsWrongFalsely : Prop := siteChartsRow.holds Try.pinned (OpenSpec.ofChange siteChartsWrong)

/-- 'shotlinelaw08.SiteNoShorter': WHATEVER THE INPUT: true; the input reads as it did. -/
def siteNoShorterSpec : ChangeSpec := { name := "siteNoShorter", fn := fun _ => fun
  | [d1, d2] => { results := [.lit (.bool true)], args := [d1, d2] }
  | _ => none }
def siteNoShorterRow : OpenClaim := { program := "ytlaogoojkfjgoaa", sum := "3dce61bc0f19ce28636515f1588ae97fc9daed6cc60f0c31a0d4dc9eedf07363", func := "shotline/shotlinelaw08.SiteNoShorter", spec := "siteNoShorter", unfollowed := true, recurses := true, apart := false }
def SiteNoShorterSaid : Prop := siteNoShorterRow.holds Try.pinned (OpenSpec.ofChange siteNoShorterSpec)

/-- ITS FALSE NEIGHBOUR: 'it returns false'. Refute it at one input. -/
def siteNoShorterWrong : ChangeSpec := { name := "siteNoShorter", fn := fun _ => fun
  | [d1, d2] => { results := [.lit (.bool false)], args := [d1, d2] }
  | _ => none }
def SiteNoShorterWrongFalsely : Prop := siteNoShorterRow.holds Try.pinned (OpenSpec.ofChange siteNoShorterWrong)

/-- 'shotlinelaw08.SiteCosines': WHATEVER THE INPUT: true; the input reads as it did. -/
def siteCosinesSpec : ChangeSpec := { name := "siteCosines", fn := fun _ => fun
  | [d] => { results := [.lit (.bool true)], args := [d] }
  | _ => none }
def siteCosinesRow : OpenClaim := { program := "ytlaogoojkfjgoaa", sum := "3dce61bc0f19ce28636515f1588ae97fc9daed6cc60f0c31a0d4dc9eedf07363", func := "shotline/shotlinelaw08.SiteCosines", spec := "siteCosines", unfollowed := true, recurses := true, apart := false }
def SiteCosinesSaid : Prop := siteCosinesRow.holds Try.pinned (OpenSpec.ofChange siteCosinesSpec)

/-- ITS FALSE NEIGHBOUR: 'it returns false'. Refute it at one input. -/
def siteCosinesWrong : ChangeSpec := { name := "siteCosines", fn := fun _ => fun
  | [d] => { results := [.lit (.bool false)], args := [d] }
  | _ => none }
def SiteCosinesWrongFalsely : Prop := siteCosinesRow.holds Try.pinned (OpenSpec.ofChange siteCosinesWrong)

/-- 'shotlinelaw08.SiteAngles': WHATEVER THE INPUT: true; the input reads as it did. -/
def siteAnglesSpec : ChangeSpec := { name := "siteAngles", fn := fun _ => fun
  | [d1, d2] => { results := [.lit (.bool true)], args := [d1, d2] }
  | _ => none }
def siteAnglesRow : OpenClaim := { program := "ytlaogoojkfjgoaa", sum := "3dce61bc0f19ce28636515f1588ae97fc9daed6cc60f0c31a0d4dc9eedf07363", func := "shotline/shotlinelaw08.SiteAngles", spec := "siteAngles", unfollowed := true, recurses := true, apart := false }
def SiteAnglesSaid : Prop := siteAnglesRow.holds Try.pinned (OpenSpec.ofChange siteAnglesSpec)

/-- ITS FALSE NEIGHBOUR: 'it returns false'. Refute it at one input. -/
def siteAnglesWrong : ChangeSpec := { name := "siteAngles", fn := fun _ => fun
  | [d1, d2] => { results := [.lit (.bool false)], args := [d1, d2] }
  | _ => none }
def SiteAnglesWrongFalsely : Prop := siteAnglesRow.holds Try.pinned (OpenSpec.ofChange siteAnglesWrong)

/-- 'shotlinelaw08.SiteWindows': WHATEVER THE INPUT: true; the input reads as it did. -/
def siteWindowsSpec : ChangeSpec := { name := "siteWindows", fn := fun _ => fun
  | [d1, d2] => { results := [.lit (.bool true)], args := [d1, d2] }
  | _ => none }
def siteWindowsRow : OpenClaim := { program := "ytlaogoojkfjgoaa", sum := "3dce61bc0f19ce28636515f1588ae97fc9daed6cc60f0c31a0d4dc9eedf07363", func := "shotline/shotlinelaw08.SiteWindows", spec := "siteWindows", unfollowed := true, recurses := true, apart := false }
def SiteWindowsSaid : Prop := siteWindowsRow.holds Try.pinned (OpenSpec.ofChange siteWindowsSpec)

/-- ITS FALSE NEIGHBOUR: 'it returns false'. Refute it at one input. -/
def siteWindowsWrong : ChangeSpec := { name := "siteWindows", fn := fun _ => fun
  | [d1, d2] => { results := [.lit (.bool false)], args := [d1, d2] }
  | _ => none }
def SiteWindowsWrongFalsely : Prop := siteWindowsRow.holds Try.pinned (OpenSpec.ofChange siteWindowsWrong)

/-- 'shotlinelaw08.SiteMinutes': WHATEVER THE INPUT: true; the input reads as it did. -/
def siteMinutesSpec : ChangeSpec := { name := "siteMinutes", fn := fun _ => fun
  | [d1, d2, d3] => { results := [.lit (.bool true)], args := [d1, d2, d3] }
  | _ => none }
def siteMinutesRow : OpenClaim := { program := "ytlaogoojkfjgoaa", sum := "3dce61bc0f19ce28636515f1588ae97fc9daed6cc60f0c31a0d4dc9eedf07363", func := "shotline/shotlinelaw08.SiteMinutes", spec := "siteMinutes", unfollowed := true, recurses := true, apart := false }
def SiteMinutesSaid : Prop := siteMinutesRow.holds Try.pinned (OpenSpec.ofChange siteMinutesSpec)

/-- ITS FALSE NEIGHBOUR: 'it returns false'. Refute it at one input. -/
def siteMinutesWrong : ChangeSpec := { name := "siteMinutes", fn := fun _ => fun
  | [d1, d2, d3] => { results := [.lit (.bool false)], args := [d1, d2, d3] }
  | _ => none }
def SiteMinutesWrongFalsely : Prop := siteMinutesRow.holds Try.pinned (OpenSpec.ofChange siteMinutesWrong)

/-- 'shotlinelaw08.SiteRuns': WHATEVER THE INPUT: true; the input reads as it did. -/
def siteRunsSpec : ChangeSpec := { name := "siteRuns", fn := fun _ => fun
  | [d1, d2, d3] => { results := [.lit (.bool true)], args := [d1, d2, d3] }
  | _ => none }
def siteRunsRow : OpenClaim := { program := "ytlaogoojkfjgoaa", sum := "3dce61bc0f19ce28636515f1588ae97fc9daed6cc60f0c31a0d4dc9eedf07363", func := "shotline/shotlinelaw08.SiteRuns", spec := "siteRuns", unfollowed := true, recurses := true, apart := false }
def SiteRunsSaid : Prop := siteRunsRow.holds Try.pinned (OpenSpec.ofChange siteRunsSpec)

/-- ITS FALSE NEIGHBOUR: 'it returns false'. Refute it at one input. -/
def siteRunsWrong : ChangeSpec := { name := "siteRuns", fn := fun _ => fun
  | [d1, d2, d3] => { results := [.lit (.bool false)], args := [d1, d2, d3] }
  | _ => none }
def SiteRunsWrongFalsely : Prop := siteRunsRow.holds Try.pinned (OpenSpec.ofChange siteRunsWrong)

/-- 'shotlinelaw08.SiteSlack': WHATEVER THE INPUT: true; the input reads as it did. -/
def siteSlackSpec : ChangeSpec := { name := "siteSlack", fn := fun _ => fun
  | [d1, d2, d3] => { results := [.lit (.bool true)], args := [d1, d2, d3] }
  | _ => none }
def siteSlackRow : OpenClaim := { program := "ytlaogoojkfjgoaa", sum := "3dce61bc0f19ce28636515f1588ae97fc9daed6cc60f0c31a0d4dc9eedf07363", func := "shotline/shotlinelaw08.SiteSlack", spec := "siteSlack", unfollowed := true, recurses := true, apart := false }
def SiteSlackSaid : Prop := siteSlackRow.holds Try.pinned (OpenSpec.ofChange siteSlackSpec)

/-- ITS FALSE NEIGHBOUR: 'it returns false'. Refute it at one input. -/
def siteSlackWrong : ChangeSpec := { name := "siteSlack", fn := fun _ => fun
  | [d1, d2, d3] => { results := [.lit (.bool false)], args := [d1, d2, d3] }
  | _ => none }
def SiteSlackWrongFalsely : Prop := siteSlackRow.holds Try.pinned (OpenSpec.ofChange siteSlackWrong)

/-- 'shotlinelaw08.SiteSurely': WHATEVER THE INPUT: true; the input reads as it did. -/
def siteSurelySpec : ChangeSpec := { name := "siteSurely", fn := fun _ => fun
  | [d1, d2, d3] => { results := [.lit (.bool true)], args := [d1, d2, d3] }
  | _ => none }
def siteSurelyRow : OpenClaim := { program := "ytlaogoojkfjgoaa", sum := "3dce61bc0f19ce28636515f1588ae97fc9daed6cc60f0c31a0d4dc9eedf07363", func := "shotline/shotlinelaw08.SiteSurely", spec := "siteSurely", unfollowed := true, recurses := true, apart := false }
def SiteSurelySaid : Prop := siteSurelyRow.holds Try.pinned (OpenSpec.ofChange siteSurelySpec)

/-- ITS FALSE NEIGHBOUR: 'it returns false'. Refute it at one input. -/
def siteSurelyWrong : ChangeSpec := { name := "siteSurely", fn := fun _ => fun
  | [d1, d2, d3] => { results := [.lit (.bool false)], args := [d1, d2, d3] }
  | _ => none }
def SiteSurelyWrongFalsely : Prop := siteSurelyRow.holds Try.pinned (OpenSpec.ofChange siteSurelyWrong)

/-- 'shotlinelaw08.SiteFits': WHATEVER THE INPUT: true; the input reads as it did. -/
def siteFitsSpec : ChangeSpec := { name := "siteFits", fn := fun _ => fun
  | [d1, d2, d3] => { results := [.lit (.bool true)], args := [d1, d2, d3] }
  | _ => none }
def siteFitsRow : OpenClaim := { program := "ytlaogoojkfjgoaa", sum := "3dce61bc0f19ce28636515f1588ae97fc9daed6cc60f0c31a0d4dc9eedf07363", func := "shotline/shotlinelaw08.SiteFits", spec := "siteFits", unfollowed := true, recurses := true, apart := false }
def SiteFitsSaid : Prop := siteFitsRow.holds Try.pinned (OpenSpec.ofChange siteFitsSpec)

/-- ITS FALSE NEIGHBOUR: 'it returns false'. Refute it at one input. -/
def siteFitsWrong : ChangeSpec := { name := "siteFits", fn := fun _ => fun
  | [d1, d2, d3] => { results := [.lit (.bool false)], args := [d1, d2, d3] }
  | _ => none }
def SiteFitsWrongFalsely : Prop := siteFitsRow.holds Try.pinned (OpenSpec.ofChange siteFitsWrong)

/-- 'shotlinelaw08.SiteSlackWindows': WHATEVER THE INPUT: true; the input reads as it did. -/
def siteSlackWindowsSpec : ChangeSpec := { name := "siteSlackWindows", fn := fun _ => fun
  | [d1, d2] => { results := [.lit (.bool true)], args := [d1, d2] }
  | _ => none }
def siteSlackWindowsRow : OpenClaim := { program := "ytlaogoojkfjgoaa", sum := "3dce61bc0f19ce28636515f1588ae97fc9daed6cc60f0c31a0d4dc9eedf07363", func := "shotline/shotlinelaw08.SiteSlackWindows", spec := "siteSlackWindows", unfollowed := true, recurses := true, apart := false }
def SiteSlackWindowsSaid : Prop := siteSlackWindowsRow.holds Try.pinned (OpenSpec.ofChange siteSlackWindowsSpec)

/-- ITS FALSE NEIGHBOUR: 'it returns false'. Refute it at one input. -/
def siteSlackWindowsWrong : ChangeSpec := { name := "siteSlackWindows", fn := fun _ => fun
  | [d1, d2] => { results := [.lit (.bool false)], args := [d1, d2] }
  | _ => none }
def SiteSlackWindowsWrongFalsely : Prop := siteSlackWindowsRow.holds Try.pinned (OpenSpec.ofChange siteSlackWindowsWrong)

/-- 'shotlinelaw08.SiteWinds': WHATEVER THE INPUT: true; the input reads as it did. -/
def siteWindsSpec : ChangeSpec := { name := "siteWinds", fn := fun _ => fun
  | [d1, d2] => { results := [.lit (.bool true)], args := [d1, d2] }
  | _ => none }
def siteWindsRow : OpenClaim := { program := "ytlaogoojkfjgoaa", sum := "3dce61bc0f19ce28636515f1588ae97fc9daed6cc60f0c31a0d4dc9eedf07363", func := "shotline/shotlinelaw08.SiteWinds", spec := "siteWinds", unfollowed := true, recurses := true, apart := false }
def SiteWindsSaid : Prop := siteWindsRow.holds Try.pinned (OpenSpec.ofChange siteWindsSpec)

/-- ITS FALSE NEIGHBOUR: 'it returns false'. Refute it at one input. -/
def siteWindsWrong : ChangeSpec := { name := "siteWinds", fn := fun _ => fun
  | [d1, d2] => { results := [.lit (.bool false)], args := [d1, d2] }
  | _ => none }
def SiteWindsWrongFalsely : Prop := siteWindsRow.holds Try.pinned (OpenSpec.ofChange siteWindsWrong)

/- THE SECOND FORM. 'bulk': how many values and letters a reading holds, each counted each time it is reached (what is shared counts as often as it is met; a slice's spare places count too). A statement '..UptoSaid' is the law's where the arguments, and the package variables that the reading takes, are together of bulk at most 1048576: NARROWER than '..Said'. Prove '..Said' where nothing that the law and all that it calls make is longer than what came in: it says more and counts as full. Else prove '..UptoSaid'. A law counts once. -/
mutual
def uptoBulk {H : Type} : DataW H → Nat
  | .lit (.string bytes) => bytes.length + 1
  | .lit _ => 1
  | .nil => 1
  | .ptr d => uptoBulk d + 1
  | .slice elems spare => uptoBulkAll elems + uptoBulkAll spare + 1
  | .agg parts => uptoBulkAll parts + 1
  | .iface _ d => uptoBulk d + 1
  | .map entries => uptoBulkEntries entries + 1
  | .held _ => 1
def uptoBulkAll {H : Type} : List (DataW H) → Nat
  | [] => 0
  | d :: r => uptoBulk d + uptoBulkAll r
def uptoBulkEntries {H : Type} : List (Lit × DataW H) → Nat
  | [] => 0
  | x :: r => uptoBulkEntry x + uptoBulkEntries r
def uptoBulkEntry {H : Type} : Lit × DataW H → Nat
  | (.string bytes, d) => bytes.length + uptoBulk d + 1
  | (_, d) => uptoBulk d + 1
 end
def uptoSmall : (H : Type) → List (DataW H) → Bool := fun _ ds => decide (uptoBulkAll ds ≤ 1048576)
def OpenSpec.upto (s : _root_.Go.ChangeSpec) : _root_.Go.OpenSpec := { _root_.Go.OpenSpec.ofChange s with cond := some uptoSmall }

/-- 'shotlinelaw08.SiteLevels', WHERE WHAT IT READS IS OF BULK AT MOST 1048576: true; the input reads as it did. -/
def siteLevelsUptoRow : OpenClaim := { program := "ytlaogoojkfjgoaa", sum := "3dce61bc0f19ce28636515f1588ae97fc9daed6cc60f0c31a0d4dc9eedf07363", func := "shotline/shotlinelaw08.SiteLevels", spec := "siteLevels", unfollowed := true, recurses := true, apart := false, narrowed := true }
def SiteLevelsUptoSaid : Prop := siteLevelsUptoRow.holds Try.pinned (OpenSpec.upto siteLevelsSpec)

/-- 'shotlinelaw08.SitePeriods', WHERE WHAT IT READS IS OF BULK AT MOST 1048576: true; the input reads as it did. -/
def sitePeriodsUptoRow : OpenClaim := { program := "ytlaogoojkfjgoaa", sum := "3dce61bc0f19ce28636515f1588ae97fc9daed6cc60f0c31a0d4dc9eedf07363", func := "shotline/shotlinelaw08.SitePeriods", spec := "sitePeriods", unfollowed := true, recurses := true, apart := false, narrowed := true }
def SitePeriodsUptoSaid : Prop := sitePeriodsUptoRow.holds Try.pinned (OpenSpec.upto sitePeriodsSpec)

/-- 'shotlinelaw08.SiteCharts', WHERE WHAT IT READS IS OF BULK AT MOST 1048576: true; the input reads as it did. -/
def siteChartsUptoRow : OpenClaim := { program := "ytlaogoojkfjgoaa", sum := "3dce61bc0f19ce28636515f1588ae97fc9daed6cc60f0c31a0d4dc9eedf07363", func := "shotline/shotlinelaw08.SiteCharts", spec := "siteCharts", unfollowed := true, recurses := true, apart := false, narrowed := true }
def SiteChartsUptoSaid : Prop := siteChartsUptoRow.holds Try.pinned (OpenSpec.upto siteChartsSpec)

/-- 'shotlinelaw08.SiteNoShorter', WHERE WHAT IT READS IS OF BULK AT MOST 1048576: true; the input reads as it did. -/
def siteNoShorterUptoRow : OpenClaim := { program := "ytlaogoojkfjgoaa", sum := "3dce61bc0f19ce28636515f1588ae97fc9daed6cc60f0c31a0d4dc9eedf07363", func := "shotline/shotlinelaw08.SiteNoShorter", spec := "siteNoShorter", unfollowed := true, recurses := true, apart := false, narrowed := true }
def SiteNoShorterUptoSaid : Prop := siteNoShorterUptoRow.holds Try.pinned (OpenSpec.upto siteNoShorterSpec)

/-- 'shotlinelaw08.SiteCosines', WHERE WHAT IT READS IS OF BULK AT MOST 1048576: true; the input reads as it did. -/
def siteCosinesUptoRow : OpenClaim := { program := "ytlaogoojkfjgoaa", sum := "3dce61bc0f19ce28636515f1588ae97fc9daed6cc60f0c31a0d4dc9eedf07363", func := "shotline/shotlinelaw08.SiteCosines", spec := "siteCosines", unfollowed := true, recurses := true, apart := false, narrowed := true }
def SiteCosinesUptoSaid : Prop := siteCosinesUptoRow.holds Try.pinned (OpenSpec.upto siteCosinesSpec)

/-- 'shotlinelaw08.SiteAngles', WHERE WHAT IT READS IS OF BULK AT MOST 1048576: true; the input reads as it did. -/
def siteAnglesUptoRow : OpenClaim := { program := "ytlaogoojkfjgoaa", sum := "3dce61bc0f19ce28636515f1588ae97fc9daed6cc60f0c31a0d4dc9eedf07363", func := "shotline/shotlinelaw08.SiteAngles", spec := "siteAngles", unfollowed := true, recurses := true, apart := false, narrowed := true }
def SiteAnglesUptoSaid : Prop := siteAnglesUptoRow.holds Try.pinned (OpenSpec.upto siteAnglesSpec)

/-- 'shotlinelaw08.SiteWindows', WHERE WHAT IT READS IS OF BULK AT MOST 1048576: true; the input reads as it did. -/
def siteWindowsUptoRow : OpenClaim := { program := "ytlaogoojkfjgoaa", sum := "3dce61bc0f19ce28636515f1588ae97fc9daed6cc60f0c31a0d4dc9eedf07363", func := "shotline/shotlinelaw08.SiteWindows", spec := "siteWindows", unfollowed := true, recurses := true, apart := false, narrowed := true }
def SiteWindowsUptoSaid : Prop := siteWindowsUptoRow.holds Try.pinned (OpenSpec.upto siteWindowsSpec)

/-- 'shotlinelaw08.SiteMinutes', WHERE WHAT IT READS IS OF BULK AT MOST 1048576: true; the input reads as it did. -/
def siteMinutesUptoRow : OpenClaim := { program := "ytlaogoojkfjgoaa", sum := "3dce61bc0f19ce28636515f1588ae97fc9daed6cc60f0c31a0d4dc9eedf07363", func := "shotline/shotlinelaw08.SiteMinutes", spec := "siteMinutes", unfollowed := true, recurses := true, apart := false, narrowed := true }
def SiteMinutesUptoSaid : Prop := siteMinutesUptoRow.holds Try.pinned (OpenSpec.upto siteMinutesSpec)

/-- 'shotlinelaw08.SiteRuns', WHERE WHAT IT READS IS OF BULK AT MOST 1048576: true; the input reads as it did. -/
def siteRunsUptoRow : OpenClaim := { program := "ytlaogoojkfjgoaa", sum := "3dce61bc0f19ce28636515f1588ae97fc9daed6cc60f0c31a0d4dc9eedf07363", func := "shotline/shotlinelaw08.SiteRuns", spec := "siteRuns", unfollowed := true, recurses := true, apart := false, narrowed := true }
def SiteRunsUptoSaid : Prop := siteRunsUptoRow.holds Try.pinned (OpenSpec.upto siteRunsSpec)

/-- 'shotlinelaw08.SiteSlack', WHERE WHAT IT READS IS OF BULK AT MOST 1048576: true; the input reads as it did. -/
def siteSlackUptoRow : OpenClaim := { program := "ytlaogoojkfjgoaa", sum := "3dce61bc0f19ce28636515f1588ae97fc9daed6cc60f0c31a0d4dc9eedf07363", func := "shotline/shotlinelaw08.SiteSlack", spec := "siteSlack", unfollowed := true, recurses := true, apart := false, narrowed := true }
def SiteSlackUptoSaid : Prop := siteSlackUptoRow.holds Try.pinned (OpenSpec.upto siteSlackSpec)

/-- 'shotlinelaw08.SiteSurely', WHERE WHAT IT READS IS OF BULK AT MOST 1048576: true; the input reads as it did. -/
def siteSurelyUptoRow : OpenClaim := { program := "ytlaogoojkfjgoaa", sum := "3dce61bc0f19ce28636515f1588ae97fc9daed6cc60f0c31a0d4dc9eedf07363", func := "shotline/shotlinelaw08.SiteSurely", spec := "siteSurely", unfollowed := true, recurses := true, apart := false, narrowed := true }
def SiteSurelyUptoSaid : Prop := siteSurelyUptoRow.holds Try.pinned (OpenSpec.upto siteSurelySpec)

/-- 'shotlinelaw08.SiteFits', WHERE WHAT IT READS IS OF BULK AT MOST 1048576: true; the input reads as it did. -/
def siteFitsUptoRow : OpenClaim := { program := "ytlaogoojkfjgoaa", sum := "3dce61bc0f19ce28636515f1588ae97fc9daed6cc60f0c31a0d4dc9eedf07363", func := "shotline/shotlinelaw08.SiteFits", spec := "siteFits", unfollowed := true, recurses := true, apart := false, narrowed := true }
def SiteFitsUptoSaid : Prop := siteFitsUptoRow.holds Try.pinned (OpenSpec.upto siteFitsSpec)

/-- 'shotlinelaw08.SiteSlackWindows', WHERE WHAT IT READS IS OF BULK AT MOST 1048576: true; the input reads as it did. -/
def siteSlackWindowsUptoRow : OpenClaim := { program := "ytlaogoojkfjgoaa", sum := "3dce61bc0f19ce28636515f1588ae97fc9daed6cc60f0c31a0d4dc9eedf07363", func := "shotline/shotlinelaw08.SiteSlackWindows", spec := "siteSlackWindows", unfollowed := true, recurses := true, apart := false, narrowed := true }
def SiteSlackWindowsUptoSaid : Prop := siteSlackWindowsUptoRow.holds Try.pinned (OpenSpec.upto siteSlackWindowsSpec)

/-- 'shotlinelaw08.SiteWinds', WHERE WHAT IT READS IS OF BULK AT MOST 1048576: true; the input reads as it did. -/
def siteWindsUptoRow : OpenClaim := { program := "ytlaogoojkfjgoaa", sum := "3dce61bc0f19ce28636515f1588ae97fc9daed6cc60f0c31a0d4dc9eedf07363", func := "shotline/shotlinelaw08.SiteWinds", spec := "siteWinds", unfollowed := true, recurses := true, apart := false, narrowed := true }
def SiteWindsUptoSaid : Prop := siteWindsUptoRow.holds Try.pinned (OpenSpec.upto siteWindsSpec)

end Rows
end Go.Proofs.Ytlaogoojkfjgoaa
