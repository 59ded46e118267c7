/-
  No cell of these rows narrows 'for every input' (looked for: loops, veiled, ifaces, maps, wideKeys, modest, calm, conditions, laid).
  DERIVED. THE GIVEN ROWS OF THIS SEAT. 14 by the template 'for every input the law returns true; each argument reads behind the call as it read before'; 0 by the template 'total and deterministic' (their statements: YtldjapmfmhifkaaTotals.lean).
  GIVEN WITH THE SEED: the statements are not yours to turn. If you find one false, say at which input.
  Laid BY PROGRAM, IN A SANDBOX (cutbox-rows.mjs): the forced cells as the released guide's own fill.sh prints them over the translation 7b2af934932879bc… (all of the seat's roots in one cut). By AI agents, Wed Nov 11 2026. No macro, syntax, notation, axiom, sorry.
-/
import Derived.Test.YtldjapmfmhifkaaChecked
import GoSem.Claim
import GoSem.ClaimJoined
import GoSem.ClaimMapViews
import Derived.JoinedTies
import Derived.KernelRfl
namespace Go.Proofs.Ytldjapmfmhifkaa
/- THE CELL 'sum', in the pinned program and in every row, IS THE sha256 OF THE DUMP (.gsa) THAT YtldjapmfmhifkaaProg.lean LOADS. Nothing in Lean hashes anything: it is a label: what it is worth is what the hold of that sum in a sandbox is worth. -/
noncomputable def Try.pinned : Pinned := { name := "ytldjapmfmhifkaa", sum := "7b2af934932879bc982440d08309f552a3cff668b3806a93b71abaea2486c377", checked := Try.checked }
namespace Rows
def none {H : Type} : Left H := { results := [], args := [] }

/-- 'shotlinelaw07.KitUsables': WHATEVER THE INPUT: true; the input reads as it did. -/
def kitUsablesSpec : ChangeSpec := { name := "kitUsables", fn := fun _ => fun
  | [d1, d2, d3] => { results := [.lit (.bool true)], args := [d1, d2, d3] }
  | _ => none }
def kitUsablesRow : OpenClaim := { program := "ytldjapmfmhifkaa", sum := "7b2af934932879bc982440d08309f552a3cff668b3806a93b71abaea2486c377", func := "shotline/shotlinelaw07.KitUsables", spec := "kitUsables", unfollowed := true, recurses := true, plainKeys := false, apart := false }
def KitUsablesSaid : Prop := kitUsablesRow.holds Try.pinned (OpenSpec.ofChange kitUsablesSpec)

/-- ITS FALSE NEIGHBOUR: 'it returns false'. Refute it at one input. -/
def kitUsablesWrong : ChangeSpec := { name := "kitUsables", fn := fun _ => fun
  | [d1, d2, d3] => { results := [.lit (.bool false)], args := [d1, d2, d3] }
  | _ => none }
def KitUsablesWrongFalsely : Prop := kitUsablesRow.holds Try.pinned (OpenSpec.ofChange kitUsablesWrong)

/-- 'shotlinelaw07.KitLater': WHATEVER THE INPUT: true; the input reads as it did. -/
def kitLaterSpec : ChangeSpec := { name := "kitLater", fn := fun _ => fun
  | [d1, d2, d3] => { results := [.lit (.bool true)], args := [d1, d2, d3] }
  | _ => none }
def kitLaterRow : OpenClaim := { program := "ytldjapmfmhifkaa", sum := "7b2af934932879bc982440d08309f552a3cff668b3806a93b71abaea2486c377", func := "shotline/shotlinelaw07.KitLater", spec := "kitLater", unfollowed := true, recurses := true, plainKeys := false, apart := false }
def KitLaterSaid : Prop := kitLaterRow.holds Try.pinned (OpenSpec.ofChange kitLaterSpec)

/-- ITS FALSE NEIGHBOUR: 'it returns false'. Refute it at one input. -/
def kitLaterWrong : ChangeSpec := { name := "kitLater", fn := fun _ => fun
  | [d1, d2, d3] => { results := [.lit (.bool false)], args := [d1, d2, d3] }
  | _ => none }
def KitLaterWrongFalsely : Prop := kitLaterRow.holds Try.pinned (OpenSpec.ofChange kitLaterWrong)

/-- 'shotlinelaw07.KitEvents': WHATEVER THE INPUT: true; the input reads as it did. -/
def kitEventsSpec : ChangeSpec := { name := "kitEvents", fn := fun _ => fun
  | [d1, d2] => { results := [.lit (.bool true)], args := [d1, d2] }
  | _ => none }
def kitEventsRow : OpenClaim := { program := "ytldjapmfmhifkaa", sum := "7b2af934932879bc982440d08309f552a3cff668b3806a93b71abaea2486c377", func := "shotline/shotlinelaw07.KitEvents", spec := "kitEvents", unfollowed := true, recurses := true, plainKeys := false, apart := false }
def KitEventsSaid : Prop := kitEventsRow.holds Try.pinned (OpenSpec.ofChange kitEventsSpec)

/-- ITS FALSE NEIGHBOUR: 'it returns false'. Refute it at one input. -/
def kitEventsWrong : ChangeSpec := { name := "kitEvents", fn := fun _ => fun
  | [d1, d2] => { results := [.lit (.bool false)], args := [d1, d2] }
  | _ => none }
def KitEventsWrongFalsely : Prop := kitEventsRow.holds Try.pinned (OpenSpec.ofChange kitEventsWrong)

/-- 'shotlinelaw07.KitKept': WHATEVER THE INPUT: true; the input reads as it did. -/
def kitKeptSpec : ChangeSpec := { name := "kitKept", fn := fun _ => fun
  | [d1, d2] => { results := [.lit (.bool true)], args := [d1, d2] }
  | _ => none }
def kitKeptRow : OpenClaim := { program := "ytldjapmfmhifkaa", sum := "7b2af934932879bc982440d08309f552a3cff668b3806a93b71abaea2486c377", func := "shotline/shotlinelaw07.KitKept", spec := "kitKept", unfollowed := true, recurses := true, plainKeys := false, apart := false }
def KitKeptSaid : Prop := kitKeptRow.holds Try.pinned (OpenSpec.ofChange kitKeptSpec)

/-- ITS FALSE NEIGHBOUR: 'it returns false'. Refute it at one input. -/
def kitKeptWrong : ChangeSpec := { name := "kitKept", fn := fun _ => fun
  | [d1, d2] => { results := [.lit (.bool false)], args := [d1, d2] }
  | _ => none }
def KitKeptWrongFalsely : Prop := kitKeptRow.holds Try.pinned (OpenSpec.ofChange kitKeptWrong)

/-- 'shotlinelaw07.KitBatches': WHATEVER THE INPUT: true; the input reads as it did. -/
def kitBatchesSpec : ChangeSpec := { name := "kitBatches", fn := fun _ => fun
  | [d1, d2, d3] => { results := [.lit (.bool true)], args := [d1, d2, d3] }
  | _ => none }
def kitBatchesRow : OpenClaim := { program := "ytldjapmfmhifkaa", sum := "7b2af934932879bc982440d08309f552a3cff668b3806a93b71abaea2486c377", func := "shotline/shotlinelaw07.KitBatches", spec := "kitBatches", unfollowed := true, recurses := true, plainKeys := false, apart := false }
def KitBatchesSaid : Prop := kitBatchesRow.holds Try.pinned (OpenSpec.ofChange kitBatchesSpec)

/-- ITS FALSE NEIGHBOUR: 'it returns false'. Refute it at one input. -/
def kitBatchesWrong : ChangeSpec := { name := "kitBatches", fn := fun _ => fun
  | [d1, d2, d3] => { results := [.lit (.bool false)], args := [d1, d2, d3] }
  | _ => none }
def KitBatchesWrongFalsely : Prop := kitBatchesRow.holds Try.pinned (OpenSpec.ofChange kitBatchesWrong)

/-- 'shotlinelaw07.KitAdds': WHATEVER THE INPUT: true; the input reads as it did. -/
def kitAddsSpec : ChangeSpec := { name := "kitAdds", fn := fun _ => fun
  | [d1, d2, d3] => { results := [.lit (.bool true)], args := [d1, d2, d3] }
  | _ => none }
def kitAddsRow : OpenClaim := { program := "ytldjapmfmhifkaa", sum := "7b2af934932879bc982440d08309f552a3cff668b3806a93b71abaea2486c377", func := "shotline/shotlinelaw07.KitAdds", spec := "kitAdds", unfollowed := true, recurses := true, plainKeys := false, apart := false }
def KitAddsSaid : Prop := kitAddsRow.holds Try.pinned (OpenSpec.ofChange kitAddsSpec)

/-- ITS FALSE NEIGHBOUR: 'it returns false'. Refute it at one input. -/
def kitAddsWrong : ChangeSpec := { name := "kitAdds", fn := fun _ => fun
  | [d1, d2, d3] => { results := [.lit (.bool false)], args := [d1, d2, d3] }
  | _ => none }
def KitAddsWrongFalsely : Prop := kitAddsRow.holds Try.pinned (OpenSpec.ofChange kitAddsWrong)

/-- 'shotlinelaw07.KitReaches': WHATEVER THE INPUT: true; the input reads as it did. -/
def kitReachesSpec : ChangeSpec := { name := "kitReaches", fn := fun _ => fun
  | [d1, d2, d3] => { results := [.lit (.bool true)], args := [d1, d2, d3] }
  | _ => none }
def kitReachesRow : OpenClaim := { program := "ytldjapmfmhifkaa", sum := "7b2af934932879bc982440d08309f552a3cff668b3806a93b71abaea2486c377", func := "shotline/shotlinelaw07.KitReaches", spec := "kitReaches", unfollowed := true, recurses := true, plainKeys := false, apart := false }
def KitReachesSaid : Prop := kitReachesRow.holds Try.pinned (OpenSpec.ofChange kitReachesSpec)

/-- ITS FALSE NEIGHBOUR: 'it returns false'. Refute it at one input. -/
def kitReachesWrong : ChangeSpec := { name := "kitReaches", fn := fun _ => fun
  | [d1, d2, d3] => { results := [.lit (.bool false)], args := [d1, d2, d3] }
  | _ => none }
def KitReachesWrongFalsely : Prop := kitReachesRow.holds Try.pinned (OpenSpec.ofChange kitReachesWrong)

/-- 'shotlinelaw07.KitDues': WHATEVER THE INPUT: true; the input reads as it did. -/
def kitDuesSpec : ChangeSpec := { name := "kitDues", fn := fun _ => fun
  | [d1, d2, d3] => { results := [.lit (.bool true)], args := [d1, d2, d3] }
  | _ => none }
def kitDuesRow : OpenClaim := { program := "ytldjapmfmhifkaa", sum := "7b2af934932879bc982440d08309f552a3cff668b3806a93b71abaea2486c377", func := "shotline/shotlinelaw07.KitDues", spec := "kitDues", unfollowed := true, recurses := true, plainKeys := false, apart := false }
def KitDuesSaid : Prop := kitDuesRow.holds Try.pinned (OpenSpec.ofChange kitDuesSpec)

/-- ITS FALSE NEIGHBOUR: 'it returns false'. Refute it at one input. -/
def kitDuesWrong : ChangeSpec := { name := "kitDues", fn := fun _ => fun
  | [d1, d2, d3] => { results := [.lit (.bool false)], args := [d1, d2, d3] }
  | _ => none }
def KitDuesWrongFalsely : Prop := kitDuesRow.holds Try.pinned (OpenSpec.ofChange kitDuesWrong)

/-- 'shotlinelaw07.KitAgrees': WHATEVER THE INPUT: true; the input reads as it did. -/
def kitAgreesSpec : ChangeSpec := { name := "kitAgrees", fn := fun _ => fun
  | [d1, d2, d3] => { results := [.lit (.bool true)], args := [d1, d2, d3] }
  | _ => none }
def kitAgreesRow : OpenClaim := { program := "ytldjapmfmhifkaa", sum := "7b2af934932879bc982440d08309f552a3cff668b3806a93b71abaea2486c377", func := "shotline/shotlinelaw07.KitAgrees", spec := "kitAgrees", unfollowed := true, recurses := true, plainKeys := false, apart := false }
def KitAgreesSaid : Prop := kitAgreesRow.holds Try.pinned (OpenSpec.ofChange kitAgreesSpec)

/-- ITS FALSE NEIGHBOUR: 'it returns false'. Refute it at one input. -/
def kitAgreesWrong : ChangeSpec := { name := "kitAgrees", fn := fun _ => fun
  | [d1, d2, d3] => { results := [.lit (.bool false)], args := [d1, d2, d3] }
  | _ => none }
def KitAgreesWrongFalsely : Prop := kitAgreesRow.holds Try.pinned (OpenSpec.ofChange kitAgreesWrong)

/-- 'shotlinelaw07.KitFills': WHATEVER THE INPUT: true; the input reads as it did. -/
def kitFillsSpec : ChangeSpec := { name := "kitFills", fn := fun _ => fun
  | [d1, d2, d3] => { results := [.lit (.bool true)], args := [d1, d2, d3] }
  | _ => none }
def kitFillsRow : OpenClaim := { program := "ytldjapmfmhifkaa", sum := "7b2af934932879bc982440d08309f552a3cff668b3806a93b71abaea2486c377", func := "shotline/shotlinelaw07.KitFills", spec := "kitFills", unfollowed := true, recurses := true, plainKeys := false, apart := false }
def KitFillsSaid : Prop := kitFillsRow.holds Try.pinned (OpenSpec.ofChange kitFillsSpec)

/-- ITS FALSE NEIGHBOUR: 'it returns false'. Refute it at one input. -/
def kitFillsWrong : ChangeSpec := { name := "kitFills", fn := fun _ => fun
  | [d1, d2, d3] => { results := [.lit (.bool false)], args := [d1, d2, d3] }
  | _ => none }
def KitFillsWrongFalsely : Prop := kitFillsRow.holds Try.pinned (OpenSpec.ofChange kitFillsWrong)

/-- 'shotlinelaw07.KitQuarantine': WHATEVER THE INPUT: true; the input reads as it did. -/
def kitQuarantineSpec : ChangeSpec := { name := "kitQuarantine", fn := fun _ => fun
  | [d1, d2] => { results := [.lit (.bool true)], args := [d1, d2] }
  | _ => none }
def kitQuarantineRow : OpenClaim := { program := "ytldjapmfmhifkaa", sum := "7b2af934932879bc982440d08309f552a3cff668b3806a93b71abaea2486c377", func := "shotline/shotlinelaw07.KitQuarantine", spec := "kitQuarantine", unfollowed := true, recurses := true, plainKeys := false, apart := false }
def KitQuarantineSaid : Prop := kitQuarantineRow.holds Try.pinned (OpenSpec.ofChange kitQuarantineSpec)

/-- ITS FALSE NEIGHBOUR: 'it returns false'. Refute it at one input. -/
def kitQuarantineWrong : ChangeSpec := { name := "kitQuarantine", fn := fun _ => fun
  | [d1, d2] => { results := [.lit (.bool false)], args := [d1, d2] }
  | _ => none }
def KitQuarantineWrongFalsely : Prop := kitQuarantineRow.holds Try.pinned (OpenSpec.ofChange kitQuarantineWrong)

/-- 'shotlinetop.TopQuarantineJust': WHATEVER THE INPUT: true; the input reads as it did. -/
def topQuarantineJustSpec : ChangeSpec := { name := "topQuarantineJust", fn := fun _ => fun
  | [d1, d2] => { results := [.lit (.bool true)], args := [d1, d2] }
  | _ => none }
def topQuarantineJustRow : OpenClaim := { program := "ytldjapmfmhifkaa", sum := "7b2af934932879bc982440d08309f552a3cff668b3806a93b71abaea2486c377", func := "shotline/shotlinetop.TopQuarantineJust", spec := "topQuarantineJust", unfollowed := true, recurses := true, plainKeys := false, apart := false }
def TopQuarantineJustSaid : Prop := topQuarantineJustRow.holds Try.pinned (OpenSpec.ofChange topQuarantineJustSpec)

/-- ITS FALSE NEIGHBOUR: 'it returns false'. Refute it at one input. -/
def topQuarantineJustWrong : ChangeSpec := { name := "topQuarantineJust", fn := fun _ => fun
  | [d1, d2] => { results := [.lit (.bool false)], args := [d1, d2] }
  | _ => none }
def TopQuarantineJustWrongFalsely : Prop := topQuarantineJustRow.holds Try.pinned (OpenSpec.ofChange topQuarantineJustWrong)

/-- 'shotlinetop.TopReachedEver': WHATEVER THE INPUT: true; the input reads as it did. -/
def topReachedEverSpec : ChangeSpec := { name := "topReachedEver", fn := fun _ => fun
  | [d1, d2, d3] => { results := [.lit (.bool true)], args := [d1, d2, d3] }
  | _ => none }
def topReachedEverRow : OpenClaim := { program := "ytldjapmfmhifkaa", sum := "7b2af934932879bc982440d08309f552a3cff668b3806a93b71abaea2486c377", func := "shotline/shotlinetop.TopReachedEver", spec := "topReachedEver", unfollowed := true, recurses := true, plainKeys := false, apart := false }
def TopReachedEverSaid : Prop := topReachedEverRow.holds Try.pinned (OpenSpec.ofChange topReachedEverSpec)

/-- ITS FALSE NEIGHBOUR: 'it returns false'. Refute it at one input. -/
def topReachedEverWrong : ChangeSpec := { name := "topReachedEver", fn := fun _ => fun
  | [d1, d2, d3] => { results := [.lit (.bool false)], args := [d1, d2, d3] }
  | _ => none }
def TopReachedEverWrongFalsely : Prop := topReachedEverRow.holds Try.pinned (OpenSpec.ofChange topReachedEverWrong)

/-- 'shotlinetop.TopCheckedGood': WHATEVER THE INPUT: true; the input reads as it did. -/
def topCheckedGoodSpec : ChangeSpec := { name := "topCheckedGood", fn := fun _ => fun
  | [d1, d2, d3] => { results := [.lit (.bool true)], args := [d1, d2, d3] }
  | _ => none }
def topCheckedGoodRow : OpenClaim := { program := "ytldjapmfmhifkaa", sum := "7b2af934932879bc982440d08309f552a3cff668b3806a93b71abaea2486c377", func := "shotline/shotlinetop.TopCheckedGood", spec := "topCheckedGood", unfollowed := true, recurses := true, plainKeys := false, apart := false }
def TopCheckedGoodSaid : Prop := topCheckedGoodRow.holds Try.pinned (OpenSpec.ofChange topCheckedGoodSpec)

/-- ITS FALSE NEIGHBOUR: 'it returns false'. Refute it at one input. -/
def topCheckedGoodWrong : ChangeSpec := { name := "topCheckedGood", fn := fun _ => fun
  | [d1, d2, d3] => { results := [.lit (.bool false)], args := [d1, d2, d3] }
  | _ => none }
def TopCheckedGoodWrongFalsely : Prop := topCheckedGoodRow.holds Try.pinned (OpenSpec.ofChange topCheckedGoodWrong)

/- THE SECOND FORM. 'bulk': how many values and letters a reading holds, each counted each time it is reached (what is shared counts as often as it is met; a slice's spare places count too). A statement '..UptoSaid' is the law's where the arguments, and the package variables that the reading takes, are together of bulk at most 1048576: NARROWER than '..Said'. Prove '..Said' where nothing that the law and all that it calls make is longer than what came in: it says more and counts as full. Else prove '..UptoSaid'. A law counts once. -/
mutual
def uptoBulk {H : Type} : DataW H → Nat
  | .lit (.string bytes) => bytes.length + 1
  | .lit _ => 1
  | .nil => 1
  | .ptr d => uptoBulk d + 1
  | .slice elems spare => uptoBulkAll elems + uptoBulkAll spare + 1
  | .agg parts => uptoBulkAll parts + 1
  | .iface _ d => uptoBulk d + 1
  | .map entries => uptoBulkEntries entries + 1
  | .held _ => 1
def uptoBulkAll {H : Type} : List (DataW H) → Nat
  | [] => 0
  | d :: r => uptoBulk d + uptoBulkAll r
def uptoBulkEntries {H : Type} : List (Lit × DataW H) → Nat
  | [] => 0
  | x :: r => uptoBulkEntry x + uptoBulkEntries r
def uptoBulkEntry {H : Type} : Lit × DataW H → Nat
  | (.string bytes, d) => bytes.length + uptoBulk d + 1
  | (_, d) => uptoBulk d + 1
 end
def uptoSmall : (H : Type) → List (DataW H) → Bool := fun _ ds => decide (uptoBulkAll ds ≤ 1048576)
def OpenSpec.upto (s : _root_.Go.ChangeSpec) : _root_.Go.OpenSpec := { _root_.Go.OpenSpec.ofChange s with cond := some uptoSmall }

/-- 'shotlinelaw07.KitUsables', WHERE WHAT IT READS IS OF BULK AT MOST 1048576: true; the input reads as it did. -/
def kitUsablesUptoRow : OpenClaim := { program := "ytldjapmfmhifkaa", sum := "7b2af934932879bc982440d08309f552a3cff668b3806a93b71abaea2486c377", func := "shotline/shotlinelaw07.KitUsables", spec := "kitUsables", unfollowed := true, recurses := true, plainKeys := false, apart := false, narrowed := true }
def KitUsablesUptoSaid : Prop := kitUsablesUptoRow.holds Try.pinned (OpenSpec.upto kitUsablesSpec)

/-- 'shotlinelaw07.KitLater', WHERE WHAT IT READS IS OF BULK AT MOST 1048576: true; the input reads as it did. -/
def kitLaterUptoRow : OpenClaim := { program := "ytldjapmfmhifkaa", sum := "7b2af934932879bc982440d08309f552a3cff668b3806a93b71abaea2486c377", func := "shotline/shotlinelaw07.KitLater", spec := "kitLater", unfollowed := true, recurses := true, plainKeys := false, apart := false, narrowed := true }
def KitLaterUptoSaid : Prop := kitLaterUptoRow.holds Try.pinned (OpenSpec.upto kitLaterSpec)

/-- 'shotlinelaw07.KitEvents', WHERE WHAT IT READS IS OF BULK AT MOST 1048576: true; the input reads as it did. -/
def kitEventsUptoRow : OpenClaim := { program := "ytldjapmfmhifkaa", sum := "7b2af934932879bc982440d08309f552a3cff668b3806a93b71abaea2486c377", func := "shotline/shotlinelaw07.KitEvents", spec := "kitEvents", unfollowed := true, recurses := true, plainKeys := false, apart := false, narrowed := true }
def KitEventsUptoSaid : Prop := kitEventsUptoRow.holds Try.pinned (OpenSpec.upto kitEventsSpec)

/-- 'shotlinelaw07.KitKept', WHERE WHAT IT READS IS OF BULK AT MOST 1048576: true; the input reads as it did. -/
def kitKeptUptoRow : OpenClaim := { program := "ytldjapmfmhifkaa", sum := "7b2af934932879bc982440d08309f552a3cff668b3806a93b71abaea2486c377", func := "shotline/shotlinelaw07.KitKept", spec := "kitKept", unfollowed := true, recurses := true, plainKeys := false, apart := false, narrowed := true }
def KitKeptUptoSaid : Prop := kitKeptUptoRow.holds Try.pinned (OpenSpec.upto kitKeptSpec)

/-- 'shotlinelaw07.KitBatches', WHERE WHAT IT READS IS OF BULK AT MOST 1048576: true; the input reads as it did. -/
def kitBatchesUptoRow : OpenClaim := { program := "ytldjapmfmhifkaa", sum := "7b2af934932879bc982440d08309f552a3cff668b3806a93b71abaea2486c377", func := "shotline/shotlinelaw07.KitBatches", spec := "kitBatches", unfollowed := true, recurses := true, plainKeys := false, apart := false, narrowed := true }
def KitBatchesUptoSaid : Prop := kitBatchesUptoRow.holds Try.pinned (OpenSpec.upto kitBatchesSpec)

/-- 'shotlinelaw07.KitAdds', WHERE WHAT IT READS IS OF BULK AT MOST 1048576: true; the input reads as it did. -/
def kitAddsUptoRow : OpenClaim := { program := "ytldjapmfmhifkaa", sum := "7b2af934932879bc982440d08309f552a3cff668b3806a93b71abaea2486c377", func := "shotline/shotlinelaw07.KitAdds", spec := "kitAdds", unfollowed := true, recurses := true, plainKeys := false, apart := false, narrowed := true }
def KitAddsUptoSaid : Prop := kitAddsUptoRow.holds Try.pinned (OpenSpec.upto kitAddsSpec)

/-- 'shotlinelaw07.KitReaches', WHERE WHAT IT READS IS OF BULK AT MOST 1048576: true; the input reads as it did. -/
def kitReachesUptoRow : OpenClaim := { program := "ytldjapmfmhifkaa", sum := "7b2af934932879bc982440d08309f552a3cff668b3806a93b71abaea2486c377", func := "shotline/shotlinelaw07.KitReaches", spec := "kitReaches", unfollowed := true, recurses := true, plainKeys := false, apart := false, narrowed := true }
def KitReachesUptoSaid : Prop := kitReachesUptoRow.holds Try.pinned (OpenSpec.upto kitReachesSpec)

/-- 'shotlinelaw07.KitDues', WHERE WHAT IT READS IS OF BULK AT MOST 1048576: true; the input reads as it did. -/
def kitDuesUptoRow : OpenClaim := { program := "ytldjapmfmhifkaa", sum := "7b2af934932879bc982440d08309f552a3cff668b3806a93b71abaea2486c377", func := "shotline/shotlinelaw07.KitDues", spec := "kitDues", unfollowed := true, recurses := true, plainKeys := false, apart := false, narrowed := true }
def KitDuesUptoSaid : Prop := kitDuesUptoRow.holds Try.pinned (OpenSpec.upto kitDuesSpec)

/-- 'shotlinelaw07.KitAgrees', WHERE WHAT IT READS IS OF BULK AT MOST 1048576: true; the input reads as it did. -/
def kitAgreesUptoRow : OpenClaim := { program := "ytldjapmfmhifkaa", sum := "7b2af934932879bc982440d08309f552a3cff668b3806a93b71abaea2486c377", func := "shotline/shotlinelaw07.KitAgrees", spec := "kitAgrees", unfollowed := true, recurses := true, plainKeys := false, apart := false, narrowed := true }
def KitAgreesUptoSaid : Prop := kitAgreesUptoRow.holds Try.pinned (OpenSpec.upto kitAgreesSpec)

/-- 'shotlinelaw07.KitFills', WHERE WHAT IT READS IS OF BULK AT MOST 1048576: true; the input reads as it did. -/
def kitFillsUptoRow : OpenClaim := { program := "ytldjapmfmhifkaa", sum := "7b2af934932879bc982440d08309f552a3cff668b3806a93b71abaea2486c377", func := "shotline/shotlinelaw07.KitFills", spec := "kitFills", unfollowed := true, recurses := true, plainKeys := false, apart := false, narrowed := true }
def KitFillsUptoSaid : Prop := kitFillsUptoRow.holds Try.pinned (OpenSpec.upto kitFillsSpec)

/-- 'shotlinelaw07.KitQuarantine', WHERE WHAT IT READS IS OF BULK AT MOST 1048576: true; the input reads as it did. -/
def kitQuarantineUptoRow : OpenClaim := { program := "ytldjapmfmhifkaa", sum := "7b2af934932879bc982440d08309f552a3cff668b3806a93b71abaea2486c377", func := "shotline/shotlinelaw07.KitQuarantine", spec := "kitQuarantine", unfollowed := true, recurses := true, plainKeys := false, apart := false, narrowed := true }
def KitQuarantineUptoSaid : Prop := kitQuarantineUptoRow.holds Try.pinned (OpenSpec.upto kitQuarantineSpec)

/-- 'shotlinetop.TopQuarantineJust', WHERE WHAT IT READS IS OF BULK AT MOST 1048576: true; the input reads as it did. -/
def topQuarantineJustUptoRow : OpenClaim := { program := "ytldjapmfmhifkaa", sum := "7b2af934932879bc982440d08309f552a3cff668b3806a93b71abaea2486c377", func := "shotline/shotlinetop.TopQuarantineJust", spec := "topQuarantineJust", unfollowed := true, recurses := true, plainKeys := false, apart := false, narrowed := true }
def TopQuarantineJustUptoSaid : Prop := topQuarantineJustUptoRow.holds Try.pinned (OpenSpec.upto topQuarantineJustSpec)

/-- 'shotlinetop.TopReachedEver', WHERE WHAT IT READS IS OF BULK AT MOST 1048576: true; the input reads as it did. -/
def topReachedEverUptoRow : OpenClaim := { program := "ytldjapmfmhifkaa", sum := "7b2af934932879bc982440d08309f552a3cff668b3806a93b71abaea2486c377", func := "shotline/shotlinetop.TopReachedEver", spec := "topReachedEver", unfollowed := true, recurses := true, plainKeys := false, apart := false, narrowed := true }
def TopReachedEverUptoSaid : Prop := topReachedEverUptoRow.holds Try.pinned (OpenSpec.upto topReachedEverSpec)

/-- 'shotlinetop.TopCheckedGood', WHERE WHAT IT READS IS OF BULK AT MOST 1048576: true; the input reads as it did. -/
def topCheckedGoodUptoRow : OpenClaim := { program := "ytldjapmfmhifkaa", sum := "7b2af934932879bc982440d08309f552a3cff668b3806a93b71abaea2486c377", func := "shotline/shotlinetop.TopCheckedGood", spec := "topCheckedGood", unfollowed := true, recurses := true, plainKeys := false, apart := false, narrowed := true }
def TopCheckedGoodUptoSaid : Prop := topCheckedGoodUptoRow.holds Try.pinned (OpenSpec.upto topCheckedGoodSpec)

end Rows
end Go.Proofs.Ytldjapmfmhifkaa
