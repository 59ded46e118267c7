/-
  No cell of these rows narrows 'for every input' (looked for: loops, veiled, ifaces, maps, wideKeys, modest, calm, conditions, laid).
  DERIVED. THE GIVEN ROWS OF THIS SEAT. 15 by the template 'for every input the law returns true; each argument reads behind the call as it read before'; 0 by the template 'total and deterministic' (their statements: YtmndejpcpfkajaaTotals.lean).
  GIVEN WITH THE SEED: the statements are not yours to turn. If you find one false, say at which input.
  Laid BY PROGRAM, IN A SANDBOX (cutbox-rows.mjs): the forced cells as the released guide's own fill.sh prints them over the translation 3b08eb91d12c7a8b… (all of the seat's roots in one cut). By AI agents, Wed Nov 11 2026. No macro, syntax, notation, axiom, sorry.
-/
import Derived.Test.YtmndejpcpfkajaaChecked
import GoSem.Claim
import GoSem.ClaimJoined
import GoSem.ClaimMapViews
import Derived.JoinedTies
import Derived.KernelRfl
namespace Go.Proofs.Ytmndejpcpfkajaa
/- THE CELL 'sum', in the pinned program and in every row, IS THE sha256 OF THE DUMP (.gsa) THAT YtmndejpcpfkajaaProg.lean LOADS. Nothing in Lean hashes anything: it is a label: what it is worth is what the hold of that sum in a sandbox is worth. -/
noncomputable def Try.pinned : Pinned := { name := "ytmndejpcpfkajaa", sum := "3b08eb91d12c7a8b8b2a2b0754b260c7619e0684d2e9b0219a58292664c92455", checked := Try.checked }
namespace Rows
def none {H : Type} : Left H := { results := [], args := [] }

/-- 'shotlinetop.TopGasBalanced': WHATEVER THE INPUT: true; the input reads as it did. -/
def topGasBalancedSpec : ChangeSpec := { name := "topGasBalanced", fn := fun _ => fun
  | [d1, d2, d3] => { results := [.lit (.bool true)], args := [d1, d2, d3] }
  | _ => none }
def topGasBalancedRow : OpenClaim := { program := "ytmndejpcpfkajaa", sum := "3b08eb91d12c7a8b8b2a2b0754b260c7619e0684d2e9b0219a58292664c92455", func := "shotline/shotlinetop.TopGasBalanced", spec := "topGasBalanced", unfollowed := true, recurses := true, apart := false }
def TopGasBalancedSaid : Prop := topGasBalancedRow.holds Try.pinned (OpenSpec.ofChange topGasBalancedSpec)

/-- ITS FALSE NEIGHBOUR: 'it returns false'. Refute it at one input. -/
def topGasBalancedWrong : ChangeSpec := { name := "topGasBalanced", fn := fun _ => fun
  | [d1, d2, d3] => { results := [.lit (.bool false)], args := [d1, d2, d3] }
  | _ => none }
def TopGasBalancedWrongFalsely : Prop := topGasBalancedRow.holds Try.pinned (OpenSpec.ofChange topGasBalancedWrong)

/-- 'shotlinetop.TopFillTwoWays': WHATEVER THE INPUT: true; the input reads as it did. -/
def topFillTwoWaysSpec : ChangeSpec := { name := "topFillTwoWays", fn := fun _ => fun
  | [d1, d2, d3] => { results := [.lit (.bool true)], args := [d1, d2, d3] }
  | _ => none }
def topFillTwoWaysRow : OpenClaim := { program := "ytmndejpcpfkajaa", sum := "3b08eb91d12c7a8b8b2a2b0754b260c7619e0684d2e9b0219a58292664c92455", func := "shotline/shotlinetop.TopFillTwoWays", spec := "topFillTwoWays", unfollowed := true, recurses := true, apart := false }
def TopFillTwoWaysSaid : Prop := topFillTwoWaysRow.holds Try.pinned (OpenSpec.ofChange topFillTwoWaysSpec)

/-- ITS FALSE NEIGHBOUR: 'it returns false'. Refute it at one input. -/
def topFillTwoWaysWrong : ChangeSpec := { name := "topFillTwoWays", fn := fun _ => fun
  | [d1, d2, d3] => { results := [.lit (.bool false)], args := [d1, d2, d3] }
  | _ => none }
def TopFillTwoWaysWrongFalsely : Prop := topFillTwoWaysRow.holds Try.pinned (OpenSpec.ofChange topFillTwoWaysWrong)

/-- 'shotlinetop.TopFillMixed': WHATEVER THE INPUT: true; the input reads as it did. -/
def topFillMixedSpec : ChangeSpec := { name := "topFillMixed", fn := fun _ => fun
  | [d1, d2] => { results := [.lit (.bool true)], args := [d1, d2] }
  | _ => none }
def topFillMixedRow : OpenClaim := { program := "ytmndejpcpfkajaa", sum := "3b08eb91d12c7a8b8b2a2b0754b260c7619e0684d2e9b0219a58292664c92455", func := "shotline/shotlinetop.TopFillMixed", spec := "topFillMixed", unfollowed := true, recurses := true, apart := false }
def TopFillMixedSaid : Prop := topFillMixedRow.holds Try.pinned (OpenSpec.ofChange topFillMixedSpec)

/-- ITS FALSE NEIGHBOUR: 'it returns false'. Refute it at one input. -/
def topFillMixedWrong : ChangeSpec := { name := "topFillMixed", fn := fun _ => fun
  | [d1, d2] => { results := [.lit (.bool false)], args := [d1, d2] }
  | _ => none }
def TopFillMixedWrongFalsely : Prop := topFillMixedRow.holds Try.pinned (OpenSpec.ofChange topFillMixedWrong)

/-- 'shotlinelaw06.MixShares': WHATEVER THE INPUT: true; the input reads as it did. -/
def mixSharesSpec : ChangeSpec := { name := "mixShares", fn := fun _ => fun
  | [d1, d2] => { results := [.lit (.bool true)], args := [d1, d2] }
  | _ => none }
def mixSharesRow : OpenClaim := { program := "ytmndejpcpfkajaa", sum := "3b08eb91d12c7a8b8b2a2b0754b260c7619e0684d2e9b0219a58292664c92455", func := "shotline/shotlinelaw06.MixShares", spec := "mixShares", unfollowed := true, recurses := true, apart := false }
def MixSharesSaid : Prop := mixSharesRow.holds Try.pinned (OpenSpec.ofChange mixSharesSpec)

/-- ITS FALSE NEIGHBOUR: 'it returns false'. Refute it at one input. -/
def mixSharesWrong : ChangeSpec := { name := "mixShares", fn := fun _ => fun
  | [d1, d2] => { results := [.lit (.bool false)], args := [d1, d2] }
  | _ => none }
def MixSharesWrongFalsely : Prop := mixSharesRow.holds Try.pinned (OpenSpec.ofChange mixSharesWrong)

/-- 'shotlinelaw06.MixFills': WHATEVER THE INPUT: true; the input reads as it did. -/
def mixFillsSpec : ChangeSpec := { name := "mixFills", fn := fun _ => fun
  | [d1, d2] => { results := [.lit (.bool true)], args := [d1, d2] }
  | _ => none }
def mixFillsRow : OpenClaim := { program := "ytmndejpcpfkajaa", sum := "3b08eb91d12c7a8b8b2a2b0754b260c7619e0684d2e9b0219a58292664c92455", func := "shotline/shotlinelaw06.MixFills", spec := "mixFills", unfollowed := true, recurses := true, apart := false }
def MixFillsSaid : Prop := mixFillsRow.holds Try.pinned (OpenSpec.ofChange mixFillsSpec)

/-- ITS FALSE NEIGHBOUR: 'it returns false'. Refute it at one input. -/
def mixFillsWrong : ChangeSpec := { name := "mixFills", fn := fun _ => fun
  | [d1, d2] => { results := [.lit (.bool false)], args := [d1, d2] }
  | _ => none }
def MixFillsWrongFalsely : Prop := mixFillsRow.holds Try.pinned (OpenSpec.ofChange mixFillsWrong)

/-- 'shotlinelaw06.MixBalance': WHATEVER THE INPUT: true; the input reads as it did. -/
def mixBalanceSpec : ChangeSpec := { name := "mixBalance", fn := fun _ => fun
  | [d1, d2] => { results := [.lit (.bool true)], args := [d1, d2] }
  | _ => none }
def mixBalanceRow : OpenClaim := { program := "ytmndejpcpfkajaa", sum := "3b08eb91d12c7a8b8b2a2b0754b260c7619e0684d2e9b0219a58292664c92455", func := "shotline/shotlinelaw06.MixBalance", spec := "mixBalance", unfollowed := true, recurses := true, apart := false }
def MixBalanceSaid : Prop := mixBalanceRow.holds Try.pinned (OpenSpec.ofChange mixBalanceSpec)

/-- ITS FALSE NEIGHBOUR: 'it returns false'. Refute it at one input. -/
def mixBalanceWrong : ChangeSpec := { name := "mixBalance", fn := fun _ => fun
  | [d1, d2] => { results := [.lit (.bool false)], args := [d1, d2] }
  | _ => none }
def MixBalanceWrongFalsely : Prop := mixBalanceRow.holds Try.pinned (OpenSpec.ofChange mixBalanceWrong)

/-- 'shotlinelaw06.MixMatches': WHATEVER THE INPUT: true; the input reads as it did. -/
def mixMatchesSpec : ChangeSpec := { name := "mixMatches", fn := fun _ => fun
  | [d1, d2, d3] => { results := [.lit (.bool true)], args := [d1, d2, d3] }
  | _ => none }
def mixMatchesRow : OpenClaim := { program := "ytmndejpcpfkajaa", sum := "3b08eb91d12c7a8b8b2a2b0754b260c7619e0684d2e9b0219a58292664c92455", func := "shotline/shotlinelaw06.MixMatches", spec := "mixMatches", unfollowed := true, recurses := true, apart := false }
def MixMatchesSaid : Prop := mixMatchesRow.holds Try.pinned (OpenSpec.ofChange mixMatchesSpec)

/-- ITS FALSE NEIGHBOUR: 'it returns false'. Refute it at one input. -/
def mixMatchesWrong : ChangeSpec := { name := "mixMatches", fn := fun _ => fun
  | [d1, d2, d3] => { results := [.lit (.bool false)], args := [d1, d2, d3] }
  | _ => none }
def MixMatchesWrongFalsely : Prop := mixMatchesRow.holds Try.pinned (OpenSpec.ofChange mixMatchesWrong)

/-- 'shotlinelaw06.MixAdds': WHATEVER THE INPUT: true; the input reads as it did. -/
def mixAddsSpec : ChangeSpec := { name := "mixAdds", fn := fun _ => fun
  | [d1, d2, d3] => { results := [.lit (.bool true)], args := [d1, d2, d3] }
  | _ => none }
def mixAddsRow : OpenClaim := { program := "ytmndejpcpfkajaa", sum := "3b08eb91d12c7a8b8b2a2b0754b260c7619e0684d2e9b0219a58292664c92455", func := "shotline/shotlinelaw06.MixAdds", spec := "mixAdds", unfollowed := true, recurses := true, apart := false }
def MixAddsSaid : Prop := mixAddsRow.holds Try.pinned (OpenSpec.ofChange mixAddsSpec)

/-- ITS FALSE NEIGHBOUR: 'it returns false'. Refute it at one input. -/
def mixAddsWrong : ChangeSpec := { name := "mixAdds", fn := fun _ => fun
  | [d1, d2, d3] => { results := [.lit (.bool false)], args := [d1, d2, d3] }
  | _ => none }
def MixAddsWrongFalsely : Prop := mixAddsRow.holds Try.pinned (OpenSpec.ofChange mixAddsWrong)

/-- 'shotlinelaw06.MixPartials': WHATEVER THE INPUT: true; the input reads as it did. -/
def mixPartialsSpec : ChangeSpec := { name := "mixPartials", fn := fun _ => fun
  | [d1, d2] => { results := [.lit (.bool true)], args := [d1, d2] }
  | _ => none }
def mixPartialsRow : OpenClaim := { program := "ytmndejpcpfkajaa", sum := "3b08eb91d12c7a8b8b2a2b0754b260c7619e0684d2e9b0219a58292664c92455", func := "shotline/shotlinelaw06.MixPartials", spec := "mixPartials", unfollowed := true, recurses := true, apart := false }
def MixPartialsSaid : Prop := mixPartialsRow.holds Try.pinned (OpenSpec.ofChange mixPartialsSpec)

/-- ITS FALSE NEIGHBOUR: 'it returns false'. Refute it at one input. -/
def mixPartialsWrong : ChangeSpec := { name := "mixPartials", fn := fun _ => fun
  | [d1, d2] => { results := [.lit (.bool false)], args := [d1, d2] }
  | _ => none }
def MixPartialsWrongFalsely : Prop := mixPartialsRow.holds Try.pinned (OpenSpec.ofChange mixPartialsWrong)

/-- 'shotlinelaw06.MixContents': WHATEVER THE INPUT: true; the input reads as it did. -/
def mixContentsSpec : ChangeSpec := { name := "mixContents", fn := fun _ => fun
  | [d1, d2, d3] => { results := [.lit (.bool true)], args := [d1, d2, d3] }
  | _ => none }
def mixContentsRow : OpenClaim := { program := "ytmndejpcpfkajaa", sum := "3b08eb91d12c7a8b8b2a2b0754b260c7619e0684d2e9b0219a58292664c92455", func := "shotline/shotlinelaw06.MixContents", spec := "mixContents", unfollowed := true, recurses := true, apart := false }
def MixContentsSaid : Prop := mixContentsRow.holds Try.pinned (OpenSpec.ofChange mixContentsSpec)

/-- ITS FALSE NEIGHBOUR: 'it returns false'. Refute it at one input. -/
def mixContentsWrong : ChangeSpec := { name := "mixContents", fn := fun _ => fun
  | [d1, d2, d3] => { results := [.lit (.bool false)], args := [d1, d2, d3] }
  | _ => none }
def MixContentsWrongFalsely : Prop := mixContentsRow.holds Try.pinned (OpenSpec.ofChange mixContentsWrong)

/-- 'shotlinelaw06.MixFactors': WHATEVER THE INPUT: true; the input reads as it did. -/
def mixFactorsSpec : ChangeSpec := { name := "mixFactors", fn := fun _ => fun
  | [d1, d2, d3] => { results := [.lit (.bool true)], args := [d1, d2, d3] }
  | _ => none }
def mixFactorsRow : OpenClaim := { program := "ytmndejpcpfkajaa", sum := "3b08eb91d12c7a8b8b2a2b0754b260c7619e0684d2e9b0219a58292664c92455", func := "shotline/shotlinelaw06.MixFactors", spec := "mixFactors", unfollowed := true, recurses := true, apart := false }
def MixFactorsSaid : Prop := mixFactorsRow.holds Try.pinned (OpenSpec.ofChange mixFactorsSpec)

/-- ITS FALSE NEIGHBOUR: 'it returns false'. Refute it at one input. -/
def mixFactorsWrong : ChangeSpec := { name := "mixFactors", fn := fun _ => fun
  | [d1, d2, d3] => { results := [.lit (.bool false)], args := [d1, d2, d3] }
  | _ => none }
def MixFactorsWrongFalsely : Prop := mixFactorsRow.holds Try.pinned (OpenSpec.ofChange mixFactorsWrong)

/-- 'shotlinelaw06.MixChecks': WHATEVER THE INPUT: true; the input reads as it did. -/
def mixChecksSpec : ChangeSpec := { name := "mixChecks", fn := fun _ => fun
  | [d1, d2, d3] => { results := [.lit (.bool true)], args := [d1, d2, d3] }
  | _ => none }
def mixChecksRow : OpenClaim := { program := "ytmndejpcpfkajaa", sum := "3b08eb91d12c7a8b8b2a2b0754b260c7619e0684d2e9b0219a58292664c92455", func := "shotline/shotlinelaw06.MixChecks", spec := "mixChecks", unfollowed := true, recurses := true, apart := false }
def MixChecksSaid : Prop := mixChecksRow.holds Try.pinned (OpenSpec.ofChange mixChecksSpec)

/-- ITS FALSE NEIGHBOUR: 'it returns false'. Refute it at one input. -/
def mixChecksWrong : ChangeSpec := { name := "mixChecks", fn := fun _ => fun
  | [d1, d2, d3] => { results := [.lit (.bool false)], args := [d1, d2, d3] }
  | _ => none }
def MixChecksWrongFalsely : Prop := mixChecksRow.holds Try.pinned (OpenSpec.ofChange mixChecksWrong)

/-- 'shotlinelaw06.MixWider': WHATEVER THE INPUT: true; the input reads as it did. -/
def mixWiderSpec : ChangeSpec := { name := "mixWider", fn := fun _ => fun
  | [d1, d2] => { results := [.lit (.bool true)], args := [d1, d2] }
  | _ => none }
def mixWiderRow : OpenClaim := { program := "ytmndejpcpfkajaa", sum := "3b08eb91d12c7a8b8b2a2b0754b260c7619e0684d2e9b0219a58292664c92455", func := "shotline/shotlinelaw06.MixWider", spec := "mixWider", unfollowed := true, recurses := true, apart := false }
def MixWiderSaid : Prop := mixWiderRow.holds Try.pinned (OpenSpec.ofChange mixWiderSpec)

/-- ITS FALSE NEIGHBOUR: 'it returns false'. Refute it at one input. -/
def mixWiderWrong : ChangeSpec := { name := "mixWider", fn := fun _ => fun
  | [d1, d2] => { results := [.lit (.bool false)], args := [d1, d2] }
  | _ => none }
def MixWiderWrongFalsely : Prop := mixWiderRow.holds Try.pinned (OpenSpec.ofChange mixWiderWrong)

/-- 'shotlinelaw06.MixCheapest': WHATEVER THE INPUT: true; the input reads as it did. -/
def mixCheapestSpec : ChangeSpec := { name := "mixCheapest", fn := fun _ => fun
  | [d] => { results := [.lit (.bool true)], args := [d] }
  | _ => none }
def mixCheapestRow : OpenClaim := { program := "ytmndejpcpfkajaa", sum := "3b08eb91d12c7a8b8b2a2b0754b260c7619e0684d2e9b0219a58292664c92455", func := "shotline/shotlinelaw06.MixCheapest", spec := "mixCheapest", unfollowed := true, recurses := true, apart := false }
def MixCheapestSaid : Prop := mixCheapestRow.holds Try.pinned (OpenSpec.ofChange mixCheapestSpec)

/-- ITS FALSE NEIGHBOUR: 'it returns false'. Refute it at one input. -/
def mixCheapestWrong : ChangeSpec := { name := "mixCheapest", fn := fun _ => fun
  | [d] => { results := [.lit (.bool false)], args := [d] }
  | _ => none }
def MixCheapestWrongFalsely : Prop := mixCheapestRow.holds Try.pinned (OpenSpec.ofChange mixCheapestWrong)

/-- 'shotlinelaw06.MixDuals': WHATEVER THE INPUT: true; the input reads as it did. -/
def mixDualsSpec : ChangeSpec := { name := "mixDuals", fn := fun _ => fun
  | [d1, d2, d3] => { results := [.lit (.bool true)], args := [d1, d2, d3] }
  | _ => none }
def mixDualsRow : OpenClaim := { program := "ytmndejpcpfkajaa", sum := "3b08eb91d12c7a8b8b2a2b0754b260c7619e0684d2e9b0219a58292664c92455", func := "shotline/shotlinelaw06.MixDuals", spec := "mixDuals", unfollowed := true, recurses := true, apart := false }
def MixDualsSaid : Prop := mixDualsRow.holds Try.pinned (OpenSpec.ofChange mixDualsSpec)

/-- ITS FALSE NEIGHBOUR: 'it returns false'. Refute it at one input. -/
def mixDualsWrong : ChangeSpec := { name := "mixDuals", fn := fun _ => fun
  | [d1, d2, d3] => { results := [.lit (.bool false)], args := [d1, d2, d3] }
  | _ => none }
def MixDualsWrongFalsely : Prop := mixDualsRow.holds Try.pinned (OpenSpec.ofChange mixDualsWrong)

/- THE SECOND FORM. 'bulk': how many values and letters a reading holds, each counted each time it is reached (what is shared counts as often as it is met; a slice's spare places count too). A statement '..UptoSaid' is the law's where the arguments, and the package variables that the reading takes, are together of bulk at most 1048576: NARROWER than '..Said'. Prove '..Said' where nothing that the law and all that it calls make is longer than what came in: it says more and counts as full. Else prove '..UptoSaid'. A law counts once. -/
mutual
def uptoBulk {H : Type} : DataW H → Nat
  | .lit (.string bytes) => bytes.length + 1
  | .lit _ => 1
  | .nil => 1
  | .ptr d => uptoBulk d + 1
  | .slice elems spare => uptoBulkAll elems + uptoBulkAll spare + 1
  | .agg parts => uptoBulkAll parts + 1
  | .iface _ d => uptoBulk d + 1
  | .map entries => uptoBulkEntries entries + 1
  | .held _ => 1
def uptoBulkAll {H : Type} : List (DataW H) → Nat
  | [] => 0
  | d :: r => uptoBulk d + uptoBulkAll r
def uptoBulkEntries {H : Type} : List (Lit × DataW H) → Nat
  | [] => 0
  | x :: r => uptoBulkEntry x + uptoBulkEntries r
def uptoBulkEntry {H : Type} : Lit × DataW H → Nat
  | (.string bytes, d) => bytes.length + uptoBulk d + 1
  | (_, d) => uptoBulk d + 1
 end
def uptoSmall : (H : Type) → List (DataW H) → Bool := fun _ ds => decide (uptoBulkAll ds ≤ 1048576)
def OpenSpec.upto (s : _root_.Go.ChangeSpec) : _root_.Go.OpenSpec := { _root_.Go.OpenSpec.ofChange s with cond := some uptoSmall }

/-- 'shotlinetop.TopGasBalanced', WHERE WHAT IT READS IS OF BULK AT MOST 1048576: true; the input reads as it did. -/
def topGasBalancedUptoRow : OpenClaim := { program := "ytmndejpcpfkajaa", sum := "3b08eb91d12c7a8b8b2a2b0754b260c7619e0684d2e9b0219a58292664c92455", func := "shotline/shotlinetop.TopGasBalanced", spec := "topGasBalanced", unfollowed := true, recurses := true, apart := false, narrowed := true }
def TopGasBalancedUptoSaid : Prop := topGasBalancedUptoRow.holds Try.pinned (OpenSpec.upto topGasBalancedSpec)

/-- 'shotlinetop.TopFillTwoWays', WHERE WHAT IT READS IS OF BULK AT MOST 1048576: true; the input reads as it did. -/
def topFillTwoWaysUptoRow : OpenClaim := { program := "ytmndejpcpfkajaa", sum := "3b08eb91d12c7a8b8b2a2b0754b260c7619e0684d2e9b0219a58292664c92455", func := "shotline/shotlinetop.TopFillTwoWays", spec := "topFillTwoWays", unfollowed := true, recurses := true, apart := false, narrowed := true }
def TopFillTwoWaysUptoSaid : Prop := topFillTwoWaysUptoRow.holds Try.pinned (OpenSpec.upto topFillTwoWaysSpec)

/-- 'shotlinetop.TopFillMixed', WHERE WHAT IT READS IS OF BULK AT MOST 1048576: true; the input reads as it did. -/
def topFillMixedUptoRow : OpenClaim := { program := "ytmndejpcpfkajaa", sum := "3b08eb91d12c7a8b8b2a2b0754b260c7619e0684d2e9b0219a58292664c92455", func := "shotline/shotlinetop.TopFillMixed", spec := "topFillMixed", unfollowed := true, recurses := true, apart := false, narrowed := true }
def TopFillMixedUptoSaid : Prop := topFillMixedUptoRow.holds Try.pinned (OpenSpec.upto topFillMixedSpec)

/-- 'shotlinelaw06.MixShares', WHERE WHAT IT READS IS OF BULK AT MOST 1048576: true; the input reads as it did. -/
def mixSharesUptoRow : OpenClaim := { program := "ytmndejpcpfkajaa", sum := "3b08eb91d12c7a8b8b2a2b0754b260c7619e0684d2e9b0219a58292664c92455", func := "shotline/shotlinelaw06.MixShares", spec := "mixShares", unfollowed := true, recurses := true, apart := false, narrowed := true }
def MixSharesUptoSaid : Prop := mixSharesUptoRow.holds Try.pinned (OpenSpec.upto mixSharesSpec)

/-- 'shotlinelaw06.MixFills', WHERE WHAT IT READS IS OF BULK AT MOST 1048576: true; the input reads as it did. -/
def mixFillsUptoRow : OpenClaim := { program := "ytmndejpcpfkajaa", sum := "3b08eb91d12c7a8b8b2a2b0754b260c7619e0684d2e9b0219a58292664c92455", func := "shotline/shotlinelaw06.MixFills", spec := "mixFills", unfollowed := true, recurses := true, apart := false, narrowed := true }
def MixFillsUptoSaid : Prop := mixFillsUptoRow.holds Try.pinned (OpenSpec.upto mixFillsSpec)

/-- 'shotlinelaw06.MixBalance', WHERE WHAT IT READS IS OF BULK AT MOST 1048576: true; the input reads as it did. -/
def mixBalanceUptoRow : OpenClaim := { program := "ytmndejpcpfkajaa", sum := "3b08eb91d12c7a8b8b2a2b0754b260c7619e0684d2e9b0219a58292664c92455", func := "shotline/shotlinelaw06.MixBalance", spec := "mixBalance", unfollowed := true, recurses := true, apart := false, narrowed := true }
def MixBalanceUptoSaid : Prop := mixBalanceUptoRow.holds Try.pinned (OpenSpec.upto mixBalanceSpec)

/-- 'shotlinelaw06.MixMatches', WHERE WHAT IT READS IS OF BULK AT MOST 1048576: true; the input reads as it did. -/
def mixMatchesUptoRow : OpenClaim := { program := "ytmndejpcpfkajaa", sum := "3b08eb91d12c7a8b8b2a2b0754b260c7619e0684d2e9b0219a58292664c92455", func := "shotline/shotlinelaw06.MixMatches", spec := "mixMatches", unfollowed := true, recurses := true, apart := false, narrowed := true }
def MixMatchesUptoSaid : Prop := mixMatchesUptoRow.holds Try.pinned (OpenSpec.upto mixMatchesSpec)

/-- 'shotlinelaw06.MixAdds', WHERE WHAT IT READS IS OF BULK AT MOST 1048576: true; the input reads as it did. -/
def mixAddsUptoRow : OpenClaim := { program := "ytmndejpcpfkajaa", sum := "3b08eb91d12c7a8b8b2a2b0754b260c7619e0684d2e9b0219a58292664c92455", func := "shotline/shotlinelaw06.MixAdds", spec := "mixAdds", unfollowed := true, recurses := true, apart := false, narrowed := true }
def MixAddsUptoSaid : Prop := mixAddsUptoRow.holds Try.pinned (OpenSpec.upto mixAddsSpec)

/-- 'shotlinelaw06.MixPartials', WHERE WHAT IT READS IS OF BULK AT MOST 1048576: true; the input reads as it did. -/
def mixPartialsUptoRow : OpenClaim := { program := "ytmndejpcpfkajaa", sum := "3b08eb91d12c7a8b8b2a2b0754b260c7619e0684d2e9b0219a58292664c92455", func := "shotline/shotlinelaw06.MixPartials", spec := "mixPartials", unfollowed := true, recurses := true, apart := false, narrowed := true }
def MixPartialsUptoSaid : Prop := mixPartialsUptoRow.holds Try.pinned (OpenSpec.upto mixPartialsSpec)

/-- 'shotlinelaw06.MixContents', WHERE WHAT IT READS IS OF BULK AT MOST 1048576: true; the input reads as it did. -/
def mixContentsUptoRow : OpenClaim := { program := "ytmndejpcpfkajaa", sum := "3b08eb91d12c7a8b8b2a2b0754b260c7619e0684d2e9b0219a58292664c92455", func := "shotline/shotlinelaw06.MixContents", spec := "mixContents", unfollowed := true, recurses := true, apart := false, narrowed := true }
def MixContentsUptoSaid : Prop := mixContentsUptoRow.holds Try.pinned (OpenSpec.upto mixContentsSpec)

/-- 'shotlinelaw06.MixFactors', WHERE WHAT IT READS IS OF BULK AT MOST 1048576: true; the input reads as it did. -/
def mixFactorsUptoRow : OpenClaim := { program := "ytmndejpcpfkajaa", sum := "3b08eb91d12c7a8b8b2a2b0754b260c7619e0684d2e9b0219a58292664c92455", func := "shotline/shotlinelaw06.MixFactors", spec := "mixFactors", unfollowed := true, recurses := true, apart := false, narrowed := true }
def MixFactorsUptoSaid : Prop := mixFactorsUptoRow.holds Try.pinned (OpenSpec.upto mixFactorsSpec)

/-- 'shotlinelaw06.MixChecks', WHERE WHAT IT READS IS OF BULK AT MOST 1048576: true; the input reads as it did. -/
def mixChecksUptoRow : OpenClaim := { program := "ytmndejpcpfkajaa", sum := "3b08eb91d12c7a8b8b2a2b0754b260c7619e0684d2e9b0219a58292664c92455", func := "shotline/shotlinelaw06.MixChecks", spec := "mixChecks", unfollowed := true, recurses := true, apart := false, narrowed := true }
def MixChecksUptoSaid : Prop := mixChecksUptoRow.holds Try.pinned (OpenSpec.upto mixChecksSpec)

/-- 'shotlinelaw06.MixWider', WHERE WHAT IT READS IS OF BULK AT MOST 1048576: true; the input reads as it did. -/
def mixWiderUptoRow : OpenClaim := { program := "ytmndejpcpfkajaa", sum := "3b08eb91d12c7a8b8b2a2b0754b260c7619e0684d2e9b0219a58292664c92455", func := "shotline/shotlinelaw06.MixWider", spec := "mixWider", unfollowed := true, recurses := true, apart := false, narrowed := true }
def MixWiderUptoSaid : Prop := mixWiderUptoRow.holds Try.pinned (OpenSpec.upto mixWiderSpec)

/-- 'shotlinelaw06.MixCheapest', WHERE WHAT IT READS IS OF BULK AT MOST 1048576: true; the input reads as it did. -/
def mixCheapestUptoRow : OpenClaim := { program := "ytmndejpcpfkajaa", sum := "3b08eb91d12c7a8b8b2a2b0754b260c7619e0684d2e9b0219a58292664c92455", func := "shotline/shotlinelaw06.MixCheapest", spec := "mixCheapest", unfollowed := true, recurses := true, apart := false, narrowed := true }
def MixCheapestUptoSaid : Prop := mixCheapestUptoRow.holds Try.pinned (OpenSpec.upto mixCheapestSpec)

/-- 'shotlinelaw06.MixDuals', WHERE WHAT IT READS IS OF BULK AT MOST 1048576: true; the input reads as it did. -/
def mixDualsUptoRow : OpenClaim := { program := "ytmndejpcpfkajaa", sum := "3b08eb91d12c7a8b8b2a2b0754b260c7619e0684d2e9b0219a58292664c92455", func := "shotline/shotlinelaw06.MixDuals", spec := "mixDuals", unfollowed := true, recurses := true, apart := false, narrowed := true }
def MixDualsUptoSaid : Prop := mixDualsUptoRow.holds Try.pinned (OpenSpec.upto mixDualsSpec)

end Rows
end Go.Proofs.Ytmndejpcpfkajaa
