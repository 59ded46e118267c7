/-
  DERIVED. GIVEN WITH THE SEED: THE CARDS: each row of YtchhhoamnagbfaaGreatDoorRows.lean that lists a variable, with what it lists TIED to the program's text (the seventh form; the later family's looks); each row that meets fmt, with fmt's text TOLD by the authors' own Lean function (tested against real Go, not proved from fmt's source: count such statements apart). THE CARD IS WHAT COUNTS. Prove the row's statement (the work); the ties are given (YtchhhoamnagbfaaGreatDoorTie.lean); close each card by the builder's one call (the guide's Derived/Test/ToyasCard.lean, 'card_holds'). Laid BY PROGRAM, IN A SANDBOX (cutbox-door.mjs). By AI agents, Wed Nov 11 2026. No macro, syntax, notation, axiom, sorry.
-/
import Derived.Test.YtchhhoamnagbfaaGreatDoorRows
import GoSem.ClaimSeven
namespace Go.Proofs.YtchhhoamnagbfaaGreatDoor
namespace Rows

/-- THE TIED CARD OF 'shotlinelaw02.ProfileSeconds'. -/
def profileSecondsCard : Claim7 := { stood := { row := profileSecondsRow, standIns := [], harness := (true, "26861d4bde804393840e977d34adeb633faddd215da31ad89a4f3b80807a9c31"), looks := false }, kinds := [], alts := [], laidByText := true, laidKinds := [.data, .data, .data, .data, .pinned], laidTests := true, laidLooks := .later }
def ProfileSecondsCardSaid : Prop := Claim7.holds Tryz.pinned (.plain (OpenSpec.ofChange profileSecondsSpec)) profileSecondsCard

/-- THE TIED CARD OF 'shotlinelaw02.ProfileDiffers'. -/
def profileDiffersCard : Claim7 := { stood := { row := profileDiffersRow, standIns := [], harness := (true, "26861d4bde804393840e977d34adeb633faddd215da31ad89a4f3b80807a9c31"), looks := false }, kinds := [], alts := [], laidByText := true, laidKinds := [.data, .data, .data, .data, .pinned], laidTests := true, laidLooks := .later }
def ProfileDiffersCardSaid : Prop := Claim7.holds Tryz.pinned (.plain (OpenSpec.ofChange profileDiffersSpec)) profileDiffersCard

/-- THE SECOND FORM's CARD OF 'shotlinelaw02.ProfileSeconds'. -/
def profileSecondsUptoCard : Claim7 := { stood := { row := profileSecondsUptoRow, standIns := [], harness := (true, "26861d4bde804393840e977d34adeb633faddd215da31ad89a4f3b80807a9c31"), looks := false }, kinds := [], alts := [], laidByText := true, laidKinds := [.data, .data, .data, .data, .pinned], laidTests := true, laidLooks := .later }
def ProfileSecondsUptoCardSaid : Prop := Claim7.holds Tryz.pinned (.plain (OpenSpec.upto profileSecondsSpec)) profileSecondsUptoCard

/-- THE SECOND FORM's CARD OF 'shotlinelaw02.ProfileDiffers'. -/
def profileDiffersUptoCard : Claim7 := { stood := { row := profileDiffersUptoRow, standIns := [], harness := (true, "26861d4bde804393840e977d34adeb633faddd215da31ad89a4f3b80807a9c31"), looks := false }, kinds := [], alts := [], laidByText := true, laidKinds := [.data, .data, .data, .data, .pinned], laidTests := true, laidLooks := .later }
def ProfileDiffersUptoCardSaid : Prop := Claim7.holds Tryz.pinned (.plain (OpenSpec.upto profileDiffersSpec)) profileDiffersUptoCard
end Rows
end Go.Proofs.YtchhhoamnagbfaaGreatDoor
