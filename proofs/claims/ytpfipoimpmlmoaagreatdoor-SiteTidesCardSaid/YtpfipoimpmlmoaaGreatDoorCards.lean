/-
  DERIVED. GIVEN WITH THE SEED: THE CARDS: each row of YtpfipoimpmlmoaaGreatDoorRows.lean that lists a variable, with what it lists TIED to the program's text (the seventh form; the later family's looks); each row that meets fmt, with fmt's text TOLD by the authors' own Lean function (tested against real Go, not proved from fmt's source: count such statements apart). THE CARD IS WHAT COUNTS. Prove the row's statement (the work); the ties are given (YtpfipoimpmlmoaaGreatDoorTie.lean); close each card by the builder's one call (the guide's Derived/Test/ToyasCard.lean, 'card_holds'). Laid BY PROGRAM, IN A SANDBOX (cutbox-door.mjs). By AI agents, Wed Nov 11 2026. No macro, syntax, notation, axiom, sorry.
-/
import Derived.Test.YtpfipoimpmlmoaaGreatDoorRows
import GoSem.ClaimSeven
namespace Go.Proofs.YtpfipoimpmlmoaaGreatDoor
namespace Rows

/-- THE TIED CARD OF 'shotlinelaw08.SiteTides'. -/
def siteTidesCard : Claim7 := { stood := { row := siteTidesRow, standIns := [], harness := (true, "29c6ac879f852f9085ded68a7b23473eb3ffb0439b9a7f4b348d78af58adb186"), looks := true }, kinds := [], alts := [], laidByText := true, laidKinds := [.data, .data, .data, .data, .sentinel, .sentinel, .pinned], laidTests := true, laidLooks := .later }
def SiteTidesCardSaid : Prop := Claim7.holds Tryz.pinned (.plain (OpenSpec.ofChange siteTidesSpec)) siteTidesCard

/-- THE SECOND FORM's CARD OF 'shotlinelaw08.SiteTides'. -/
def siteTidesUptoCard : Claim7 := { stood := { row := siteTidesUptoRow, standIns := [], harness := (true, "29c6ac879f852f9085ded68a7b23473eb3ffb0439b9a7f4b348d78af58adb186"), looks := true }, kinds := [], alts := [], laidByText := true, laidKinds := [.data, .data, .data, .data, .sentinel, .sentinel, .pinned], laidTests := true, laidLooks := .later }
def SiteTidesUptoCardSaid : Prop := Claim7.holds Tryz.pinned (.plain (OpenSpec.upto siteTidesSpec)) siteTidesUptoCard
end Rows
end Go.Proofs.YtpfipoimpmlmoaaGreatDoor
