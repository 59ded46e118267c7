/-
  DERIVED. GIVEN WITH THE SEED: THE CARDS: each row of YtdcdjjogieojhaaGreatDoorRows.lean that lists a variable, with what it lists TIED to the program's text (the seventh form; the later family's looks); each row that meets fmt, with fmt's text TOLD by the authors' own Lean function (tested against real Go, not proved from fmt's source: count such statements apart). THE CARD IS WHAT COUNTS. Prove the row's statement (the work); the ties are given (YtdcdjjogieojhaaGreatDoorTie.lean); close each card by the builder's one call (the guide's Derived/Test/ToyasCard.lean, 'card_holds'). Laid BY PROGRAM, IN A SANDBOX (cutbox-door.mjs). By AI agents, Wed Nov 11 2026. No macro, syntax, notation, axiom, sorry.
-/
import Derived.Test.YtdcdjjogieojhaaGreatDoorRows
import GoSem.ClaimSeven
namespace Go.Proofs.YtdcdjjogieojhaaGreatDoor
namespace Rows

/-- THE TIED CARD OF 'shotlinelaw07.KitTexts'. -/
def kitTextsCard : Claim7 := { stood := { row := kitTextsRow, standIns := [], harness := (true, "21fcb06a0564999d23fa279a581ef3c1effe73f600a1d769778ec7b9215c9ccc"), looks := true }, kinds := [], alts := [], laidByText := true, laidKinds := [.data, .data, .data, .data, .sentinel, .sentinel, .mapped, .pinned], laidTests := true, laidLooks := .later }
def KitTextsCardSaid : Prop := Claim7.holds Tryz.pinned (.plain (OpenSpec.ofChange kitTextsSpec)) kitTextsCard

/-- THE TIED CARD OF 'shotlinelaw07.KitSetups'. -/
def kitSetupsCard : Claim7 := { stood := { row := kitSetupsRow, standIns := [], harness := (true, "21fcb06a0564999d23fa279a581ef3c1effe73f600a1d769778ec7b9215c9ccc"), looks := true }, kinds := [], alts := [], laidByText := true, laidKinds := [.data, .data, .data, .data, .sentinel, .sentinel, .widerDeep, .mapped, .pinned], laidTests := true, laidLooks := .later }
def KitSetupsCardSaid : Prop := Claim7.holds Tryz.pinned (.plain (OpenSpec.ofChange kitSetupsSpec)) kitSetupsCard

/-- THE SECOND FORM's CARD OF 'shotlinelaw07.KitTexts'. -/
def kitTextsUptoCard : Claim7 := { stood := { row := kitTextsUptoRow, standIns := [], harness := (true, "21fcb06a0564999d23fa279a581ef3c1effe73f600a1d769778ec7b9215c9ccc"), looks := true }, kinds := [], alts := [], laidByText := true, laidKinds := [.data, .data, .data, .data, .sentinel, .sentinel, .mapped, .pinned], laidTests := true, laidLooks := .later }
def KitTextsUptoCardSaid : Prop := Claim7.holds Tryz.pinned (.plain (OpenSpec.upto kitTextsSpec)) kitTextsUptoCard

/-- THE SECOND FORM's CARD OF 'shotlinelaw07.KitSetups'. -/
def kitSetupsUptoCard : Claim7 := { stood := { row := kitSetupsUptoRow, standIns := [], harness := (true, "21fcb06a0564999d23fa279a581ef3c1effe73f600a1d769778ec7b9215c9ccc"), looks := true }, kinds := [], alts := [], laidByText := true, laidKinds := [.data, .data, .data, .data, .sentinel, .sentinel, .widerDeep, .mapped, .pinned], laidTests := true, laidLooks := .later }
def KitSetupsUptoCardSaid : Prop := Claim7.holds Tryz.pinned (.plain (OpenSpec.upto kitSetupsSpec)) kitSetupsUptoCard
end Rows
end Go.Proofs.YtdcdjjogieojhaaGreatDoor
