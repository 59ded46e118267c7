/-
  DERIVED. GIVEN WITH THE SEED: THE CARDS: each row of YtchhhoamnagbfaaDoorRows.lean that lists a variable, with what it lists TIED to the program's text (the seventh form; the later family's looks); each row that meets fmt, with fmt's text TOLD by the authors' own Lean function (tested against real Go, not proved from fmt's source: count such statements apart). THE CARD IS WHAT COUNTS. Prove the row's statement (the work); the ties are given (YtchhhoamnagbfaaDoorTie.lean); close each card by the builder's one call (the guide's Derived/Test/ToyasCard.lean, 'card_holds'). Laid BY PROGRAM, IN A SANDBOX (cutbox-door.mjs). By AI agents, Wed Nov 11 2026. No macro, syntax, notation, axiom, sorry.
-/
import Derived.Test.YtchhhoamnagbfaaDoorRows
import GoSem.ClaimSeven
namespace Go.Proofs.YtchhhoamnagbfaaDoor
namespace Rows

/-- THE TIED CARD OF 'shotlinelaw02.ProfileDepths'. -/
def profileDepthsCard : Claim7 := { stood := { row := profileDepthsRow, standIns := [], harness := (true, "ab9c64a2ea49229424a100ee1f3fdfb4aa29015beaff45446d4e9c697272f457"), looks := false }, kinds := [], alts := [], laidByText := true, laidKinds := [.data, .data, .data, .data, .pinned], laidTests := true, laidLooks := .later }
def ProfileDepthsCardSaid : Prop := Claim7.holds Tryd.pinned (.plain (OpenSpec.ofChange profileDepthsSpec)) profileDepthsCard

/-- THE TIED CARD OF 'shotlinelaw02.ProfilePlans'. -/
def profilePlansCard : Claim7 := { stood := { row := profilePlansRow, standIns := [], harness := (true, "ab9c64a2ea49229424a100ee1f3fdfb4aa29015beaff45446d4e9c697272f457"), looks := false }, kinds := [], alts := [], laidByText := true, laidKinds := [.data, .data, .data, .data, .pinned], laidTests := true, laidLooks := .later }
def ProfilePlansCardSaid : Prop := Claim7.holds Tryd.pinned (.plain (OpenSpec.ofChange profilePlansSpec)) profilePlansCard

/-- THE TIED CARD OF 'shotlinelaw02.ProfileDistances'. -/
def profileDistancesCard : Claim7 := { stood := { row := profileDistancesRow, standIns := [], harness := (true, "ab9c64a2ea49229424a100ee1f3fdfb4aa29015beaff45446d4e9c697272f457"), looks := false }, kinds := [], alts := [], laidByText := true, laidKinds := [.data, .data, .data, .data, .pinned], laidTests := true, laidLooks := .later }
def ProfileDistancesCardSaid : Prop := Claim7.holds Tryd.pinned (.plain (OpenSpec.ofChange profileDistancesSpec)) profileDistancesCard

/-- THE TIED CARD OF 'shotlinelaw02.ProfileExtends'. -/
def profileExtendsCard : Claim7 := { stood := { row := profileExtendsRow, standIns := [], harness := (true, "ab9c64a2ea49229424a100ee1f3fdfb4aa29015beaff45446d4e9c697272f457"), looks := false }, kinds := [], alts := [], laidByText := true, laidKinds := [.data, .data, .data, .data, .pinned], laidTests := true, laidLooks := .later }
def ProfileExtendsCardSaid : Prop := Claim7.holds Tryd.pinned (.plain (OpenSpec.ofChange profileExtendsSpec)) profileExtendsCard

/-- THE TIED CARD OF 'shotlinelaw02.ProfileNormals'. -/
def profileNormalsCard : Claim7 := { stood := { row := profileNormalsRow, standIns := [], harness := (true, "ab9c64a2ea49229424a100ee1f3fdfb4aa29015beaff45446d4e9c697272f457"), looks := false }, kinds := [], alts := [], laidByText := true, laidKinds := [.data, .data, .data, .data, .pinned], laidTests := true, laidLooks := .later }
def ProfileNormalsCardSaid : Prop := Claim7.holds Tryd.pinned (.plain (OpenSpec.ofChange profileNormalsSpec)) profileNormalsCard

/-- THE TIED CARD OF 'shotlinelaw02.ProfileParts'. -/
def profilePartsCard : Claim7 := { stood := { row := profilePartsRow, standIns := [], harness := (true, "ab9c64a2ea49229424a100ee1f3fdfb4aa29015beaff45446d4e9c697272f457"), looks := false }, kinds := [], alts := [], laidByText := true, laidKinds := [.data, .data, .data, .data, .pinned], laidTests := true, laidLooks := .later }
def ProfilePartsCardSaid : Prop := Claim7.holds Tryd.pinned (.plain (OpenSpec.ofChange profilePartsSpec)) profilePartsCard

/-- THE TIED CARD OF 'shotlinelaw02.ProfileFewer'. -/
def profileFewerCard : Claim7 := { stood := { row := profileFewerRow, standIns := [], harness := (true, "ab9c64a2ea49229424a100ee1f3fdfb4aa29015beaff45446d4e9c697272f457"), looks := false }, kinds := [], alts := [], laidByText := true, laidKinds := [.data, .data, .data, .data, .pinned], laidTests := true, laidLooks := .later }
def ProfileFewerCardSaid : Prop := Claim7.holds Tryd.pinned (.plain (OpenSpec.ofChange profileFewerSpec)) profileFewerCard

/-- THE SECOND FORM's CARD OF 'shotlinelaw02.ProfileDepths'. -/
def profileDepthsUptoCard : Claim7 := { stood := { row := profileDepthsUptoRow, standIns := [], harness := (true, "ab9c64a2ea49229424a100ee1f3fdfb4aa29015beaff45446d4e9c697272f457"), looks := false }, kinds := [], alts := [], laidByText := true, laidKinds := [.data, .data, .data, .data, .pinned], laidTests := true, laidLooks := .later }
def ProfileDepthsUptoCardSaid : Prop := Claim7.holds Tryd.pinned (.plain (OpenSpec.upto profileDepthsSpec)) profileDepthsUptoCard

/-- THE SECOND FORM's CARD OF 'shotlinelaw02.ProfilePlans'. -/
def profilePlansUptoCard : Claim7 := { stood := { row := profilePlansUptoRow, standIns := [], harness := (true, "ab9c64a2ea49229424a100ee1f3fdfb4aa29015beaff45446d4e9c697272f457"), looks := false }, kinds := [], alts := [], laidByText := true, laidKinds := [.data, .data, .data, .data, .pinned], laidTests := true, laidLooks := .later }
def ProfilePlansUptoCardSaid : Prop := Claim7.holds Tryd.pinned (.plain (OpenSpec.upto profilePlansSpec)) profilePlansUptoCard

/-- THE SECOND FORM's CARD OF 'shotlinelaw02.ProfileDistances'. -/
def profileDistancesUptoCard : Claim7 := { stood := { row := profileDistancesUptoRow, standIns := [], harness := (true, "ab9c64a2ea49229424a100ee1f3fdfb4aa29015beaff45446d4e9c697272f457"), looks := false }, kinds := [], alts := [], laidByText := true, laidKinds := [.data, .data, .data, .data, .pinned], laidTests := true, laidLooks := .later }
def ProfileDistancesUptoCardSaid : Prop := Claim7.holds Tryd.pinned (.plain (OpenSpec.upto profileDistancesSpec)) profileDistancesUptoCard

/-- THE SECOND FORM's CARD OF 'shotlinelaw02.ProfileExtends'. -/
def profileExtendsUptoCard : Claim7 := { stood := { row := profileExtendsUptoRow, standIns := [], harness := (true, "ab9c64a2ea49229424a100ee1f3fdfb4aa29015beaff45446d4e9c697272f457"), looks := false }, kinds := [], alts := [], laidByText := true, laidKinds := [.data, .data, .data, .data, .pinned], laidTests := true, laidLooks := .later }
def ProfileExtendsUptoCardSaid : Prop := Claim7.holds Tryd.pinned (.plain (OpenSpec.upto profileExtendsSpec)) profileExtendsUptoCard

/-- THE SECOND FORM's CARD OF 'shotlinelaw02.ProfileNormals'. -/
def profileNormalsUptoCard : Claim7 := { stood := { row := profileNormalsUptoRow, standIns := [], harness := (true, "ab9c64a2ea49229424a100ee1f3fdfb4aa29015beaff45446d4e9c697272f457"), looks := false }, kinds := [], alts := [], laidByText := true, laidKinds := [.data, .data, .data, .data, .pinned], laidTests := true, laidLooks := .later }
def ProfileNormalsUptoCardSaid : Prop := Claim7.holds Tryd.pinned (.plain (OpenSpec.upto profileNormalsSpec)) profileNormalsUptoCard

/-- THE SECOND FORM's CARD OF 'shotlinelaw02.ProfileParts'. -/
def profilePartsUptoCard : Claim7 := { stood := { row := profilePartsUptoRow, standIns := [], harness := (true, "ab9c64a2ea49229424a100ee1f3fdfb4aa29015beaff45446d4e9c697272f457"), looks := false }, kinds := [], alts := [], laidByText := true, laidKinds := [.data, .data, .data, .data, .pinned], laidTests := true, laidLooks := .later }
def ProfilePartsUptoCardSaid : Prop := Claim7.holds Tryd.pinned (.plain (OpenSpec.upto profilePartsSpec)) profilePartsUptoCard

/-- THE SECOND FORM's CARD OF 'shotlinelaw02.ProfileFewer'. -/
def profileFewerUptoCard : Claim7 := { stood := { row := profileFewerUptoRow, standIns := [], harness := (true, "ab9c64a2ea49229424a100ee1f3fdfb4aa29015beaff45446d4e9c697272f457"), looks := false }, kinds := [], alts := [], laidByText := true, laidKinds := [.data, .data, .data, .data, .pinned], laidTests := true, laidLooks := .later }
def ProfileFewerUptoCardSaid : Prop := Claim7.holds Tryd.pinned (.plain (OpenSpec.upto profileFewerSpec)) profileFewerUptoCard
end Rows
end Go.Proofs.YtchhhoamnagbfaaDoor
