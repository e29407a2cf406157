/-
  DERIVED. GIVEN WITH THE SEED: THE CARDS: each row of YtaonlcgneemimaaGreatDoorRows.lean that lists a variable, with what it lists TIED to the program's text (the seventh form; the later family's looks); each row that meets fmt, with fmt's text TOLD by the authors' own Lean function (tested against real Go, not proved from fmt's source: count such statements apart). THE CARD IS WHAT COUNTS. Prove the row's statement (the work); the ties are given (YtaonlcgneemimaaGreatDoorTie.lean); close each card by the builder's one call (the guide's Derived/Test/ToyasCard.lean, 'card_holds'). Laid BY PROGRAM, IN A SANDBOX (cutbox-door.mjs). By AI agents, Wed Nov 11 2026. No macro, syntax, notation, axiom, sorry.
-/
import Derived.Test.YtaonlcgneemimaaGreatDoorRows
import GoSem.ClaimSeven
namespace Go.Proofs.YtaonlcgneemimaaGreatDoor
namespace Rows

/-- THE TIED CARD OF 'treeringtop.TopHoles'. -/
def topHolesCard : Claim7 := { stood := { row := topHolesRow, standIns := [], harness := (true, "42096d4a81d72408806b7af052ef3781f0f91cf3c43e6549ffda731dd0c26bde"), looks := true }, kinds := [], alts := [], laidByText := true, laidKinds := [.data, .pinned], laidTests := true, laidLooks := .later }
def TopHolesCardSaid : Prop := Claim7.holds Tryz.pinned (.plain (OpenSpec.ofChange topHolesSpec)) topHolesCard

/-- THE TIED CARD OF 'treeringtop.TopBatches'. -/
def topBatchesCard : Claim7 := { stood := { row := topBatchesRow, standIns := [], harness := (true, "42096d4a81d72408806b7af052ef3781f0f91cf3c43e6549ffda731dd0c26bde"), looks := true }, kinds := [], alts := [], laidByText := true, laidKinds := [.data, .pinned], laidTests := true, laidLooks := .later }
def TopBatchesCardSaid : Prop := Claim7.holds Tryz.pinned (.plain (OpenSpec.ofChange topBatchesSpec)) topBatchesCard

/-- THE TIED CARD OF 'treeringtop.TopNames'. -/
def topNamesCard : Claim7 := { stood := { row := topNamesRow, standIns := [], harness := (true, "42096d4a81d72408806b7af052ef3781f0f91cf3c43e6549ffda731dd0c26bde"), looks := true }, kinds := [], alts := [], laidByText := true, laidKinds := [.data, .pinned], laidTests := true, laidLooks := .later }
def TopNamesCardSaid : Prop := Claim7.holds Tryz.pinned (.plain (OpenSpec.ofChange topNamesSpec)) topNamesCard

/-- THE SECOND FORM's CARD OF 'treeringtop.TopHoles'. -/
def topHolesUptoCard : Claim7 := { stood := { row := topHolesUptoRow, standIns := [], harness := (true, "42096d4a81d72408806b7af052ef3781f0f91cf3c43e6549ffda731dd0c26bde"), looks := true }, kinds := [], alts := [], laidByText := true, laidKinds := [.data, .pinned], laidTests := true, laidLooks := .later }
def TopHolesUptoCardSaid : Prop := Claim7.holds Tryz.pinned (.plain (OpenSpec.upto topHolesSpec)) topHolesUptoCard

/-- THE SECOND FORM's CARD OF 'treeringtop.TopBatches'. -/
def topBatchesUptoCard : Claim7 := { stood := { row := topBatchesUptoRow, standIns := [], harness := (true, "42096d4a81d72408806b7af052ef3781f0f91cf3c43e6549ffda731dd0c26bde"), looks := true }, kinds := [], alts := [], laidByText := true, laidKinds := [.data, .pinned], laidTests := true, laidLooks := .later }
def TopBatchesUptoCardSaid : Prop := Claim7.holds Tryz.pinned (.plain (OpenSpec.upto topBatchesSpec)) topBatchesUptoCard

/-- THE SECOND FORM's CARD OF 'treeringtop.TopNames'. -/
def topNamesUptoCard : Claim7 := { stood := { row := topNamesUptoRow, standIns := [], harness := (true, "42096d4a81d72408806b7af052ef3781f0f91cf3c43e6549ffda731dd0c26bde"), looks := true }, kinds := [], alts := [], laidByText := true, laidKinds := [.data, .pinned], laidTests := true, laidLooks := .later }
def TopNamesUptoCardSaid : Prop := Claim7.holds Tryz.pinned (.plain (OpenSpec.upto topNamesSpec)) topNamesUptoCard
end Rows
end Go.Proofs.YtaonlcgneemimaaGreatDoor
