/-
  DERIVED. GIVEN WITH THE SEED: THE CARDS: each row of YtcnbfpmognijcaaDoorRows.lean that lists a variable, with what it lists TIED to the program's text (the seventh form; the later family's looks); each row that meets fmt, with fmt's text TOLD by the authors' own Lean function (tested against real Go, not proved from fmt's source: count such statements apart). THE CARD IS WHAT COUNTS. Prove the row's statement (the work); the ties are given (YtcnbfpmognijcaaDoorTie.lean); close each card by the builder's one call (the guide's Derived/Test/ToyasCard.lean, 'card_holds'). Laid BY PROGRAM, IN A SANDBOX (cutbox-door.mjs). By AI agents, Wed Nov 11 2026. No macro, syntax, notation, axiom, sorry.
-/
import Derived.Test.YtcnbfpmognijcaaDoorRows
import GoSem.ClaimSeven
namespace Go.Proofs.YtcnbfpmognijcaaDoor
namespace Rows

/-- THE TIED CARD OF 'galleylaw02.StepLocal'. -/
def stepLocalCard : Claim7 := { stood := { row := stepLocalRow, standIns := [], harness := (true, "169b257df510bcf6d6c5c65723f431080ffde8b048f9eb61456f33a3174fe9d0"), looks := false }, kinds := [], alts := [], laidByText := true, laidKinds := [.data], laidTests := true, laidLooks := .later }
def StepLocalCardSaid : Prop := Claim7.holds Tryd.pinned (.plain (OpenSpec.ofChange stepLocalSpec)) stepLocalCard

/-- THE TIED CARD OF 'galleylaw02.StepNames'. -/
def stepNamesCard : Claim7 := { stood := { row := stepNamesRow, standIns := [], harness := (true, "169b257df510bcf6d6c5c65723f431080ffde8b048f9eb61456f33a3174fe9d0"), looks := false }, kinds := [], alts := [], laidByText := true, laidKinds := [.data], laidTests := true, laidLooks := .later }
def StepNamesCardSaid : Prop := Claim7.holds Tryd.pinned (.plain (OpenSpec.ofChange stepNamesSpec)) stepNamesCard

/-- THE TIED CARD OF 'galleylaw02.StepLanguage'. -/
def stepLanguageCard : Claim7 := { stood := { row := stepLanguageRow, standIns := [], harness := (true, "169b257df510bcf6d6c5c65723f431080ffde8b048f9eb61456f33a3174fe9d0"), looks := false }, kinds := [], alts := [], laidByText := true, laidKinds := [.data], laidTests := true, laidLooks := .later }
def StepLanguageCardSaid : Prop := Claim7.holds Tryd.pinned (.plain (OpenSpec.ofChange stepLanguageSpec)) stepLanguageCard

/-- THE TIED CARD OF 'galleylaw02.StepPlaces'. -/
def stepPlacesCard : Claim7 := { stood := { row := stepPlacesRow, standIns := [], harness := (true, "169b257df510bcf6d6c5c65723f431080ffde8b048f9eb61456f33a3174fe9d0"), looks := false }, kinds := [], alts := [], laidByText := true, laidKinds := [.data], laidTests := true, laidLooks := .later }
def StepPlacesCardSaid : Prop := Claim7.holds Tryd.pinned (.plain (OpenSpec.ofChange stepPlacesSpec)) stepPlacesCard

/-- THE TIED CARD OF 'galleylaw02.StepTiles'. -/
def stepTilesCard : Claim7 := { stood := { row := stepTilesRow, standIns := [], harness := (true, "169b257df510bcf6d6c5c65723f431080ffde8b048f9eb61456f33a3174fe9d0"), looks := false }, kinds := [], alts := [], laidByText := true, laidKinds := [.data], laidTests := true, laidLooks := .later }
def StepTilesCardSaid : Prop := Claim7.holds Tryd.pinned (.plain (OpenSpec.ofChange stepTilesSpec)) stepTilesCard

/-- THE TIED CARD OF 'galleylaw02.StepWalks'. -/
def stepWalksCard : Claim7 := { stood := { row := stepWalksRow, standIns := [], harness := (true, "169b257df510bcf6d6c5c65723f431080ffde8b048f9eb61456f33a3174fe9d0"), looks := false }, kinds := [], alts := [], laidByText := true, laidKinds := [.data], laidTests := true, laidLooks := .later }
def StepWalksCardSaid : Prop := Claim7.holds Tryd.pinned (.plain (OpenSpec.ofChange stepWalksSpec)) stepWalksCard

/-- THE TIED CARD OF 'galleylaw02.StepKeeps'. -/
def stepKeepsCard : Claim7 := { stood := { row := stepKeepsRow, standIns := [], harness := (true, "169b257df510bcf6d6c5c65723f431080ffde8b048f9eb61456f33a3174fe9d0"), looks := false }, kinds := [], alts := [], laidByText := true, laidKinds := [.data], laidTests := true, laidLooks := .later }
def StepKeepsCardSaid : Prop := Claim7.holds Tryd.pinned (.plain (OpenSpec.ofChange stepKeepsSpec)) stepKeepsCard

/-- THE SECOND FORM's CARD OF 'galleylaw02.StepLocal'. -/
def stepLocalUptoCard : Claim7 := { stood := { row := stepLocalUptoRow, standIns := [], harness := (true, "169b257df510bcf6d6c5c65723f431080ffde8b048f9eb61456f33a3174fe9d0"), looks := false }, kinds := [], alts := [], laidByText := true, laidKinds := [.data], laidTests := true, laidLooks := .later }
def StepLocalUptoCardSaid : Prop := Claim7.holds Tryd.pinned (.plain (OpenSpec.upto stepLocalSpec)) stepLocalUptoCard

/-- THE SECOND FORM's CARD OF 'galleylaw02.StepNames'. -/
def stepNamesUptoCard : Claim7 := { stood := { row := stepNamesUptoRow, standIns := [], harness := (true, "169b257df510bcf6d6c5c65723f431080ffde8b048f9eb61456f33a3174fe9d0"), looks := false }, kinds := [], alts := [], laidByText := true, laidKinds := [.data], laidTests := true, laidLooks := .later }
def StepNamesUptoCardSaid : Prop := Claim7.holds Tryd.pinned (.plain (OpenSpec.upto stepNamesSpec)) stepNamesUptoCard

/-- THE SECOND FORM's CARD OF 'galleylaw02.StepLanguage'. -/
def stepLanguageUptoCard : Claim7 := { stood := { row := stepLanguageUptoRow, standIns := [], harness := (true, "169b257df510bcf6d6c5c65723f431080ffde8b048f9eb61456f33a3174fe9d0"), looks := false }, kinds := [], alts := [], laidByText := true, laidKinds := [.data], laidTests := true, laidLooks := .later }
def StepLanguageUptoCardSaid : Prop := Claim7.holds Tryd.pinned (.plain (OpenSpec.upto stepLanguageSpec)) stepLanguageUptoCard

/-- THE SECOND FORM's CARD OF 'galleylaw02.StepPlaces'. -/
def stepPlacesUptoCard : Claim7 := { stood := { row := stepPlacesUptoRow, standIns := [], harness := (true, "169b257df510bcf6d6c5c65723f431080ffde8b048f9eb61456f33a3174fe9d0"), looks := false }, kinds := [], alts := [], laidByText := true, laidKinds := [.data], laidTests := true, laidLooks := .later }
def StepPlacesUptoCardSaid : Prop := Claim7.holds Tryd.pinned (.plain (OpenSpec.upto stepPlacesSpec)) stepPlacesUptoCard

/-- THE SECOND FORM's CARD OF 'galleylaw02.StepTiles'. -/
def stepTilesUptoCard : Claim7 := { stood := { row := stepTilesUptoRow, standIns := [], harness := (true, "169b257df510bcf6d6c5c65723f431080ffde8b048f9eb61456f33a3174fe9d0"), looks := false }, kinds := [], alts := [], laidByText := true, laidKinds := [.data], laidTests := true, laidLooks := .later }
def StepTilesUptoCardSaid : Prop := Claim7.holds Tryd.pinned (.plain (OpenSpec.upto stepTilesSpec)) stepTilesUptoCard

/-- THE SECOND FORM's CARD OF 'galleylaw02.StepWalks'. -/
def stepWalksUptoCard : Claim7 := { stood := { row := stepWalksUptoRow, standIns := [], harness := (true, "169b257df510bcf6d6c5c65723f431080ffde8b048f9eb61456f33a3174fe9d0"), looks := false }, kinds := [], alts := [], laidByText := true, laidKinds := [.data], laidTests := true, laidLooks := .later }
def StepWalksUptoCardSaid : Prop := Claim7.holds Tryd.pinned (.plain (OpenSpec.upto stepWalksSpec)) stepWalksUptoCard

/-- THE SECOND FORM's CARD OF 'galleylaw02.StepKeeps'. -/
def stepKeepsUptoCard : Claim7 := { stood := { row := stepKeepsUptoRow, standIns := [], harness := (true, "169b257df510bcf6d6c5c65723f431080ffde8b048f9eb61456f33a3174fe9d0"), looks := false }, kinds := [], alts := [], laidByText := true, laidKinds := [.data], laidTests := true, laidLooks := .later }
def StepKeepsUptoCardSaid : Prop := Claim7.holds Tryd.pinned (.plain (OpenSpec.upto stepKeepsSpec)) stepKeepsUptoCard
end Rows
end Go.Proofs.YtcnbfpmognijcaaDoor
