/-
  DERIVED. GIVEN WITH THE SEED: THE CARDS: each row of YtffeikfffmonkaaDoorRows.lean that lists a variable, with what it lists TIED to the program's text (the seventh form; the later family's looks); each row that meets fmt, with fmt's text TOLD by the authors' own Lean function (tested against real Go, not proved from fmt's source: count such statements apart). THE CARD IS WHAT COUNTS. Prove the row's statement (the work); the ties are given (YtffeikfffmonkaaDoorTie.lean); close each card by the builder's one call (the guide's Derived/Test/ToyasCard.lean, 'card_holds'). Laid BY PROGRAM, IN A SANDBOX (cutbox-door.mjs). By AI agents, Wed Nov 11 2026. No macro, syntax, notation, axiom, sorry.
-/
import Derived.Test.YtffeikfffmonkaaDoorRows
import GoSem.ClaimSeven
namespace Go.Proofs.YtffeikfffmonkaaDoor
namespace Rows

/-- THE TIED CARD OF 'pendulelaw01.ScanTokens'. -/
def scanTokensCard : Claim7 := { stood := { row := scanTokensRow, standIns := [], harness := (true, "c233996c91ae093ede842dd0739b30e5f4ce85ce2d00267e9bdfae09cf27f124"), looks := true }, kinds := [], alts := [], laidByText := true, laidKinds := [.data, .data, .data, .sentinel, .sentinel], laidTests := true, laidLooks := .later }
def ScanTokensCardSaid : Prop := Claim7.holds Tryd.pinned (.plain (OpenSpec.ofChange scanTokensSpec)) scanTokensCard

/-- THE TIED CARD OF 'pendulelaw01.ScanPlaces'. -/
def scanPlacesCard : Claim7 := { stood := { row := scanPlacesRow, standIns := [], harness := (true, "c233996c91ae093ede842dd0739b30e5f4ce85ce2d00267e9bdfae09cf27f124"), looks := true }, kinds := [], alts := [], laidByText := true, laidKinds := [.data, .data, .data, .sentinel, .sentinel], laidTests := true, laidLooks := .later }
def ScanPlacesCardSaid : Prop := Claim7.holds Tryd.pinned (.plain (OpenSpec.ofChange scanPlacesSpec)) scanPlacesCard

/-- THE TIED CARD OF 'pendulelaw01.ScanBlanks'. -/
def scanBlanksCard : Claim7 := { stood := { row := scanBlanksRow, standIns := [], harness := (true, "c233996c91ae093ede842dd0739b30e5f4ce85ce2d00267e9bdfae09cf27f124"), looks := true }, kinds := [], alts := [], laidByText := true, laidKinds := [.data, .data, .data, .sentinel, .sentinel], laidTests := true, laidLooks := .later }
def ScanBlanksCardSaid : Prop := Claim7.holds Tryd.pinned (.plain (OpenSpec.ofChange scanBlanksSpec)) scanBlanksCard

/-- THE TIED CARD OF 'pendulelaw01.ScanNames'. -/
def scanNamesCard : Claim7 := { stood := { row := scanNamesRow, standIns := [], harness := (true, "c233996c91ae093ede842dd0739b30e5f4ce85ce2d00267e9bdfae09cf27f124"), looks := true }, kinds := [], alts := [], laidByText := true, laidKinds := [.data, .data, .data, .sentinel, .sentinel], laidTests := true, laidLooks := .later }
def ScanNamesCardSaid : Prop := Claim7.holds Tryd.pinned (.plain (OpenSpec.ofChange scanNamesSpec)) scanNamesCard

/-- THE TIED CARD OF 'pendulelaw01.ScanAlone'. -/
def scanAloneCard : Claim7 := { stood := { row := scanAloneRow, standIns := [], harness := (true, "c233996c91ae093ede842dd0739b30e5f4ce85ce2d00267e9bdfae09cf27f124"), looks := true }, kinds := [], alts := [], laidByText := true, laidKinds := [.data, .data, .data, .sentinel, .sentinel], laidTests := true, laidLooks := .later }
def ScanAloneCardSaid : Prop := Claim7.holds Tryd.pinned (.plain (OpenSpec.ofChange scanAloneSpec)) scanAloneCard

/-- THE TIED CARD OF 'pendulelaw01.ScanSpells'. -/
def scanSpellsCard : Claim7 := { stood := { row := scanSpellsRow, standIns := [], harness := (true, "c233996c91ae093ede842dd0739b30e5f4ce85ce2d00267e9bdfae09cf27f124"), looks := true }, kinds := [], alts := [], laidByText := true, laidKinds := [.data, .data, .data, .sentinel, .sentinel], laidTests := true, laidLooks := .later }
def ScanSpellsCardSaid : Prop := Claim7.holds Tryd.pinned (.plain (OpenSpec.ofChange scanSpellsSpec)) scanSpellsCard

/-- THE SECOND FORM's CARD OF 'pendulelaw01.ScanTokens'. -/
def scanTokensUptoCard : Claim7 := { stood := { row := scanTokensUptoRow, standIns := [], harness := (true, "c233996c91ae093ede842dd0739b30e5f4ce85ce2d00267e9bdfae09cf27f124"), looks := true }, kinds := [], alts := [], laidByText := true, laidKinds := [.data, .data, .data, .sentinel, .sentinel], laidTests := true, laidLooks := .later }
def ScanTokensUptoCardSaid : Prop := Claim7.holds Tryd.pinned (.plain (OpenSpec.upto scanTokensSpec)) scanTokensUptoCard

/-- THE SECOND FORM's CARD OF 'pendulelaw01.ScanPlaces'. -/
def scanPlacesUptoCard : Claim7 := { stood := { row := scanPlacesUptoRow, standIns := [], harness := (true, "c233996c91ae093ede842dd0739b30e5f4ce85ce2d00267e9bdfae09cf27f124"), looks := true }, kinds := [], alts := [], laidByText := true, laidKinds := [.data, .data, .data, .sentinel, .sentinel], laidTests := true, laidLooks := .later }
def ScanPlacesUptoCardSaid : Prop := Claim7.holds Tryd.pinned (.plain (OpenSpec.upto scanPlacesSpec)) scanPlacesUptoCard

/-- THE SECOND FORM's CARD OF 'pendulelaw01.ScanBlanks'. -/
def scanBlanksUptoCard : Claim7 := { stood := { row := scanBlanksUptoRow, standIns := [], harness := (true, "c233996c91ae093ede842dd0739b30e5f4ce85ce2d00267e9bdfae09cf27f124"), looks := true }, kinds := [], alts := [], laidByText := true, laidKinds := [.data, .data, .data, .sentinel, .sentinel], laidTests := true, laidLooks := .later }
def ScanBlanksUptoCardSaid : Prop := Claim7.holds Tryd.pinned (.plain (OpenSpec.upto scanBlanksSpec)) scanBlanksUptoCard

/-- THE SECOND FORM's CARD OF 'pendulelaw01.ScanNames'. -/
def scanNamesUptoCard : Claim7 := { stood := { row := scanNamesUptoRow, standIns := [], harness := (true, "c233996c91ae093ede842dd0739b30e5f4ce85ce2d00267e9bdfae09cf27f124"), looks := true }, kinds := [], alts := [], laidByText := true, laidKinds := [.data, .data, .data, .sentinel, .sentinel], laidTests := true, laidLooks := .later }
def ScanNamesUptoCardSaid : Prop := Claim7.holds Tryd.pinned (.plain (OpenSpec.upto scanNamesSpec)) scanNamesUptoCard

/-- THE SECOND FORM's CARD OF 'pendulelaw01.ScanAlone'. -/
def scanAloneUptoCard : Claim7 := { stood := { row := scanAloneUptoRow, standIns := [], harness := (true, "c233996c91ae093ede842dd0739b30e5f4ce85ce2d00267e9bdfae09cf27f124"), looks := true }, kinds := [], alts := [], laidByText := true, laidKinds := [.data, .data, .data, .sentinel, .sentinel], laidTests := true, laidLooks := .later }
def ScanAloneUptoCardSaid : Prop := Claim7.holds Tryd.pinned (.plain (OpenSpec.upto scanAloneSpec)) scanAloneUptoCard

/-- THE SECOND FORM's CARD OF 'pendulelaw01.ScanSpells'. -/
def scanSpellsUptoCard : Claim7 := { stood := { row := scanSpellsUptoRow, standIns := [], harness := (true, "c233996c91ae093ede842dd0739b30e5f4ce85ce2d00267e9bdfae09cf27f124"), looks := true }, kinds := [], alts := [], laidByText := true, laidKinds := [.data, .data, .data, .sentinel, .sentinel], laidTests := true, laidLooks := .later }
def ScanSpellsUptoCardSaid : Prop := Claim7.holds Tryd.pinned (.plain (OpenSpec.upto scanSpellsSpec)) scanSpellsUptoCard
end Rows
end Go.Proofs.YtffeikfffmonkaaDoor
