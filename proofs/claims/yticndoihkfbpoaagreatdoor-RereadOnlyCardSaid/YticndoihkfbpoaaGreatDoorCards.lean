/-
  DERIVED. GIVEN WITH THE SEED: THE CARDS: each row of YticndoihkfbpoaaGreatDoorRows.lean that lists a variable, with what it lists TIED to the program's text (the seventh form; the later family's looks); each row that meets fmt, with fmt's text TOLD by the authors' own Lean function (tested against real Go, not proved from fmt's source: count such statements apart). THE CARD IS WHAT COUNTS. Prove the row's statement (the work); the ties are given (YticndoihkfbpoaaGreatDoorTie.lean); close each card by the builder's one call (the guide's Derived/Test/ToyasCard.lean, 'card_holds'). Laid BY PROGRAM, IN A SANDBOX (cutbox-door.mjs). By AI agents, Wed Nov 11 2026. No macro, syntax, notation, axiom, sorry.
-/
import Derived.Test.YticndoihkfbpoaaGreatDoorRows
import GoSem.ClaimSeven
namespace Go.Proofs.YticndoihkfbpoaaGreatDoor
namespace Rows

/-- THE TIED CARD OF 'pendulelaw22.BoundTells'. -/
def boundTellsCard : Claim7 := { stood := { row := boundTellsRow, standIns := [], harness := (true, "b3a77a3ef30ff856813fdcefaab8a083ce11c43b339f38e95b5fbede15e9270b"), looks := true }, kinds := [], alts := [], laidByText := true, laidKinds := [.data, .data, .data, .data, .sentinel, .sentinel, .pinned], laidTests := true, laidLooks := .later }
def BoundTellsCardSaid : Prop := Claim7.holds Tryz.pinned (.plain (OpenSpec.ofChange boundTellsSpec)) boundTellsCard

/-- THE TIED CARD OF 'pendulelaw22.BoundAdds'. -/
def boundAddsCard : Claim7 := { stood := { row := boundAddsRow, standIns := [], harness := (true, "b3a77a3ef30ff856813fdcefaab8a083ce11c43b339f38e95b5fbede15e9270b"), looks := true }, kinds := [], alts := [], laidByText := true, laidKinds := [.data, .data, .data, .data, .sentinel, .sentinel, .pinned], laidTests := true, laidLooks := .later }
def BoundAddsCardSaid : Prop := Claim7.holds Tryz.pinned (.plain (OpenSpec.ofChange boundAddsSpec)) boundAddsCard

/-- THE TIED CARD OF 'pendulelaw21.RunnerRuns'. -/
def runnerRunsCard : Claim7 := { stood := { row := runnerRunsRow, standIns := [], harness := (true, "b3a77a3ef30ff856813fdcefaab8a083ce11c43b339f38e95b5fbede15e9270b"), looks := true }, kinds := [], alts := [], laidByText := true, laidKinds := [.data, .data, .data, .data, .sentinel, .sentinel, .pinned], laidTests := true, laidLooks := .later }
def RunnerRunsCardSaid : Prop := Claim7.holds Tryz.pinned (.plain (OpenSpec.ofChange runnerRunsSpec)) runnerRunsCard

/-- THE TIED CARD OF 'pendulelaw21.RunnerBegins'. -/
def runnerBeginsCard : Claim7 := { stood := { row := runnerBeginsRow, standIns := [], harness := (true, "b3a77a3ef30ff856813fdcefaab8a083ce11c43b339f38e95b5fbede15e9270b"), looks := true }, kinds := [], alts := [], laidByText := true, laidKinds := [.data, .data, .data, .data, .sentinel, .sentinel, .pinned], laidTests := true, laidLooks := .later }
def RunnerBeginsCardSaid : Prop := Claim7.holds Tryz.pinned (.plain (OpenSpec.ofChange runnerBeginsSpec)) runnerBeginsCard

/-- THE TIED CARD OF 'pendulelaw21.RunnerStays'. -/
def runnerStaysCard : Claim7 := { stood := { row := runnerStaysRow, standIns := [], harness := (true, "b3a77a3ef30ff856813fdcefaab8a083ce11c43b339f38e95b5fbede15e9270b"), looks := true }, kinds := [], alts := [], laidByText := true, laidKinds := [.data, .data, .data, .data, .sentinel, .sentinel, .pinned], laidTests := true, laidLooks := .later }
def RunnerStaysCardSaid : Prop := Claim7.holds Tryz.pinned (.plain (OpenSpec.ofChange runnerStaysSpec)) runnerStaysCard

/-- THE TIED CARD OF 'pendulelaw21.RunnerNil'. -/
def runnerNilCard : Claim7 := { stood := { row := runnerNilRow, standIns := [], harness := (true, "b3a77a3ef30ff856813fdcefaab8a083ce11c43b339f38e95b5fbede15e9270b"), looks := true }, kinds := [], alts := [], laidByText := true, laidKinds := [.data, .data, .data, .data, .sentinel, .sentinel, .pinned], laidTests := true, laidLooks := .later }
def RunnerNilCardSaid : Prop := Claim7.holds Tryz.pinned (.plain (OpenSpec.ofChange runnerNilSpec)) runnerNilCard

/-- THE TIED CARD OF 'pendulelaw20.RereadParses'. -/
def rereadParsesCard : Claim7 := { stood := { row := rereadParsesRow, standIns := [], harness := (true, "b3a77a3ef30ff856813fdcefaab8a083ce11c43b339f38e95b5fbede15e9270b"), looks := true }, kinds := [], alts := [], laidByText := true, laidKinds := [.data, .data, .data, .data, .sentinel, .sentinel, .pinned], laidTests := true, laidLooks := .later }
def RereadParsesCardSaid : Prop := Claim7.holds Tryz.pinned (.plain (OpenSpec.ofChange rereadParsesSpec)) rereadParsesCard

/-- THE TIED CARD OF 'pendulelaw20.RereadOnly'. -/
def rereadOnlyCard : Claim7 := { stood := { row := rereadOnlyRow, standIns := [], harness := (true, "b3a77a3ef30ff856813fdcefaab8a083ce11c43b339f38e95b5fbede15e9270b"), looks := true }, kinds := [], alts := [], laidByText := true, laidKinds := [.data, .data, .data, .data, .sentinel, .sentinel, .pinned], laidTests := true, laidLooks := .later }
def RereadOnlyCardSaid : Prop := Claim7.holds Tryz.pinned (.plain (OpenSpec.ofChange rereadOnlySpec)) rereadOnlyCard

/-- THE TIED CARD OF 'pendulelaw20.RereadBlanks'. -/
def rereadBlanksCard : Claim7 := { stood := { row := rereadBlanksRow, standIns := [], harness := (true, "b3a77a3ef30ff856813fdcefaab8a083ce11c43b339f38e95b5fbede15e9270b"), looks := true }, kinds := [], alts := [], laidByText := true, laidKinds := [.data, .data, .data, .data, .sentinel, .sentinel, .pinned], laidTests := true, laidLooks := .later }
def RereadBlanksCardSaid : Prop := Claim7.holds Tryz.pinned (.plain (OpenSpec.ofChange rereadBlanksSpec)) rereadBlanksCard

/-- THE TIED CARD OF 'pendulelaw20.RereadFirst'. -/
def rereadFirstCard : Claim7 := { stood := { row := rereadFirstRow, standIns := [], harness := (true, "b3a77a3ef30ff856813fdcefaab8a083ce11c43b339f38e95b5fbede15e9270b"), looks := true }, kinds := [], alts := [], laidByText := true, laidKinds := [.data, .data, .data, .data, .sentinel, .sentinel, .pinned], laidTests := true, laidLooks := .later }
def RereadFirstCardSaid : Prop := Claim7.holds Tryz.pinned (.plain (OpenSpec.ofChange rereadFirstSpec)) rereadFirstCard

/-- THE SECOND FORM's CARD OF 'pendulelaw22.BoundTells'. -/
def boundTellsUptoCard : Claim7 := { stood := { row := boundTellsUptoRow, standIns := [], harness := (true, "b3a77a3ef30ff856813fdcefaab8a083ce11c43b339f38e95b5fbede15e9270b"), looks := true }, kinds := [], alts := [], laidByText := true, laidKinds := [.data, .data, .data, .data, .sentinel, .sentinel, .pinned], laidTests := true, laidLooks := .later }
def BoundTellsUptoCardSaid : Prop := Claim7.holds Tryz.pinned (.plain (OpenSpec.upto boundTellsSpec)) boundTellsUptoCard

/-- THE SECOND FORM's CARD OF 'pendulelaw22.BoundAdds'. -/
def boundAddsUptoCard : Claim7 := { stood := { row := boundAddsUptoRow, standIns := [], harness := (true, "b3a77a3ef30ff856813fdcefaab8a083ce11c43b339f38e95b5fbede15e9270b"), looks := true }, kinds := [], alts := [], laidByText := true, laidKinds := [.data, .data, .data, .data, .sentinel, .sentinel, .pinned], laidTests := true, laidLooks := .later }
def BoundAddsUptoCardSaid : Prop := Claim7.holds Tryz.pinned (.plain (OpenSpec.upto boundAddsSpec)) boundAddsUptoCard

/-- THE SECOND FORM's CARD OF 'pendulelaw21.RunnerRuns'. -/
def runnerRunsUptoCard : Claim7 := { stood := { row := runnerRunsUptoRow, standIns := [], harness := (true, "b3a77a3ef30ff856813fdcefaab8a083ce11c43b339f38e95b5fbede15e9270b"), looks := true }, kinds := [], alts := [], laidByText := true, laidKinds := [.data, .data, .data, .data, .sentinel, .sentinel, .pinned], laidTests := true, laidLooks := .later }
def RunnerRunsUptoCardSaid : Prop := Claim7.holds Tryz.pinned (.plain (OpenSpec.upto runnerRunsSpec)) runnerRunsUptoCard

/-- THE SECOND FORM's CARD OF 'pendulelaw21.RunnerBegins'. -/
def runnerBeginsUptoCard : Claim7 := { stood := { row := runnerBeginsUptoRow, standIns := [], harness := (true, "b3a77a3ef30ff856813fdcefaab8a083ce11c43b339f38e95b5fbede15e9270b"), looks := true }, kinds := [], alts := [], laidByText := true, laidKinds := [.data, .data, .data, .data, .sentinel, .sentinel, .pinned], laidTests := true, laidLooks := .later }
def RunnerBeginsUptoCardSaid : Prop := Claim7.holds Tryz.pinned (.plain (OpenSpec.upto runnerBeginsSpec)) runnerBeginsUptoCard

/-- THE SECOND FORM's CARD OF 'pendulelaw21.RunnerStays'. -/
def runnerStaysUptoCard : Claim7 := { stood := { row := runnerStaysUptoRow, standIns := [], harness := (true, "b3a77a3ef30ff856813fdcefaab8a083ce11c43b339f38e95b5fbede15e9270b"), looks := true }, kinds := [], alts := [], laidByText := true, laidKinds := [.data, .data, .data, .data, .sentinel, .sentinel, .pinned], laidTests := true, laidLooks := .later }
def RunnerStaysUptoCardSaid : Prop := Claim7.holds Tryz.pinned (.plain (OpenSpec.upto runnerStaysSpec)) runnerStaysUptoCard

/-- THE SECOND FORM's CARD OF 'pendulelaw21.RunnerNil'. -/
def runnerNilUptoCard : Claim7 := { stood := { row := runnerNilUptoRow, standIns := [], harness := (true, "b3a77a3ef30ff856813fdcefaab8a083ce11c43b339f38e95b5fbede15e9270b"), looks := true }, kinds := [], alts := [], laidByText := true, laidKinds := [.data, .data, .data, .data, .sentinel, .sentinel, .pinned], laidTests := true, laidLooks := .later }
def RunnerNilUptoCardSaid : Prop := Claim7.holds Tryz.pinned (.plain (OpenSpec.upto runnerNilSpec)) runnerNilUptoCard

/-- THE SECOND FORM's CARD OF 'pendulelaw20.RereadParses'. -/
def rereadParsesUptoCard : Claim7 := { stood := { row := rereadParsesUptoRow, standIns := [], harness := (true, "b3a77a3ef30ff856813fdcefaab8a083ce11c43b339f38e95b5fbede15e9270b"), looks := true }, kinds := [], alts := [], laidByText := true, laidKinds := [.data, .data, .data, .data, .sentinel, .sentinel, .pinned], laidTests := true, laidLooks := .later }
def RereadParsesUptoCardSaid : Prop := Claim7.holds Tryz.pinned (.plain (OpenSpec.upto rereadParsesSpec)) rereadParsesUptoCard

/-- THE SECOND FORM's CARD OF 'pendulelaw20.RereadOnly'. -/
def rereadOnlyUptoCard : Claim7 := { stood := { row := rereadOnlyUptoRow, standIns := [], harness := (true, "b3a77a3ef30ff856813fdcefaab8a083ce11c43b339f38e95b5fbede15e9270b"), looks := true }, kinds := [], alts := [], laidByText := true, laidKinds := [.data, .data, .data, .data, .sentinel, .sentinel, .pinned], laidTests := true, laidLooks := .later }
def RereadOnlyUptoCardSaid : Prop := Claim7.holds Tryz.pinned (.plain (OpenSpec.upto rereadOnlySpec)) rereadOnlyUptoCard

/-- THE SECOND FORM's CARD OF 'pendulelaw20.RereadBlanks'. -/
def rereadBlanksUptoCard : Claim7 := { stood := { row := rereadBlanksUptoRow, standIns := [], harness := (true, "b3a77a3ef30ff856813fdcefaab8a083ce11c43b339f38e95b5fbede15e9270b"), looks := true }, kinds := [], alts := [], laidByText := true, laidKinds := [.data, .data, .data, .data, .sentinel, .sentinel, .pinned], laidTests := true, laidLooks := .later }
def RereadBlanksUptoCardSaid : Prop := Claim7.holds Tryz.pinned (.plain (OpenSpec.upto rereadBlanksSpec)) rereadBlanksUptoCard

/-- THE SECOND FORM's CARD OF 'pendulelaw20.RereadFirst'. -/
def rereadFirstUptoCard : Claim7 := { stood := { row := rereadFirstUptoRow, standIns := [], harness := (true, "b3a77a3ef30ff856813fdcefaab8a083ce11c43b339f38e95b5fbede15e9270b"), looks := true }, kinds := [], alts := [], laidByText := true, laidKinds := [.data, .data, .data, .data, .sentinel, .sentinel, .pinned], laidTests := true, laidLooks := .later }
def RereadFirstUptoCardSaid : Prop := Claim7.holds Tryz.pinned (.plain (OpenSpec.upto rereadFirstSpec)) rereadFirstUptoCard
end Rows
end Go.Proofs.YticndoihkfbpoaaGreatDoor
