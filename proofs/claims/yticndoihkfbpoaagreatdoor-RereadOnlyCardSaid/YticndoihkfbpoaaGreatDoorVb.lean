/- slices.IndexFunc and slices.ContainsFunc at the program's element types, whatever the function value does: a relation between the rounds. -/
import Derived.Test.YticndoihkfbpoaaGreatDoorUj
import Derived.Test.YticndoihkfbpoaaGreatDoorVa
namespace Go.Proofs.YticndoihkfbpoaaGreatDoor
open Go Go.RowKit Go.Lib Go.Proofs.YticndoihkfbpoaaGreatDoorW.PrintWords Go.Proofs.YticndoihkfbpoaaGreatDoor.PScope
set_option maxRecDepth 100000
set_option linter.unusedSimpArgs false
set_option linter.unusedVariables false
def zFS : FS := .mk 0 ⟨#[]⟩ 0 0 [] ⟨0, ⟨#[]⟩, 0, [], []⟩ [] []
end Go.Proofs.YticndoihkfbpoaaGreatDoor
