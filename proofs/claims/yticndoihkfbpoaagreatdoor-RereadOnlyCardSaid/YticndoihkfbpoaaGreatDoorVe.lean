/- Package runner: weigh: whether functions may be run, and what the last one weighs. -/
import Derived.StillTailTactics
import Derived.Test.YticndoihkfbpoaaGreatDoorVo
namespace Go.Proofs.YticndoihkfbpoaaGreatDoor
open Go Go.RowKit Go.Lib Go.Proofs.YticndoihkfbpoaaGreatDoorW.PrintWords Go.Proofs.YticndoihkfbpoaaGreatDoor.PScope
set_option maxRecDepth 100000
set_option linter.unusedSimpArgs false
set_option linter.unusedVariables false
structure WAt (l : List FF) (kk : Nat) (ws ts : List Int) : Prop where
 lw : ws.length = kk
 lt : ts.length = kk
 ow : WsOk ws
 ot : WsOk ts
 sw : wsFrom ws (l.drop kk) = wsFrom [] l
 st : tsFrom ts (l.drop kk) = tsFrom [] l
 ba : anyBad l kk (l.drop kk) = anyBad l 0 l
end Go.Proofs.YticndoihkfbpoaaGreatDoor
