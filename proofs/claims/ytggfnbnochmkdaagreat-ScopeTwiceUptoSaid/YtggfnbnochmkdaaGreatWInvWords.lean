/- Of the printer's words, those that this claim reaches (cut by wip/py/stage.py). -/
import Derived.Test.YtggfnbnochmkdaaGreatWInv
import Derived.Test.YtggfnbnochmkdaaGreatWFootNe
namespace Go.Proofs.YtggfnbnochmkdaaGreatW.PrintWords
open Go.RowKit
end Go.Proofs.YtggfnbnochmkdaaGreatW.PrintWords
namespace Go.Proofs.YtggfnbnochmkdaaGreatW.PrintLast
section
variable {ops : Array Oper} {a : Act} {o og : Oper} {g : Nat} {t : Tmp} {u : Bool}
end
end Go.Proofs.YtggfnbnochmkdaaGreatW.PrintLast
