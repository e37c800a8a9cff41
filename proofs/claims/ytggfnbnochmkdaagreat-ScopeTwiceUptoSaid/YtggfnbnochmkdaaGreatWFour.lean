/- Of the printer's words, those that this claim reaches (cut by wip/py/stage.py). -/
import Derived.Test.YtggfnbnochmkdaaGreatWTab
/-! ### 56. Four, five, six operations that may come up next, in any order -/
namespace Go.Proofs.YtggfnbnochmkdaaGreatW.PrintLast
section
variable {P : Program} {ops : Array Oper} {Q : Exit → Act → World → Prop} {md : Region.Mode} {S : World → Prop} {ds : List Nat} {T : Bool × List (List Nat × List Nat)}
end
end Go.Proofs.YtggfnbnochmkdaaGreatW.PrintLast
