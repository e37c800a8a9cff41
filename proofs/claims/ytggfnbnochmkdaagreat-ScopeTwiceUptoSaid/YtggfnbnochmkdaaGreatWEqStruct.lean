/- Of the printer's words, those that this claim reaches (cut by wip/py/stage.py). -/
import Derived.Test.YtggfnbnochmkdaaGreatWWords
import Derived.Laws.StructEq
/-! ### 53. '==' of structs as_ one Bool -/
namespace Go.Proofs.YtggfnbnochmkdaaGreatW.PrintWords
open Go.RowKit
section
variable {P : Program} {d : Nat} {xs ys : Array Value} {f : Field} {fs : List Field} {a b : Value} {r s : Bool} {w : World}
end
end Go.Proofs.YtggfnbnochmkdaaGreatW.PrintWords
