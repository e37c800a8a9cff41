/- Of the printer's words, those that this claim reaches (cut by wip/py/stage.py). -/
import Derived.Test.YtggfnbnochmkdaaGreatWLast
import Derived.Test.YtggfnbnochmkdaaGreatWWords
/-! ### 50. A region's order in a table, made once a region: each step asks the table (numbers alone), not the operations -/
namespace Go.Proofs.YtggfnbnochmkdaaGreatW.PrintLast
open Go.Proofs.YtggfnbnochmkdaaGreatW.PrintWords (Aside0)
section
variable {md : Region.Mode} {ops : Array Oper} {T : Bool × List (List Nat × List Nat)} {l l' li lj lk : Array Bool} {ds : List Nat} {i j k : Nat}
end
end Go.Proofs.YtggfnbnochmkdaaGreatW.PrintLast
