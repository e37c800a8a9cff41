/- The memory of a runner: its cells in a block; a function that begins anew, in plain Lean. -/
import Derived.Test.YticndoihkfbpoaaGreatDoorVe
namespace Go.Proofs.YticndoihkfbpoaaGreatDoor
open Go Go.RowKit Go.Lib Go.Proofs.YticndoihkfbpoaaGreatDoorW.PrintWords Go.Proofs.YticndoihkfbpoaaGreatDoor.PScope
set_option maxRecDepth 100000
set_option linter.unusedSimpArgs false
set_option linter.unusedVariables false
def memVals : List (Int × Bool) → List Value
 | [] => []
 | c :: r => .int .i64 c.1 :: .bool c.2 :: memVals r
def MRow (w : World) (a : Addr) (m : List (Int × Bool)) : Prop := a = ⟨a.block, 0, none⟩ ∧ w.heap[a.block]? = some (.cells (memVals m).toArray 91 (0, 0))
structure FunOk (l : List FF) (k : Nat) (x : FF) : Prop where
 c0 : 0 ≤ x.cells
 c1 : x.cells ≤ 1000
 body : badL (k : Int) x.body = false
 flags : ∀ n ∈ x.flags, 0 ≤ n ∧ n < x.cells
 parts : ∀ p ∈ x.parts, 0 ≤ p.f1 ∧ p.f1 < (k : Int) ∧ 0 ≤ p.f0 ∧ p.f0 ≤ x.cells ∧ (l.getD p.f1.toNat zFF).cells ≤ x.cells - p.f0
end Go.Proofs.YticndoihkfbpoaaGreatDoor
