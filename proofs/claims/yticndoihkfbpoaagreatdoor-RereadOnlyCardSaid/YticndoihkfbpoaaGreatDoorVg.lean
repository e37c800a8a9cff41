/- Package runner: anew: a function begins anew. -/
import Derived.Test.YticndoihkfbpoaaGreatDoorVf
namespace Go.Proofs.YticndoihkfbpoaaGreatDoor
open Go Go.RowKit Go.Lib Go.Proofs.YticndoihkfbpoaaGreatDoorW.PrintWords Go.Proofs.YticndoihkfbpoaaGreatDoor.PScope
set_option maxRecDepth 100000
set_option linter.unusedSimpArgs false
set_option linter.unusedVariables false
structure RAt (w0 w : World) (g : Nat) (ma : Addr) (A : Option Addr) (c : Nat) (l : List FF) (N : Nat) (m : List (Int × Bool)) (tr : Bool) (cn : Int) : Prop where
 blk : w.heap[g]? = some (.cells #[.slice A l.length c, .slice (some ma) N N, .bool tr, .int .i64 cn] 80 (0, 0))
 mem : MRow w ma m
 len : m.length = N
 few : N ≤ 1000
 hg : w0.heap.size ≤ g
 hb : w0.heap.size ≤ ma.block
 ne : g ≠ ma.block
 below : Below w0.heap.size w0 w
end Go.Proofs.YticndoihkfbpoaaGreatDoor
