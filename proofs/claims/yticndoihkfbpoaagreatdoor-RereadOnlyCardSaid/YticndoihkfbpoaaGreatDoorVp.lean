/- Flat programs, in plain Lean: what they weigh and take; a statement more; the least is no more than the most. -/
import Derived.Test.YticndoihkfbpoaaGreatDoorVa
namespace Go.Proofs.YticndoihkfbpoaaGreatDoor
open Go Go.RowKit Go.Lib Go.Proofs.YticndoihkfbpoaaGreatDoorW.PrintWords Go.Proofs.YticndoihkfbpoaaGreatDoor.PScope
set_option maxRecDepth 100000
set_option linter.unusedSimpArgs false
set_option linter.unusedVariables false
mutual
def takS (g : Int → Int) (n : Int) : FS → Int
 | .mk op _ _ fn _ _ _ arms => min (takA g (if op = 3 then n + g fn else n) arms) 1000
def takL (g : Int → Int) (n : Int) : List FS → Int
 | [] => n
 | s :: r => takL g (takS g n s) r
def takA (g : Int → Int) (n : Int) : List (Int × List FS) → Int
 | [] => n
 | a :: r => takA g (n + takP g a) r
def takP (g : Int → Int) : Int × List FS → Int
 | (_, b) => takL g 0 b
end
def wOf (g : Int → Int) (n : Int) : List S103 → Int
 | [] => n
 | p :: r => wOf g (min (n + g p.f1) 1001) r
def wsFrom (ws : List Int) : List FF → List Int
 | [] => ws
 | f :: r => wsFrom (ws ++ [wOf (rd0 ws) 1 f.parts]) r
def tsFrom (ts : List Int) : List FF → List Int
 | [] => ts
 | f :: r => tsFrom (ts ++ [1 + takL (rd0 ts) 0 f.body]) r
def WsOk (ws : List Int) : Prop := ∀ c ∈ ws, 0 ≤ c ∧ c ≤ 1001
end Go.Proofs.YticndoihkfbpoaaGreatDoor
