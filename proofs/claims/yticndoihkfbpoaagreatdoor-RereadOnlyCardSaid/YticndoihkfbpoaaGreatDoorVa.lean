/- Flat programs, in plain Lean: which functions are named, what statements cost; how much a program may hold. -/
import Derived.Test.YticndoihkfbpoaaGreatDoorUa
namespace Go.Proofs.YticndoihkfbpoaaGreatDoor
open Go Go.RowKit Go.Lib Go.Proofs.YticndoihkfbpoaaGreatDoorW.PrintWords Go.Proofs.YticndoihkfbpoaaGreatDoor.PScope
set_option maxRecDepth 100000
set_option linter.unusedSimpArgs false
set_option linter.unusedVariables false
inductive Small : List FS → Prop where
 | mk (l : List FS) (h : l.length ≤ 1099511627776) (ha : ∀ s ∈ l, s.arms.length ≤ 8796093022208) (hr : ∀ s ∈ l, ∀ a ∈ s.arms, Small a.2) : Small l
mutual
def badS (k : Int) : FS → Bool
 | .mk op _ _ fn _ _ _ arms => ((decide (op = 3) || decide (op = 4)) && (decide (fn < 0) || decide (fn ≥ k))) || badA k arms
def badL (k : Int) : List FS → Bool
 | [] => false
 | s :: r => badS k s || badL k r
def badA (k : Int) : List (Int × List FS) → Bool
 | [] => false
 | a :: r => badP k a || badA k r
def badP (k : Int) : Int × List FS → Bool
 | (_, b) => badL k b
end
def rd0 (l : List Int) (i : Int) : Int := l.getD i.toNat 0
def flagBad (f : FF) (n : Int) : Bool := decide (n < 0) || decide (n ≥ f.cells)
def cellsAt (l : List FF) (i : Int) : Int := (l[i.toNat]?.map FF.cells).getD 0
def partBad (l : List FF) (k : Nat) (f : FF) (p : S103) : Bool :=
 decide (p.f1 < 0) || decide (p.f1 ≥ (k : Int)) || decide (p.f0 < 0) || decide (p.f0 > f.cells) || decide (cellsAt l p.f1 > f.cells - p.f0)
def headBad (k : Nat) (f : FF) : Bool := decide (f.cells < 0) || decide (f.cells > 1000) || badL (k : Int) f.body
def funBad (l : List FF) (k : Nat) (f : FF) : Bool := headBad k f || f.flags.any (flagBad f) || f.parts.any (partBad l k f)
def anyBad (l : List FF) (k : Nat) : List FF → Bool
 | [] => false
 | f :: r => funBad l k f || anyBad l (k + 1) r
structure FlatSmall (l : List FF) : Prop where
 len : l.length ≤ 1099511627744
 body : ∀ f ∈ l, Small f.body
 blen : ∀ f ∈ l, (f.body.length + 1) * 192 ≤ 140737488355328
end Go.Proofs.YticndoihkfbpoaaGreatDoor
