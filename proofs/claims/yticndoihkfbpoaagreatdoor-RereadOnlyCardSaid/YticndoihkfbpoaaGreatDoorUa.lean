/- Package reread: what it says of words, in plain Lean: each reader as a function of the words and of where it stands; answers as where it stands then, or the fault's number and its place. -/
import Derived.Lib.ParseIntB
import Derived.Lib.ItoaNum
import Derived.Test.YticndoihkfbpoaaGreatDoorScN
namespace Go.Proofs.YticndoihkfbpoaaGreatDoor
open Go Go.RowKit Go.Lib Go.Proofs.YticndoihkfbpoaaGreatDoorW.PrintWords Go.Proofs.YticndoihkfbpoaaGreatDoor.PScope
set_option maxRecDepth 100000
set_option linter.unusedSimpArgs false
set_option linter.unusedVariables false
inductive FS where
 | mk (op : Int) (name : ByteArray) (pos fn : Int) (names : List ByteArray) (e : S38) (args : List S38) (arms : List (Int × List FS))
namespace FS
def op : FS → Int | mk a _ _ _ _ _ _ _ => a
def name : FS → ByteArray | mk _ a _ _ _ _ _ _ => a
def pos : FS → Int | mk _ _ a _ _ _ _ _ => a
def fn : FS → Int | mk _ _ _ a _ _ _ _ => a
def names : FS → List ByteArray | mk _ _ _ _ a _ _ _ => a
def e : FS → S38 | mk _ _ _ _ _ a _ _ => a
def args : FS → List S38 | mk _ _ _ _ _ _ a _ => a
def arms : FS → List (Int × List FS) | mk _ _ _ _ _ _ _ a => a
end FS
structure FF where
 params : List ByteArray
 results : List ByteArray
 cells : Int
 flags : List Int
 parts : List S103
 body : List FS
abbrev Flt := Int × Nat
abbrev Rd (α : Type) := Nat → Except Flt (α × Nat)
def es : ByteArray := ⟨#[]⟩
def opnS : ByteArray := ⟨#[40]⟩
def clsS : ByteArray := ⟨#[41]⟩
def comS : ByteArray := ⟨#[44]⟩
def semS : ByteArray := ⟨#[59]⟩
def braS : ByteArray := ⟨#[123]⟩
def ketS : ByteArray := ⟨#[125]⟩
def sqoS : ByteArray := ⟨#[91]⟩
def sqcS : ByteArray := ⟨#[93]⟩
def eqS : ByteArray := ⟨#[61]⟩
def memS : ByteArray := ⟨#[109]⟩
def minS : ByteArray := ⟨#[45]⟩
def notS : ByteArray := ⟨#[110, 111, 116]⟩
def ifS : ByteArray := ⟨#[105, 102]⟩
def thenS : ByteArray := ⟨#[116, 104, 101, 110]⟩
def elseS : ByteArray := ⟨#[101, 108, 115, 101]⟩
def stepS : ByteArray := ⟨#[115, 116, 101, 112]⟩
def funS : ByteArray := ⟨#[102, 117, 110]⟩
def cellsS : ByteArray := ⟨#[99, 101, 108, 108, 115]⟩
def flagsS : ByteArray := ⟨#[102, 108, 97, 103, 115]⟩
def partsS : ByteArray := ⟨#[112, 97, 114, 116, 115]⟩
def resetS : ByteArray := ⟨#[114, 101, 115, 101, 116]⟩
def switchS : ByteArray := ⟨#[115, 119, 105, 116, 99, 104]⟩
def caseS : ByteArray := ⟨#[99, 97, 115, 101]⟩
def keyL : List ByteArray := [memS, stepS, funS, cellsS, flagsS, partsS, resetS, switchS, caseS]
def opL : List ByteArray := [⟨#[43]⟩, ⟨#[45]⟩, ⟨#[42]⟩, ⟨#[47]⟩, ⟨#[37]⟩, ⟨#[60]⟩, ⟨#[60, 61]⟩, ⟨#[61]⟩, ⟨#[60, 62]⟩, ⟨#[97, 110, 100]⟩, ⟨#[111, 114]⟩]
def inL (l : List ByteArray) (s : ByteArray) : Bool := l.any fun x => decide (x = s)
def numP (s : ByteArray) : Option Int :=
 match parseIntB 64 s.data.toList with
 | .ok n => if 0 ≤ n ∧ (⟨(Go.Lib.itoa n).toArray⟩ : ByteArray) = s then some n else none
 | _ => none
def nameP (s : ByteArray) : Bool := isNameB s && !inL keyL s
section
variable (ws : List ByteArray)
def nextR (k : Nat) : ByteArray := ws.getD k es
def takesR (s : ByteArray) (k : Nat) : Bool := decide (k < ws.length) && decide (ws.getD k es = s)
def wantR (s : ByteArray) (k : Nat) : Except Flt Nat := if takesR ws s k = true then .ok (k + 1) else .error (3, k + 1)
def wantsR : List ByteArray → Nat → Except Flt Nat
 | [], k => .ok k
 | s :: r, k => match wantR ws s k with
  | .error f => .error f
  | .ok k' => wantsR r k'
def numberR : Rd Int := fun k => match numP (nextR ws k) with | some n => .ok (n, k + 1) | none => .error (3, k + 1)
def nameR : Rd ByteArray := fun k => if nameP (nextR ws k) = true then .ok (nextR ws k, k + 1) else .error (3, k + 1)
def manyR {α : Type} (read : Rd α) : Nat → Nat → List α → Except Flt (List α × Nat)
 | 0, _, _ => .error (0, 0)
 | m + 1, k, l => if takesR ws comS k = true then
   match read (k + 1) with
   | .error f => .error f
   | .ok x => manyR read m x.2 (l ++ [x.1])
  else match wantR ws clsS k with
   | .error f => .error f
   | .ok k' => .ok (l, k')
def listR {α : Type} (read : Rd α) : Rd (List α) := fun k =>
 match wantR ws opnS k with
 | .error f => .error f
 | .ok k1 => if takesR ws clsS k1 = true then .ok ([], k1 + 1) else
  match read k1 with
  | .error f => .error f
  | .ok x => manyR ws read (ws.length + 1) x.2 [x.1]
def tillB {σ : Type} (read : σ → Rd σ) : Nat → Nat → σ → Except Flt (σ × Nat)
 | 0, _, _ => .error (0, 0)
 | m + 1, k, s => if nextR ws k = ketS then .ok (s, k + 1) else
  match read s k with
  | .error f => .error f
  | .ok x => tillB read m x.2 x.1
def tillR {σ : Type} (read : σ → Rd σ) (s : σ) : Rd σ := fun k =>
 match wantR ws braS k with
 | .error f => .error f
 | .ok k1 => tillB ws read (ws.length + 1) k1 s
def cellR : Rd Int := fun k =>
 match wantR ws sqoS k with
 | .error f => .error f
 | .ok k1 => match numberR ws k1 with
  | .error f => .error f
  | .ok x => match wantR ws sqcS x.2 with
   | .error f => .error f
   | .ok k3 => .ok (x.1, k3)
def innerR (ex : Rd S38) : Rd S38 := fun k =>
 if nextR ws k = notS ∨ nextR ws k = minS then
  match ex (k + 1) with
  | .error f => .error f
  | .ok a => .ok (⟨5, nextR ws k, 0, [], [a.1]⟩, a.2)
 else if nextR ws k = ifS then
  match ex (k + 1) with
  | .error f => .error f
  | .ok a => match wantR ws thenS a.2 with
   | .error f => .error f
   | .ok k2 => match ex k2 with
    | .error f => .error f
    | .ok b => match wantR ws elseS b.2 with
     | .error f => .error f
     | .ok k4 => match ex k4 with
      | .error f => .error f
      | .ok c => .ok (⟨7, es, 0, [], [a.1, b.1, c.1]⟩, c.2)
 else match ex k with
  | .error f => .error f
  | .ok a => if inL opL (nextR ws a.2) = true then
    match ex (a.2 + 1) with
    | .error f => .error f
    | .ok b => .ok (⟨6, nextR ws a.2, 0, [], [a.1, b.1]⟩, b.2)
   else .error (3, a.2 + 1)
def exprR : Nat → Rd S38
 | 0, k => .error (9, k + 1)
 | d + 1, k => match numP (nextR ws k) with
  | some n => .ok (⟨1, es, n, [], []⟩, k + 1)
  | none => if takesR ws memS k = true then
    match cellR ws (k + 1) with
    | .error f => .error f
    | .ok x => .ok (⟨16, es, x.1, [], []⟩, x.2)
   else if takesR ws opnS k = true then
    match innerR ws (exprR d) (k + 1) with
    | .error f => .error f
    | .ok x => match wantR ws clsS x.2 with
     | .error f => .error f
     | .ok k2 => .ok (x.1, k2)
   else match nameR ws k with
    | .error f => .error f
    | .ok x => .ok (⟨4, x.1, 0, [], []⟩, x.2)
def zE : S38 := ⟨0, es, 0, [], []⟩
def callR : Rd (Int × Int) := fun k =>
 match numberR ws k with
 | .error f => .error f
 | .ok x => match wantR ws opnS x.2 with
  | .error f => .error f
  | .ok k2 => match numberR ws k2 with
   | .error f => .error f
   | .ok y => match wantR ws clsS y.2 with
    | .error f => .error f
    | .ok k4 => .ok ((x.1, y.1), k4)
def armR (blk : Rd (List FS)) (l : List (Int × List FS)) : Rd (List (Int × List FS)) := fun k =>
 match wantR ws caseS k with
 | .error f => .error f
 | .ok k1 => match numberR ws k1 with
  | .error f => .error f
  | .ok n => match blk n.2 with
   | .error f => .error f
   | .ok b => .ok (l ++ [(n.1, b.1)], b.2)
def choiceR (blk : Rd (List FS)) : Rd FS := fun k =>
 match nameR ws k with
 | .error f => .error f
 | .ok n => match tillR ws (armR ws blk) [] n.2 with
  | .error f => .error f
  | .ok a => .ok (.mk 5 n.1 0 0 [] zE [] a.1, a.2)
def plainR (ex : Rd S38) : Rd FS := fun k =>
 if takesR ws memS k = true then
  match cellR ws (k + 1) with
  | .error f => .error f
  | .ok n => match wantR ws eqS n.2 with
   | .error f => .error f
   | .ok k2 => match ex k2 with
    | .error f => .error f
    | .ok x => .ok (.mk 2 es n.1 0 [] x.1 [] [], x.2)
 else if takesR ws resetS k = true then
  match callR ws (k + 1) with
  | .error f => .error f
  | .ok c => .ok (.mk 4 es c.1.2 c.1.1 [] zE [] [], c.2)
 else if nextR ws k = opnS then
  match listR ws (nameR ws) k with
  | .error f => .error f
  | .ok ns => match wantR ws eqS ns.2 with
   | .error f => .error f
   | .ok k2 => match wantR ws stepS k2 with
    | .error f => .error f
    | .ok k3 => match callR ws k3 with
     | .error f => .error f
     | .ok c => match listR ws ex c.2 with
      | .error f => .error f
      | .ok ar => .ok (.mk 3 es c.1.2 c.1.1 ns.1 zE ar.1 [], ar.2)
 else match nameR ws k with
  | .error f => .error f
  | .ok n => match wantR ws eqS n.2 with
   | .error f => .error f
   | .ok k2 => match ex k2 with
    | .error f => .error f
    | .ok x => .ok (.mk 1 n.1 0 0 [] x.1 [] [], x.2)
def stmtR (ex : Rd S38) (blk : Rd (List FS)) : Rd FS := fun k =>
 if takesR ws switchS k = true then choiceR ws blk (k + 1)
 else match plainR ws ex k with
  | .error f => .error f
  | .ok s => match wantR ws semS s.2 with
   | .error f => .error f
   | .ok k2 => .ok (s.1, k2)
def snocR {α : Type} (read : Rd α) (l : List α) : Rd (List α) := fun k =>
 match read k with
 | .error f => .error f
 | .ok x => .ok (l ++ [x.1], x.2)
def blockR : Nat → Rd (List FS)
 | 0, k => .error (9, k + 1)
 | d + 1, k => tillR ws (snocR (stmtR ws (exprR ws d) (blockR d))) [] k
def flagR : Rd Int := fun k =>
 match numberR ws k with
 | .error f => .error f
 | .ok n => match wantR ws semS n.2 with
  | .error f => .error f
  | .ok k2 => .ok (n.1, k2)
def partR : Rd S103 := fun k =>
 match wantR ws opnS k with
 | .error f => .error f
 | .ok k1 => match numberR ws k1 with
  | .error f => .error f
  | .ok a => match wantR ws comS a.2 with
   | .error f => .error f
   | .ok k3 => match numberR ws k3 with
    | .error f => .error f
    | .ok b => match wantR ws clsS b.2 with
     | .error f => .error f
     | .ok k5 => match wantR ws semS k5 with
      | .error f => .error f
      | .ok k6 => .ok (⟨a.1, b.1⟩, k6)
def funcR : Rd FF := fun k =>
 match wantR ws funS k with
 | .error f => .error f
 | .ok k1 => match listR ws (nameR ws) k1 with
  | .error f => .error f
  | .ok ps => match wantR ws eqS ps.2 with
   | .error f => .error f
   | .ok k3 => match listR ws (nameR ws) k3 with
    | .error f => .error f
    | .ok rs => match wantR ws cellsS rs.2 with
     | .error f => .error f
     | .ok k5 => match numberR ws k5 with
      | .error f => .error f
      | .ok n => match wantR ws flagsS n.2 with
       | .error f => .error f
       | .ok k7 => match tillR ws (snocR (flagR ws)) [] k7 with
        | .error f => .error f
        | .ok fl => match wantR ws partsS fl.2 with
         | .error f => .error f
         | .ok k9 => match tillR ws (snocR (partR ws)) [] k9 with
          | .error f => .error f
          | .ok pt => match blockR ws 200 pt.2 with
           | .error f => .error f
           | .ok b => .ok (⟨ps.1, rs.1, n.1, fl.1, pt.1, b.1⟩, b.2)
def funsR : Nat → Nat → List FF → Except Flt (List FF)
 | 0, _, _ => .error (0, 0)
 | m + 1, k, l => match funcR ws k with
  | .error f => .error f
  | .ok x => if x.2 = ws.length then .ok (l ++ [x.1]) else funsR m x.2 (l ++ [x.1])
end
def blankB (b : Nat) : Bool := b == 32 || b == 9 || b == 10 || b == 13
def wordsL : List UInt8 → List UInt8 → List ByteArray
 | [], c => if c = [] then [] else [⟨c.toArray⟩]
 | b :: r, c => if blankB b.toNat = true then (if c = [] then wordsL r [] else ⟨c.toArray⟩ :: wordsL r []) else wordsL r (c ++ [b])
def wordsP (s : ByteArray) : List ByteArray := wordsL s.data.toList []
def parseP (s : ByteArray) : Except Flt (List FF) :=
 if 1048576 < s.size then .error (9, 0) else funsR (wordsP s) ((wordsP s).length + 1) 0 []
end Go.Proofs.YticndoihkfbpoaaGreatDoor
