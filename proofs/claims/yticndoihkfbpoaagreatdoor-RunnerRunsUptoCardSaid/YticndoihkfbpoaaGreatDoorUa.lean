/- Contracts of the functions of package scan that say what a text is: shaped, IsCon, IsWord, IsName. -/
import Derived.Test.YticndoihkfbpoaaGreatDoorScA
import Derived.Test.YticndoihkfbpoaaGreatDoorPScopex1
import Derived.Lib.ParseIntB
import Derived.Lib.ItoaNum
namespace Go.Proofs.YticndoihkfbpoaaGreatDoor
open Go Go.RowKit Go.Lib Go.Proofs.YticndoihkfbpoaaGreatDoorW.PrintWords
set_option maxRecDepth 100000
set_option linter.unusedSimpArgs false
set_option linter.unusedVariables false
def wordList : List ByteArray := (PScope.scan_words.f).getD []
theorem words_eq : PScope.scan_words.f = some wordList := rfl
def isWordB (s : ByteArray) : Bool := wordList.any fun x => decide (x = s)
theorem wrap_add {i : Int} (h0 : 0 ≤ i) (h : i < 9223372036854775807) : wrap64 (i + 1) = i + 1 := by unfold wrap64; omega
theorem toList_inj {a b : ByteArray} (h : a.toList = b.toList) : a = b := by
 rw [ByteArray.toList_eq, ByteArray.toList_eq] at h
 cases a; cases b; congr 1; exact Array.toList_inj.mp h
theorem index_tells (l : List ByteArray) (a : ByteArray) (hl : l.length < 9223372036854775807) (d : Nat) : ∀ (k i : Nat), i ≤ l.length → l.length - i = d → d < k →
  ∃ r, PScope.slices_Index_string_string.l0 k l a (l.length : Int) (i : Int) = some r ∧ (decide (r ≥ 0) = (l.drop i).any fun x => decide (x = a)) := by
 induction d with
 | zero =>
  intro k i hi hd hk
  obtain ⟨k, rfl⟩ : ∃ m, k = m + 1 := ⟨k - 1, by omega⟩
  obtain rfl : i = l.length := by omega
  refine ⟨-1, ?_, by simp⟩
  simp only [PScope.slices_Index_string_string.l0]
  rw [if_neg (by omega)]
 | succ d ih =>
  intro k i hi hd hk
  obtain ⟨k, rfl⟩ : ∃ m, k = m + 1 := ⟨k - 1, by omega⟩
  have hlt : i < l.length := by omega
  have hdr : l.drop i = l[i] :: l.drop (i + 1) := List.drop_eq_getElem_cons hlt
  have hrd : rdOf ByteArray.empty l (i : Int) = l[i] := by simp [rdOf, hlt]
  simp only [PScope.slices_Index_string_string.l0]
  rw [if_pos (by omega), if_pos (by omega), if_pos (by omega), hrd]
  by_cases e : a.toList = l[i].toList
  ·rw [if_pos e]
   refine ⟨_, rfl, ?_⟩
   rw [hdr]
   have : l[i] = a := (toList_inj e).symm
   simp [this]
  ·rw [if_neg e]
   obtain ⟨r, hr, hany⟩ := ih k (i + 1) (by omega) (by omega) (by omega)
   refine ⟨r, ?_, ?_⟩
   ·rw [wrap_add (by omega) (by omega)]; exact_mod_cast hr
   ·have : ¬ l[i] = a := by rintro rfl; exact e rfl
    rw [hany, hdr, List.any_cons, decide_eq_false this, Bool.false_or]
theorem isWord_eq (s : ByteArray) (k : Nat) (hk : 21 < k) : PScope.scan_IsWord.f k s = some (isWordB s) := by
 unfold PScope.scan_IsWord.f PScope.slices_Contains_string_string.f PScope.slices_Index_string_string.f
 rw [words_eq]
 simp only [Option.bind_some]
 obtain ⟨r, hr, hany⟩ := index_tells wordList s (by decide) 21 k 0 (by simp) (by decide) hk
 rw [show ((0 : Nat) : Int) = 0 from rfl] at hr
 rw [hr]
 simp only [Option.bind_some]
 rw [hany]; simp [isWordB]
theorem isWord_calls (s : ByteArray) (w : World) : Calls Tryz.prog 147 #[.string s] w fun e w' => e = .returned (.bool (isWordB s)) ∧ Below w.heap.size w w' :=
 PScope.scan_IsWord.calls 22 s _ w (isWord_eq s 22 (by omega))
theorem shaped_calls (g : Nat) (p : Int → Bool) (eg : ∀ args w, (callFunc g args).run Tryz.prog w = .ok (.enter g args) w) (hp : ByteFn g p) (s : ByteArray) (w : World) :
  Calls Tryz.prog 145 #[.string s, .func (.func g) #[] #[]] w fun e w' => e = .returned (.bool (shapedB p s)) ∧ Drawn0 w w' := by
 by_cases c0 : s.size = 0
 ·have e0 : s.toList = [] := by rw [ByteArray.toList_eq]; exact List.eq_nil_of_length_eq_zero (by rw [data_length]; exact c0)
  have e1 : (!s.toList.isEmpty) = false := by rw [e0]; rfl
  have hfin : shapedB p s = false := by simp [shapedB, c0]
  have Hfin := Lib.hid hfin
  clear hfin hp eg
  go_enter Tryz.func145, Tryz.ntmps145
  go_wp2
  go_ret
  exact ⟨by rw [Hfin.out]; rfl, by repeat (first | exact Drawn0.refl _ | apply Drawn0.step)⟩
 ·have e1 : s.toList.isEmpty = false := by rw [ByteArray.toList_eq]; cases h : s.data.toList with
   | nil => have := data_length s; rw [h] at this; simp at this; omega
   | cons _ _ => rfl
  have e2 : (!s.toList.isEmpty) = true := by rw [e1]; rfl
  have hpos : 0 < s.size := by omega
  by_cases c1 : s.size ≤ 24
  ·have d1 : decide ((s.size : Int) ≤ 24) = true := decide_eq_true (by omega)
   have hbt := bt_at s 0 (by simpa using hpos)
   have hr := bt_range s 0
   have hcall := fun W => hp (bt s 0) W hr.1 hr.2
   rw [← hbt] at hcall
   simp only [Int.toNat_zero] at hcall
   cases hq : p (s[0].toNat : Int) with
   | false =>
    rw [hq] at hcall
    have hfin : shapedB p s = false := by
     have : p (bt s 0) = false := by rw [← hbt]; exact hq
     simp [shapedB, this]
    have Hfin := Lib.hid hfin
    clear hfin hp hbt hr
    go_enter Tryz.func145, Tryz.ntmps145
    go_wp2_with (go_at_fn g; refine (hcall _).mono ?_; rintro e w' ⟨rfl, ⟨n1, rfl⟩⟩)
    go_ret
    exact ⟨by rw [Hfin.out]; rfl, by repeat (first | exact Drawn0.refl _ | apply Drawn0.step)⟩
   | true =>
    rw [hq] at hcall
    have hfin : shapedB p s = ((spanN innerB s : Int) == (s.size : Int)) := by
     have h1 : p (bt s 0) = true := by rw [← hbt]; exact hq
     have h2 : decide (spanN innerB s = s.size) = ((spanN innerB s : Int) == (s.size : Int)) := by
      rw [Bool.eq_iff_iff]; simp; omega
     rw [← h2]
     simp [shapedB, h1, hpos, c1]
    have Hfin := Lib.hid hfin
    have hle := spanN_le innerB s
    have hsp := fun W => span_calls 175 innerB inner_eg inner_fn s W (by omega)
    clear hfin hp hbt hr
    generalize hz : spanN innerB s = z at hsp hle
    have Hz := Lib.hid hz
    clear hz
    go_enter Tryz.func145, Tryz.ntmps145
    go_wp2_with (first | (go_at_fn g; refine (hcall _).mono ?_; rintro e w' ⟨rfl, ⟨n1, rfl⟩⟩) | (go_at_call 174; refine (hsp _).mono ?_; rintro e w' ⟨rfl, ⟨n2, rfl⟩⟩))
    go_ret
    exact ⟨by rw [Hfin.out, Hz.out]; rfl, by repeat (first | exact Drawn0.refl _ | apply Drawn0.step)⟩
  ·have d1 : decide ((s.size : Int) ≤ 24) = false := decide_eq_false (by omega)
   have hfin : shapedB p s = false := by simp [shapedB, c1]
   have Hfin := Lib.hid hfin
   clear hfin hp eg
   go_enter Tryz.func145, Tryz.ntmps145
   go_wp2
   go_ret
   exact ⟨by rw [Hfin.out]; rfl, by repeat (first | exact Drawn0.refl _ | apply Drawn0.step)⟩
def isNameB (s : ByteArray) : Bool := shapedB lowerB s && !isWordB s
theorem isName_calls (s : ByteArray) (w : World) : Calls Tryz.prog 121 #[.string s] w fun e w' => e = .returned (.bool (isNameB s)) ∧ Below w.heap.size w w' := by
 have hc := fun W => shaped_calls 146 lowerB lower_eg lower_fn s W
 have hw := fun W => isWord_calls s W
 unfold isNameB
 generalize shapedB lowerB s = b at hc
 generalize isWordB s = c at hw
 cases b with
 | false =>
  go_enter Tryz.func121, Tryz.ntmps121
  go_wp2_with (go_at_call 145; refine (hc _).mono ?_; rintro e w' ⟨rfl, ⟨n2, rfl⟩⟩)
  go_ret
  exact ⟨rfl, by first | exact Below.refl _ _ | (apply pw_below_drewN; exact Below.refl _ _)⟩
 | true =>
  go_enter Tryz.func121, Tryz.ntmps121
  go_wp2_with (first | (go_at_call 145; refine (hc _).mono ?_; rintro e w' ⟨rfl, ⟨n2, rfl⟩⟩) | (go_at_call 147; refine (hw _).mono ?_; rintro e w' ⟨rfl, hb⟩))
  go_ret
  exact ⟨rfl, below_then (pw_below_drewN (Below.refl _ _) n2) (Nat.le_refl _) hb⟩
end Go.Proofs.YticndoihkfbpoaaGreatDoor
namespace Go.Proofs.YticndoihkfbpoaaGreatDoor
open Go Go.RowKit Go.Lib Go.Proofs.YticndoihkfbpoaaGreatDoorW.PrintWords Go.Proofs.YticndoihkfbpoaaGreatDoor.PScope
set_option maxRecDepth 100000
set_option linter.unusedSimpArgs false
set_option linter.unusedVariables false
inductive FS where
 | mk (op : Int) (name : ByteArray) (pos fn : Int) (names : List ByteArray) (e : S38) (args : List S38) (arms : List (Int × List FS))
namespace FS
def op : FS → Int | mk a _ _ _ _ _ _ _ => a
def name : FS → ByteArray | mk _ a _ _ _ _ _ _ => a
def pos : FS → Int | mk _ _ a _ _ _ _ _ => a
def fn : FS → Int | mk _ _ _ a _ _ _ _ => a
def names : FS → List ByteArray | mk _ _ _ _ a _ _ _ => a
def e : FS → S38 | mk _ _ _ _ _ a _ _ => a
def args : FS → List S38 | mk _ _ _ _ _ _ a _ => a
def arms : FS → List (Int × List FS) | mk _ _ _ _ _ _ _ a => a
end FS
structure FF where
 params : List ByteArray
 results : List ByteArray
 cells : Int
 flags : List Int
 parts : List S103
 body : List FS
abbrev Flt := Int × Nat
abbrev Rd (α : Type) := Nat → Except Flt (α × Nat)
def es : ByteArray := ⟨#[]⟩
def opnS : ByteArray := ⟨#[40]⟩
def clsS : ByteArray := ⟨#[41]⟩
def comS : ByteArray := ⟨#[44]⟩
def semS : ByteArray := ⟨#[59]⟩
def braS : ByteArray := ⟨#[123]⟩
def ketS : ByteArray := ⟨#[125]⟩
def sqoS : ByteArray := ⟨#[91]⟩
def sqcS : ByteArray := ⟨#[93]⟩
def eqS : ByteArray := ⟨#[61]⟩
def memS : ByteArray := ⟨#[109]⟩
def minS : ByteArray := ⟨#[45]⟩
def notS : ByteArray := ⟨#[110, 111, 116]⟩
def ifS : ByteArray := ⟨#[105, 102]⟩
def thenS : ByteArray := ⟨#[116, 104, 101, 110]⟩
def elseS : ByteArray := ⟨#[101, 108, 115, 101]⟩
def stepS : ByteArray := ⟨#[115, 116, 101, 112]⟩
def funS : ByteArray := ⟨#[102, 117, 110]⟩
def cellsS : ByteArray := ⟨#[99, 101, 108, 108, 115]⟩
def flagsS : ByteArray := ⟨#[102, 108, 97, 103, 115]⟩
def partsS : ByteArray := ⟨#[112, 97, 114, 116, 115]⟩
def resetS : ByteArray := ⟨#[114, 101, 115, 101, 116]⟩
def switchS : ByteArray := ⟨#[115, 119, 105, 116, 99, 104]⟩
def caseS : ByteArray := ⟨#[99, 97, 115, 101]⟩
def keyL : List ByteArray := [memS, stepS, funS, cellsS, flagsS, partsS, resetS, switchS, caseS]
def opL : List ByteArray := [⟨#[43]⟩, ⟨#[45]⟩, ⟨#[42]⟩, ⟨#[47]⟩, ⟨#[37]⟩, ⟨#[60]⟩, ⟨#[60, 61]⟩, ⟨#[61]⟩, ⟨#[60, 62]⟩, ⟨#[97, 110, 100]⟩, ⟨#[111, 114]⟩]
def inL (l : List ByteArray) (s : ByteArray) : Bool := l.any fun x => decide (x = s)
def numP (s : ByteArray) : Option Int :=
 match parseIntB 64 s.data.toList with
 | .ok n => if 0 ≤ n ∧ (⟨(Go.Lib.itoa n).toArray⟩ : ByteArray) = s then some n else none
 | _ => none
def nameP (s : ByteArray) : Bool := isNameB s && !inL keyL s
section
variable (ws : List ByteArray)
def nextR (k : Nat) : ByteArray := ws.getD k es
def takesR (s : ByteArray) (k : Nat) : Bool := decide (k < ws.length) && decide (ws.getD k es = s)
def wantR (s : ByteArray) (k : Nat) : Except Flt Nat := if takesR ws s k = true then .ok (k + 1) else .error (3, k + 1)
def wantsR : List ByteArray → Nat → Except Flt Nat
 | [], k => .ok k
 | s :: r, k => match wantR ws s k with
  | .error f => .error f
  | .ok k' => wantsR r k'
def numberR : Rd Int := fun k => match numP (nextR ws k) with | some n => .ok (n, k + 1) | none => .error (3, k + 1)
def nameR : Rd ByteArray := fun k => if nameP (nextR ws k) = true then .ok (nextR ws k, k + 1) else .error (3, k + 1)
def manyR {α : Type} (read : Rd α) : Nat → Nat → List α → Except Flt (List α × Nat)
 | 0, _, _ => .error (0, 0)
 | m + 1, k, l => if takesR ws comS k = true then
   match read (k + 1) with
   | .error f => .error f
   | .ok x => manyR read m x.2 (l ++ [x.1])
  else match wantR ws clsS k with
   | .error f => .error f
   | .ok k' => .ok (l, k')
def listR {α : Type} (read : Rd α) : Rd (List α) := fun k =>
 match wantR ws opnS k with
 | .error f => .error f
 | .ok k1 => if takesR ws clsS k1 = true then .ok ([], k1 + 1) else
  match read k1 with
  | .error f => .error f
  | .ok x => manyR ws read (ws.length + 1) x.2 [x.1]
def tillB {σ : Type} (read : σ → Rd σ) : Nat → Nat → σ → Except Flt (σ × Nat)
 | 0, _, _ => .error (0, 0)
 | m + 1, k, s => if nextR ws k = ketS then .ok (s, k + 1) else
  match read s k with
  | .error f => .error f
  | .ok x => tillB read m x.2 x.1
def tillR {σ : Type} (read : σ → Rd σ) (s : σ) : Rd σ := fun k =>
 match wantR ws braS k with
 | .error f => .error f
 | .ok k1 => tillB ws read (ws.length + 1) k1 s
def cellR : Rd Int := fun k =>
 match wantR ws sqoS k with
 | .error f => .error f
 | .ok k1 => match numberR ws k1 with
  | .error f => .error f
  | .ok x => match wantR ws sqcS x.2 with
   | .error f => .error f
   | .ok k3 => .ok (x.1, k3)
def innerR (ex : Rd S38) : Rd S38 := fun k =>
 if nextR ws k = notS ∨ nextR ws k = minS then
  match ex (k + 1) with
  | .error f => .error f
  | .ok a => .ok (⟨5, nextR ws k, 0, [], [a.1]⟩, a.2)
 else if nextR ws k = ifS then
  match ex (k + 1) with
  | .error f => .error f
  | .ok a => match wantR ws thenS a.2 with
   | .error f => .error f
   | .ok k2 => match ex k2 with
    | .error f => .error f
    | .ok b => match wantR ws elseS b.2 with
     | .error f => .error f
     | .ok k4 => match ex k4 with
      | .error f => .error f
      | .ok c => .ok (⟨7, es, 0, [], [a.1, b.1, c.1]⟩, c.2)
 else match ex k with
  | .error f => .error f
  | .ok a => if inL opL (nextR ws a.2) = true then
    match ex (a.2 + 1) with
    | .error f => .error f
    | .ok b => .ok (⟨6, nextR ws a.2, 0, [], [a.1, b.1]⟩, b.2)
   else .error (3, a.2 + 1)
def exprR : Nat → Rd S38
 | 0, k => .error (9, k + 1)
 | d + 1, k => match numP (nextR ws k) with
  | some n => .ok (⟨1, es, n, [], []⟩, k + 1)
  | none => if takesR ws memS k = true then
    match cellR ws (k + 1) with
    | .error f => .error f
    | .ok x => .ok (⟨16, es, x.1, [], []⟩, x.2)
   else if takesR ws opnS k = true then
    match innerR ws (exprR d) (k + 1) with
    | .error f => .error f
    | .ok x => match wantR ws clsS x.2 with
     | .error f => .error f
     | .ok k2 => .ok (x.1, k2)
   else match nameR ws k with
    | .error f => .error f
    | .ok x => .ok (⟨4, x.1, 0, [], []⟩, x.2)
def zE : S38 := ⟨0, es, 0, [], []⟩
def callR : Rd (Int × Int) := fun k =>
 match numberR ws k with
 | .error f => .error f
 | .ok x => match wantR ws opnS x.2 with
  | .error f => .error f
  | .ok k2 => match numberR ws k2 with
   | .error f => .error f
   | .ok y => match wantR ws clsS y.2 with
    | .error f => .error f
    | .ok k4 => .ok ((x.1, y.1), k4)
def armR (blk : Rd (List FS)) (l : List (Int × List FS)) : Rd (List (Int × List FS)) := fun k =>
 match wantR ws caseS k with
 | .error f => .error f
 | .ok k1 => match numberR ws k1 with
  | .error f => .error f
  | .ok n => match blk n.2 with
   | .error f => .error f
   | .ok b => .ok (l ++ [(n.1, b.1)], b.2)
def choiceR (blk : Rd (List FS)) : Rd FS := fun k =>
 match nameR ws k with
 | .error f => .error f
 | .ok n => match tillR ws (armR ws blk) [] n.2 with
  | .error f => .error f
  | .ok a => .ok (.mk 5 n.1 0 0 [] zE [] a.1, a.2)
def plainR (ex : Rd S38) : Rd FS := fun k =>
 if takesR ws memS k = true then
  match cellR ws (k + 1) with
  | .error f => .error f
  | .ok n => match wantR ws eqS n.2 with
   | .error f => .error f
   | .ok k2 => match ex k2 with
    | .error f => .error f
    | .ok x => .ok (.mk 2 es n.1 0 [] x.1 [] [], x.2)
 else if takesR ws resetS k = true then
  match callR ws (k + 1) with
  | .error f => .error f
  | .ok c => .ok (.mk 4 es c.1.2 c.1.1 [] zE [] [], c.2)
 else if nextR ws k = opnS then
  match listR ws (nameR ws) k with
  | .error f => .error f
  | .ok ns => match wantR ws eqS ns.2 with
   | .error f => .error f
   | .ok k2 => match wantR ws stepS k2 with
    | .error f => .error f
    | .ok k3 => match callR ws k3 with
     | .error f => .error f
     | .ok c => match listR ws ex c.2 with
      | .error f => .error f
      | .ok ar => .ok (.mk 3 es c.1.2 c.1.1 ns.1 zE ar.1 [], ar.2)
 else match nameR ws k with
  | .error f => .error f
  | .ok n => match wantR ws eqS n.2 with
   | .error f => .error f
   | .ok k2 => match ex k2 with
    | .error f => .error f
    | .ok x => .ok (.mk 1 n.1 0 0 [] x.1 [] [], x.2)
def stmtR (ex : Rd S38) (blk : Rd (List FS)) : Rd FS := fun k =>
 if takesR ws switchS k = true then choiceR ws blk (k + 1)
 else match plainR ws ex k with
  | .error f => .error f
  | .ok s => match wantR ws semS s.2 with
   | .error f => .error f
   | .ok k2 => .ok (s.1, k2)
def snocR {α : Type} (read : Rd α) (l : List α) : Rd (List α) := fun k =>
 match read k with
 | .error f => .error f
 | .ok x => .ok (l ++ [x.1], x.2)
def blockR : Nat → Rd (List FS)
 | 0, k => .error (9, k + 1)
 | d + 1, k => tillR ws (snocR (stmtR ws (exprR ws d) (blockR d))) [] k
def flagR : Rd Int := fun k =>
 match numberR ws k with
 | .error f => .error f
 | .ok n => match wantR ws semS n.2 with
  | .error f => .error f
  | .ok k2 => .ok (n.1, k2)
def partR : Rd S103 := fun k =>
 match wantR ws opnS k with
 | .error f => .error f
 | .ok k1 => match numberR ws k1 with
  | .error f => .error f
  | .ok a => match wantR ws comS a.2 with
   | .error f => .error f
   | .ok k3 => match numberR ws k3 with
    | .error f => .error f
    | .ok b => match wantR ws clsS b.2 with
     | .error f => .error f
     | .ok k5 => match wantR ws semS k5 with
      | .error f => .error f
      | .ok k6 => .ok (⟨a.1, b.1⟩, k6)
def funcR : Rd FF := fun k =>
 match wantR ws funS k with
 | .error f => .error f
 | .ok k1 => match listR ws (nameR ws) k1 with
  | .error f => .error f
  | .ok ps => match wantR ws eqS ps.2 with
   | .error f => .error f
   | .ok k3 => match listR ws (nameR ws) k3 with
    | .error f => .error f
    | .ok rs => match wantR ws cellsS rs.2 with
     | .error f => .error f
     | .ok k5 => match numberR ws k5 with
      | .error f => .error f
      | .ok n => match wantR ws flagsS n.2 with
       | .error f => .error f
       | .ok k7 => match tillR ws (snocR (flagR ws)) [] k7 with
        | .error f => .error f
        | .ok fl => match wantR ws partsS fl.2 with
         | .error f => .error f
         | .ok k9 => match tillR ws (snocR (partR ws)) [] k9 with
          | .error f => .error f
          | .ok pt => match blockR ws 200 pt.2 with
           | .error f => .error f
           | .ok b => .ok (⟨ps.1, rs.1, n.1, fl.1, pt.1, b.1⟩, b.2)
def funsR : Nat → Nat → List FF → Except Flt (List FF)
 | 0, _, _ => .error (0, 0)
 | m + 1, k, l => match funcR ws k with
  | .error f => .error f
  | .ok x => if x.2 = ws.length then .ok (l ++ [x.1]) else funsR m x.2 (l ++ [x.1])
end
def blankB (b : Nat) : Bool := b == 32 || b == 9 || b == 10 || b == 13
def wordsL : List UInt8 → List UInt8 → List ByteArray
 | [], c => if c = [] then [] else [⟨c.toArray⟩]
 | b :: r, c => if blankB b.toNat = true then (if c = [] then wordsL r [] else ⟨c.toArray⟩ :: wordsL r []) else wordsL r (c ++ [b])
def wordsP (s : ByteArray) : List ByteArray := wordsL s.data.toList []
def parseP (s : ByteArray) : Except Flt (List FF) :=
 if 1048576 < s.size then .error (9, 0) else funsR (wordsP s) ((wordsP s).length + 1) 0 []
end Go.Proofs.YticndoihkfbpoaaGreatDoor
