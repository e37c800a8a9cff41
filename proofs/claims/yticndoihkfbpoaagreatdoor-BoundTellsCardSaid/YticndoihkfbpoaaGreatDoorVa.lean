/- Flat programs, in plain Lean: which functions are named, what statements cost; how much a program may hold. -/
import Derived.Test.YticndoihkfbpoaaGreatDoorUa
namespace Go.Proofs.YticndoihkfbpoaaGreatDoor
open Go Go.RowKit Go.Lib Go.Proofs.YticndoihkfbpoaaGreatDoorW.PrintWords Go.Proofs.YticndoihkfbpoaaGreatDoor.PScope
set_option maxRecDepth 100000
set_option linter.unusedSimpArgs false
set_option linter.unusedVariables false

/-- Rows of statements of a size that a machine can hold. -/
inductive Small : List FS → Prop where
  | mk (l : List FS) (h : l.length ≤ 1099511627776) (ha : ∀ s ∈ l, s.arms.length ≤ 8796093022208) (hr : ∀ s ∈ l, ∀ a ∈ s.arms, Small a.2) : Small l
/-- A statement names a function that isn't below k. -/
def callBad (k : Int) (s : FS) : Bool := (decide (s.op = 3) || decide (s.op = 4)) && (decide (s.fn < 0) || decide (s.fn ≥ k))
mutual
def badS (k : Int) : FS → Bool
  | .mk op _ _ fn _ _ _ arms => ((decide (op = 3) || decide (op = 4)) && (decide (fn < 0) || decide (fn ≥ k))) || badA k arms
def badL (k : Int) : List FS → Bool
  | [] => false
  | s :: r => badS k s || badL k r
def badA (k : Int) : List (Int × List FS) → Bool
  | [] => false
  | a :: r => badP k a || badA k r
def badP (k : Int) : Int × List FS → Bool
  | (_, b) => badL k b
end
theorem badL_any (k : Int) : ∀ l, badL k l = l.any (badS k)
  | [] => rfl
  | s :: r => by rw [badL, badL_any k r]; rfl
theorem badA_any (k : Int) : ∀ l, badA k l = l.any (fun a => badL k a.2)
  | [] => rfl
  | (_, b) :: r => by rw [badA, badA_any k r]; rfl
theorem badS_eq (k : Int) (s : FS) : badS k s = (callBad k s || s.arms.any (fun a => badL k a.2)) := by
  cases s
  rw [badS, badA_any]; rfl

/-- The greatest, from n on. -/
def greatestL (n : Int) : List Int → Int
  | [] => n
  | c :: r => greatestL (max n c) r
/-- What arms come to. -/
def armsL (mx : Bool) (l : List Int) : Int := if mx then greatestL 0 l else 0
def rd0 (l : List Int) (i : Int) : Int := l.getD i.toNat 0
mutual
def costS (mx : Bool) (fs : List Int) (n : Int) : FS → Int
  | .mk op _ _ fn _ _ _ arms => min (if op = 3 then n + 1 + rd0 fs fn else if op = 5 then n + 1 + armsL mx (costA mx fs arms) else n + 1) 1073741824
def costL (mx : Bool) (fs : List Int) (n : Int) : List FS → Int
  | [] => n
  | s :: r => costL mx fs (costS mx fs n s) r
def costA (mx : Bool) (fs : List Int) : List (Int × List FS) → List Int
  | [] => []
  | a :: r => costP mx fs a :: costA mx fs r
def costP (mx : Bool) (fs : List Int) : Int × List FS → Int
  | (_, b) => costL mx fs 0 b
end
theorem costA_map (mx : Bool) (fs : List Int) : ∀ l, costA mx fs l = l.map (fun a => costL mx fs 0 a.2)
  | [] => rfl
  | (_, b) :: r => by rw [costA, costA_map mx fs r]; rfl
theorem costS_eq (mx : Bool) (fs : List Int) (n : Int) (s : FS) : costS mx fs n s = min (if s.op = 3 then n + 1 + rd0 fs s.fn else if s.op = 5 then n + 1 + armsL mx (s.arms.map (fun a => costL mx fs 0 a.2)) else n + 1) 1073741824 := by
  cases s
  rw [costS, costA_map]; rfl
theorem greatestL_le : ∀ (l : List Int) (n b : Int), n ≤ b → (∀ c ∈ l, c ≤ b) → greatestL n l ≤ b
  | [], _, _, h, _ => h
  | c :: r, n, b, h, hc => by
    rw [greatestL]
    exact greatestL_le r _ b (by have := hc c (by simp); omega) (fun x hx => hc x (by simp [hx]))
theorem greatestL_ge : ∀ (l : List Int) (n : Int), n ≤ greatestL n l
  | [], _ => Int.le_refl _
  | c :: r, n => by rw [greatestL]; exact Int.le_trans (by omega) (greatestL_ge r _)
/-- Costs of functions, as told. -/
def FsOk (fs : List Int) : Prop := ∀ c ∈ fs, 0 ≤ c ∧ c ≤ 1073741824
theorem rd0_ok {fs : List Int} (h : FsOk fs) (i : Int) : 0 ≤ rd0 fs i ∧ rd0 fs i ≤ 1073741824 := by
  unfold rd0
  rw [List.getD_eq_getElem?_getD]
  cases hi : fs[i.toNat]? with
  | none => simp
  | some c => exact h c (List.mem_of_getElem? hi)
theorem armsL_ok {mx : Bool} {l : List Int} (h : ∀ c ∈ l, 0 ≤ c ∧ c ≤ 1073741824) : 0 ≤ armsL mx l ∧ armsL mx l ≤ 1073741824 := by
  unfold armsL
  cases mx
  · simp
  · exact ⟨greatestL_ge l 0, greatestL_le l 0 _ (by omega) (fun c hc => (h c hc).2)⟩
theorem costL_ok {mx : Bool} {fs : List Int} (hf : FsOk fs) {l : List FS} (hl : Small l) : ∀ n : Int, 0 ≤ n → n ≤ 1073741824 → 0 ≤ costL mx fs n l ∧ costL mx fs n l ≤ 1073741824 := by
  induction hl with
  | mk l h1 h2 h3 ih =>
    clear h1 h2 h3
    induction l with
    | nil => intro n h0 h1; exact ⟨h0, h1⟩
    | cons s r ihr =>
      intro n h0 h1
      rw [costL]
      have hs : 0 ≤ costS mx fs n s ∧ costS mx fs n s ≤ 1073741824 := by
        rw [costS_eq]
        have ha := rd0_ok hf s.fn
        have hb := armsL_ok (mx := mx) (l := s.arms.map (fun a => costL mx fs 0 a.2)) (fun c hc => by
          obtain ⟨a, ha, rfl⟩ := List.mem_map.1 hc
          exact ih s (by simp) a ha 0 (by omega) (by omega))
        split
        · omega
        · split <;> omega
      exact ihr (fun s' hs' => ih s' (by simp [hs'])) _ hs.1 hs.2
/-- A function's own part of what is asked. -/
def flagBad (f : FF) (n : Int) : Bool := decide (n < 0) || decide (n ≥ f.cells)
def cellsAt (l : List FF) (i : Int) : Int := (l[i.toNat]?.map FF.cells).getD 0
def partBad (l : List FF) (k : Nat) (f : FF) (p : S103) : Bool :=
  decide (p.f1 < 0) || decide (p.f1 ≥ (k : Int)) || decide (p.f0 < 0) || decide (p.f0 > f.cells) || decide (cellsAt l p.f1 > f.cells - p.f0)
def headBad (k : Nat) (f : FF) : Bool := decide (f.cells < 0) || decide (f.cells > 1000) || badL (k : Int) f.body
def funBad (l : List FF) (k : Nat) (f : FF) : Bool := headBad k f || f.flags.any (flagBad f) || f.parts.any (partBad l k f)
/-- Some function, from the k-th on, isn't as it should be. -/
def anyBad (l : List FF) (k : Nat) : List FF → Bool
  | [] => false
  | f :: r => funBad l k f || anyBad l (k + 1) r
/-- A flat program may be run, but for its weight. -/
def flatOk (l : List FF) : Bool := !anyBad l 0 l && decide (0 < l.length)
/-- Costs of functions, one behind the other. -/
def costsFrom (mx : Bool) (fs : List Int) : List FF → List Int
  | [] => fs
  | f :: r => costsFrom mx (fs ++ [costL mx fs 0 f.body]) r
def lastCost (mx : Bool) (l : List FF) : Int := (costsFrom mx [] l).getLastD 0
/-- Programs of a size that a machine can hold. -/
structure FlatSmall (l : List FF) : Prop where
  len : l.length ≤ 1099511627744
  body : ∀ f ∈ l, Small f.body
  blen : ∀ f ∈ l, (f.body.length + 1) * 192 ≤ 140737488355328
end Go.Proofs.YticndoihkfbpoaaGreatDoor
