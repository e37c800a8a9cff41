/- Flat programs, in plain Lean: what they weigh and take; a statement more; the least is no more than the most. -/
import Derived.Test.YticndoihkfbpoaaGreatDoorXb
namespace Go.Proofs.YticndoihkfbpoaaGreatDoor
open Go Go.RowKit Go.Lib Go.Proofs.YticndoihkfbpoaaGreatDoorW.PrintWords Go.Proofs.YticndoihkfbpoaaGreatDoor.PScope
set_option maxRecDepth 100000
set_option linter.unusedSimpArgs false
set_option linter.unusedVariables false

/-! ### how much the steps of statements take -/
mutual
def takS (g : Int → Int) (n : Int) : FS → Int
  | .mk op _ _ fn _ _ _ arms => min (takA g (if op = 3 then n + g fn else n) arms) 1000
def takL (g : Int → Int) (n : Int) : List FS → Int
  | [] => n
  | s :: r => takL g (takS g n s) r
def takA (g : Int → Int) (n : Int) : List (Int × List FS) → Int
  | [] => n
  | a :: r => takA g (n + takP g a) r
def takP (g : Int → Int) : Int × List FS → Int
  | (_, b) => takL g 0 b
end
theorem takP_eq (g : Int → Int) (a : Int × List FS) : takP g a = takL g 0 a.2 := by cases a; rw [takP]
theorem takS_eq (g : Int → Int) (n : Int) (s : FS) : takS g n s = min (takA g (if s.op = 3 then n + g s.fn else n) s.arms) 1000 := by
  cases s
  rw [takS]; rfl
def GOk (g : Int → Int) : Prop := ∀ i, 0 ≤ g i ∧ g i ≤ 1001
theorem takA_ge {g : Int → Int} : ∀ (l : List (Int × List FS)), (∀ a ∈ l, 0 ≤ takP g a) → ∀ n : Int, n ≤ takA g n l
  | [], _, n => by rw [takA]; exact Int.le_refl _
  | a :: r, h, n => by
    rw [takA]
    have := h a (by simp)
    exact Int.le_trans (by omega) (takA_ge r (fun x hx => h x (by simp [hx])) _)
theorem takL_ok {g : Int → Int} (hg : GOk g) {l : List FS} (hl : Small l) : ∀ n : Int, 0 ≤ n → n ≤ 1000 → 0 ≤ takL g n l ∧ takL g n l ≤ 1000 := by
  induction hl with
  | mk l h1 h2 h3 ih =>
    clear h1 h2 h3
    induction l with
    | nil => intro n h0 h1; rw [takL]; exact ⟨h0, h1⟩
    | cons s r ihr =>
      intro n h0 h1
      rw [takL]
      have hs : 0 ≤ takS g n s ∧ takS g n s ≤ 1000 := by
        rw [takS_eq]
        have ha := takA_ge (g := g) s.arms (fun a ha => by rw [takP_eq]; exact (ih s (by simp) a ha 0 (by omega) (by omega)).1) (if s.op = 3 then n + g s.fn else n)
        have hb := hg s.fn
        have hc : 0 ≤ (if s.op = 3 then n + g s.fn else n) := by split <;> omega
        omega
      exact ihr (fun s' hs' => ih s' (by simp [hs'])) _ hs.1 hs.2

/-! ### what functions weigh, and take -/
def wOf (g : Int → Int) (n : Int) : List S103 → Int
  | [] => n
  | p :: r => wOf g (min (n + g p.f1) 1001) r
def wsFrom (ws : List Int) : List FF → List Int
  | [] => ws
  | f :: r => wsFrom (ws ++ [wOf (rd0 ws) 1 f.parts]) r
def tsFrom (ts : List Int) : List FF → List Int
  | [] => ts
  | f :: r => tsFrom (ts ++ [1 + takL (rd0 ts) 0 f.body]) r
def weightAll (l : List FF) : Int := max ((wsFrom [] l).getLastD 0) ((tsFrom [] l).getLastD 0)
/-- The error number of New. -/
def newErr (l : List FF) : Int := if flatOk l then (if weightAll l > 1000 then 9 else 0) else 10
theorem rd0_zeros (ts : List Int) (m : Nat) : rd0 (ts ++ List.replicate m 0) = rd0 ts := by
  funext i
  unfold rd0
  rw [List.getD_eq_getElem?_getD, List.getD_eq_getElem?_getD]
  by_cases h : i.toNat < ts.length
  · rw [List.getElem?_append_left h]
  · rw [List.getElem?_append_right (by omega), List.getElem?_eq_none (l := ts) (by omega)]
    by_cases h2 : i.toNat - ts.length < m
    · rw [List.getElem?_replicate, if_pos h2]; rfl
    · rw [List.getElem?_eq_none (by simpa using h2)]
theorem rd0_left (ts r : List Int) (i : Int) (h : i.toNat < ts.length) : rd0 (ts ++ r) i = rd0 ts i := by
  unfold rd0
  rw [List.getD_eq_getElem?_getD, List.getD_eq_getElem?_getD, List.getElem?_append_left h]
theorem rd0_mid (ts r : List Int) (c : Int) : rd0 (ts ++ c :: r) (ts.length : Int) = c := by
  unfold rd0
  rw [List.getD_eq_getElem?_getD, Int.toNat_natCast, List.getElem?_append_right (Nat.le_refl _), Nat.sub_self]; rfl
theorem set_mid (ts r : List Int) (c d : Int) : (ts ++ c :: r).set ts.length d = ts ++ d :: r := by
  rw [List.set_append_right _ _ (Nat.le_refl _), Nat.sub_self]; rfl
/-- Rows of weights. -/
def WsOk (ws : List Int) : Prop := ∀ c ∈ ws, 0 ≤ c ∧ c ≤ 1001
theorem WsOk.g {ws : List Int} (h : WsOk ws) : GOk (rd0 ws) := by
  intro i
  unfold rd0
  rw [List.getD_eq_getElem?_getD]
  cases hi : ws[i.toNat]? with
  | none => simp
  | some c => exact h c (List.mem_of_getElem? hi)
theorem WsOk.snoc {ws : List Int} (h : WsOk ws) {c : Int} (h0 : 0 ≤ c) (h1 : c ≤ 1001) : WsOk (ws ++ [c]) := by
  intro x hx
  rcases List.mem_append.1 hx with hx | hx
  · exact h x hx
  · obtain rfl := List.mem_singleton.1 hx
    exact ⟨h0, h1⟩
theorem badL_le {k m : Int} (hkm : k ≤ m) {l : List FS} (hl : Small l) : badL k l = false → badL m l = false := by
  induction hl with
  | mk l h1 h2 h3 ih =>
    intro hb
    rw [badL_any, List.any_eq_false] at hb ⊢
    intro s hs
    have h := hb s hs
    rw [Bool.not_eq_true, badS_eq, Bool.or_eq_false_iff] at h ⊢
    refine ⟨?_, ?_⟩
    · have := h.1
      unfold callBad at this ⊢
      simp only [Bool.and_eq_false_iff, Bool.or_eq_false_iff, decide_eq_false_iff_not] at this ⊢
      omega
    · have := h.2
      rw [List.any_eq_false] at this ⊢
      intro a ha
      have := this a ha
      rw [Bool.not_eq_true] at this ⊢
      exact ih s hs a ha this

/-! ### one function more, one statement more -/
/-! ### the least is no more than the most -/
end Go.Proofs.YticndoihkfbpoaaGreatDoor
