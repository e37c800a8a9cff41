/- Words joined are read as those words: plain Lean; sizes. -/
import Derived.Test.YticndoihkfbpoaaGreatDoorOi
namespace Go.Proofs.YticndoihkfbpoaaGreatDoor
open Go Go.RowKit Go.Lib Go.Proofs.YticndoihkfbpoaaGreatDoorW.PrintWords Go.Proofs.YticndoihkfbpoaaGreatDoor.PScope
set_option maxRecDepth 100000
set_option linter.unusedSimpArgs false
set_option linter.unusedVariables false
def Good (x : ByteArray) : Prop := x.data.toList ≠ [] ∧ ∀ b ∈ x.data.toList, blankB b.toNat = false
theorem words_good : ∀ (l c : List UInt8), (∀ b ∈ c, blankB b.toNat = false) → ∀ x ∈ wordsL l c, Good x
 | [], c, hc, x, h => by
  unfold wordsL at h
  split at h
  ·cases h
  ·rename_i hne
   obtain rfl := List.mem_singleton.1 h
   exact ⟨by simpa using hne, by simpa using hc⟩
 | b :: r, c, hc, x, h => by
  unfold wordsL at h
  split at h
  ·split at h
   ·exact words_good r [] (fun b hb => by cases hb) x h
   ·rename_i hne
    rcases List.mem_cons.1 h with rfl | h
    ·exact ⟨by simpa using hne, by simpa using hc⟩
    ·exact words_good r [] (fun b hb => by cases hb) x h
  ·rename_i hb
   exact words_good r (c ++ [b]) (fun y hy => by
    rcases List.mem_append.1 hy with hy | hy
    ·exact hc y hy
    ·rw [List.mem_singleton.1 hy]; simpa using hb) x h
theorem wordsL_run : ∀ (x r c : List UInt8), (∀ b ∈ x, blankB b.toNat = false) → wordsL (x ++ r) c = wordsL r (c ++ x)
 | [], r, c, _ => by rw [List.nil_append, List.append_nil]
 | b :: x, r, c, h => by
  have hb := h b (by simp)
  rw [List.cons_append, wordsL, if_neg (by rw [hb]; exact Bool.false_ne_true), wordsL_run x r (c ++ [b]) (fun y hy => h y (by simp [hy])), List.append_assoc]
  rfl
theorem join_cons (x y : List UInt8) (r : List (List UInt8)) : Lib.join (x :: y :: r) [32] = x ++ 32 :: Lib.join (y :: r) [32] := by
 simp [Lib.join, List.intercalate]
theorem words_join : ∀ (ws : List ByteArray), (∀ x ∈ ws, Good x) → wordsL (Lib.join (ws.map (·.data.toList)) [32]) [] = ws
 | [], _ => by simp [Lib.join, List.intercalate, wordsL]
 | [x], h => by
  obtain ⟨h1, h2⟩ := h x (by simp)
  rw [show Lib.join ([x].map (·.data.toList)) [32] = x.data.toList ++ [] from by simp [Lib.join, List.intercalate], wordsL_run _ _ _ h2, List.nil_append, wordsL, if_neg h1]
 | x :: y :: r, h => by
  obtain ⟨h1, h2⟩ := h x (by simp)
  rw [List.map_cons, List.map_cons, join_cons, wordsL_run _ _ _ h2, List.nil_append, wordsL, if_pos (by decide), if_neg h1]
  have := words_join (y :: r) (fun z hz => h z (by simp [hz]))
  rw [List.map_cons] at this
  rw [this]
theorem join_len : ∀ (l c : List UInt8), (Lib.join ((wordsL l c).map (·.data.toList)) [32]).length ≤ l.length + c.length
 | [], c => by
  unfold wordsL
  split
  ·simp [Lib.join, List.intercalate]
  ·simp [Lib.join, List.intercalate]
 | b :: r, c => by
  unfold wordsL
  split
  ·split
   ·have := join_len r []
    simp only [List.length_nil] at this
    simp only [List.length_cons]; omega
   ·have := join_len r []
    simp only [List.length_nil] at this
    cases hw : wordsL r [] with
    | nil => simp [Lib.join, List.intercalate]
    | cons y q =>
     rw [hw, List.map_cons] at this
     rw [List.map_cons, List.map_cons, join_cons, List.length_append, List.length_cons]
     simp only [List.length_cons]
     show c.length + _ ≤ _
     omega
  ·have := join_len r (c ++ [b])
   simp only [List.length_append, List.length_cons, List.length_nil] at this ⊢
   omega
theorem words_count : ∀ (l c : List UInt8), (wordsL l c).length ≤ l.length + c.length
 | [], c => by
  unfold wordsL
  split
  ·simp
  ·rename_i h
   have : 0 < c.length := List.length_pos_iff.2 h
   simp only [List.length_cons, List.length_nil]; omega
 | b :: r, c => by
  unfold wordsL
  split
  ·split
   ·have := words_count r []
    simp only [List.length_nil] at this
    simp only [List.length_cons]; omega
   ·have := words_count r []
    simp only [List.length_nil] at this
    simp only [List.length_cons]; omega
  ·have := words_count r (c ++ [b])
   simp only [List.length_append, List.length_cons, List.length_nil] at this ⊢
   omega
theorem size_list (s : ByteArray) : s.data.toList.length = s.size := by simp
theorem text_words {s : ByteArray} {l : List FF} (h : parseP s = .ok l) : wordsP (textB l) = wordsP s ∧ (∀ f ∈ l, FnSh f) ∧ (wFs l).length ≤ 1048576 ∧ (Lib.join ((wFs l).map (·.data.toList)) [32]).length ≤ 1048576 ∧ (textB l).size ≤ 1048576 := by
 obtain ⟨e, hp, hs⟩ := parse_words h
 have hz := size_list s
 have h1 := words_count s.data.toList []
 have h2 := join_len s.data.toList []
 simp only [List.length_nil, hz] at h1 h2
 have h3 : (Lib.join ((wFs l).map (·.data.toList)) [32]).length ≤ 1048576 := by rw [e]; unfold wordsP; omega
 refine ⟨?_, hp, by rw [e]; unfold wordsP; omega, h3, ?_⟩
 ·unfold textB
  rw [show wordsP ⟨(Lib.join ((wFs l).map (·.data.toList)) [32]).toArray⟩ = wordsL (Lib.join ((wFs l).map (·.data.toList)) [32]) [] from by unfold wordsP; simp, e]
  exact words_join _ (words_good _ _ (fun b hb => by cases hb))
 ·unfold textB
  show (Lib.join ((wFs l).map (·.data.toList)) [32]).toArray.size ≤ 1048576
  simpa using h3
end Go.Proofs.YticndoihkfbpoaaGreatDoor
