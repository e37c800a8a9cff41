/- Package word: what the operators answer. -/
import Derived.Test.YticndoihkfbpoaaGreatDoorUw
namespace Go.Proofs.YticndoihkfbpoaaGreatDoor
open Go Go.RowKit Go.Lib Go.Proofs.YticndoihkfbpoaaGreatDoorW.PrintWords Go.Proofs.YticndoihkfbpoaaGreatDoor.PScope
set_option maxRecDepth 100000
set_option linter.unusedSimpArgs false
set_option linter.unusedVariables false

def bor64 (a b : Int) : Int := IntKind.i64.wrap (BitVec.ofInt 64 a ||| BitVec.ofInt 64 b).toNat
/-- Whether a division is more than nothing. -/
def divB (a b : Int) : Bool := (b != 0) && ((b != -1) || (a != wrap64 (-a)))
/-- What an operator of numbers makes. -/
def arithV (n : Nat) (a b : Int) : Int :=
  if n = 188 then wrap64 (a + b) else if n = 189 then wrap64 (a - b) else if n = 190 then wrap64 (a * b) else if n = 191 then (if divB a b then wrap64 (a.tdiv b) else 0) else (if divB a b then a.tmod b else 0)
/-- What one that compares says. -/
def cmpV (n : Nat) (a b : Int) : Bool :=
  if n = 195 then decide (a < b) else if n = 196 then decide (a ≤ b) else if n = 197 then (a == b) else if n = 198 then (a != b) else if n = 199 then ((a != 0) && (b != 0)) else (bor64 a b != 0)
def binV (s : ByteArray) (a b : Int) : Int × Int :=
  match opNum s with
  | none => (0, 10)
  | some n => (if arithB n then arithV n a b else if cmpV n a b then 1 else 0, 0)
theorem divides_calls (a b : Int) (w : World) : Calls Tryz.prog 192 #[.int .i64 a, .int .i64 b] w fun e w' => e = .returned (.bool (divB a b)) ∧ w' = w := by
  unfold divB
  cases h0 : (b != 0) with
  | false =>
    go_enter Tryz.func192, Tryz.ntmps192
    go_wp2_with fail
    go_ret
    exact ⟨rfl, rfl⟩
  | true =>
    cases h1 : (b != -1) with
    | true =>
      go_enter Tryz.func192, Tryz.ntmps192
      go_wp2_with fail
      go_ret
      exact ⟨rfl, rfl⟩
    | false =>
      cases h2 : (a != wrap64 (-a)) with
      | false =>
        go_enter Tryz.func192, Tryz.ntmps192
        go_wp2_with fail
        go_ret
        exact ⟨rfl, rfl⟩
      | true =>
        go_enter Tryz.func192, Tryz.ntmps192
        go_wp2_with fail
        go_ret
        exact ⟨rfl, rfl⟩
theorem of1_calls (a b : Int) (w : World) : Calls Tryz.prog 188 #[.int .i64 a, .int .i64 b] w fun e w' => e = .returned (.int .i64 (wrap64 (a + b))) ∧ w' = w := by
  go_enter Tryz.func188, Tryz.ntmps188
  go_wp2_with fail
  go_ret
  exact ⟨rfl, rfl⟩
theorem of2_calls (a b : Int) (w : World) : Calls Tryz.prog 189 #[.int .i64 a, .int .i64 b] w fun e w' => e = .returned (.int .i64 (wrap64 (a - b))) ∧ w' = w := by
  go_enter Tryz.func189, Tryz.ntmps189
  go_wp2_with fail
  go_ret
  exact ⟨rfl, rfl⟩
theorem of3_calls (a b : Int) (w : World) : Calls Tryz.prog 190 #[.int .i64 a, .int .i64 b] w fun e w' => e = .returned (.int .i64 (wrap64 (a * b))) ∧ w' = w := by
  go_enter Tryz.func190, Tryz.ntmps190
  go_wp2_with fail
  go_ret
  exact ⟨rfl, rfl⟩
theorem of4_calls (a b : Int) (w : World) : Calls Tryz.prog 191 #[.int .i64 a, .int .i64 b] w fun e w' => e = .returned (.int .i64 (if divB a b then wrap64 (a.tdiv b) else 0)) ∧ w' = w := by
  have hd := divides_calls a b
  cases h : divB a b with
  | false =>
    rw [h] at hd
    show Calls _ _ _ _ fun e w' => e = .returned (.int .i64 0) ∧ w' = w
    go_enter Tryz.func191, Tryz.ntmps191
    go_wp2_with fail
    refine (hd w).mono ?_
    rintro e w1 ⟨rfl, rfl⟩
    clear hd
    go_wp2_with fail
    go_ret
    exact ⟨rfl, rfl⟩
  | true =>
    rw [h] at hd
    have hb : ¬ b = 0 := by
      intro e
      unfold divB at h
      rw [e] at h
      simp at h
    show Calls _ _ _ _ fun e w' => e = .returned (.int .i64 (wrap64 (a.tdiv b))) ∧ w' = w
    go_enter Tryz.func191, Tryz.ntmps191
    go_wp2_with fail
    refine (hd w).mono ?_
    rintro e w1 ⟨rfl, rfl⟩
    clear hd
    go_wp2_with fail
    go_ret
    exact ⟨rfl, rfl⟩
theorem of5_calls (a b : Int) (w : World) : Calls Tryz.prog 193 #[.int .i64 a, .int .i64 b] w fun e w' => e = .returned (.int .i64 (if divB a b then a.tmod b else 0)) ∧ w' = w := by
  have hd := divides_calls a b
  cases h : divB a b with
  | false =>
    rw [h] at hd
    show Calls _ _ _ _ fun e w' => e = .returned (.int .i64 0) ∧ w' = w
    go_enter Tryz.func193, Tryz.ntmps193
    go_wp2_with fail
    refine (hd w).mono ?_
    rintro e w1 ⟨rfl, rfl⟩
    clear hd
    go_wp2_with fail
    go_ret
    exact ⟨rfl, rfl⟩
  | true =>
    rw [h] at hd
    have hb : ¬ b = 0 := by
      intro e
      unfold divB at h
      rw [e] at h
      simp at h
    show Calls _ _ _ _ fun e w' => e = .returned (.int .i64 (a.tmod b)) ∧ w' = w
    go_enter Tryz.func193, Tryz.ntmps193
    go_wp2_with fail
    refine (hd w).mono ?_
    rintro e w1 ⟨rfl, rfl⟩
    clear hd
    go_wp2_with fail
    go_ret
    exact ⟨rfl, rfl⟩
theorem of6_calls (a b : Int) (w : World) : Calls Tryz.prog 195 #[.int .i64 a, .int .i64 b] w fun e w' => e = .returned (.bool (decide (a < b))) ∧ w' = w := by
  go_enter Tryz.func195, Tryz.ntmps195
  go_wp2_with fail
  go_ret
  exact ⟨rfl, rfl⟩
theorem of7_calls (a b : Int) (w : World) : Calls Tryz.prog 196 #[.int .i64 a, .int .i64 b] w fun e w' => e = .returned (.bool (decide (a ≤ b))) ∧ w' = w := by
  go_enter Tryz.func196, Tryz.ntmps196
  go_wp2_with fail
  go_ret
  exact ⟨rfl, rfl⟩
theorem of8_calls (a b : Int) (w : World) : Calls Tryz.prog 197 #[.int .i64 a, .int .i64 b] w fun e w' => e = .returned (.bool (a == b)) ∧ w' = w := by
  go_enter Tryz.func197, Tryz.ntmps197
  go_wp2_with fail
  go_ret
  exact ⟨rfl, rfl⟩
theorem of9_calls (a b : Int) (w : World) : Calls Tryz.prog 198 #[.int .i64 a, .int .i64 b] w fun e w' => e = .returned (.bool ((a != b))) ∧ w' = w := by
  go_enter Tryz.func198, Tryz.ntmps198
  go_wp2_with fail
  go_ret
  exact ⟨rfl, rfl⟩
theorem of10_calls (a b : Int) (w : World) : Calls Tryz.prog 199 #[.int .i64 a, .int .i64 b] w fun e w' => e = .returned (.bool ((a != 0) && (b != 0))) ∧ w' = w := by
  cases h : (a != 0) with
  | false =>
    go_enter Tryz.func199, Tryz.ntmps199
    go_wp2_with fail
    go_ret
    exact ⟨rfl, rfl⟩
  | true =>
    go_enter Tryz.func199, Tryz.ntmps199
    go_wp2_with fail
    go_ret
    exact ⟨rfl, rfl⟩
theorem of11_calls (a b : Int) (w : World) : Calls Tryz.prog 200 #[.int .i64 a, .int .i64 b] w fun e w' => e = .returned (.bool ((bor64 a b != 0))) ∧ w' = w := by
  go_enter Tryz.func200, Tryz.ntmps200
  go_wp2_with fail
  go_ret
  exact ⟨rfl, rfl⟩
def truV (b : Bool) : Int := if b then 1 else 0
theorem truth_calls (b : Bool) (w : World) : Calls Tryz.prog 167 #[.bool b] w fun e w' => e = .returned (.int .i64 (truV b)) ∧ w' = w := by
  cases b
  · show Calls _ _ _ _ fun e w' => e = .returned (.int .i64 0) ∧ w' = w
    go_enter Tryz.func167, Tryz.ntmps167
    go_wp2_with fail
    go_ret
    exact ⟨rfl, rfl⟩
  · show Calls _ _ _ _ fun e w' => e = .returned (.int .i64 1) ∧ w' = w
    go_enter Tryz.func167, Tryz.ntmps167
    go_wp2_with fail
    go_ret
    exact ⟨rfl, rfl⟩
/-- What Un answers. -/
def unV (s : ByteArray) (a : Int) : Int × Int := if s.toList == ([45] : List UInt8) then (wrap64 (-a), 0) else if s.toList == ([110, 111, 116] : List UInt8) then (truV (a == 0), 0) else (0, 10)
theorem un_calls (s : ByteArray) (a : Int) (w : World) : Calls Tryz.prog 140 #[.string s, .int .i64 a] w fun e w' => e = .returned (.tuple #[.int .i64 (unV s a).1, .int .i64 (unV s a).2]) ∧ w' = w := by
  cases h1 : (s.toList == ([45] : List UInt8)) with
  | true =>
    have hv : unV s a = (wrap64 (-a), 0) := by unfold unV; rw [h1]; rfl
    rw [hv]
    clear hv
    go_enter Tryz.func140, Tryz.ntmps140
    go_wp2_with fail
    go_ret2
    exact ⟨rfl, rfl⟩
  | false =>
    cases h2 : (s.toList == ([110, 111, 116] : List UInt8)) with
    | true =>
      have hv : unV s a = (truV (a == 0), 0) := by unfold unV; rw [h1, h2]; rfl
      rw [hv]
      have ht := truth_calls (a == 0)
      generalize truV (a == 0) = t at ht ⊢
      clear hv
      go_enter Tryz.func140, Tryz.ntmps140
      go_wp2_with fail
      refine (ht w).mono ?_
      rintro e w1 ⟨rfl, rfl⟩
      clear ht
      go_wp2_with fail
      go_ret2
      exact ⟨rfl, rfl⟩
    | false =>
      have hv : unV s a = (0, 10) := by unfold unV; rw [h1, h2]; rfl
      rw [hv]
      clear hv
      go_enter Tryz.func140, Tryz.ntmps140
      go_wp2_with fail
      go_ret2
      exact ⟨rfl, rfl⟩
end Go.Proofs.YticndoihkfbpoaaGreatDoor
