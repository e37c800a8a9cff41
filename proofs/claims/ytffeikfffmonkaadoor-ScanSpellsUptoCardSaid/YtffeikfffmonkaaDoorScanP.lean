/- What the reference's functions of layer 1 come to, as plain functions: names, constructors, words. -/
import Derived.Test.YtffeikfffmonkaaDoorScanG
import Derived.Test.YtffeikfffmonkaaDoorPScanx5
import Derived.Test.YtffeikfffmonkaaDoorPScanx6
import Derived.Test.YtffeikfffmonkaaDoorPScanx12
namespace Go.Proofs.YtffeikfffmonkaaDoor
open Go Go.RowKit Go.Lib Go.Proofs.YtffeikfffmonkaaDoorW.PrintWords Go.Proofs.YtffeikfffmonkaaDoorW.PrintMore
set_option maxRecDepth 100000
set_option linter.unusedSimpArgs false
set_option linter.unusedVariables false

theorem small_eq (c : Int) : PScan.penduleref01_small.f c = some (lowerB c) := by
  unfold PScan.penduleref01_small.f lowerB
  by_cases h : c ≥ 97
  · rw [if_pos h, decide_eq_true h, Bool.true_and]
  · rw [if_neg h, decide_eq_false h, Bool.false_and]
theorem great_eq (c : Int) : PScan.penduleref01_great.f c = some (upperB c) := by
  unfold PScan.penduleref01_great.f upperB
  by_cases h : c ≥ 65
  · rw [if_pos h, decide_eq_true h, Bool.true_and]
  · rw [if_neg h, decide_eq_false h, Bool.false_and]
theorem digit_eq (c : Int) : PScan.penduleref01_digit.f c = some (digitB c) := by
  unfold PScan.penduleref01_digit.f digitB
  by_cases h : c ≥ 48
  · rw [if_pos h, decide_eq_true h, Bool.true_and]
  · rw [if_neg h, decide_eq_false h, Bool.false_and]
theorem more_eq (c : Int) : PScan.penduleref01_more.f c = some (innerB c) := by
  unfold PScan.penduleref01_more.f innerB
  rw [small_eq, great_eq, digit_eq]
  simp only [Option.bind_some]
  cases lowerB c <;> cases upperB c <;> cases digitB c <;> simp

theorem run_tells (s : ByteArray) (hs : s.size ≤ 140737488351232) (d : Nat) : ∀ (k i : Nat), i ≤ s.size → s.size - i = d → d < k → (∀ j, j < i → innerB (bt s ((j : Nat) : Int)) = true) →
    PScan.penduleref01_run.l0 k s (i : Int) = some ((spanN innerB s : Nat) : Int) := by
  induction d with
  | zero =>
    intro k i hi hd hk hall
    obtain ⟨k, rfl⟩ : ∃ m, k = m + 1 := ⟨k - 1, by omega⟩
    simp only [PScan.penduleref01_run.l0]
    rw [if_neg (by omega), spanN_of innerB s i hi hall (.inl (by omega))]
  | succ d ih =>
    intro k i hi hd hk hall
    obtain ⟨k, rfl⟩ : ∃ m, k = m + 1 := ⟨k - 1, by omega⟩
    simp only [PScan.penduleref01_run.l0]
    rw [if_pos (by omega), if_pos (by omega), more_eq]
    simp only [Option.bind_some]
    cases hq : innerB (bt s (i : Int)) with
    | true =>
      rw [if_pos rfl, wrap_add (by omega) (by omega)]
      have := ih k (i + 1) (by omega) (by omega) (by omega) (fun j hj => by
        by_cases e : j < i
        · exact hall j e
        · obtain rfl : j = i := by omega
          exact hq)
      exact_mod_cast this
    | false => rw [if_neg (by simp), spanN_of innerB s i hi hall (.inr ⟨by omega, hq⟩)]
theorem run_eq (s : ByteArray) (hs : s.size ≤ 140737488351232) (k : Nat) (hk : s.size < k) : PScan.penduleref01_run.f k s = some ((spanN innerB s : Nat) : Int) :=
  run_tells s hs s.size k 0 (by omega) (by omega) hk (fun j hj => absurd hj (Nat.not_lt_zero _))

theorem has_tells (l : List ByteArray) (a : ByteArray) (hl : l.length < 9223372036854775807) (d : Nat) : ∀ (k i : Nat), i ≤ l.length → l.length - i = d → d < k →
    PScan.penduleref01_Has.l0 k l a (i : Int) = some ((l.drop i).any fun x => decide (x = a)) := by
  induction d with
  | zero =>
    intro k i hi hd hk
    obtain ⟨k, rfl⟩ : ∃ m, k = m + 1 := ⟨k - 1, by omega⟩
    obtain rfl : i = l.length := by omega
    simp only [PScan.penduleref01_Has.l0]
    rw [if_neg (by omega)]; simp
  | succ d ih =>
    intro k i hi hd hk
    obtain ⟨k, rfl⟩ : ∃ m, k = m + 1 := ⟨k - 1, by omega⟩
    have hlt : i < l.length := by omega
    have hdr : l.drop i = l[i] :: l.drop (i + 1) := List.drop_eq_getElem_cons hlt
    have hrd : rdOf ByteArray.empty l (i : Int) = l[i] := by simp [rdOf, hlt]
    simp only [PScan.penduleref01_Has.l0]
    rw [if_pos (by omega), if_pos (by omega), hrd]
    by_cases e : l[i].toList = a.toList
    · rw [if_pos e, hdr, List.any_cons, decide_eq_true (toList_inj e), Bool.true_or]
    · have : ¬ l[i] = a := by rintro rfl; exact e rfl
      rw [if_neg e, hdr, List.any_cons, decide_eq_false this, Bool.false_or, wrap_add (by omega) (by omega)]
      exact_mod_cast ih k (i + 1) (by omega) (by omega) (by omega)
theorem has_eq (l : List ByteArray) (a : ByteArray) (hl : l.length < 9223372036854775807) (k : Nat) (hk : l.length < k) : PScan.penduleref01_Has.f k l a = some (l.any fun x => decide (x = a)) := by
  have := has_tells l a hl l.length k 0 (by omega) (by omega) hk
  simpa [PScan.penduleref01_Has.f] using this

theorem refWords_eq : PScan.penduleref01_Words.f = some wordList := rfl
theorem refWord_eq (s : ByteArray) (k : Nat) (hk : 21 < k) : PScan.penduleref01_IsWord.f k s = some (isWordB s) := by
  unfold PScan.penduleref01_IsWord.f
  rw [refWords_eq]; simp only [Option.bind_some]
  rw [has_eq wordList s (by decide) k hk]; rfl

theorem refCon_eq (s : ByteArray) (hs : s.size ≤ 140737488351232) (k : Nat) (hk : s.size < k) : PScan.penduleref01_IsCon.f k s = some (isConB s) := by
  unfold PScan.penduleref01_IsCon.f isConB shapedB
  by_cases h1 : (s.size : Int) ≥ 1
  · by_cases h2 : (s.size : Int) ≤ 24
    · rw [if_pos h1, if_pos h2, if_pos (by omega), great_eq]
      simp only [Option.bind_some]
      rw [decide_eq_true (show 0 < s.size by omega), decide_eq_true (show s.size ≤ 24 by omega)]
      cases upperB (bt s 0) with
      | true =>
        rw [if_pos rfl, run_eq s hs k hk]
        simp only [Option.bind_some, Bool.true_and]
        congr 1; rw [Bool.eq_iff_iff]; simp; omega
      | false => simp
    · rw [if_pos h1, if_neg h2, decide_eq_false (show ¬ s.size ≤ 24 by omega)]; simp
  · rw [if_neg h1, decide_eq_false (show ¬ 0 < s.size by omega)]; simp

theorem refName_eq (s : ByteArray) (hs : s.size ≤ 140737488351232) (k : Nat) (hk : s.size + 22 < k) : PScan.penduleref01_IsName.f k s = some (isNameB s) := by
  unfold PScan.penduleref01_IsName.f isNameB shapedB
  by_cases h1 : (s.size : Int) ≥ 1
  · by_cases h2 : (s.size : Int) ≤ 24
    · rw [if_pos h1, if_pos h2, if_pos (by omega), small_eq]
      simp only [Option.bind_some]
      rw [decide_eq_true (show 0 < s.size by omega), decide_eq_true (show s.size ≤ 24 by omega)]
      cases lowerB (bt s 0) with
      | true =>
        rw [if_pos rfl, run_eq s hs k (by omega)]
        simp only [Option.bind_some, Bool.true_and]
        by_cases h3 : ((spanN innerB s : Nat) : Int) = (s.size : Int)
        · rw [if_pos h3, refWords_eq]
          simp only [Option.bind_some]
          rw [has_eq wordList s (by decide) k (by have : wordList.length = 21 := rfl; omega), decide_eq_true (show spanN innerB s = s.size by omega)]
          simp [isWordB]
        · rw [if_neg h3, decide_eq_false (show ¬ spanN innerB s = s.size by omega)]; simp
      | false => simp
    · rw [if_pos h1, if_neg h2, decide_eq_false (show ¬ s.size ≤ 24 by omega)]; simp
  · rw [if_neg h1, decide_eq_false (show ¬ 0 < s.size by omega)]; simp

/-! ### No text is two of them -/
theorem upper_not_lower (c : Int) : upperB c = true → lowerB c = false := by
  simp only [upperB, lowerB, Bool.and_eq_true, decide_eq_true_eq, Bool.and_eq_false_iff, decide_eq_false_iff_not]; omega
theorem word_not_con (s : ByteArray) (h : isWordB s = true) : isConB s = false := by
  unfold isWordB at h
  obtain ⟨x, hx, hs⟩ := List.any_eq_true.mp h
  obtain rfl := of_decide_eq_true hs
  have : ∀ y ∈ wordList, isConB y = false := by
    have h : (wordList.all fun y => !isConB y) = true := by kernel_rfl
    intro y hy
    have := List.all_eq_true.mp h y hy
    simpa using this
  exact this x hx
theorem name_not_con (s : ByteArray) (h : isNameB s = true) : isConB s = false := by
  unfold isNameB at h
  unfold isConB
  cases hc : shapedB upperB s with
  | false => rfl
  | true =>
    simp only [shapedB, Bool.and_eq_true] at h hc
    rw [upper_not_lower _ hc.2.2.1] at h
    simp at h
theorem name_not_word (s : ByteArray) (h : isNameB s = true) : isWordB s = false := by
  unfold isNameB at h
  cases hw : isWordB s with
  | false => rfl
  | true => rw [hw] at h; simp at h
end Go.Proofs.YtffeikfffmonkaaDoor
