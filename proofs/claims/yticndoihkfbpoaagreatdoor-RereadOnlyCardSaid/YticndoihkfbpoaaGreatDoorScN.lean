/- Contracts of the functions of package scan that say what a text is: shaped, IsCon, IsWord, IsName. -/
import Derived.Test.YticndoihkfbpoaaGreatDoorScA
import Derived.Test.YticndoihkfbpoaaGreatDoorPScopex1
namespace Go.Proofs.YticndoihkfbpoaaGreatDoor
open Go Go.RowKit Go.Lib Go.Proofs.YticndoihkfbpoaaGreatDoorW.PrintWords
set_option maxRecDepth 100000
set_option linter.unusedSimpArgs false
set_option linter.unusedVariables false
def wordList : List ByteArray := (PScope.scan_words.f).getD []
theorem words_eq : PScope.scan_words.f = some wordList := rfl
def isWordB (s : ByteArray) : Bool := wordList.any fun x => decide (x = s)
theorem wrap_add {i : Int} (h0 : 0 ≤ i) (h : i < 9223372036854775807) : wrap64 (i + 1) = i + 1 := by unfold wrap64; omega
theorem toList_inj {a b : ByteArray} (h : a.toList = b.toList) : a = b := by
 rw [ByteArray.toList_eq, ByteArray.toList_eq] at h
 cases a; cases b; congr 1; exact Array.toList_inj.mp h
theorem index_tells (l : List ByteArray) (a : ByteArray) (hl : l.length < 9223372036854775807) (d : Nat) : ∀ (k i : Nat), i ≤ l.length → l.length - i = d → d < k →
  ∃ r, PScope.slices_Index_string_string.l0 k l a (l.length : Int) (i : Int) = some r ∧ (decide (r ≥ 0) = (l.drop i).any fun x => decide (x = a)) := by
 induction d with
 | zero =>
  intro k i hi hd hk
  obtain ⟨k, rfl⟩ : ∃ m, k = m + 1 := ⟨k - 1, by omega⟩
  obtain rfl : i = l.length := by omega
  refine ⟨-1, ?_, by simp⟩
  simp only [PScope.slices_Index_string_string.l0]
  rw [if_neg (by omega)]
 | succ d ih =>
  intro k i hi hd hk
  obtain ⟨k, rfl⟩ : ∃ m, k = m + 1 := ⟨k - 1, by omega⟩
  have hlt : i < l.length := by omega
  have hdr : l.drop i = l[i] :: l.drop (i + 1) := List.drop_eq_getElem_cons hlt
  have hrd : rdOf ByteArray.empty l (i : Int) = l[i] := by simp [rdOf, hlt]
  simp only [PScope.slices_Index_string_string.l0]
  rw [if_pos (by omega), if_pos (by omega), if_pos (by omega), hrd]
  by_cases e : a.toList = l[i].toList
  ·rw [if_pos e]
   refine ⟨_, rfl, ?_⟩
   rw [hdr]
   have : l[i] = a := (toList_inj e).symm
   simp [this]
  ·rw [if_neg e]
   obtain ⟨r, hr, hany⟩ := ih k (i + 1) (by omega) (by omega) (by omega)
   refine ⟨r, ?_, ?_⟩
   ·rw [wrap_add (by omega) (by omega)]; exact_mod_cast hr
   ·have : ¬ l[i] = a := by rintro rfl; exact e rfl
    rw [hany, hdr, List.any_cons, decide_eq_false this, Bool.false_or]
theorem isWord_eq (s : ByteArray) (k : Nat) (hk : 21 < k) : PScope.scan_IsWord.f k s = some (isWordB s) := by
 unfold PScope.scan_IsWord.f PScope.slices_Contains_string_string.f PScope.slices_Index_string_string.f
 rw [words_eq]
 simp only [Option.bind_some]
 obtain ⟨r, hr, hany⟩ := index_tells wordList s (by decide) 21 k 0 (by simp) (by decide) hk
 rw [show ((0 : Nat) : Int) = 0 from rfl] at hr
 rw [hr]
 simp only [Option.bind_some]
 rw [hany]; simp [isWordB]
theorem isWord_calls (s : ByteArray) (w : World) : Calls Tryz.prog 147 #[.string s] w fun e w' => e = .returned (.bool (isWordB s)) ∧ Below w.heap.size w w' :=
 PScope.scan_IsWord.calls 22 s _ w (isWord_eq s 22 (by omega))
theorem shaped_calls (g : Nat) (p : Int → Bool) (eg : ∀ args w, (callFunc g args).run Tryz.prog w = .ok (.enter g args) w) (hp : ByteFn g p) (s : ByteArray) (w : World) :
  Calls Tryz.prog 145 #[.string s, .func (.func g) #[] #[]] w fun e w' => e = .returned (.bool (shapedB p s)) ∧ Drawn0 w w' := by
 by_cases c0 : s.size = 0
 ·have e0 : s.toList = [] := by rw [ByteArray.toList_eq]; exact List.eq_nil_of_length_eq_zero (by rw [data_length]; exact c0)
  have e1 : (!s.toList.isEmpty) = false := by rw [e0]; rfl
  have hfin : shapedB p s = false := by simp [shapedB, c0]
  have Hfin := Lib.hid hfin
  clear hfin hp eg
  go_enter Tryz.func145, Tryz.ntmps145
  go_wp2
  go_ret
  exact ⟨by rw [Hfin.out]; rfl, by repeat (first | exact Drawn0.refl _ | apply Drawn0.step)⟩
 ·have e1 : s.toList.isEmpty = false := by rw [ByteArray.toList_eq]; cases h : s.data.toList with
   | nil => have := data_length s; rw [h] at this; simp at this; omega
   | cons _ _ => rfl
  have e2 : (!s.toList.isEmpty) = true := by rw [e1]; rfl
  have hpos : 0 < s.size := by omega
  by_cases c1 : s.size ≤ 24
  ·have d1 : decide ((s.size : Int) ≤ 24) = true := decide_eq_true (by omega)
   have hbt := bt_at s 0 (by simpa using hpos)
   have hr := bt_range s 0
   have hcall := fun W => hp (bt s 0) W hr.1 hr.2
   rw [← hbt] at hcall
   simp only [Int.toNat_zero] at hcall
   cases hq : p (s[0].toNat : Int) with
   | false =>
    rw [hq] at hcall
    have hfin : shapedB p s = false := by
     have : p (bt s 0) = false := by rw [← hbt]; exact hq
     simp [shapedB, this]
    have Hfin := Lib.hid hfin
    clear hfin hp hbt hr
    go_enter Tryz.func145, Tryz.ntmps145
    go_wp2_with (go_at_fn g; refine (hcall _).mono ?_; rintro e w' ⟨rfl, ⟨n1, rfl⟩⟩)
    go_ret
    exact ⟨by rw [Hfin.out]; rfl, by repeat (first | exact Drawn0.refl _ | apply Drawn0.step)⟩
   | true =>
    rw [hq] at hcall
    have hfin : shapedB p s = ((spanN innerB s : Int) == (s.size : Int)) := by
     have h1 : p (bt s 0) = true := by rw [← hbt]; exact hq
     have h2 : decide (spanN innerB s = s.size) = ((spanN innerB s : Int) == (s.size : Int)) := by
      rw [Bool.eq_iff_iff]; simp; omega
     rw [← h2]
     simp [shapedB, h1, hpos, c1]
    have Hfin := Lib.hid hfin
    have hle := spanN_le innerB s
    have hsp := fun W => span_calls 175 innerB inner_eg inner_fn s W (by omega)
    clear hfin hp hbt hr
    generalize hz : spanN innerB s = z at hsp hle
    have Hz := Lib.hid hz
    clear hz
    go_enter Tryz.func145, Tryz.ntmps145
    go_wp2_with (first | (go_at_fn g; refine (hcall _).mono ?_; rintro e w' ⟨rfl, ⟨n1, rfl⟩⟩) | (go_at_call 174; refine (hsp _).mono ?_; rintro e w' ⟨rfl, ⟨n2, rfl⟩⟩))
    go_ret
    exact ⟨by rw [Hfin.out, Hz.out]; rfl, by repeat (first | exact Drawn0.refl _ | apply Drawn0.step)⟩
  ·have d1 : decide ((s.size : Int) ≤ 24) = false := decide_eq_false (by omega)
   have hfin : shapedB p s = false := by simp [shapedB, c1]
   have Hfin := Lib.hid hfin
   clear hfin hp eg
   go_enter Tryz.func145, Tryz.ntmps145
   go_wp2
   go_ret
   exact ⟨by rw [Hfin.out]; rfl, by repeat (first | exact Drawn0.refl _ | apply Drawn0.step)⟩
def isNameB (s : ByteArray) : Bool := shapedB lowerB s && !isWordB s
theorem isName_calls (s : ByteArray) (w : World) : Calls Tryz.prog 121 #[.string s] w fun e w' => e = .returned (.bool (isNameB s)) ∧ Below w.heap.size w w' := by
 have hc := fun W => shaped_calls 146 lowerB lower_eg lower_fn s W
 have hw := fun W => isWord_calls s W
 unfold isNameB
 generalize shapedB lowerB s = b at hc
 generalize isWordB s = c at hw
 cases b with
 | false =>
  go_enter Tryz.func121, Tryz.ntmps121
  go_wp2_with (go_at_call 145; refine (hc _).mono ?_; rintro e w' ⟨rfl, ⟨n2, rfl⟩⟩)
  go_ret
  exact ⟨rfl, by first | exact Below.refl _ _ | (apply pw_below_drewN; exact Below.refl _ _)⟩
 | true =>
  go_enter Tryz.func121, Tryz.ntmps121
  go_wp2_with (first | (go_at_call 145; refine (hc _).mono ?_; rintro e w' ⟨rfl, ⟨n2, rfl⟩⟩) | (go_at_call 147; refine (hw _).mono ?_; rintro e w' ⟨rfl, hb⟩))
  go_ret
  exact ⟨rfl, below_then (pw_below_drewN (Below.refl _ _) n2) (Nat.le_refl _) hb⟩
end Go.Proofs.YticndoihkfbpoaaGreatDoor
