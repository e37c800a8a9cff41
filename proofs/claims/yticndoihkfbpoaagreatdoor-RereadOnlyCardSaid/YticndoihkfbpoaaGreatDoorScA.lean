/- Contracts of the functions of package scan that only look at bytes: lower, upper, digit, inner, span, shaped, IsCon. -/
import Derived.Test.YticndoihkfbpoaaGreatDoorBase
namespace Go.Proofs.YticndoihkfbpoaaGreatDoor
open Go Go.RowKit Go.Lib Go.Proofs.YticndoihkfbpoaaGreatDoorW.PrintWords
set_option maxRecDepth 100000
set_option linter.unusedSimpArgs false
set_option linter.unusedVariables false
def lowerB (b : Int) : Bool := decide (97 ≤ b) && decide (b ≤ 122)
def upperB (b : Int) : Bool := decide (65 ≤ b) && decide (b ≤ 90)
def digitB (b : Int) : Bool := decide (48 ≤ b) && decide (b ≤ 57)
def innerB (b : Int) : Bool := lowerB b || upperB b || digitB b || b == 95
def ByteFn (g : Nat) (p : Int → Bool) : Prop :=
 ∀ (b : Int) (w : World), 0 ≤ b → b ≤ 255 → Calls Tryz.prog g #[.int .u8 b] w fun e w' => e = .returned (.bool (p b)) ∧ Drawn0 w w'
theorem lower_fn : ByteFn 146 lowerB := by
 intro b w h0 h1
 by_cases c : 97 ≤ b
 ·have c1 : decide (97 ≤ b) = true := decide_eq_true c
  go_enter Tryz.func146, Tryz.ntmps146
  go_wp2
  go_ret
  exact ⟨by show Ending.returned (.bool _) = _; simp only [lowerB, c1, Bool.true_and, Bool.false_and], Drawn0.refl _⟩
 ·have c1 : decide (97 ≤ b) = false := decide_eq_false c
  go_enter Tryz.func146, Tryz.ntmps146
  go_wp2
  go_ret
  exact ⟨by show Ending.returned (.bool _) = _; simp only [lowerB, c1, Bool.true_and, Bool.false_and], Drawn0.refl _⟩
theorem upper_fn : ByteFn 201 upperB := by
 intro b w h0 h1
 by_cases c : 65 ≤ b
 ·have c1 : decide (65 ≤ b) = true := decide_eq_true c
  go_enter Tryz.func201, Tryz.ntmps201
  go_wp2
  go_ret
  exact ⟨by show Ending.returned (.bool _) = _; simp only [upperB, c1, Bool.true_and, Bool.false_and], Drawn0.refl _⟩
 ·have c1 : decide (65 ≤ b) = false := decide_eq_false c
  go_enter Tryz.func201, Tryz.ntmps201
  go_wp2
  go_ret
  exact ⟨by show Ending.returned (.bool _) = _; simp only [upperB, c1, Bool.true_and, Bool.false_and], Drawn0.refl _⟩
theorem digit_fn : ByteFn 202 digitB := by
 intro b w h0 h1
 by_cases c : 48 ≤ b
 ·have c1 : decide (48 ≤ b) = true := decide_eq_true c
  go_enter Tryz.func202, Tryz.ntmps202
  go_wp2
  go_ret
  exact ⟨by show Ending.returned (.bool _) = _; simp only [digitB, c1, Bool.true_and, Bool.false_and], Drawn0.refl _⟩
 ·have c1 : decide (48 ≤ b) = false := decide_eq_false c
  go_enter Tryz.func202, Tryz.ntmps202
  go_wp2
  go_ret
  exact ⟨by show Ending.returned (.bool _) = _; simp only [digitB, c1, Bool.true_and, Bool.false_and], Drawn0.refl _⟩
theorem inner_fn : ByteFn 175 innerB := by
 intro b w h0 h1
 have A := fun W => lower_fn b W h0 h1
 have B := fun W => upper_fn b W h0 h1
 have C := fun W => digit_fn b W h0 h1
 cases hl : lowerB b with
 | true =>
  rw [hl] at A
  go_enter Tryz.func175, Tryz.ntmps175
  go_wp2_with (first | (go_at_call 146; refine (A _).mono ?_; rintro e w' ⟨rfl, ⟨n1, rfl⟩⟩))
  go_ret
  exact ⟨by simp [innerB, hl], by repeat (first | exact Drawn0.refl _ | apply Drawn0.step)⟩
 | false =>
  rw [hl] at A
  cases hu : upperB b with
  | true =>
   rw [hu] at B
   go_enter Tryz.func175, Tryz.ntmps175
   go_wp2_with (first | (go_at_call 146; refine (A _).mono ?_; rintro e w' ⟨rfl, ⟨n1, rfl⟩⟩) | (go_at_call 201; refine (B _).mono ?_; rintro e w' ⟨rfl, ⟨n2, rfl⟩⟩))
   go_ret
   exact ⟨by simp [innerB, hu], by repeat (first | exact Drawn0.refl _ | apply Drawn0.step)⟩
  | false =>
   rw [hu] at B
   cases hd : digitB b with
   | true =>
    rw [hd] at C
    go_enter Tryz.func175, Tryz.ntmps175
    go_wp2_with (first | (go_at_call 146; refine (A _).mono ?_; rintro e w' ⟨rfl, ⟨n1, rfl⟩⟩) | (go_at_call 201; refine (B _).mono ?_; rintro e w' ⟨rfl, ⟨n2, rfl⟩⟩) | (go_at_call 202; refine (C _).mono ?_; rintro e w' ⟨rfl, ⟨n3, rfl⟩⟩))
    go_ret
    exact ⟨by simp [innerB, hd], by repeat (first | exact Drawn0.refl _ | apply Drawn0.step)⟩
   | false =>
    rw [hd] at C
    go_enter Tryz.func175, Tryz.ntmps175
    go_wp2_with (first | (go_at_call 146; refine (A _).mono ?_; rintro e w' ⟨rfl, ⟨n1, rfl⟩⟩) | (go_at_call 201; refine (B _).mono ?_; rintro e w' ⟨rfl, ⟨n2, rfl⟩⟩) | (go_at_call 202; refine (C _).mono ?_; rintro e w' ⟨rfl, ⟨n3, rfl⟩⟩))
    go_ret
    exact ⟨by simp [innerB, hl, hu, hd], by repeat (first | exact Drawn0.refl _ | apply Drawn0.step)⟩
def spanN (p : Int → Bool) (s : ByteArray) : Nat := (s.data.toList.takeWhile fun c => p (c.toNat : Int)).length
theorem spanN_le (p : Int → Bool) (s : ByteArray) : spanN p s ≤ s.size := by
 have := (List.takeWhile_sublist (fun c : UInt8 => p (c.toNat : Int)) (l := s.data.toList)).length_le
 rw [data_length] at this
 exact this
theorem takeWhile_len {α : Type} (q : α → Bool) (l : List α) (k : Nat) (hk : k ≤ l.length) (hall : ∀ j (h : j < l.length), j < k → q l[j] = true) (hend : k = l.length ∨ ∃ h : k < l.length, q l[k] = false) : (l.takeWhile q).length = k := by
 induction l generalizing k with
 | nil => simp at hk ⊢; omega
 | cons a l ih =>
  cases k with
  | zero =>
   rcases hend with h | ⟨h, hq⟩
   ·simp at h
   ·simp at hq; simp [List.takeWhile_cons, hq]
  | succ k =>
   have ha : q a = true := hall 0 (by simp) (by omega)
   simp only [List.takeWhile_cons, ha, if_true, List.length_cons, Nat.add_right_cancel_iff]
   refine ih k (by simp at hk; omega) (fun j h hj => ?_) ?_
   ·have := hall (j + 1) (by simp; omega) (by omega); simpa using this
   ·rcases hend with h | ⟨h, hq⟩
    ·left; simp at h; omega
    ·right; exact ⟨by simp at h; omega, by simpa using hq⟩
theorem bt_get (s : ByteArray) (k : Nat) (h : k < s.data.toList.length) : bt s (k : Int) = ((s.data.toList[k]).toNat : Int) := by
 have h' : k < s.size := by rw [data_length] at h; exact h
 have := bt_at s (k : Int) (by simpa using h')
 rw [← this]; simp; rfl
theorem spanN_of (p : Int → Bool) (s : ByteArray) (k : Nat) (hk : k ≤ s.size) (hall : ∀ j, j < k → p (bt s ((j : Nat) : Int)) = true) (hend : k = s.size ∨ (k < s.size ∧ p (bt s (k : Int)) = false)) : spanN p s = k := by
 have hl := data_length s
 refine takeWhile_len _ _ k (by omega) (fun j h hj => ?_) ?_
 ·have := hall j hj; rw [bt_get s j h] at this; exact this
 ·rcases hend with h | ⟨h, hq⟩
  ·left; omega
  ·right; refine ⟨by omega, ?_⟩; rw [bt_get s k (by omega)] at hq; exact hq
theorem span_calls (g : Nat) (p : Int → Bool) (eg : ∀ args w, (callFunc g args).run Tryz.prog w = .ok (.enter g args) w) (hp : ByteFn g p) (s : ByteArray) (w : World) (hs : s.size ≤ 9223372036854775807) :
  Calls Tryz.prog 174 #[.string s, .func (.func g) #[] #[]] w fun e w' => e = .returned (.int .i64 (spanN p s : Nat)) ∧ Drawn0 w w' := by
 go_enter Tryz.func174, Tryz.ntmps174
 go_wp2
 go_loopw [8] (fun i wr => ∃ k : Nat, k ≤ s.size ∧ i = .int .i64 k ∧ Aside0 (∀ j, j < k → p (bt s ((j : Nat) : Int)) = true) ∧ Drawn0 w wr) (fun i _ => s.size - (intOf i).toNat)
 case atStart => exact ⟨0, Nat.zero_le _, rfl, ⟨fun j hj => absurd hj (Nat.not_lt_zero _)⟩, Drawn0.refl _⟩
 case round =>
  obtain ⟨k, hk, rfl, A, ⟨n0, rfl⟩⟩ := hrel
  by_cases hlt : k < s.size
  ·have hbt := bt_at s (k : Int) (by simpa using hlt)
   have hr := bt_range s (k : Int)
   have hcall := fun W => hp (bt s (k : Int)) W hr.1 hr.2
   rw [← hbt] at hcall
   simp only [Int.toNat_natCast] at hcall
   clear hp hr hbt
   cases hq : p (s[k].toNat : Int) with
   | true =>
    rw [hq] at hcall
    go_wp2_with (go_at_fn g; refine (hcall _).mono ?_; rintro e w' ⟨rfl, ⟨n1, rfl⟩⟩)
    go_roundw
    case rel =>
     refine ⟨k + 1, by omega, by go_num, ⟨fun j hj => ?_⟩, by repeat (first | exact Drawn0.refl _ | apply Drawn0.step)⟩
     by_cases e : j < k
     ·exact A.out j e
     ·obtain rfl : j = k := by omega
      rw [← bt_at s (j : Int) (by simpa using hlt)]
      simpa using hq
    case measure => simp [intOf]; omega
   | false =>
    rw [hq] at hcall
    go_wp2_with (go_at_fn g; refine (hcall _).mono ?_; rintro e w' ⟨rfl, ⟨n1, rfl⟩⟩)
    go_ret
    have hS : spanN p s = k := spanN_of p s k hk A.out (.inr ⟨hlt, by rw [← bt_at s (k : Int) (by simpa using hlt)]; simpa using hq⟩)
    exact ⟨by rw [hS]; rfl, by repeat (first | exact Drawn0.refl _ | apply Drawn0.step)⟩
  ·obtain rfl : k = s.size := by omega
   clear hp
   go_wp2
   go_ret
   have hS : spanN p s = s.size := spanN_of p s s.size hk A.out (.inl rfl)
   exact ⟨by rw [hS]; rfl, by repeat (first | exact Drawn0.refl _ | apply Drawn0.step)⟩
theorem lower_eg : ∀ args w, (callFunc 146 args).run Tryz.prog w = .ok (.enter 146 args) w := enters_of Tryz.func146 (by kernel_rfl) rfl
theorem inner_eg : ∀ args w, (callFunc 175 args).run Tryz.prog w = .ok (.enter 175 args) w := enters_of Tryz.func175 (by kernel_rfl) rfl
def shapedB (p : Int → Bool) (s : ByteArray) : Bool := decide (0 < s.size) && (decide (s.size ≤ 24) && (p (bt s 0) && decide (spanN innerB s = s.size)))
end Go.Proofs.YticndoihkfbpoaaGreatDoor
