/- Worlds in which some blocks have turned. -/
import Derived.Deep.RegionWith
import Derived.Test.YticndoihkfbpoaaGreatDoorSm
namespace Go.Proofs.YticndoihkfbpoaaGreatDoor
open Go Go.RowKit Go.Lib Go.Proofs.YticndoihkfbpoaaGreatDoorW.PrintWords
set_option maxRecDepth 100000
set_option linter.unusedSimpArgs false
set_option linter.unusedVariables false

/-- w' is W but for new blocks and those of S. -/
structure Turned (S : Nat → Prop) (W w' : World) : Prop where
  os : w'.os = W.os
  tape : w'.tape = W.tape
  output : w'.output = W.output
  size : W.heap.size ≤ w'.heap.size
  block : ∀ k, k < W.heap.size → ¬ S k → w'.heap[k]? = W.heap[k]?
theorem Turned.refl (S : Nat → Prop) (W : World) : Turned S W W := ⟨rfl, rfl, rfl, Nat.le_refl _, fun _ _ _ => rfl⟩
theorem Turned.trans {S : Nat → Prop} {a b c : World} (h : Turned S a b) (k : Turned S b c) : Turned S a c :=
  ⟨k.os.trans h.os, k.tape.trans h.tape, k.output.trans h.output, Nat.le_trans h.size k.size, fun i hi hs => (k.block i (Nat.lt_of_lt_of_le hi h.size) hs).trans (h.block i hi hs)⟩
theorem Turned.of_below {S : Nat → Prop} {W w1 : World} (h : Below W.heap.size W w1) : Turned S W w1 := ⟨h.os, h.tape, h.output, h.size, fun k hk _ => h.block k hk⟩
theorem Turned.of_grown {S : Nat → Prop} {W w1 : World} {row : Option Nat} (h : W.grownBy w1 row) (hr : ∀ k, row = some k → S k) : Turned S W w1 :=
  ⟨h.os, h.tape, h.output, h.size, fun k hk hs => h.block k hk (fun e => hs (hr k e.symm))⟩
theorem Turned.mono {S T : Nat → Prop} {W w1 : World} (h : Turned S W w1) (hs : ∀ k, k < W.heap.size → S k → T k) : Turned T W w1 := ⟨h.os, h.tape, h.output, h.size, fun k hk ht => h.block k hk (fun s => ht (hs k hk s))⟩
theorem Turned.step {S : Nat → Prop} {a b c : World} (h : Turned S a b) (k : Below b.heap.size b c) : Turned S a c := h.trans (Turned.of_below k)
theorem Turned.set {S : Nat → Prop} {a b : World} (h : Turned S a b) {p : Addr} (hp : S p.block) (u : Value) : Turned S a (b.setCell p u) :=
  ⟨h.os, h.tape, h.output, by have := h.size; simpa using this, fun k hk hs => (Below.heap_setCell b p u k (fun e => hs (e ▸ hp))).trans (h.block k hk hs)⟩
theorem Turned.drew {S : Nat → Prop} {a b : World} (h : Turned S a b) : Turned S a b.drew := ⟨h.os, h.tape, h.output, h.size, h.block⟩
theorem Turned.blk {S : Nat → Prop} {W w1 : World} {g : Nat} {o : Obj} (h : Turned S W w1) (hb : W.heap[g]? = some o) (hs : ¬ S g) : w1.heap[g]? = some o := (h.block g (blk_lt hb) hs).trans hb
theorem Turned.below {S : Nat → Prop} {B : Nat} {w0 W w1 : World} (h : Turned S W w1) (hb : Below B w0 W) (hB : B ≤ W.heap.size) (hs : ∀ k, S k → B ≤ k) : Below B w0 w1 :=
  hb.trans ⟨h.os, h.tape, h.output, h.size, fun k hk => h.block k (by omega) (fun s => by have := hs k s; omega)⟩

theorem turned_as {S : Nat → Prop} {w W w2 : World} {o' : Obj} (h : Turned S w W) (hg : (W.alloc o').grownBy w2 (some W.heap.size)) : Turned S w w2 := by
  have h1 := h.size
  have h2 : Turned S w (W.alloc o') := h.step (below_alloc (Below.refl _ _) _)
  refine ⟨hg.os.trans h2.os, hg.tape.trans h2.tape, hg.output.trans h2.output, Nat.le_trans h2.size hg.size, fun k hk hs => (hg.block k (by simp; omega) (by intro e; injection e with e; omega)).trans (h2.block k hk hs)⟩
theorem blk_as {W w2 : World} {g : Nat} {o o' : Obj} (h : W.heap[g]? = some o) (hg : (W.alloc o').grownBy w2 (some W.heap.size)) : w2.heap[g]? = some o := by
  have hl := blk_lt h
  exact (hg.block g (by simp; omega) (by intro e; injection e with e; omega)).trans (blk_alloc h _)
theorem below_as {w W w2 : World} {o' : Obj} (h : Below w.heap.size w W) (hg : (W.alloc o').grownBy w2 (some W.heap.size)) : Below w.heap.size w w2 := by
  have := h.size
  exact (below_alloc h _).grown hg (by simp; omega) (fun k hk => by cases hk; exact this)
end Go.Proofs.YticndoihkfbpoaaGreatDoor
namespace Go.Proofs.YticndoihkfbpoaaGreatDoor
open Go Go.RowKit Go.Lib Go.Proofs.YticndoihkfbpoaaGreatDoorW.PrintWords
set_option maxRecDepth 100000
set_option linter.unusedSimpArgs false
set_option linter.unusedVariables false

/-- A predicate on bytes, as numbers. -/
def lowerB (b : Int) : Bool := decide (97 ≤ b) && decide (b ≤ 122)
def upperB (b : Int) : Bool := decide (65 ≤ b) && decide (b ≤ 90)
def digitB (b : Int) : Bool := decide (48 ≤ b) && decide (b ≤ 57)
def innerB (b : Int) : Bool := lowerB b || upperB b || digitB b || b == 95

/-- What a function value on bytes does: it answers p, and changes nothing. -/
def ByteFn (g : Nat) (p : Int → Bool) : Prop :=
  ∀ (b : Int) (w : World), 0 ≤ b → b ≤ 255 → Calls Tryz.prog g #[.int .u8 b] w fun e w' => e = .returned (.bool (p b)) ∧ Drawn0 w w'

theorem lower_fn : ByteFn 146 lowerB := by
  intro b w h0 h1
  by_cases c : 97 ≤ b
  · have c1 : decide (97 ≤ b) = true := decide_eq_true c
    go_enter Tryz.func146, Tryz.ntmps146
    go_wp2
    go_ret
    exact ⟨by show Ending.returned (.bool _) = _; simp only [lowerB, c1, Bool.true_and, Bool.false_and], Drawn0.refl _⟩
  · have c1 : decide (97 ≤ b) = false := decide_eq_false c
    go_enter Tryz.func146, Tryz.ntmps146
    go_wp2
    go_ret
    exact ⟨by show Ending.returned (.bool _) = _; simp only [lowerB, c1, Bool.true_and, Bool.false_and], Drawn0.refl _⟩

theorem upper_fn : ByteFn 201 upperB := by
  intro b w h0 h1
  by_cases c : 65 ≤ b
  · have c1 : decide (65 ≤ b) = true := decide_eq_true c
    go_enter Tryz.func201, Tryz.ntmps201
    go_wp2
    go_ret
    exact ⟨by show Ending.returned (.bool _) = _; simp only [upperB, c1, Bool.true_and, Bool.false_and], Drawn0.refl _⟩
  · have c1 : decide (65 ≤ b) = false := decide_eq_false c
    go_enter Tryz.func201, Tryz.ntmps201
    go_wp2
    go_ret
    exact ⟨by show Ending.returned (.bool _) = _; simp only [upperB, c1, Bool.true_and, Bool.false_and], Drawn0.refl _⟩

theorem digit_fn : ByteFn 202 digitB := by
  intro b w h0 h1
  by_cases c : 48 ≤ b
  · have c1 : decide (48 ≤ b) = true := decide_eq_true c
    go_enter Tryz.func202, Tryz.ntmps202
    go_wp2
    go_ret
    exact ⟨by show Ending.returned (.bool _) = _; simp only [digitB, c1, Bool.true_and, Bool.false_and], Drawn0.refl _⟩
  · have c1 : decide (48 ≤ b) = false := decide_eq_false c
    go_enter Tryz.func202, Tryz.ntmps202
    go_wp2
    go_ret
    exact ⟨by show Ending.returned (.bool _) = _; simp only [digitB, c1, Bool.true_and, Bool.false_and], Drawn0.refl _⟩

theorem inner_fn : ByteFn 175 innerB := by
  intro b w h0 h1
  have A := fun W => lower_fn b W h0 h1
  have B := fun W => upper_fn b W h0 h1
  have C := fun W => digit_fn b W h0 h1
  cases hl : lowerB b with
  | true =>
    rw [hl] at A
    go_enter Tryz.func175, Tryz.ntmps175
    go_wp2_with (first | (go_at_call 146; refine (A _).mono ?_; rintro e w' ⟨rfl, ⟨n1, rfl⟩⟩))
    go_ret
    exact ⟨by simp [innerB, hl], by repeat (first | exact Drawn0.refl _ | apply Drawn0.step)⟩
  | false =>
    rw [hl] at A
    cases hu : upperB b with
    | true =>
      rw [hu] at B
      go_enter Tryz.func175, Tryz.ntmps175
      go_wp2_with (first | (go_at_call 146; refine (A _).mono ?_; rintro e w' ⟨rfl, ⟨n1, rfl⟩⟩) | (go_at_call 201; refine (B _).mono ?_; rintro e w' ⟨rfl, ⟨n2, rfl⟩⟩))
      go_ret
      exact ⟨by simp [innerB, hu], by repeat (first | exact Drawn0.refl _ | apply Drawn0.step)⟩
    | false =>
      rw [hu] at B
      cases hd : digitB b with
      | true =>
        rw [hd] at C
        go_enter Tryz.func175, Tryz.ntmps175
        go_wp2_with (first | (go_at_call 146; refine (A _).mono ?_; rintro e w' ⟨rfl, ⟨n1, rfl⟩⟩) | (go_at_call 201; refine (B _).mono ?_; rintro e w' ⟨rfl, ⟨n2, rfl⟩⟩) | (go_at_call 202; refine (C _).mono ?_; rintro e w' ⟨rfl, ⟨n3, rfl⟩⟩))
        go_ret
        exact ⟨by simp [innerB, hd], by repeat (first | exact Drawn0.refl _ | apply Drawn0.step)⟩
      | false =>
        rw [hd] at C
        go_enter Tryz.func175, Tryz.ntmps175
        go_wp2_with (first | (go_at_call 146; refine (A _).mono ?_; rintro e w' ⟨rfl, ⟨n1, rfl⟩⟩) | (go_at_call 201; refine (B _).mono ?_; rintro e w' ⟨rfl, ⟨n2, rfl⟩⟩) | (go_at_call 202; refine (C _).mono ?_; rintro e w' ⟨rfl, ⟨n3, rfl⟩⟩))
        go_ret
        exact ⟨by simp [innerB, hl, hu, hd], by repeat (first | exact Drawn0.refl _ | apply Drawn0.step)⟩

/-- How many bytes from the beginning on are so. -/
def spanN (p : Int → Bool) (s : ByteArray) : Nat := (s.data.toList.takeWhile fun c => p (c.toNat : Int)).length

theorem spanN_le (p : Int → Bool) (s : ByteArray) : spanN p s ≤ s.size := by
  have := (List.takeWhile_sublist (fun c : UInt8 => p (c.toNat : Int)) (l := s.data.toList)).length_le
  rw [data_length] at this
  exact this

theorem takeWhile_len {α : Type} (q : α → Bool) (l : List α) (k : Nat) (hk : k ≤ l.length) (hall : ∀ j (h : j < l.length), j < k → q l[j] = true) (hend : k = l.length ∨ ∃ h : k < l.length, q l[k] = false) : (l.takeWhile q).length = k := by
  induction l generalizing k with
  | nil => simp at hk ⊢; omega
  | cons a l ih =>
    cases k with
    | zero =>
      rcases hend with h | ⟨h, hq⟩
      · simp at h
      · simp at hq; simp [List.takeWhile_cons, hq]
    | succ k =>
      have ha : q a = true := hall 0 (by simp) (by omega)
      simp only [List.takeWhile_cons, ha, if_true, List.length_cons, Nat.add_right_cancel_iff]
      refine ih k (by simp at hk; omega) (fun j h hj => ?_) ?_
      · have := hall (j + 1) (by simp; omega) (by omega); simpa using this
      · rcases hend with h | ⟨h, hq⟩
        · left; simp at h; omega
        · right; exact ⟨by simp at h; omega, by simpa using hq⟩

theorem bt_get (s : ByteArray) (k : Nat) (h : k < s.data.toList.length) : bt s (k : Int) = ((s.data.toList[k]).toNat : Int) := by
  have h' : k < s.size := by rw [data_length] at h; exact h
  have := bt_at s (k : Int) (by simpa using h')
  rw [← this]; simp; rfl

theorem spanN_of (p : Int → Bool) (s : ByteArray) (k : Nat) (hk : k ≤ s.size) (hall : ∀ j, j < k → p (bt s ((j : Nat) : Int)) = true) (hend : k = s.size ∨ (k < s.size ∧ p (bt s (k : Int)) = false)) : spanN p s = k := by
  have hl := data_length s
  refine takeWhile_len _ _ k (by omega) (fun j h hj => ?_) ?_
  · have := hall j hj; rw [bt_get s j h] at this; exact this
  · rcases hend with h | ⟨h, hq⟩
    · left; omega
    · right; refine ⟨by omega, ?_⟩; rw [bt_get s k (by omega)] at hq; exact hq

theorem span_calls (g : Nat) (p : Int → Bool) (eg : ∀ args w, (callFunc g args).run Tryz.prog w = .ok (.enter g args) w) (hp : ByteFn g p) (s : ByteArray) (w : World) (hs : s.size ≤ 9223372036854775807) :
    Calls Tryz.prog 174 #[.string s, .func (.func g) #[] #[]] w fun e w' => e = .returned (.int .i64 (spanN p s : Nat)) ∧ Drawn0 w w' := by
  go_enter Tryz.func174, Tryz.ntmps174
  go_wp2
  go_loopw [8] (fun i wr => ∃ k : Nat, k ≤ s.size ∧ i = .int .i64 k ∧ Aside0 (∀ j, j < k → p (bt s ((j : Nat) : Int)) = true) ∧ Drawn0 w wr) (fun i _ => s.size - (intOf i).toNat)
  case atStart => exact ⟨0, Nat.zero_le _, rfl, ⟨fun j hj => absurd hj (Nat.not_lt_zero _)⟩, Drawn0.refl _⟩
  case round =>
    obtain ⟨k, hk, rfl, A, ⟨n0, rfl⟩⟩ := hrel
    by_cases hlt : k < s.size
    · have hbt := bt_at s (k : Int) (by simpa using hlt)
      have hr := bt_range s (k : Int)
      have hcall := fun W => hp (bt s (k : Int)) W hr.1 hr.2
      rw [← hbt] at hcall
      simp only [Int.toNat_natCast] at hcall
      clear hp hr hbt
      cases hq : p (s[k].toNat : Int) with
      | true =>
        rw [hq] at hcall
        go_wp2_with (go_at_fn g; refine (hcall _).mono ?_; rintro e w' ⟨rfl, ⟨n1, rfl⟩⟩)
        go_roundw
        case rel =>
          refine ⟨k + 1, by omega, by go_num, ⟨fun j hj => ?_⟩, by repeat (first | exact Drawn0.refl _ | apply Drawn0.step)⟩
          by_cases e : j < k
          · exact A.out j e
          · obtain rfl : j = k := by omega
            rw [← bt_at s (j : Int) (by simpa using hlt)]
            simpa using hq
        case measure => simp [intOf]; omega
      | false =>
        rw [hq] at hcall
        go_wp2_with (go_at_fn g; refine (hcall _).mono ?_; rintro e w' ⟨rfl, ⟨n1, rfl⟩⟩)
        go_ret
        have hS : spanN p s = k := spanN_of p s k hk A.out (.inr ⟨hlt, by rw [← bt_at s (k : Int) (by simpa using hlt)]; simpa using hq⟩)
        exact ⟨by rw [hS]; rfl, by repeat (first | exact Drawn0.refl _ | apply Drawn0.step)⟩
    · obtain rfl : k = s.size := by omega
      clear hp
      go_wp2
      go_ret
      have hS : spanN p s = s.size := spanN_of p s s.size hk A.out (.inl rfl)
      exact ⟨by rw [hS]; rfl, by repeat (first | exact Drawn0.refl _ | apply Drawn0.step)⟩

theorem lower_eg : ∀ args w, (callFunc 146 args).run Tryz.prog w = .ok (.enter 146 args) w := enters_of Tryz.func146 (by kernel_rfl) rfl
theorem inner_eg : ∀ args w, (callFunc 175 args).run Tryz.prog w = .ok (.enter 175 args) w := enters_of Tryz.func175 (by kernel_rfl) rfl

/-- A text is a name whose first byte is so. -/
def shapedB (p : Int → Bool) (s : ByteArray) : Bool := decide (0 < s.size) && (decide (s.size ≤ 24) && (p (bt s 0) && decide (spanN innerB s = s.size)))

end Go.Proofs.YticndoihkfbpoaaGreatDoor
