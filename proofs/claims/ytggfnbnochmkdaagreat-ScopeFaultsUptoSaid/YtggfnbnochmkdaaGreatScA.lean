/- JOINED of 2 texts: Contracts of the functions of package scan that only look at bytes: lower, upper, digit, inner, span, shaped, IsCon. Contracts of the functions of package scan that say what a text is: shaped, IsCon, IsWord, IsName. -/
import Derived.Test.YtggfnbnochmkdaaGreatBase
import Derived.Test.YtggfnbnochmkdaaGreatPScopex1
namespace Go.Proofs.YtggfnbnochmkdaaGreat
open Go Go.RowKit Go.Lib Go.Proofs.YtggfnbnochmkdaaGreatW.PrintWords
set_option maxRecDepth 100000
set_option linter.unusedSimpArgs false
set_option linter.unusedVariables false
def lowerB (b : Int) : Bool := decide (97 ≤ b) && decide (b ≤ 122)
def upperB (b : Int) : Bool := decide (65 ≤ b) && decide (b ≤ 90)
def digitB (b : Int) : Bool := decide (48 ≤ b) && decide (b ≤ 57)
def innerB (b : Int) : Bool := lowerB b || upperB b || digitB b || b == 95
def ByteFn (g : Nat) (p : Int → Bool) : Prop :=
 ∀ (b : Int) (w : World), 0 ≤ b → b ≤ 255 → Calls Tryz.prog g #[.int .u8 b] w fun e w' => e = .returned (.bool (p b)) ∧ Drawn0 w w'
theorem lower_fn : ByteFn 91 lowerB := by
 intro b w h0 h1
 by_cases c : 97 ≤ b
 · have c1 : decide (97 ≤ b) = true := decide_eq_true c
   go_enter Tryz.func91, Tryz.ntmps91
   go_wp2
   go_ret
   exact ⟨by show Ending.returned (.bool _) = _; simp only [lowerB, c1, Bool.true_and, Bool.false_and], Drawn0.refl _⟩
 · have c1 : decide (97 ≤ b) = false := decide_eq_false c
   go_enter Tryz.func91, Tryz.ntmps91
   go_wp2
   go_ret
   exact ⟨by show Ending.returned (.bool _) = _; simp only [lowerB, c1, Bool.true_and, Bool.false_and], Drawn0.refl _⟩
theorem upper_fn : ByteFn 95 upperB := by
 intro b w h0 h1
 by_cases c : 65 ≤ b
 · have c1 : decide (65 ≤ b) = true := decide_eq_true c
   go_enter Tryz.func95, Tryz.ntmps95
   go_wp2
   go_ret
   exact ⟨by show Ending.returned (.bool _) = _; simp only [upperB, c1, Bool.true_and, Bool.false_and], Drawn0.refl _⟩
 · have c1 : decide (65 ≤ b) = false := decide_eq_false c
   go_enter Tryz.func95, Tryz.ntmps95
   go_wp2
   go_ret
   exact ⟨by show Ending.returned (.bool _) = _; simp only [upperB, c1, Bool.true_and, Bool.false_and], Drawn0.refl _⟩
theorem digit_fn : ByteFn 116 digitB := by
 intro b w h0 h1
 by_cases c : 48 ≤ b
 · have c1 : decide (48 ≤ b) = true := decide_eq_true c
   go_enter Tryz.func116, Tryz.ntmps116
   go_wp2
   go_ret
   exact ⟨by show Ending.returned (.bool _) = _; simp only [digitB, c1, Bool.true_and, Bool.false_and], Drawn0.refl _⟩
 · have c1 : decide (48 ≤ b) = false := decide_eq_false c
   go_enter Tryz.func116, Tryz.ntmps116
   go_wp2
   go_ret
   exact ⟨by show Ending.returned (.bool _) = _; simp only [digitB, c1, Bool.true_and, Bool.false_and], Drawn0.refl _⟩
theorem inner_fn : ByteFn 109 innerB := by
 intro b w h0 h1
 have A := fun W => lower_fn b W h0 h1
 have B := fun W => upper_fn b W h0 h1
 have C := fun W => digit_fn b W h0 h1
 cases hl : lowerB b with
 | true =>
   rw [hl] at A
   go_enter Tryz.func109, Tryz.ntmps109
   go_wp2_with (first | (go_at_call 91; refine (A _).mono ?_; rintro e w' ⟨rfl, ⟨n1, rfl⟩⟩))
   go_ret
   exact ⟨by simp [innerB, hl], by repeat (first | exact Drawn0.refl _ | apply Drawn0.step)⟩
 | false =>
   rw [hl] at A
   cases hu : upperB b with
   | true =>
     rw [hu] at B
     go_enter Tryz.func109, Tryz.ntmps109
     go_wp2_with (first | (go_at_call 91; refine (A _).mono ?_; rintro e w' ⟨rfl, ⟨n1, rfl⟩⟩) | (go_at_call 95; refine (B _).mono ?_; rintro e w' ⟨rfl, ⟨n2, rfl⟩⟩))
     go_ret
     exact ⟨by simp [innerB, hu], by repeat (first | exact Drawn0.refl _ | apply Drawn0.step)⟩
   | false =>
     rw [hu] at B
     cases hd : digitB b with
     | true =>
       rw [hd] at C
       go_enter Tryz.func109, Tryz.ntmps109
       go_wp2_with (first | (go_at_call 91; refine (A _).mono ?_; rintro e w' ⟨rfl, ⟨n1, rfl⟩⟩) | (go_at_call 95; refine (B _).mono ?_; rintro e w' ⟨rfl, ⟨n2, rfl⟩⟩) | (go_at_call 116; refine (C _).mono ?_; rintro e w' ⟨rfl, ⟨n3, rfl⟩⟩))
       go_ret
       exact ⟨by simp [innerB, hd], by repeat (first | exact Drawn0.refl _ | apply Drawn0.step)⟩
     | false =>
       rw [hd] at C
       go_enter Tryz.func109, Tryz.ntmps109
       go_wp2_with (first | (go_at_call 91; refine (A _).mono ?_; rintro e w' ⟨rfl, ⟨n1, rfl⟩⟩) | (go_at_call 95; refine (B _).mono ?_; rintro e w' ⟨rfl, ⟨n2, rfl⟩⟩) | (go_at_call 116; refine (C _).mono ?_; rintro e w' ⟨rfl, ⟨n3, rfl⟩⟩))
       go_ret
       exact ⟨by simp [innerB, hl, hu, hd], by repeat (first | exact Drawn0.refl _ | apply Drawn0.step)⟩
def spanN (p : Int → Bool) (s : ByteArray) : Nat := (s.data.toList.takeWhile fun c => p (c.toNat : Int)).length
theorem spanN_le (p : Int → Bool) (s : ByteArray) : spanN p s ≤ s.size := by
 have := (List.takeWhile_sublist (fun c : UInt8 => p (c.toNat : Int)) (l := s.data.toList)).length_le
 rw [data_length] at this
 exact this
theorem takeWhile_len {α : Type} (q : α → Bool) (l : List α) (k : Nat) (hk : k ≤ l.length) (hall : ∀ j (h : j < l.length), j < k → q l[j] = true) (hend : k = l.length ∨ ∃ h : k < l.length, q l[k] = false) : (l.takeWhile q).length = k := by
 induction l generalizing k with
 | nil => simp at hk ⊢; omega
 | cons a l ih =>
   cases k with
   | zero =>
     rcases hend with h | ⟨h, hq⟩
     · simp at h
     · simp at hq; simp [List.takeWhile_cons, hq]
   | succ k =>
     have ha : q a = true := hall 0 (by simp) (by omega)
     simp only [List.takeWhile_cons, ha, if_true, List.length_cons, Nat.add_right_cancel_iff]
     refine ih k (by simp at hk; omega) (fun j h hj => ?_) ?_
     · have := hall (j + 1) (by simp; omega) (by omega); simpa using this
     · rcases hend with h | ⟨h, hq⟩
       · left; simp at h; omega
       · right; exact ⟨by simp at h; omega, by simpa using hq⟩
theorem bt_get (s : ByteArray) (k : Nat) (h : k < s.data.toList.length) : bt s (k : Int) = ((s.data.toList[k]).toNat : Int) := by
 have h' : k < s.size := by rw [data_length] at h; exact h
 have := bt_at s (k : Int) (by simpa using h')
 rw [← this]; simp; rfl
theorem spanN_of (p : Int → Bool) (s : ByteArray) (k : Nat) (hk : k ≤ s.size) (hall : ∀ j, j < k → p (bt s ((j : Nat) : Int)) = true) (hend : k = s.size ∨ (k < s.size ∧ p (bt s (k : Int)) = false)) : spanN p s = k := by
 have hl := data_length s
 refine takeWhile_len _ _ k (by omega) (fun j h hj => ?_) ?_
 · have := hall j hj; rw [bt_get s j h] at this; exact this
 · rcases hend with h | ⟨h, hq⟩
   · left; omega
   · right; refine ⟨by omega, ?_⟩; rw [bt_get s k (by omega)] at hq; exact hq
theorem span_calls (g : Nat) (p : Int → Bool) (eg : ∀ args w, (callFunc g args).run Tryz.prog w = .ok (.enter g args) w) (hp : ByteFn g p) (s : ByteArray) (w : World) (hs : s.size ≤ 9223372036854775807) :
   Calls Tryz.prog 108 #[.string s, .func (.func g) #[] #[]] w fun e w' => e = .returned (.int .i64 (spanN p s : Nat)) ∧ Drawn0 w w' := by
 go_enter Tryz.func108, Tryz.ntmps108
 go_wp2
 go_loopw [8] (fun i wr => ∃ k : Nat, k ≤ s.size ∧ i = .int .i64 k ∧ Aside0 (∀ j, j < k → p (bt s ((j : Nat) : Int)) = true) ∧ Drawn0 w wr) (fun i _ => s.size - (intOf i).toNat)
 case atStart => exact ⟨0, Nat.zero_le _, rfl, ⟨fun j hj => absurd hj (Nat.not_lt_zero _)⟩, Drawn0.refl _⟩
 case round =>
   obtain ⟨k, hk, rfl, A, ⟨n0, rfl⟩⟩ := hrel
   by_cases hlt : k < s.size
   · have hbt := bt_at s (k : Int) (by simpa using hlt)
     have hr := bt_range s (k : Int)
     have hcall := fun W => hp (bt s (k : Int)) W hr.1 hr.2
     rw [← hbt] at hcall
     simp only [Int.toNat_natCast] at hcall
     clear hp hr hbt
     cases hq : p (s[k].toNat : Int) with
     | true =>
       rw [hq] at hcall
       go_wp2_with (go_at_fn g; refine (hcall _).mono ?_; rintro e w' ⟨rfl, ⟨n1, rfl⟩⟩)
       go_roundw
       case rel =>
         refine ⟨k + 1, by omega, by go_num, ⟨fun j hj => ?_⟩, by repeat (first | exact Drawn0.refl _ | apply Drawn0.step)⟩
         by_cases e : j < k
         · exact A.out j e
         · obtain rfl : j = k := by omega
           rw [← bt_at s (j : Int) (by simpa using hlt)]
           simpa using hq
       case measure => simp [intOf]; omega
     | false =>
       rw [hq] at hcall
       go_wp2_with (go_at_fn g; refine (hcall _).mono ?_; rintro e w' ⟨rfl, ⟨n1, rfl⟩⟩)
       go_ret
       have hS : spanN p s = k := spanN_of p s k hk A.out (.inr ⟨hlt, by rw [← bt_at s (k : Int) (by simpa using hlt)]; simpa using hq⟩)
       exact ⟨by rw [hS]; rfl, by repeat (first | exact Drawn0.refl _ | apply Drawn0.step)⟩
   · obtain rfl : k = s.size := by omega
     clear hp
     go_wp2
     go_ret
     have hS : spanN p s = s.size := spanN_of p s s.size hk A.out (.inl rfl)
     exact ⟨by rw [hS]; rfl, by repeat (first | exact Drawn0.refl _ | apply Drawn0.step)⟩
theorem lower_eg : ∀ args w, (callFunc 91 args).run Tryz.prog w = .ok (.enter 91 args) w := enters_of Tryz.func91 (by kernel_rfl) rfl
theorem upper_eg : ∀ args w, (callFunc 95 args).run Tryz.prog w = .ok (.enter 95 args) w := enters_of Tryz.func95 (by kernel_rfl) rfl
theorem inner_eg : ∀ args w, (callFunc 109 args).run Tryz.prog w = .ok (.enter 109 args) w := enters_of Tryz.func109 (by kernel_rfl) rfl
def shapedB (p : Int → Bool) (s : ByteArray) : Bool := decide (0 < s.size) && (decide (s.size ≤ 24) && (p (bt s 0) && decide (spanN innerB s = s.size)))
def wordList : List ByteArray := (PScope.scan_words.f).getD []
theorem words_eq : PScope.scan_words.f = some wordList := rfl
def isWordB (s : ByteArray) : Bool := wordList.any fun x => decide (x = s)
theorem wrap_add {i : Int} (h0 : 0 ≤ i) (h : i < 9223372036854775807) : wrap64 (i + 1) = i + 1 := by unfold wrap64; omega
theorem toList_inj {a b : ByteArray} (h : a.toList = b.toList) : a = b := by
 rw [ByteArray.toList_eq, ByteArray.toList_eq] at h
 cases a; cases b; congr 1; exact Array.toList_inj.mp h
theorem index_tells (l : List ByteArray) (a : ByteArray) (hl : l.length < 9223372036854775807) (d : Nat) : ∀ (k i : Nat), i ≤ l.length → l.length - i = d → d < k →
   ∃ r, PScope.slices_Index_string_string.l0 k l a (l.length : Int) (i : Int) = some r ∧ (decide (r ≥ 0) = (l.drop i).any fun x => decide (x = a)) := by
 induction d with
 | zero =>
   intro k i hi hd hk
   obtain ⟨k, rfl⟩ : ∃ m, k = m + 1 := ⟨k - 1, by omega⟩
   obtain rfl : i = l.length := by omega
   refine ⟨-1, ?_, by simp⟩
   simp only [PScope.slices_Index_string_string.l0]
   rw [if_neg (by omega)]
 | succ d ih =>
   intro k i hi hd hk
   obtain ⟨k, rfl⟩ : ∃ m, k = m + 1 := ⟨k - 1, by omega⟩
   have hlt : i < l.length := by omega
   have hdr : l.drop i = l[i] :: l.drop (i + 1) := List.drop_eq_getElem_cons hlt
   have hrd : rdOf ByteArray.empty l (i : Int) = l[i] := by simp [rdOf, hlt]
   simp only [PScope.slices_Index_string_string.l0]
   rw [if_pos (by omega), if_pos (by omega), if_pos (by omega), hrd]
   by_cases e : a.toList = l[i].toList
   · rw [if_pos e]
     refine ⟨_, rfl, ?_⟩
     rw [hdr]
     have : l[i] = a := (toList_inj e).symm
     simp [this]
   · rw [if_neg e]
     obtain ⟨r, hr, hany⟩ := ih k (i + 1) (by omega) (by omega) (by omega)
     refine ⟨r, ?_, ?_⟩
     · rw [wrap_add (by omega) (by omega)]; exact_mod_cast hr
     · have : ¬ l[i] = a := by rintro rfl; exact e rfl
       rw [hany, hdr, List.any_cons, decide_eq_false this, Bool.false_or]
theorem isWord_eq (s : ByteArray) (k : Nat) (hk : 21 < k) : PScope.scan_IsWord.f k s = some (isWordB s) := by
 unfold PScope.scan_IsWord.f PScope.slices_Contains_string_string.f PScope.slices_Index_string_string.f
 rw [words_eq]
 simp only [Option.bind_some]
 obtain ⟨r, hr, hany⟩ := index_tells wordList s (by decide) 21 k 0 (by simp) (by decide) hk
 rw [show ((0 : Nat) : Int) = 0 from rfl] at hr
 rw [hr]
 simp only [Option.bind_some]
 rw [hany]; simp [isWordB]
theorem isWord_calls (s : ByteArray) (w : World) : Calls Tryz.prog 92 #[.string s] w fun e w' => e = .returned (.bool (isWordB s)) ∧ Below w.heap.size w w' :=
 PScope.scan_IsWord.calls 22 s _ w (isWord_eq s 22 (by omega))
theorem shaped_calls (g : Nat) (p : Int → Bool) (eg : ∀ args w, (callFunc g args).run Tryz.prog w = .ok (.enter g args) w) (hp : ByteFn g p) (s : ByteArray) (w : World) :
   Calls Tryz.prog 90 #[.string s, .func (.func g) #[] #[]] w fun e w' => e = .returned (.bool (shapedB p s)) ∧ Drawn0 w w' := by
 by_cases c0 : s.size = 0
 · have e0 : s.toList = [] := by rw [ByteArray.toList_eq]; exact List.eq_nil_of_length_eq_zero (by rw [data_length]; exact c0)
   have e1 : (!s.toList.isEmpty) = false := by rw [e0]; rfl
   have hfin : shapedB p s = false := by simp [shapedB, c0]
   have Hfin := Lib.hid hfin
   clear hfin hp eg
   go_enter Tryz.func90, Tryz.ntmps90
   go_wp2
   go_ret
   exact ⟨by rw [Hfin.out]; rfl, by repeat (first | exact Drawn0.refl _ | apply Drawn0.step)⟩
 · have e1 : s.toList.isEmpty = false := by rw [ByteArray.toList_eq]; cases h : s.data.toList with
     | nil => have := data_length s; rw [h] at this; simp at this; omega
     | cons _ _ => rfl
   have e2 : (!s.toList.isEmpty) = true := by rw [e1]; rfl
   have hpos : 0 < s.size := by omega
   by_cases c1 : s.size ≤ 24
   · have d1 : decide ((s.size : Int) ≤ 24) = true := decide_eq_true (by omega)
     have hbt := bt_at s 0 (by simpa using hpos)
     have hr := bt_range s 0
     have hcall := fun W => hp (bt s 0) W hr.1 hr.2
     rw [← hbt] at hcall
     simp only [Int.toNat_zero] at hcall
     cases hq : p (s[0].toNat : Int) with
     | false =>
       rw [hq] at hcall
       have hfin : shapedB p s = false := by
         have : p (bt s 0) = false := by rw [← hbt]; exact hq
         simp [shapedB, this]
       have Hfin := Lib.hid hfin
       clear hfin hp hbt hr
       go_enter Tryz.func90, Tryz.ntmps90
       go_wp2_with (go_at_fn g; refine (hcall _).mono ?_; rintro e w' ⟨rfl, ⟨n1, rfl⟩⟩)
       go_ret
       exact ⟨by rw [Hfin.out]; rfl, by repeat (first | exact Drawn0.refl _ | apply Drawn0.step)⟩
     | true =>
       rw [hq] at hcall
       have hfin : shapedB p s = ((spanN innerB s : Int) == (s.size : Int)) := by
         have h1 : p (bt s 0) = true := by rw [← hbt]; exact hq
         have h2 : decide (spanN innerB s = s.size) = ((spanN innerB s : Int) == (s.size : Int)) := by
           rw [Bool.eq_iff_iff]; simp; omega
         rw [← h2]
         simp [shapedB, h1, hpos, c1]
       have Hfin := Lib.hid hfin
       have hle := spanN_le innerB s
       have hsp := fun W => span_calls 109 innerB inner_eg inner_fn s W (by omega)
       clear hfin hp hbt hr
       generalize hz : spanN innerB s = z at hsp hle
       have Hz := Lib.hid hz
       clear hz
       go_enter Tryz.func90, Tryz.ntmps90
       go_wp2_with (first | (go_at_fn g; refine (hcall _).mono ?_; rintro e w' ⟨rfl, ⟨n1, rfl⟩⟩) | (go_at_call 108; refine (hsp _).mono ?_; rintro e w' ⟨rfl, ⟨n2, rfl⟩⟩))
       go_ret
       exact ⟨by rw [Hfin.out, Hz.out]; rfl, by repeat (first | exact Drawn0.refl _ | apply Drawn0.step)⟩
   · have d1 : decide ((s.size : Int) ≤ 24) = false := decide_eq_false (by omega)
     have hfin : shapedB p s = false := by simp [shapedB, c1]
     have Hfin := Lib.hid hfin
     clear hfin hp eg
     go_enter Tryz.func90, Tryz.ntmps90
     go_wp2
     go_ret
     exact ⟨by rw [Hfin.out]; rfl, by repeat (first | exact Drawn0.refl _ | apply Drawn0.step)⟩
def isConB (s : ByteArray) : Bool := shapedB upperB s
def isNameB (s : ByteArray) : Bool := shapedB lowerB s && !isWordB s
theorem isCon_calls (s : ByteArray) (w : World) : Calls Tryz.prog 69 #[.string s] w fun e w' => e = .returned (.bool (isConB s)) ∧ Drawn0 w w' := by
 have hc := fun W => shaped_calls 95 upperB upper_eg upper_fn s W
 unfold isConB
 generalize shapedB upperB s = b at hc
 go_enter Tryz.func69, Tryz.ntmps69
 go_wp2_with (go_at_call 90; refine (hc _).mono ?_; rintro e w' ⟨rfl, ⟨n2, rfl⟩⟩)
 go_ret
 exact ⟨rfl, by repeat (first | exact Drawn0.refl _ | apply Drawn0.step)⟩
theorem isName_calls (s : ByteArray) (w : World) : Calls Tryz.prog 65 #[.string s] w fun e w' => e = .returned (.bool (isNameB s)) ∧ Below w.heap.size w w' := by
 have hc := fun W => shaped_calls 91 lowerB lower_eg lower_fn s W
 have hw := fun W => isWord_calls s W
 unfold isNameB
 generalize shapedB lowerB s = b at hc
 generalize isWordB s = c at hw
 cases b with
 | false =>
   go_enter Tryz.func65, Tryz.ntmps65
   go_wp2_with (go_at_call 90; refine (hc _).mono ?_; rintro e w' ⟨rfl, ⟨n2, rfl⟩⟩)
   go_ret
   exact ⟨rfl, by first | exact Below.refl _ _ | (apply pw_below_drewN; exact Below.refl _ _)⟩
 | true =>
   go_enter Tryz.func65, Tryz.ntmps65
   go_wp2_with (first | (go_at_call 90; refine (hc _).mono ?_; rintro e w' ⟨rfl, ⟨n2, rfl⟩⟩) | (go_at_call 92; refine (hw _).mono ?_; rintro e w' ⟨rfl, hb⟩))
   go_ret
   exact ⟨rfl, below_then (pw_below_drewN (Below.refl _ _) n2) (Nat.le_refl _) hb⟩
end Go.Proofs.YtggfnbnochmkdaaGreat
