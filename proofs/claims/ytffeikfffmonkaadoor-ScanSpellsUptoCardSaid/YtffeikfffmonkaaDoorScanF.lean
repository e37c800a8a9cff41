/- Contract of package scan: token, the token that is left first. -/
import Derived.Test.YtffeikfffmonkaaDoorScanE
namespace Go.Proofs.YtffeikfffmonkaaDoor
open Go Go.RowKit Go.Lib Go.Proofs.YtffeikfffmonkaaDoorW.PrintWords Go.Proofs.YtffeikfffmonkaaDoorW.PrintMore
set_option maxRecDepth 100000
set_option linter.unusedSimpArgs false
set_option linter.unusedVariables false

theorem infoTok : (Tryd.prog.info? 32).map (fun i => (i.zero, i.size, i.bytes)) = some (some (.agg #[(.int .i64 0), (.string ⟨#[]⟩), (.int .i64 0), (.int .i64 0), (.int .i64 0)]), 5, 48) := by kernel_rfl

/-! ### A text of digits is a number, or too great a one -/
theorem parseM_digits (M : Nat) (l : List UInt8) : ∀ acc, (∀ c ∈ l, 48 ≤ c.toNat ∧ c.toNat ≤ 57) → (∃ n, Lib.parseUintM M acc l = .ok n) ∨ Lib.parseUintM M acc l = .range := by
  induction l with
  | nil => intro acc _; exact .inl ⟨acc, rfl⟩
  | cons c r ih =>
    intro acc hl
    rw [Lib.parseUintM, if_pos (hl c (by simp))]
    split
    · exact .inr rfl
    · split
      · exact .inr rfl
      · exact ih _ (fun d hd => hl d (by simp [hd]))

theorem parse_digits (l : List UInt8) (h0 : l ≠ []) (hl : ∀ c ∈ l, 48 ≤ c.toNat ∧ c.toNat ≤ 57) : (∃ v, Lib.parseIntB 64 l = .ok v) ∨ Lib.parseIntB 64 l = .range := by
  cases l with
  | nil => exact absurd rfl h0
  | cons c r =>
    have hc := hl c (by simp)
    unfold Lib.parseIntB
    simp only
    rw [if_neg (by omega)]
    have hu : (∃ n, Lib.parseUintB 64 (c :: r) = .ok n) ∨ Lib.parseUintB 64 (c :: r) = .range := by
      unfold Lib.parseUintB
      rw [if_neg (by simp)]
      exact parseM_digits _ _ _ hl
    rcases hu with ⟨u, hu⟩ | hu
    · rw [hu]; simp only; split
      · exact .inr rfl
      · split
        · exact .inr rfl
        · exact .inl ⟨_, rfl⟩
    · rw [hu]; exact .inr rfl

theorem headOf_data (s : ByteArray) (n : Nat) : (headOf s n).data.toList = s.data.toList.take n := by
  unfold headOf
  rw [Lib.extract_eq]; simp

theorem take_takeWhile {α : Type} (q : α → Bool) (l : List α) : l.take (l.takeWhile q).length = l.takeWhile q := by
  induction l with
  | nil => rfl
  | cons a l ih =>
    by_cases h : q a = true
    · simp [List.takeWhile_cons, h, ih]
    · simp [List.takeWhile_cons, h]

theorem takeWhile_all {α : Type} (q : α → Bool) (l : List α) : ∀ c, c ∈ l.takeWhile q → q c = true := by
  induction l with
  | nil => intro c hc; simp at hc
  | cons a l ih =>
    intro c hc
    by_cases h : q a = true
    · simp only [List.takeWhile_cons, h, if_true, List.mem_cons] at hc
      rcases hc with rfl | hc
      · exact h
      · exact ih c hc
    · simp [List.takeWhile_cons, h] at hc

theorem digits_number (s : ByteArray) (h0 : 0 < spanN digitB s) : (∃ v, Lib.parseIntB 64 (headOf s (spanN digitB s)).data.toList = .ok v) ∨ Lib.parseIntB 64 (headOf s (spanN digitB s)).data.toList = .range := by
  rw [headOf_data]
  refine parse_digits _ ?_ ?_
  · intro h
    have hl := congrArg List.length h
    have := spanN_le digitB s
    have hd := data_length s
    simp only [List.length_take, List.length_nil] at hl
    omega
  · intro c hc
    unfold spanN at hc
    rw [take_takeWhile] at hc
    have hp := takeWhile_all _ _ c hc
    simp only [digitB, Bool.and_eq_true, decide_eq_true_eq] at hp
    omega

theorem spanN_pos (p : Int → Bool) (s : ByteArray) (h0 : 0 < s.size) (hp : p (bt s 0) = true) : 0 < spanN p s := by
  have hl : 0 < s.data.toList.length := by rw [data_length]; exact h0
  have hb := bt_get s 0 hl
  rw [show ((0 : Nat) : Int) = 0 from rfl] at hb
  unfold spanN
  cases hd : s.data.toList with
  | nil => rw [hd] at hl; simp at hl
  | cons a r =>
    simp only [hd, List.getElem_cons_zero] at hb
    rw [hb] at hp
    simp [List.takeWhile_cons, hp]

/-- The token that a text begins with: its sort, its text, its number, whether there is one. -/
def tokOf (s : ByteArray) : Int × ByteArray × Int × Bool :=
  if digitB (bt s 0) then (3, headOf s (spanN digitB s), numN (headOf s (spanN digitB s)), numOk s (headOf s (spanN digitB s)))
  else if lowerB (bt s 0) || upperB (bt s 0) then (nameSort (headOf s (spanN innerB s)), headOf s (spanN innerB s), 0, decide (((headOf s (spanN innerB s)).size : Int) ≤ 24))
  else match signOf s with
    | some x => (4, x, 0, true)
    | none => (0, ⟨#[]⟩, 0, false)

def tokVal (q : Int × ByteArray × Int × Bool) : Value := .tuple #[.agg #[.int .i64 q.1, .string q.2.1, .int .i64 q.2.2.1, .int .i64 0, .int .i64 0], .bool q.2.2.2]

theorem read_number (s : ByteArray) (hs : s.size ≤ 281474976710656) (h0 : 0 < s.size) (hd : digitB (bt s 0) = true) (w : World) (hL : Laid w) :
    Calls Tryd.prog 46 #[.string s] w fun e w' => e = .returned (tokVal (tokOf s)) ∧ Below w.heap.size w w' := by
  have hp := spanN_pos digitB s h0 hd
  have := number_calls s w hL hs hp (digits_number s hp)
  unfold tokOf; rw [if_pos hd]; exact this

theorem read_name (s : ByteArray) (hs : s.size ≤ 281474976710656) (h0 : 0 < s.size) (hd : digitB (bt s 0) = false) (hl : (lowerB (bt s 0) || upperB (bt s 0)) = true) (w : World) :
    Calls Tryd.prog 47 #[.string s] w fun e w' => e = .returned (tokVal (tokOf s)) ∧ Below w.heap.size w w' := by
  have hi : innerB (bt s 0) = true := by simp only [innerB, hl, Bool.true_or]
  have := name_calls s w (by omega) (spanN_pos innerB s h0 hi)
  unfold tokOf; rw [if_neg (by simp [hd]), if_pos hl]; exact this

theorem read_sign (s : ByteArray) (hd : digitB (bt s 0) = false) (hl : (lowerB (bt s 0) || upperB (bt s 0)) = false) (w : World) :
    Calls Tryd.prog 44 #[.string s] w fun e w' => e = .returned (tokVal (tokOf s)) ∧ Below w.heap.size w w' := by
  have := sign_calls s w
  unfold tokOf; rw [if_neg (by simp [hd]), if_neg (by simp [hl])]
  cases hq : signOf s with
  | none => rw [hq] at this; exact this
  | some x => rw [hq] at this; exact this

theorem digit_f (c : Int) (h0 : 0 ≤ c) (h1 : c ≤ 255) (W : World) : Calls Tryd.prog 45 #[.int .u8 c] W fun e w' => e = .returned (.bool (digitB c)) ∧ Drawn0 W w' := digit_fn c W h0 h1

theorem five_far {W : World} {g h : Nat} {t : TypeId} {cs : Array Value} (hh : W.heap[h]? = some (.cells cs t (0, 0))) (hne : h ≠ g) (a b c d e : Value) : (five W g a b c d e).heap[h]? = some (.cells cs t (0, 0)) :=
  blk_far (blk_far (blk_far (blk_far (blk_far hh (p := ⟨g, 0, none⟩) hne _) (p := ⟨g, 1, none⟩) hne _) (p := ⟨g, 2, none⟩) hne _) (p := ⟨g, 3, none⟩) hne _) (p := ⟨g, 4, none⟩) hne _
theorem five_keep {w W : World} {g h : Nat} (hk : KeepBut w W h none) (hg : w.heap.size ≤ g) (a b c d e : Value) : KeepBut w (five W g a b c d e) h none :=
  keep_far (keep_far (keep_far (keep_far (keep_far hk (p := ⟨g, 0, none⟩) hg _) (p := ⟨g, 1, none⟩) hg _) (p := ⟨g, 2, none⟩) hg _) (p := ⟨g, 3, none⟩) hg _) (p := ⟨g, 4, none⟩) hg _
theorem five_below' {w W : World} {g : Nat} (h : Below w.heap.size w W) (hg : w.heap.size ≤ g) (a b c d e : Value) : Below w.heap.size w (five W g a b c d e) := five_below h hg a b c d e

namespace PScan
def scan_scanner_token.f (t : ByteArray) (a l c : Int) : Option (Int × ByteArray × Int × Int × Int × Bool × ByteArray × Int × Int × Int) :=
  if 0 ≤ a ∧ a < t.size ∧ t.size ≤ 281474976710656 then some ((tokOf (t.extract a.toNat t.size)).1, (tokOf (t.extract a.toNat t.size)).2.1, (tokOf (t.extract a.toNat t.size)).2.2.1, l, c, (tokOf (t.extract a.toNat t.size)).2.2.2, t, a, l, c) else none

set_option maxHeartbeats 2000000 in
theorem scan_scanner_token.calls (g : Nat) (s0 : ByteArray) (s1 s2 s3 : Int) (r1 : Int) (r2 : ByteArray) (r3 r4 r5 : Int) (r6 : Bool) (r7 : ByteArray) (r8 r9 r10 : Int) (w0 w : World) (hI : IsS38 w0 w g s0 s1 s2 s3) (hB : Below w0.heap.size w0 w) (h : scan_scanner_token.f s0 s1 s2 s3 = some (r1, r2, r3, r4, r5, r6, r7, r8, r9, r10)) (hL : Laid w0) :
    Calls Tryd.prog 23 #[.pointer (some ⟨g, 0, none⟩)] w fun e w' => e = .returned (.tuple #[.agg #[.int .i64 r1, .string r2, .int .i64 r3, .int .i64 r4, .int .i64 r5], .bool r6]) ∧ IsS38 w0 w' g r7 r8 r9 r10 ∧ Below w0.heap.size w0 w' ∧ KeepBut w w' g none := by
  unfold scan_scanner_token.f at h
  by_cases c0 : 0 ≤ s1 ∧ s1 < s0.size ∧ s0.size ≤ 281474976710656
  · rw [if_pos c0] at h
    obtain ⟨c1, c2, c3⟩ := c0
    simp only [Option.some.injEq, Prod.mk.injEq] at h
    obtain ⟨e1, e2, e3, rfl, rfl, e6, rfl, rfl, rfl, rfl⟩ := h
    have hrest := fun W (hi : IsS38 w0 W g s0 s1 s2 s3) hb => scan_scanner_rest.calls g s0 s1 s2 s3 (s0.extract s1.toNat s0.size) s0 s1 s2 s3 w0 W hi hb (by unfold scan_scanner_rest.f; rw [if_pos c1, if_pos (by omega)])
    have hsz : (s0.extract s1.toNat s0.size).size ≤ 281474976710656 := by rw [ByteArray.size_extract]; omega
    have hpos : 0 < (s0.extract s1.toNat s0.size).size := by rw [ByteArray.size_extract]; omega
    generalize s0.extract s1.toNat s0.size = rest at e1 e2 e3 e6 hrest hsz hpos
    have hL0 := Aside0.mk hL
    have HI := Aside0.mk hI
    have HB := Aside0.mk hB
    have hgl := hI.lt
    have HW0 := Aside0.mk hB.size
    have hbt := bt_at rest 0 (by simpa using hpos)
    have hr := bt_range rest 0
    have hD := fun W => digit_fn (bt rest 0) W hr.1 hr.2
    have hLo := fun W => lower_fn (bt rest 0) W hr.1 hr.2
    have hUp := fun W => upper_fn (bt rest 0) W hr.1 hr.2
    have hN := fun hd W hl => read_number rest hsz hpos hd W hl
    have hA := fun hd hl W => read_name rest hsz hpos hd hl W
    have hS := fun hd hl W => read_sign rest hd hl W
    generalize hq : tokOf rest = q at e1 e2 e3 e6 hN hA hS
    obtain ⟨q1, q2, q3, q4⟩ := q
    simp only at e1 e2 e3 e6
    subst e1 e2 e3 e6
    clear hq hL hI hB hsz hr
    have hlt : g < w.heap.size := hgl
    cases hd : digitB (bt rest 0) with
    | true =>
      rw [hd] at hD
      have hread := fun W hl => hN hd W hl
      clear hN hA hS hLo hUp hd
      rw [← hbt] at hD
      simp only [Int.toNat_zero] at hD
      clear hbt
      go_enter Tryd.func23, Tryd.ntmps23
      go_wp2_with fail
      refine (hrest _ (HI.out.alloc _) (below_then HB.out HB.out.size (below_alloc (Below.refl _ _) _))).mono ?_
      rintro e w1 ⟨rfl, hI1, hB1, hK1⟩
      have ht2 : w1.heap[w.heap.size]? = some (.cells #[.int .i64 0, .string { data := #[] }, .int .i64 0, .int .i64 0, .int .i64 0] 32 (0, 0)) := (hK1.2 w.heap.size (by simp) (by omega) (by simp)).trans (blk_new _ _)
      have hL1 : Laid w1 := hL0.out.below hB1
      have H2 := Aside0.mk ht2
      have HI1 := Aside0.mk hI1
      have HB1 := Aside0.mk hB1
      have HK1 := Aside0.mk ((keep_alloc (KeepBut.refl w g none) _).trans hK1 (.inl rfl))
      have HL1 := Aside0.mk hL1
      clear ht2 hI1 hB1 hK1 hL1 HI HB hrest hL0
      go_wp2_with (first | (go_at_call 45; refine (hD _).mono ?_; rintro e w' ⟨rfl, ⟨n0, rfl⟩⟩))
      refine (hread _ (HL1.out.below (pw_below_drewN (Below.refl _ _) _))).mono ?_
      rintro e w2 ⟨rfl, hb2⟩
      have hI2 := (HI1.out.drewN n0).below hb2
      have h22 := below_blk (blk_drewN H2.out n0) hb2
      have HB2 := Aside0.mk (below_then (pw_below_drewN HB1.out n0) (show w0.heap.size ≤ (w1.drewN n0).heap.size from HB1.out.size) hb2)
      have HK2 := Aside0.mk ((keep_drewN HK1.out n0).trans (KeepBut.of_grown (grown_of_below hb2 none) g) (.inl rfl))
      clear hb2 H2 HI1 HB1 HK1 HL1 hread
      have hg2 := hI2.lt
      obtain ⟨HGz, hgz⟩ := hI2
      have hc2 := cellS38_2 HGz
      have hc3 := cellS38_3 HGz
      obtain ⟨⟨b0, b1, b2, b3, b4⟩, f0, f1, f2, f3, f4⟩ := five_cells h22
      have hlt2 := blk_lt h22
      have HI2 := Aside0.mk HGz
      have H22 := Aside0.mk h22
      clear HGz h22
      unfold tokVal
      simp only
      have hg0 := HW0.out
      go_wp2_with fail
      go_region
      all_goals go_wp2_with fail
      all_goals refine bodyPost_ret (results_ct rfl _ _ w.heap.size 32 #[.int .i64 q1, .string q2, .int .i64 q3, .int .i64 s2, .int .i64 s3] (0, 0) _ rfl (by (with_reducible repeat (first | refine blk_drewN ?_ _ | refine blk_drew ?_ | refine blk_alloc ?_ _)); exact five_heap H22.out _ _ _ _ _) Tryd.underlying32 rfl (by kernel_rfl)) rfl ⟨rfl, ⟨by (with_reducible repeat (first | refine blk_drewN ?_ _ | refine blk_drew ?_ | refine blk_alloc ?_ _)); exact five_far HI2.out (by omega) _ _ _ _ _, hgz⟩, ?_, ?_⟩
      · repeat (first | (with_reducible first | apply below_alloc | apply pw_below_drewN | apply below_drew) | exact five_below HB2.out hg0 _ _ _ _ _)
      · repeat (first | (with_reducible first | apply keep_alloc | apply keep_drewN | apply keep_drew) | exact five_keep HK2.out (Nat.le_refl _) _ _ _ _ _)
    | false =>
      rw [hd] at hD
      cases hlo : lowerB (bt rest 0) with
      | true =>
        rw [hlo] at hLo
        have hread := fun W (_ : Laid W) => hA hd (by rw [hlo]; rfl) W
        clear hN hA hS hUp hd hlo
        rw [← hbt] at hD hLo
        simp only [Int.toNat_zero] at hD hLo
        clear hbt
        go_enter Tryd.func23, Tryd.ntmps23
        go_wp2_with fail
        refine (hrest _ (HI.out.alloc _) (below_then HB.out HB.out.size (below_alloc (Below.refl _ _) _))).mono ?_
        rintro e w1 ⟨rfl, hI1, hB1, hK1⟩
        have ht2 : w1.heap[w.heap.size]? = some (.cells #[.int .i64 0, .string { data := #[] }, .int .i64 0, .int .i64 0, .int .i64 0] 32 (0, 0)) := (hK1.2 w.heap.size (by simp) (by omega) (by simp)).trans (blk_new _ _)
        have hL1 : Laid w1 := hL0.out.below hB1
        have H2 := Aside0.mk ht2
        have HI1 := Aside0.mk hI1
        have HB1 := Aside0.mk hB1
        have HK1 := Aside0.mk ((keep_alloc (KeepBut.refl w g none) _).trans hK1 (.inl rfl))
        have HL1 := Aside0.mk hL1
        clear ht2 hI1 hB1 hK1 hL1 HI HB hrest hL0
        go_wp2_with (first | (go_at_call 45; refine (hD _).mono ?_; rintro e w' ⟨rfl, ⟨n0, rfl⟩⟩) | (go_at_call 29; refine (hLo _).mono ?_; rintro e w' ⟨rfl, ⟨n1, rfl⟩⟩))
        refine (hread _ (HL1.out.below (pw_below_drewN (Below.refl _ _) _))).mono ?_
        rintro e w2 ⟨rfl, hb2⟩
        have hI2 := (HI1.out.drewN (n0 + n1)).below hb2
        have h22 := below_blk (blk_drewN H2.out (n0 + n1)) hb2
        have HB2 := Aside0.mk (below_then (pw_below_drewN HB1.out (n0 + n1)) (show w0.heap.size ≤ (w1.drewN (n0 + n1)).heap.size from HB1.out.size) hb2)
        have HK2 := Aside0.mk ((keep_drewN HK1.out (n0 + n1)).trans (KeepBut.of_grown (grown_of_below hb2 none) g) (.inl rfl))
        clear hb2 H2 HI1 HB1 HK1 HL1 hread
        have hg2 := hI2.lt
        obtain ⟨HGz, hgz⟩ := hI2
        have hc2 := cellS38_2 HGz
        have hc3 := cellS38_3 HGz
        obtain ⟨⟨b0, b1, b2, b3, b4⟩, f0, f1, f2, f3, f4⟩ := five_cells h22
        have hlt2 := blk_lt h22
        have HI2 := Aside0.mk HGz
        have H22 := Aside0.mk h22
        clear HGz h22
        unfold tokVal
        simp only
        have hg0 := HW0.out
        go_wp2_with fail
        go_region
        all_goals go_wp2_with fail
        all_goals refine bodyPost_ret (results_ct rfl _ _ w.heap.size 32 #[.int .i64 q1, .string q2, .int .i64 q3, .int .i64 s2, .int .i64 s3] (0, 0) _ rfl (by (with_reducible repeat (first | refine blk_drewN ?_ _ | refine blk_drew ?_ | refine blk_alloc ?_ _)); exact five_heap H22.out _ _ _ _ _) Tryd.underlying32 rfl (by kernel_rfl)) rfl ⟨rfl, ⟨by (with_reducible repeat (first | refine blk_drewN ?_ _ | refine blk_drew ?_ | refine blk_alloc ?_ _)); exact five_far HI2.out (by omega) _ _ _ _ _, hgz⟩, ?_, ?_⟩
        · repeat (first | (with_reducible first | apply below_alloc | apply pw_below_drewN | apply below_drew) | exact five_below HB2.out hg0 _ _ _ _ _)
        · repeat (first | (with_reducible first | apply keep_alloc | apply keep_drewN | apply keep_drew) | exact five_keep HK2.out (Nat.le_refl _) _ _ _ _ _)
      | false =>
        rw [hlo] at hLo
        cases hup : upperB (bt rest 0) with
        | true =>
          rw [hup] at hUp
          have hread := fun W (_ : Laid W) => hA hd (by rw [hlo, hup]; rfl) W
          clear hN hA hS hd hlo hup
          rw [← hbt] at hD hLo hUp
          simp only [Int.toNat_zero] at hD hLo hUp
          clear hbt
          go_enter Tryd.func23, Tryd.ntmps23
          go_wp2_with fail
          refine (hrest _ (HI.out.alloc _) (below_then HB.out HB.out.size (below_alloc (Below.refl _ _) _))).mono ?_
          rintro e w1 ⟨rfl, hI1, hB1, hK1⟩
          have ht2 : w1.heap[w.heap.size]? = some (.cells #[.int .i64 0, .string { data := #[] }, .int .i64 0, .int .i64 0, .int .i64 0] 32 (0, 0)) := (hK1.2 w.heap.size (by simp) (by omega) (by simp)).trans (blk_new _ _)
          have hL1 : Laid w1 := hL0.out.below hB1
          have H2 := Aside0.mk ht2
          have HI1 := Aside0.mk hI1
          have HB1 := Aside0.mk hB1
          have HK1 := Aside0.mk ((keep_alloc (KeepBut.refl w g none) _).trans hK1 (.inl rfl))
          have HL1 := Aside0.mk hL1
          clear ht2 hI1 hB1 hK1 hL1 HI HB hrest hL0
          go_wp2_with (first | (go_at_call 45; refine (hD _).mono ?_; rintro e w' ⟨rfl, ⟨n0, rfl⟩⟩) | (go_at_call 29; refine (hLo _).mono ?_; rintro e w' ⟨rfl, ⟨n1, rfl⟩⟩) | (go_at_call 30; refine (hUp _).mono ?_; rintro e w' ⟨rfl, ⟨n2, rfl⟩⟩))
          refine (hread _ (HL1.out.below (pw_below_drewN (Below.refl _ _) _))).mono ?_
          rintro e w2 ⟨rfl, hb2⟩
          have hI2 := (HI1.out.drewN (n0 + n1 + n2)).below hb2
          have h22 := below_blk (blk_drewN H2.out (n0 + n1 + n2)) hb2
          have HB2 := Aside0.mk (below_then (pw_below_drewN HB1.out (n0 + n1 + n2)) (show w0.heap.size ≤ (w1.drewN (n0 + n1 + n2)).heap.size from HB1.out.size) hb2)
          have HK2 := Aside0.mk ((keep_drewN HK1.out (n0 + n1 + n2)).trans (KeepBut.of_grown (grown_of_below hb2 none) g) (.inl rfl))
          clear hb2 H2 HI1 HB1 HK1 HL1 hread
          have hg2 := hI2.lt
          obtain ⟨HGz, hgz⟩ := hI2
          have hc2 := cellS38_2 HGz
          have hc3 := cellS38_3 HGz
          obtain ⟨⟨b0, b1, b2, b3, b4⟩, f0, f1, f2, f3, f4⟩ := five_cells h22
          have hlt2 := blk_lt h22
          have HI2 := Aside0.mk HGz
          have H22 := Aside0.mk h22
          clear HGz h22
          unfold tokVal
          simp only
          have hg0 := HW0.out
          go_wp2_with fail
          go_region
          all_goals go_wp2_with fail
          all_goals refine bodyPost_ret (results_ct rfl _ _ w.heap.size 32 #[.int .i64 q1, .string q2, .int .i64 q3, .int .i64 s2, .int .i64 s3] (0, 0) _ rfl (by (with_reducible repeat (first | refine blk_drewN ?_ _ | refine blk_drew ?_ | refine blk_alloc ?_ _)); exact five_heap H22.out _ _ _ _ _) Tryd.underlying32 rfl (by kernel_rfl)) rfl ⟨rfl, ⟨by (with_reducible repeat (first | refine blk_drewN ?_ _ | refine blk_drew ?_ | refine blk_alloc ?_ _)); exact five_far HI2.out (by omega) _ _ _ _ _, hgz⟩, ?_, ?_⟩
          · repeat (first | (with_reducible first | apply below_alloc | apply pw_below_drewN | apply below_drew) | exact five_below HB2.out hg0 _ _ _ _ _)
          · repeat (first | (with_reducible first | apply keep_alloc | apply keep_drewN | apply keep_drew) | exact five_keep HK2.out (Nat.le_refl _) _ _ _ _ _)
        | false =>
          rw [hup] at hUp
          have hread := fun W (_ : Laid W) => hS hd (by rw [hlo, hup]; rfl) W
          clear hN hA hS hd hlo hup
          rw [← hbt] at hD hLo hUp
          simp only [Int.toNat_zero] at hD hLo hUp
          clear hbt
          go_enter Tryd.func23, Tryd.ntmps23
          go_wp2_with fail
          refine (hrest _ (HI.out.alloc _) (below_then HB.out HB.out.size (below_alloc (Below.refl _ _) _))).mono ?_
          rintro e w1 ⟨rfl, hI1, hB1, hK1⟩
          have ht2 : w1.heap[w.heap.size]? = some (.cells #[.int .i64 0, .string { data := #[] }, .int .i64 0, .int .i64 0, .int .i64 0] 32 (0, 0)) := (hK1.2 w.heap.size (by simp) (by omega) (by simp)).trans (blk_new _ _)
          have hL1 : Laid w1 := hL0.out.below hB1
          have H2 := Aside0.mk ht2
          have HI1 := Aside0.mk hI1
          have HB1 := Aside0.mk hB1
          have HK1 := Aside0.mk ((keep_alloc (KeepBut.refl w g none) _).trans hK1 (.inl rfl))
          have HL1 := Aside0.mk hL1
          clear ht2 hI1 hB1 hK1 hL1 HI HB hrest hL0
          go_wp2_with (first | (go_at_call 45; refine (hD _).mono ?_; rintro e w' ⟨rfl, ⟨n0, rfl⟩⟩) | (go_at_call 29; refine (hLo _).mono ?_; rintro e w' ⟨rfl, ⟨n1, rfl⟩⟩) | (go_at_call 30; refine (hUp _).mono ?_; rintro e w' ⟨rfl, ⟨n2, rfl⟩⟩))
          refine (hread _ (HL1.out.below (pw_below_drewN (Below.refl _ _) _))).mono ?_
          rintro e w2 ⟨rfl, hb2⟩
          have hI2 := (HI1.out.drewN (n0 + n1 + n2)).below hb2
          have h22 := below_blk (blk_drewN H2.out (n0 + n1 + n2)) hb2
          have HB2 := Aside0.mk (below_then (pw_below_drewN HB1.out (n0 + n1 + n2)) (show w0.heap.size ≤ (w1.drewN (n0 + n1 + n2)).heap.size from HB1.out.size) hb2)
          have HK2 := Aside0.mk ((keep_drewN HK1.out (n0 + n1 + n2)).trans (KeepBut.of_grown (grown_of_below hb2 none) g) (.inl rfl))
          clear hb2 H2 HI1 HB1 HK1 HL1 hread
          have hg2 := hI2.lt
          obtain ⟨HGz, hgz⟩ := hI2
          have hc2 := cellS38_2 HGz
          have hc3 := cellS38_3 HGz
          obtain ⟨⟨b0, b1, b2, b3, b4⟩, f0, f1, f2, f3, f4⟩ := five_cells h22
          have hlt2 := blk_lt h22
          have HI2 := Aside0.mk HGz
          have H22 := Aside0.mk h22
          clear HGz h22
          unfold tokVal
          simp only
          have hg0 := HW0.out
          go_wp2_with fail
          go_region
          all_goals go_wp2_with fail
          all_goals refine bodyPost_ret (results_ct rfl _ _ w.heap.size 32 #[.int .i64 q1, .string q2, .int .i64 q3, .int .i64 s2, .int .i64 s3] (0, 0) _ rfl (by (with_reducible repeat (first | refine blk_drewN ?_ _ | refine blk_drew ?_ | refine blk_alloc ?_ _)); exact five_heap H22.out _ _ _ _ _) Tryd.underlying32 rfl (by kernel_rfl)) rfl ⟨rfl, ⟨by (with_reducible repeat (first | refine blk_drewN ?_ _ | refine blk_drew ?_ | refine blk_alloc ?_ _)); exact five_far HI2.out (by omega) _ _ _ _ _, hgz⟩, ?_, ?_⟩
          · repeat (first | (with_reducible first | apply below_alloc | apply pw_below_drewN | apply below_drew) | exact five_below HB2.out hg0 _ _ _ _ _)
          · repeat (first | (with_reducible first | apply keep_alloc | apply keep_drewN | apply keep_drew) | exact five_keep HK2.out (Nat.le_refl _) _ _ _ _ _)
  · rw [if_neg c0] at h
    exact absurd h (by simp)
end PScan
end Go.Proofs.YtffeikfffmonkaaDoor
