/- Contracts of package scan: name and number. -/
import Derived.Test.YtffeikfffmonkaaDoorScanC
namespace Go.Proofs.YtffeikfffmonkaaDoor
open Go Go.RowKit Go.Lib Go.Proofs.YtffeikfffmonkaaDoorW.PrintWords
set_option maxRecDepth 100000
set_option linter.unusedSimpArgs false
set_option linter.unusedVariables false

def headOf (s : ByteArray) (n : Nat) : ByteArray := s.extract 0 n
def nameSort (t : ByteArray) : Int := if isWordB t then 5 else if upperB (bt t 0) then 2 else 1
def nameTok (s : ByteArray) : Value := .tuple #[.agg #[.int .i64 (nameSort (headOf s (spanN innerB s))), .string (headOf s (spanN innerB s)), .int .i64 0, .int .i64 0, .int .i64 0], .bool (decide (((headOf s (spanN innerB s)).size : Int) ≤ 24))]

theorem headOf_size (s : ByteArray) (n : Nat) (h : n ≤ s.size) : (headOf s n).size = n := by
  unfold headOf; rw [ByteArray.size_extract]; omega

theorem name_calls (s : ByteArray) (w : World) (hs : s.size ≤ 9223372036854775807) (h0 : 0 < spanN innerB s) :
    Calls Tryd.prog 47 #[.string s] w fun e w' => e = .returned (nameTok s) ∧ Below w.heap.size w w' := by
  have hle := spanN_le innerB s
  have hsp := fun W => span_calls 51 innerB inner_eg inner_fn s W hs
  have hsz := headOf_size s (spanN innerB s) hle
  unfold nameTok
  generalize hz : spanN innerB s = z at hsp hle hsz h0
  clear hz
  have hx : s.extract 0 z = headOf s z := rfl
  generalize ht : headOf s z = t at hsz hx
  clear ht
  have hw := fun W => isWord_calls t W
  have HX := Lib.hid hx
  have HS := Lib.hid hsz
  clear hx hsz
  have hpos : 0 < t.size := by rw [HS.out]; exact h0
  go_enter Tryd.func47, Tryd.ntmps47
  go_wp2_with (go_at_call 40; refine (hsp _).mono ?_; rintro e w' ⟨rfl, ⟨n2, rfl⟩⟩)
  rw [HX.out]
  refine (hw _).mono ?_
  rintro e w1 ⟨rfl, hb⟩
  have h2 := below_blk (blk_alloc (blk_drewN (blk_new w _) n2) _) hb
  have h5 := below_blk (blk_new _ _) hb
  rw [show ((w.alloc (Obj.cells #[.int .i64 0, .string { data := #[] }, .int .i64 0, .int .i64 0, .int .i64 0] 32)).drewN n2).heap.size = w.heap.size + 1 from by simp] at h5
  have HB := Aside0.mk (below_step (below_alloc (pw_below_drewN (below_alloc (Below.refl _ _) _) _) _) hb)
  clear hb hw hsp
  obtain ⟨⟨c0, c1, c2, c3, c4⟩, f0, f1, f2, f3, f4⟩ := five_cells h2
  obtain ⟨⟨d0, d1, d2, d3, d4⟩, g0, g1, g2, g3, g4⟩ := five_cells h5
  have H2 := Aside0.mk h2
  have H5 := Aside0.mk h5
  clear h2 h5
  cases hq : isWordB t with
  | true =>
    have hN : nameSort t = 5 := by simp [nameSort, hq]
    have HN := Lib.hid hN
    clear hN
    go_wp2
    refine bodyPost_ret (results_ct rfl _ _ w.heap.size 32 #[.int .i64 5, .string t, .int .i64 0, .int .i64 0, .int .i64 0] (0, 0) _ rfl (five_heap (blk_far H2.out (p := ⟨w.heap.size + 1, 0, none⟩) (by simp) _) _ _ _ _ _) Tryd.underlying32 rfl (by kernel_rfl)) rfl ⟨by rw [HN.out]; rfl, five_below (below_set HB.out (by omega)) (Nat.le_refl _) _ _ _ _ _⟩
  | false =>
    have hbt := bt_at t 0 (by simpa using hpos)
    have hr := bt_range t 0
    have hcall := fun W => upper_fn (bt t 0) W hr.1 hr.2
    cases hu : upperB (bt t 0) with
    | true =>
      rw [hu] at hcall
      have hN : nameSort t = 2 := by simp [nameSort, hq, hu]
      have HN := Lib.hid hN
      rw [← hbt] at hcall
      simp only [Int.toNat_zero] at hcall
      clear hN hbt hr hu
      go_wp2_with (go_at_call 30; refine (hcall _).mono ?_; rintro e w' ⟨rfl, ⟨n3, rfl⟩⟩)
      refine bodyPost_ret (results_ct rfl _ _ w.heap.size 32 #[.int .i64 2, .string t, .int .i64 0, .int .i64 0, .int .i64 0] (0, 0) _ rfl (five_heap (blk_far (blk_drewN H2.out n3) (p := ⟨w.heap.size + 1, 0, none⟩) (by simp) _) _ _ _ _ _) Tryd.underlying32 rfl (by kernel_rfl)) rfl ⟨by rw [HN.out]; rfl, five_below (below_set (pw_below_drewN HB.out n3) (by omega)) (Nat.le_refl _) _ _ _ _ _⟩
    | false =>
      rw [hu] at hcall
      have hN : nameSort t = 1 := by simp [nameSort, hq, hu]
      have HN := Lib.hid hN
      rw [← hbt] at hcall
      simp only [Int.toNat_zero] at hcall
      clear hN hbt hr hu
      go_wp2_with (go_at_call 30; refine (hcall _).mono ?_; rintro e w' ⟨rfl, ⟨n3, rfl⟩⟩)
      refine bodyPost_ret (results_ct rfl _ _ w.heap.size 32 #[.int .i64 1, .string t, .int .i64 0, .int .i64 0, .int .i64 0] (0, 0) _ rfl (five_heap (blk_drewN H2.out n3) _ _ _ _ _) Tryd.underlying32 rfl (by kernel_rfl)) rfl ⟨by rw [HN.out]; rfl, five_below (pw_below_drewN HB.out n3) (Nat.le_refl _) _ _ _ _ _⟩

/-! ### Numbers -/
/-- strconv's table of errors lies as it was laid: the variable can be read. -/
def Laid (w : World) : Prop := ∃ ev : Value, w.cell? ⟨2, 0, none⟩ = some ev ∧ (ev = .nilIface ∨ ∃ te pe, ev = .iface te pe)
theorem Laid.below {w W : World} (h : Laid w) (hb : Below w.heap.size w W) : Laid W := by
  obtain ⟨ev, h1, h2⟩ := h
  exact ⟨ev, pw_cell_below hb h1, h2⟩

/-- The number that a text of digits is; none that may be. -/
def numN (t : ByteArray) : Int := match Lib.parseIntB 64 t.data.toList with | .ok v => v | .range => Lib.intSat 64 t.data.toList | _ => 0
def numOk (s t : ByteArray) : Bool := match Lib.parseIntB 64 t.data.toList with | .ok _ => (decide (t = ⟨#[48]⟩) || !(bt t 0 == 48)) && decide (spanN innerB s = t.size) | _ => false
def numTok (s : ByteArray) : Value := .tuple #[.agg #[.int .i64 3, .string (headOf s (spanN digitB s)), .int .i64 (numN (headOf s (spanN digitB s))), .int .i64 0, .int .i64 0], .bool (numOk s (headOf s (spanN digitB s)))]

theorem number_calls (s : ByteArray) (w : World) (hL : Laid w) (hs : s.size ≤ 281474976710656) (h0 : 0 < spanN digitB s) (hsyn : (∃ v, Lib.parseIntB 64 (headOf s (spanN digitB s)).data.toList = .ok v) ∨ Lib.parseIntB 64 (headOf s (spanN digitB s)).data.toList = .range) :
    Calls Tryd.prog 46 #[.string s] w fun e w' => e = .returned (numTok s) ∧ Below w.heap.size w w' := by
  have hle := spanN_le digitB s
  have hsp := fun W => span_calls 45 digitB digit_eg digit_fn s W (by omega)
  have hin := fun W => span_calls 51 innerB inner_eg inner_fn s W (by omega)
  have hsz := headOf_size s (spanN digitB s) hle
  unfold numTok
  generalize hz : spanN digitB s = z at hsp hle hsz h0 hsyn
  clear hz
  have hx : s.extract 0 z = headOf s z := rfl
  generalize ht : headOf s z = t at hsz hx hsyn
  clear ht
  have HX := Lib.hid hx
  have HS := Lib.hid hsz
  have HL := Aside0.mk hL
  clear hx hL
  have hpos : 0 < t.size := by omega
  have hts : t.size ≤ 281474976710656 := by omega
  clear hsz
  rcases hsyn with ⟨v, hq⟩ | hq
  rotate_left 1
  · skip
    have hN : numN t = Lib.intSat 64 t.data.toList := by simp [numN, hq]
    have hO : numOk s t = false := by simp [numOk, hq]
    have HN := Lib.hid hN
    have HO := Lib.hid hO
    clear hN hO
    go_enter Tryd.func46, Tryd.ntmps46
    go_wp2_with (go_at_call 40; refine (hsp _).mono ?_; rintro e w' ⟨rfl, ⟨n2, rfl⟩⟩)
    rw [HX.out]
    obtain ⟨ev, hv, hev⟩ := HL.out.below (pw_below_drewN (below_alloc (Below.refl _ _) (Obj.cells #[.int .i64 0, .string { data := #[] }, .int .i64 0, .int .i64 0, .int .i64 0] 32)) n2)
    refine (Tryd.strconv_ParseInt_10_at64_range t hts hq ev _ hv hev).mono ?_
    rintro e w1 ⟨N, rfl, _, _, hb⟩
    have h2 := below_blk (blk_drewN (blk_new w _) n2) hb
    have HB := Aside0.mk (below_step (pw_below_drewN (below_alloc (Below.refl _ _) _) _) hb)
    clear hb
    obtain ⟨⟨c0, c1, c2, c3, c4⟩, f0, f1, f2, f3, f4⟩ := five_cells h2
    have H2 := Aside0.mk h2
    clear h2 hsp
    clear hin hv hev
    rw [← HN.out]
    go_wp2
    refine bodyPost_ret (results_ct rfl _ _ w.heap.size 32 #[.int .i64 3, .string t, .int .i64 (numN t), .int .i64 0, .int .i64 0] (0, 0) _ rfl (five_heap H2.out _ _ _ _ _) Tryd.underlying32 rfl (by kernel_rfl)) rfl ⟨by rw [HO.out]; rfl, five_below HB.out (Nat.le_refl _) _ _ _ _ _⟩
  · skip
    have hN : numN t = v := by simp [numN, hq]
    have HN := Lib.hid hN
    have hPI : ∀ W : World, Calls Tryd.prog 59 #[.string t, .int .i64 10, .int .i64 64] W fun e w' => e = .returned (.tuple #[.int .i64 (numN t), .nilIface]) ∧ Below W.heap.size W w' := fun W =>
      (Tryd.strconv_ParseInt_10_at64_ok t (by omega) v hq W).mono fun e w' ⟨he, hw⟩ => ⟨by rw [hN]; exact he, by
        rcases hw with rfl | ⟨tt, rfl⟩
        · exact Below.refl _ _
        · exact bytes_below (Below.refl _ _) (Nat.le_refl _) _ _⟩
    clear hN
    have hO0 : numOk s t = ((decide (t = ⟨#[48]⟩) || !(bt t 0 == 48)) && decide (spanN innerB s = t.size)) := by simp [numOk, hq]
    have hlei := spanN_le innerB s
    have hsp2 : decide (spanN innerB s = t.size) = ((spanN innerB s : Int) == (t.size : Int)) := by rw [Bool.eq_iff_iff]; simp; omega
    rw [hsp2] at hO0
    clear hsp2 hq HN
    generalize hy : spanN innerB s = y at hin hlei hO0
    clear hy
    by_cases e0 : t = ⟨#[48]⟩
    · have c0 : (t.toList == [48]) = true := by rw [e0, ByteArray.toList_eq]; rfl
      have hO : numOk s t = ((y : Int) == (t.size : Int)) := by rw [hO0]; simp [e0]
      have HO := Lib.hid hO
      clear hO hO0 e0
      go_enter Tryd.func46, Tryd.ntmps46
      go_wp2_with (go_at_call 40; refine (hsp _).mono ?_; rintro e w' ⟨rfl, ⟨n2, rfl⟩⟩)
      rw [HX.out]
      refine (hPI _).mono ?_
      rintro e w1 ⟨rfl, hb⟩
      have h2 := below_blk (blk_drewN (blk_new w _) n2) hb
      have HB := Aside0.mk (below_step (pw_below_drewN (below_alloc (Below.refl _ _) _) _) hb)
      clear hb
      obtain ⟨⟨c0, c1, c2, c3, c4⟩, f0, f1, f2, f3, f4⟩ := five_cells h2
      have H2 := Aside0.mk h2
      clear h2 hsp
      clear hPI
      go_wp2_with (go_at_call 40; refine (hin _).mono ?_; rintro e w' ⟨rfl, ⟨n3, rfl⟩⟩)
      refine bodyPost_ret (results_ct rfl _ _ w.heap.size 32 #[.int .i64 3, .string t, .int .i64 (numN t), .int .i64 0, .int .i64 0] (0, 0) _ rfl (five_heap (blk_drewN H2.out n3) _ _ _ _ _) Tryd.underlying32 rfl (by kernel_rfl)) rfl ⟨by rw [HO.out]; rfl, five_below (pw_below_drewN HB.out n3) (Nat.le_refl _) _ _ _ _ _⟩
    · have k0 : (t.toList == [48]) = false := by
        rw [beq_eq_false_iff_ne, ByteArray.toList_eq]
        intro h
        exact e0 (toList_inj (by rw [ByteArray.toList_eq, ByteArray.toList_eq]; exact h))
      have hbt := bt_at t 0 (by simpa using hpos)
      by_cases e1 : bt t 0 = 48
      · have hO : numOk s t = false := by rw [hO0]; simp [e0, e1]
        have HO := Lib.hid hO
        rw [← hbt] at e1
        simp only [Int.toNat_zero] at e1
        have k1 : ((t[0].toNat : Int) != 48) = false := by rw [e1]; rfl
        clear hO hO0 e0 e1 hbt hin
        go_enter Tryd.func46, Tryd.ntmps46
        go_wp2_with (go_at_call 40; refine (hsp _).mono ?_; rintro e w' ⟨rfl, ⟨n2, rfl⟩⟩)
        rw [HX.out]
        refine (hPI _).mono ?_
        rintro e w1 ⟨rfl, hb⟩
        have h2 := below_blk (blk_drewN (blk_new w _) n2) hb
        have HB := Aside0.mk (below_step (pw_below_drewN (below_alloc (Below.refl _ _) _) _) hb)
        clear hb
        obtain ⟨⟨c0, c1, c2, c3, c4⟩, f0, f1, f2, f3, f4⟩ := five_cells h2
        have H2 := Aside0.mk h2
        clear h2 hsp hPI
        go_wp2
        refine bodyPost_ret (results_ct rfl _ _ w.heap.size 32 #[.int .i64 3, .string t, .int .i64 (numN t), .int .i64 0, .int .i64 0] (0, 0) _ rfl (five_heap H2.out _ _ _ _ _) Tryd.underlying32 rfl (by kernel_rfl)) rfl ⟨by rw [HO.out]; rfl, five_below HB.out (Nat.le_refl _) _ _ _ _ _⟩
      · have hO : numOk s t = ((y : Int) == (t.size : Int)) := by rw [hO0]; simp [e1]
        have HO := Lib.hid hO
        rw [← hbt] at e1
        simp only [Int.toNat_zero] at e1
        have k1 : ((t[0].toNat : Int) != 48) = true := bne_iff_ne.mpr e1
        clear hO hO0 e0 e1 hbt
        go_enter Tryd.func46, Tryd.ntmps46
        go_wp2_with (go_at_call 40; refine (hsp _).mono ?_; rintro e w' ⟨rfl, ⟨n2, rfl⟩⟩)
        rw [HX.out]
        refine (hPI _).mono ?_
        rintro e w1 ⟨rfl, hb⟩
        have h2 := below_blk (blk_drewN (blk_new w _) n2) hb
        have HB := Aside0.mk (below_step (pw_below_drewN (below_alloc (Below.refl _ _) _) _) hb)
        clear hb
        obtain ⟨⟨c0, c1, c2, c3, c4⟩, f0, f1, f2, f3, f4⟩ := five_cells h2
        have H2 := Aside0.mk h2
        clear h2 hsp hPI
        go_wp2_with (go_at_call 40; refine (hin _).mono ?_; rintro e w' ⟨rfl, ⟨n3, rfl⟩⟩)
        refine bodyPost_ret (results_ct rfl _ _ w.heap.size 32 #[.int .i64 3, .string t, .int .i64 (numN t), .int .i64 0, .int .i64 0] (0, 0) _ rfl (five_heap (blk_drewN H2.out n3) _ _ _ _ _) Tryd.underlying32 rfl (by kernel_rfl)) rfl ⟨by rw [HO.out]; rfl, five_below (pw_below_drewN HB.out n3) (Nat.le_refl _) _ _ _ _ _⟩
end Go.Proofs.YtffeikfffmonkaaDoor
