/- Walk of the law ScanBlanks. -/
import Derived.Test.YtffeikfffmonkaaDoorScanS
import Derived.Test.YtffeikfffmonkaaDoorScanL
import Derived.Test.YtffeikfffmonkaaDoorPScanx11
import Derived.Test.YtffeikfffmonkaaDoorPScanx1
namespace Go.Proofs.YtffeikfffmonkaaDoor
open Go Go.RowKit Go.Lib Go.Proofs.YtffeikfffmonkaaDoorW.PrintWords Go.Proofs.YtffeikfffmonkaaDoorW.PrintLast Go.Proofs.YtffeikfffmonkaaDoorW.PrintMore PScan
set_option maxRecDepth 100000
set_option linter.unusedSimpArgs false
set_option linter.unusedVariables false

attribute [local go_sem high] eqA26

def blankText (a b note : ByteArray) : ByteArray := (((a ++ (⟨#[10, 32, 45, 45, 32]⟩ : ByteArray)) ++ note) ++ (⟨#[10, 9]⟩ : ByteArray)) ++ b
def BlanksPure : Prop := ∀ a b note : ByteArray, (∀ j : Nat, j < note.size → bt note (j : Int) ≠ 10) → (scanOf a).2.1 = 0 → (scanOf b).2.1 = 0 → (blankText a b note).size ≤ 65536 →
  0 < (scanOf a).1.length ∧ (scanOf a).1.length ≤ 65537 ∧ (scanOf b).1.length ≤ 65537 ∧ (scanOf (blankText a b note)).2 = (0, 0, 0) ∧ ∃ k, penduleref01_Alike.f k (scanOf (blankText a b note)).1 ((scanOf a).1.take ((scanOf a).1.length - 1) ++ (scanOf b).1) = some true

theorem wpList_of_step {P : Program} {ops : Array Oper} {Q : Exit → Act → World → Prop} {o : Oper} {rest : List Oper} {a : Act} {W : World}
    (h : if Region.wanted o (yielded ops a.tmps) = true then Oper.wp P o a W (wpList P ops Q rest) Q else wpList P ops Q rest (a.put o.dst undef) W) : wpList P ops Q (o :: rest) a W := by
  unfold wpList
  by_cases c : Region.wanted o (yielded ops a.tmps) = true
  · rw [if_pos c] at h ⊢; exact .inl h
  · rw [if_neg c] at h ⊢; exact h

theorem append_rows_at {P : Program} {ops : Array Oper} {rest : List Oper} {o : Oper} {a : Act} {Q : Exit → Act → World → Prop} {α : Type} (d : Kd α) {Rr : α → List Value → Prop} {w0 W : World} {e : TypeId} {base : Nat}
    (s x : Operand) (t : TypeId) (z : Value) (bytes : Nat) (v : Value) (xs ys : List α) (A : Option Addr) (m c : Nat) (ok okp : Nat → Prop) (hw : Region.wanted o (yielded ops a.tmps) = true)
    (ho : o.op = .call { callee := .builtin .append, args := #[s, x], argTypes := #[t, t] })
    (ht : P.underlying t = some (.slice e)) (hinfo : (P.info? e).map (fun i => (i.zero, i.size, i.bytes)) = some (some z, d.sz, bytes)) (hz : z.cells.size = d.sz) (hs0 : 0 < d.sz) (hb0 : 0 < bytes)
    (hs : a.eval s = v) (hx : a.eval x = .slice A m c)
    (HO : Kd.R d e W base ok v xs) (HR : ReadsRow Rr d.sz W A m ys) (hKM : ∀ x cs, Rr x cs → d.M W base okp x cs) (hokp : ∀ k, okp k → ok k ∧ some k ≠ v.ownBlock) (hfresh : ∀ k, W.heap.size ≤ k → ok k)
    (HB : Below base w0 W) (hbase : base ≤ W.heap.size) (hl : (xs.length + m) * bytes ≤ 140737488355328)
    (h : ∀ v1 w1, Kd.R d e w1 base ok v1 (xs ++ ys) → Below base w0 w1 → W.grownBy w1 v.ownBlock → (v1.ownBlock = v.ownBlock ∨ ∃ b, v1.ownBlock = some b ∧ W.heap.size ≤ b) → wpList P ops Q rest (a.put o.dst v1) w1) :
    wpList P ops Q (o :: rest) a W :=
  wpList_of_step (Kd.R_append_rows_step (Kc := wpList P ops Q rest) d base hw s x t e z bytes ho ht hinfo hz hs0 hb0 v xs ys A m c ok okp hs hx HO HR hKM hokp hfresh HB hbase hl h)

theorem scan_said (x : ByteArray) (W : World) (hL : Laid W) :
    Calls Tryd.prog 10 #[.string x] W fun e w' => ∃ v0_ : Value, e = .returned (.tuple #[v0_, .agg #[.int .i64 (scanOf x).2.1, .int .i64 (scanOf x).2.2.1, .int .i64 (scanOf x).2.2.2]]) ∧ Kd.R k32 32 w' W.heap.size (fun _ => True) v0_ (scanOf x).1 ∧ Below W.heap.size W w' :=
  scan_Scan.calls (3 * x.size + 5) x _ _ _ _ W (scan_eq x _ (by omega)) hL

set_option maxHeartbeats 4000000 in
theorem scanBlanks_walk (P : BlanksPure) (a b note : ByteArray) (ha : a.size ≤ 140737488351232) (hb : b.size ≤ 140737488351232) (hn : note.size ≤ 140737488351232) (w : World) (hL : Laid w) :
    Calls Tryd.prog 5 #[.string a, .string b, .string note] w fun e w' => e = .returned (.bool true) ∧ Below w.heap.size w w' := by
  have HP := Aside0.mk (P a b note)
  clear P
  have sA := fun W h => scan_said a W h
  have sB := fun W h => scan_said b W h
  have sT := fun W h => scan_said (blankText a b note) W h
  generalize scanOf a = qa at HP sA
  obtain ⟨xs, xf, xl, xc⟩ := qa
  generalize scanOf b = qb at HP sB
  obtain ⟨ys, yf, yl, yc⟩ := qb
  generalize hqt : scanOf (blankText a b note) = qt at HP sT
  obtain ⟨zs, zf, zl, zc⟩ := qt
  simp only at HP sA sB sT
  clear hqt
  have HS := Aside0.mk (⟨sA, sB, sT⟩ : _ ∧ _ ∧ _)
  have HL := Aside0.mk hL
  clear hL sA sB sT
  go_enter Tryd.func5, Tryd.ntmps5
  go_wp2_with fail
  refine (pendulelaw01_lives.calls true _ rfl HL.out).mono ?_
  rintro e w1 ⟨rfl, hb1⟩
  have HB1 := Aside0.mk hb1
  clear hb1
  go_wp2_with fail
  refine (HS.out.1 w1 (Laid.below HL.out HB1.out)).mono ?_
  rintro e w2 ⟨vx, rfl, hr, hb2⟩
  have HX := Aside0.mk (Kd.R_lower hr (below_size HB1.out))
  have HB2 := Aside0.mk (below_step HB1.out hb2)
  clear hr hb2 HB1
  go_upto_region 4 with (fail)
  have FX := Aside0.mk (blk_new w2 (Obj.cells #[.int .i64 xf, .int .i64 xl, .int .i64 xc] 26))
  have HX2 := Aside0.mk (Kd.R_alloc HX.out (Obj.cells #[.int .i64 xf, .int .i64 xl, .int .i64 xc] 26))
  have HB3 := Aside0.mk (below_alloc HB2.out (Obj.cells #[.int .i64 xf, .int .i64 xl, .int .i64 xc] 26))
  clear HX HB2
  generalize w2.alloc (Obj.cells #[.int .i64 xf, .int .i64 xl, .int .i64 xc] 26) = w3 at *
  go_wp2_with fail
  refine (HS.out.2.1 w3 (Laid.below HL.out HB3.out)).mono ?_
  rintro e w4 ⟨vy, rfl, hr, hb4⟩
  have HY := Aside0.mk (Kd.R_lower hr (below_size HB3.out))
  have HB4 := Aside0.mk (below_step HB3.out hb4)
  have HX4 := Aside0.mk (Kd.R_below HX2.out hb4)
  have FX4 := Aside0.mk (blk_below FX.out hb4)
  clear hr hb4 HB3 HX2 FX
  go_upto_region 5 with (fail)
  have FY := Aside0.mk (blk_new w4 (Obj.cells #[.int .i64 yf, .int .i64 yl, .int .i64 yc] 26))
  have HY5 := Aside0.mk (Kd.R_alloc HY.out (Obj.cells #[.int .i64 yf, .int .i64 yl, .int .i64 yc] 26))
  have HX5 := Aside0.mk (Kd.R_alloc HX4.out (Obj.cells #[.int .i64 yf, .int .i64 yl, .int .i64 yc] 26))
  have FX5 := Aside0.mk (blk_alloc FX4.out (Obj.cells #[.int .i64 yf, .int .i64 yl, .int .i64 yc] 26))
  have HB5 := Aside0.mk (below_alloc HB4.out (Obj.cells #[.int .i64 yf, .int .i64 yl, .int .i64 yc] 26))
  clear HY HB4 HX4 FX4
  generalize w4.alloc (Obj.cells #[.int .i64 yf, .int .i64 yl, .int .i64 yc] 26) = w5 at *
  generalize w2.heap.size = gx at *
  generalize w4.heap.size = gy at *
  go_wp2_with fail
  go_loopg [11] note.size (fun kq v11 wr => ∃ (i : Nat), v11 = .int .i64 (i : Int) ∧ Aside0 (i + kq = note.size) ∧ Aside0 (∀ j : Nat, j < i → bt note (j : Int) ≠ 10) ∧ Aside0 (Kd.R k32 32 wr w.heap.size (fun _ => True) vy ys) ∧ Aside0 (Kd.R k32 32 wr w.heap.size (fun _ => True) vx xs) ∧ Aside0 (wr.heap[gx]? = some (.cells #[.int .i64 xf, .int .i64 xl, .int .i64 xc] 26 (0, 0))) ∧ Aside0 (wr.heap[gy]? = some (.cells #[.int .i64 yf, .int .i64 yl, .int .i64 yc] 26 (0, 0))) ∧ Aside0 (Below w.heap.size w wr))
  case atStart => exact ⟨0, rfl, ⟨Nat.zero_add _⟩, ⟨fun j hj => absurd hj (Nat.not_lt_zero _)⟩, HY5, HX5, FX5, FY, HB5⟩
  case round =>
    clear HY5 HX5 FX5 FY HB5
    obtain ⟨i, rfl, HI, HN, HY, HX, FX, FY, HB⟩ := hrel
    cases gk with
    | succ k1 =>
      have hI := HI.out
      have l1 : (i : Int) < (note.size : Int) := by omega
      have d1 : decide ((i : Int) < (note.size : Int)) = true := decide_eq_true l1
      have hil : i < note.size := by omega
      have hx6 : ((note[i]'hil).toNat : Int) = bt note (i : Int) := bt_at note (i : Int) hil
      have p6 := eq_true (show (0 : Int) ≤ (i : Int) by omega)
      have q6 := eq_true l1
      by_cases hc : bt note (i : Int) = 10
      · have c7b0 : (bt note (i : Int) == 10) = true := beq_iff_eq.mpr hc
        have c7b1 : (bt note (i : Int) != 10) = false := bne_eq_false_iff_eq.mpr hc
        clear hc l1 hI
        go_wp2
        go_ret
        exact ⟨rfl, by repeat (first | (with_reducible first | exact HB.out | apply below_alloc | apply pw_below_drewN | apply below_drew1) | exact HB.out)⟩
      · have c7b0 : (bt note (i : Int) == 10) = false := beq_eq_false_iff_ne.mpr hc
        have c7b1 : (bt note (i : Int) != 10) = true := bne_iff_ne.mpr hc
        have HC := Aside0.mk hc
        have w7 : wrap64 ((i : Int) + 1) = ((i + 1 : Nat) : Int) := by have := wrap_add (i := (i : Int)) (by omega) (by omega); rw [this]; rfl
        have HW7 := Aside0.mk w7
        clear hc l1 hI w7
        go_wp2
        go_roundg k1
        case measure => omega
        case rel =>
          refine ⟨i + 1, ?_, ⟨by have := HI.out; omega⟩, ⟨fun j hj => ?_⟩, ?_⟩
          · first | rfl | exact congrArg _ HW7.out | exact congrArg _ ((i64_w _).trans HW7.out) | (congr 1; omega)
          · by_cases e : j < i
            · exact HN.out j e
            · obtain rfl : j = i := by omega
              exact HC.out
          · exact ⟨⟨by (with_reducible repeat (first | apply Kd.R_alloc | apply Kd.R_drewN | apply Kd.R_drew)); exact HY.out⟩, ⟨by (with_reducible repeat (first | apply Kd.R_alloc | apply Kd.R_drewN | apply Kd.R_drew)); exact HX.out⟩, ⟨by (with_reducible repeat (first | refine blk_drewN ?_ _ | refine blk_drew ?_ | refine blk_alloc ?_ _)); exact FX.out⟩, ⟨by (with_reducible repeat (first | refine blk_drewN ?_ _ | refine blk_drew ?_ | refine blk_alloc ?_ _)); exact FY.out⟩, ⟨by repeat (first | (with_reducible first | exact HB.out | apply below_alloc | apply pw_below_drewN | apply below_drew1) | exact HB.out)⟩⟩
    | zero =>
      have hI := HI.out
      obtain rfl : i = note.size := by omega
      have d1 : decide ((note.size : Int) < (note.size : Int)) = false := decide_eq_false (by omega)
      have d2 : decide (note.size < note.size) = false := decide_eq_false (by omega)
      have f0 : wr.cell? ⟨gx, 0, none⟩ = some (.int .i64 xf) := (blk_cell FX.out 0).trans rfl
      have f1 : wr.cell? ⟨gy, 0, none⟩ = some (.int .i64 yf) := (blk_cell FY.out 0).trans rfl
      have z1 : (a ++ (⟨#[10, 32, 45, 45, 32]⟩ : ByteArray)).size ≤ 9223372036854775807 := by rw [ByteArray.size_append]; show a.size + 5 ≤ _; omega
      have z2 : ((a ++ (⟨#[10, 32, 45, 45, 32]⟩ : ByteArray)) ++ note).size ≤ 9223372036854775807 := by rw [ByteArray.size_append, ByteArray.size_append]; show a.size + 5 + note.size ≤ _; omega
      clear hI HI
      go_upto_region 11 with (fail)
      have z3 : (a ++ (⟨#[10, 32, 45, 45, 32]⟩ : ByteArray) ++ note ++ (⟨#[10, 9]⟩ : ByteArray) ++ b) = blankText a b note := rfl
      rw [z3]
      generalize blankText a b note = text at HP HS
      clear z1 z2 z3 d1 d2
      by_cases e1 : xf = 0
      · by_cases e2 : yf = 0
        · by_cases e3 : text.size ≤ 65536
          · have hp := HP.out HN.out e1 e2 e3
            obtain ⟨h1, hx1, hy1, h2, k, hk⟩ := hp
            simp only [Prod.mk.injEq] at h2
            obtain ⟨rfl, rfl, rfl⟩ := h2
            subst e1 e2
            have HK := Aside0.mk hk
            have t1 : decide ((text.size : Int) > 65536) = false := decide_eq_false (by omega)
            have t2 : decide (65536 < (text.size : Int)) = false := decide_eq_false (by omega)
            have t3 : decide (65536 < text.size) = false := decide_eq_false (by omega)
            obtain ⟨AX, cx, rfl, hcx, hCx⟩ := Kd.R_reads HX.out
            obtain ⟨AY, cy, rfl, hcy, hCy⟩ := Kd.R_reads HY.out
            have t4 : ((xs.length : Int) == 0) = false := beq_eq_false_iff_ne.mpr (by omega)
            have t5 : (xs.length == 0) = false := beq_eq_false_iff_ne.mpr (by omega)
            have t6 : ¬ xs = [] := by rintro rfl; simp at h1
            go_wp2_with fail
            refine (HS.out.2.2 wr (Laid.below HL.out HB.out)).mono ?_
            rintro e w7 ⟨vz, rfl, hr, hb7⟩
            obtain ⟨AZ, cz, rfl, hcz, hCz⟩ := Kd.R_reads hr
            have HB7 := Aside0.mk (below_step HB.out hb7)
            have CX7 := Aside0.mk (Kd.C_below hCx hb7)
            have CY7 := Aside0.mk (Kd.C_below hCy hb7)
            have CZ7 := Aside0.mk hCz
            clear hr hb7 hCx hCy hCz HX HY HB FX FY HS HP HN t1 t2 t3 t4 t5 t6 f0 f1
            go_upto_region 16 with (fail)
            have TZ := Aside0.mk (blk_new w7 (Obj.cells #[.int .i64 0, .int .i64 0, .int .i64 0] 26))
            have CX := Aside0.mk (Kd.C_alloc CX7.out (Obj.cells #[.int .i64 0, .int .i64 0, .int .i64 0] 26))
            have CY := Aside0.mk (Kd.C_alloc CY7.out (Obj.cells #[.int .i64 0, .int .i64 0, .int .i64 0] 26))
            have CZ := Aside0.mk (Kd.C_alloc CZ7.out (Obj.cells #[.int .i64 0, .int .i64 0, .int .i64 0] 26))
            have HB8 := Aside0.mk (below_alloc HB7.out (Obj.cells #[.int .i64 0, .int .i64 0, .int .i64 0] 26))
            clear CX7 CY7 CZ7 HB7
            generalize w7.alloc (Obj.cells #[.int .i64 0, .int .i64 0, .int .i64 0] 26) = W at *
            generalize w7.heap.size = gz at *
            have g0 : W.cell? ⟨gz, 0, none⟩ = some (.int .i64 0) := (blk_cell TZ.out 0).trans rfl
            have g1 : W.cell? ⟨gz, 1, none⟩ = some (.int .i64 0) := (blk_cell TZ.out 1).trans rfl
            have g2 : W.cell? ⟨gz, 2, none⟩ = some (.int .i64 0) := (blk_cell TZ.out 2).trans rfl
            have hmax := Kd.C_max CX.out
            obtain ⟨j, hj⟩ : ∃ j : Int, (xs.length : Int) - 1 = j := ⟨_, rfl⟩
            have s1 : IntKind.i64.wrap ((xs.length : Int) - 1) = j := by rw [i64_w]; unfold wrap64; omega
            have s2 : wrap64 ((xs.length : Int) - 1) = j := by unfold wrap64; omega
            have s3 := eq_true (show (0 : Int) ≤ j by omega)
            have s4 := eq_true (show j ≤ (cx : Int) by omega)
            have s5 : decide ((0 : Int) ≤ j) = true := decide_eq_true (by omega)
            have s6 : decide (j ≤ (cx : Int)) = true := decide_eq_true (by omega)
            have hm : xs.length = j.toNat + 1 := by omega
            have HM := Aside0.mk hm
            have HX1 := Aside0.mk hx1
            have HY1 := Aside0.mk hy1
            have LZ := Aside0.mk hcz
            clear hm hmax h1 hcx hcy hcz hx1 hy1 e3 hj
            go_wp2_with (first
              | (at_builtin; refine append_rows_at (w0 := W) (base := W.heap.size) (e := 32) (Rr := k32.K W) k32 (.const (.slice none 0 0)) (.tmp 74) 23 (.agg #[(.int .i64 0), (.string ⟨#[]⟩), (.int .i64 0), (.int .i64 0), (.int .i64 0)]) 48 (.slice none 0 0) [] (xs.take j.toNat) AX j.toNat cx (fun _ => True) (fun _ => False) (by rfl) rfl Tryd.underlying23 infoTok rfl (by decide) (by omega) rfl rfl ?aO ?aR (fun _ _ h => h) (fun _ h => h.elim) ?aF ?aB ?aS ?aL ?_
                 (case aO => exact Kd.R_nil _ _ _ _ _)
                 (case aR => (have hm := HM.out; have hct := Kd.C_take CX.out (show j.toNat ≤ xs.length by omega); rw [List.length_take, Nat.min_eq_left (by omega)] at hct; exact hct))
                 (case aF => exact (fun _ _ => trivial))
                 (case aB => exact Below.refl _ _)
                 (case aS => exact Nat.le_refl _)
                 (case aL => (have hm := HM.out; have := HX1.out; simp only [List.length_nil]; omega))
                 intro v5 W5 ho hb hg hat
                 have HO := Aside0.mk ho
                 have HB9 := Aside0.mk hb
                 clear ho hb hg hat)
              | (at_builtin; refine append_rows_at (w0 := W) (base := W.heap.size) (e := 32) (Rr := k32.K W5) k32 (.tmp 75) (.tmp 76) 23 (.agg #[(.int .i64 0), (.string ⟨#[]⟩), (.int .i64 0), (.int .i64 0), (.int .i64 0)]) 48 v5 ([] ++ xs.take j.toNat) ys AY ys.length cy (fun _ => True) (fun _ => False) (by rfl) rfl Tryd.underlying23 infoTok rfl (by decide) (by omega) rfl rfl ?aO ?aR (fun _ _ h => h) (fun _ h => h.elim) ?aF ?aB ?aS ?aL ?_
                 (case aO => exact HO.out)
                 (case aR => exact Kd.C_below CY.out HB9.out)
                 (case aF => exact (fun _ _ => trivial))
                 (case aB => exact HB9.out)
                 (case aS => exact HB9.out.size)
                 (case aL => (have := HX1.out; have := HY1.out; simp only [List.nil_append, List.length_take]; omega))
                 intro v6 W6 ho hb hg hat
                 obtain ⟨AV, cv, rfl, hcv, hCv⟩ := Kd.R_reads ho
                 have HB6 := Aside0.mk hb
                 have CV := Aside0.mk hCv
                 have LV := Aside0.mk hcv
                 clear ho hb hg hat HO HB9 hcv hCv))
            have hm := HM.out
            have hk := HK.out
            rw [show xs.length - 1 = j.toNat by omega] at hk
            have e5 : min j.toNat xs.length + ys.length = (List.take j.toNat xs ++ ys).length := by rw [List.length_append, List.length_take]
            rw [e5]
            have hCV := CV.out
            have hLV := LV.out
            rw [List.nil_append] at hCV hLV
            refine (penduleref01_Alike.calls k AZ cz zs AV cv (List.take j.toNat xs ++ ys) true W6 (Kd.C_below CZ.out HB6.out) LZ.out hCV hLV hk).mono ?_
            rintro e w9 ⟨rfl, ⟨n9, rfl⟩⟩
            have HBF := Aside0.mk (pw_below_drewN (below_step HB8.out HB6.out) n9)
            clear hm hk e5 hCV hLV s1 s2 s3 s4 s5 s6
            go_wp2_with fail
            go_ret
            exact ⟨rfl, HBF.out⟩
          · have t1 : decide ((text.size : Int) > 65536) = true := decide_eq_true (by omega)
            have t2 : decide (65536 < (text.size : Int)) = true := decide_eq_true (by omega)
            have t3 : decide (65536 < text.size) = true := decide_eq_true (by omega)
            subst e1 e2
            clear e3
            go_wp2_with fail
            go_ret
            exact ⟨rfl, by repeat (first | (with_reducible first | exact HB.out | apply below_alloc | apply pw_below_drewN | apply below_drew1) | exact HB.out)⟩
        · have t1 : (yf != 0) = true := bne_iff_ne.mpr e2
          have t2 : (yf == 0) = false := beq_eq_false_iff_ne.mpr e2
          subst e1
          go_wp2_with fail
          go_ret
          exact ⟨rfl, by repeat (first | (with_reducible first | exact HB.out | apply below_alloc | apply pw_below_drewN | apply below_drew1) | exact HB.out)⟩
      · have t1 : (xf != 0) = true := bne_iff_ne.mpr e1
        have t2 : (xf == 0) = false := beq_eq_false_iff_ne.mpr e1
        go_wp2_with fail
        go_ret
        exact ⟨rfl, by repeat (first | (with_reducible first | exact HB.out | apply below_alloc | apply pw_below_drewN | apply below_drew1) | exact HB.out)⟩
end Go.Proofs.YtffeikfffmonkaaDoor
