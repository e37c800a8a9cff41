-- written by wip/py/pr.py of this repo, by way of the kit's printer
import Derived.Test.YtffeikfffmonkaaDoorPScanx0
import Derived.Test.YtffeikfffmonkaaDoorPScanx1
import Derived.Test.YtffeikfffmonkaaDoorPScanx2
import Derived.Test.YtffeikfffmonkaaDoorPScanx4
import Derived.Test.YtffeikfffmonkaaDoorScanG
import Derived.Test.YtffeikfffmonkaaDoorScanH
import Derived.Test.YtffeikfffmonkaaDoorScanL
namespace Go.Proofs.YtffeikfffmonkaaDoor.PScan
open Go.RowKit Go.Proofs.YtffeikfffmonkaaDoorW.PrintWords Go.Proofs.YtffeikfffmonkaaDoorW.PrintLast Go.Proofs.YtffeikfffmonkaaDoorW.PrintMore
attribute [local go_sem] max2_int min2_int max_two min_two max_three min_three max_four min_four   -- for this text's walks alone
set_option linter.unusedVariables false
set_option linter.unusedSimpArgs false

attribute [local go_sem high] eqA26 eqA32
/-! ### pendulelaw01_ScanAlone: function 7 -/
mutual
def pendulelaw01_ScanAlone.j0 : Nat → ByteArray → List (S32) → Int → Int → Int → Int → Option (Bool)
  | 0, _, _, _, _, _, _ => none
  | k + 1, x0, x3, x5, x232000, x232001, x232002 => (scan_IsCon.f x0).bind fun t233 => (if t233 = true then (pendulelaw01_ScanAlone.j1 k x0 x3 2 x232000 x232001 x232002) else (pendulelaw01_ScanAlone.j1 k x0 x3 x5 x232000 x232001 x232002))
def pendulelaw01_ScanAlone.j1 : Nat → ByteArray → List (S32) → Int → Int → Int → Int → Option (Bool)
  | 0, _, _, _, _, _, _ => none
  | k + 1, x0, x3, x5, x232000, x232001, x232002 => (scan_IsWord.f k x0).bind fun t234 => (if t234 = true then (if 5 = 0 then (if x232000 = 0 then (if (x3.length : Int) = 2 then (if 0 < (x3.length : Int) then (if ((rd_T32 x3 0).f1).toList = x0.toList then (if ((rd_T32 x3 0).f0) = 3 then (some true) else (some (((rd_T32 x3 0).f0) == 4))) else (some true)) else (none)) else (some true)) else (some true)) else (if (x232000 == 0 && (x232001 == 0 && (x232002 == 0))) = true then (if (x3.length : Int) = 2 then (if 0 < (x3.length : Int) then (if (((rd_T32 x3 0).f0) == 5 && ((((rd_T32 x3 0).f1).toList) == x0.toList && (((rd_T32 x3 0).f2) == 0 && (((rd_T32 x3 0).f3) == 1 && (((rd_T32 x3 0).f4) == 1))))) = true then (if 1 < (x3.length : Int) then (some (((rd_T32 x3 1).f0) == 6 && ((((rd_T32 x3 1).f1).toList) == ([] : List UInt8) && (((rd_T32 x3 1).f2) == 0 && (((rd_T32 x3 1).f3) == 1 && (((rd_T32 x3 1).f4) == (wrap64 (1 + (x0.size : Int))))))))) else (none)) else (some false)) else (none)) else (some false)) else (some false))) else (if x5 = 0 then (if x232000 = 0 then (if (x3.length : Int) = 2 then (if 0 < (x3.length : Int) then (if ((rd_T32 x3 0).f1).toList = x0.toList then (if ((rd_T32 x3 0).f0) = 3 then (some true) else (some (((rd_T32 x3 0).f0) == 4))) else (some true)) else (none)) else (some true)) else (some true)) else (if (x232000 == 0 && (x232001 == 0 && (x232002 == 0))) = true then (if (x3.length : Int) = 2 then (if 0 < (x3.length : Int) then (if (((rd_T32 x3 0).f0) == x5 && ((((rd_T32 x3 0).f1).toList) == x0.toList && (((rd_T32 x3 0).f2) == 0 && (((rd_T32 x3 0).f3) == 1 && (((rd_T32 x3 0).f4) == 1))))) = true then (if 1 < (x3.length : Int) then (some (((rd_T32 x3 1).f0) == 6 && ((((rd_T32 x3 1).f1).toList) == ([] : List UInt8) && (((rd_T32 x3 1).f2) == 0 && (((rd_T32 x3 1).f3) == 1 && (((rd_T32 x3 1).f4) == (wrap64 (1 + (x0.size : Int))))))))) else (none)) else (some false)) else (none)) else (some false)) else (some false))))
end
def pendulelaw01_ScanAlone.f (k : Nat) (a0 : ByteArray) : Option (Bool) := (pendulelaw01_lives.f).bind fun t224 => (if t224 = true then ((scan_Scan.f k a0).bind fun bt225 => ((scan_IsName.f a0).bind fun t232 => (if t232 = true then (pendulelaw01_ScanAlone.j0 k a0 bt225.1 1 bt225.2.1 bt225.2.2.1 bt225.2.2.2) else (pendulelaw01_ScanAlone.j0 k a0 bt225.1 0 bt225.2.1 bt225.2.2.1 bt225.2.2.2)))) else (some false))
theorem pendulelaw01_ScanAlone.mono_l : ∀ k, (∀ y0 y1 y2 y3 y4 y5, LeO (pendulelaw01_ScanAlone.j0 k y0 y1 y2 y3 y4 y5) (pendulelaw01_ScanAlone.j0 (k + 1) y0 y1 y2 y3 y4 y5)) ∧ (∀ y0 y1 y2 y3 y4 y5, LeO (pendulelaw01_ScanAlone.j1 k y0 y1 y2 y3 y4 y5) (pendulelaw01_ScanAlone.j1 (k + 1) y0 y1 y2 y3 y4 y5))
  | 0 => ⟨fun _ _ _ _ _ _ r h => by simp [pendulelaw01_ScanAlone.j0] at h, fun _ _ _ _ _ _ r h => by simp [pendulelaw01_ScanAlone.j1] at h⟩
  | k + 1 => by
    obtain ⟨ih0, ih1⟩ := pendulelaw01_ScanAlone.mono_l k
    refine ⟨?_, ?_⟩
    · intro y0 y1 y2 y3 y4 y5
      unfold pendulelaw01_ScanAlone.j0
      repeat' first
      | (with_reducible exact ih0 _ _ _ _ _ _)
      | (with_reducible exact ih1 _ _ _ _ _ _)
      | (with_reducible exact scan_IsWord.mono _ _)
      | (with_reducible exact scan_Scan.mono _ _)
      | (with_reducible exact LeO.refl _)
      | (with_reducible exact LeO.none _)
      | (with_reducible refine LeO.ite ?_ ?_)
      | (with_reducible refine LeO.bind ?_ (fun _ => ?_))
      | exact ih0 _ _ _ _ _ _
      | exact ih1 _ _ _ _ _ _
      | exact scan_IsWord.mono _ _
      | exact scan_Scan.mono _ _
      | exact LeO.none _
      | refine LeO.ite ?_ ?_
      | refine LeO.bind ?_ (fun _ => ?_)
    · intro y0 y1 y2 y3 y4 y5
      unfold pendulelaw01_ScanAlone.j1
      repeat' first
      | (with_reducible exact ih0 _ _ _ _ _ _)
      | (with_reducible exact ih1 _ _ _ _ _ _)
      | (with_reducible exact scan_IsWord.mono _ _)
      | (with_reducible exact scan_Scan.mono _ _)
      | (with_reducible exact LeO.refl _)
      | (with_reducible exact LeO.none _)
      | (with_reducible refine LeO.ite ?_ ?_)
      | (with_reducible refine LeO.bind ?_ (fun _ => ?_))
      | exact ih0 _ _ _ _ _ _
      | exact ih1 _ _ _ _ _ _
      | exact scan_IsWord.mono _ _
      | exact scan_Scan.mono _ _
      | exact LeO.none _
      | refine LeO.ite ?_ ?_
      | refine LeO.bind ?_ (fun _ => ?_)
theorem pendulelaw01_ScanAlone.mono : ∀ a0 k, LeO (pendulelaw01_ScanAlone.f k a0) (pendulelaw01_ScanAlone.f (k + 1) a0) := by
  intro a0 k
  obtain ⟨ih0, ih1⟩ := pendulelaw01_ScanAlone.mono_l k
  unfold pendulelaw01_ScanAlone.f
  repeat' first
      | (with_reducible exact ih0 _ _ _ _ _ _)
      | (with_reducible exact ih1 _ _ _ _ _ _)
      | (with_reducible exact scan_IsWord.mono _ _)
      | (with_reducible exact scan_Scan.mono _ _)
      | (with_reducible exact LeO.refl _)
      | (with_reducible exact LeO.none _)
      | (with_reducible refine LeO.ite ?_ ?_)
      | (with_reducible refine LeO.bind ?_ (fun _ => ?_))
      | exact ih0 _ _ _ _ _ _
      | exact ih1 _ _ _ _ _ _
      | exact scan_IsWord.mono _ _
      | exact scan_Scan.mono _ _
      | exact LeO.none _
      | refine LeO.ite ?_ ?_
      | refine LeO.bind ?_ (fun _ => ?_)
set_option maxHeartbeats 8000000 in
set_option maxRecDepth 100000 in
theorem pendulelaw01_ScanAlone.calls (k : Nat) (a0 : ByteArray) (r : Bool) (w : World) (h : pendulelaw01_ScanAlone.f k a0 = some r) (hL : Laid w) :
    Calls Tryd.prog 7 #[.string a0] w fun e w' => e = .returned (.bool r) ∧ Below w.heap.size w w' := by
  have hu26 := Tryd.underlying26
  have hu32 := Tryd.underlying32
  have HB := Aside0.mk (Below.refl w.heap.size w)
  have H : ((pendulelaw01_lives.f).bind fun t224 => (if t224 = true then ((scan_Scan.f k a0).bind fun bt225 => ((scan_IsName.f a0).bind fun t232 => (if t232 = true then (pendulelaw01_ScanAlone.j0 k a0 bt225.1 1 bt225.2.1 bt225.2.2.1 bt225.2.2.2) else (pendulelaw01_ScanAlone.j0 k a0 bt225.1 0 bt225.2.1 bt225.2.2.1 bt225.2.2.2)))) else (some false))) = some r := h
  clear h
  replace H := Option.bind_eq_some_iff.mp H
  obtain ⟨t224, A20, H⟩ := H
  replace H : (if t224 = true then ((scan_Scan.f k a0).bind fun bt225 => ((scan_IsName.f a0).bind fun t232 => (if t232 = true then (pendulelaw01_ScanAlone.j0 k a0 bt225.1 1 bt225.2.1 bt225.2.2.1 bt225.2.2.2) else (pendulelaw01_ScanAlone.j0 k a0 bt225.1 0 bt225.2.1 bt225.2.2.1 bt225.2.2.2)))) else (some false)) = some r := H
  have A2 := Aside0.mk A20
  clear A20
  by_cases c3 : t224 = true
  · subst c3
    have H1 : ((scan_Scan.f k a0).bind fun bt225 => ((scan_IsName.f a0).bind fun t232 => (if t232 = true then (pendulelaw01_ScanAlone.j0 k a0 bt225.1 1 bt225.2.1 bt225.2.2.1 bt225.2.2.2) else (pendulelaw01_ScanAlone.j0 k a0 bt225.1 0 bt225.2.1 bt225.2.2.1 bt225.2.2.2)))) = some r := by rw [if_pos rfl] at H; exact H
    clear H
    have H := H1
    clear H1
    replace H := Option.bind_eq_some_iff.mp H
    obtain ⟨⟨t225, t228, t229, t230⟩, A40, H⟩ := H
    replace H : ((scan_IsName.f a0).bind fun t232 => (if t232 = true then (pendulelaw01_ScanAlone.j0 k a0 t225 1 t228 t229 t230) else (pendulelaw01_ScanAlone.j0 k a0 t225 0 t228 t229 t230))) = some r := H
    have A4 := Aside0.mk A40
    clear A40
    replace H := Option.bind_eq_some_iff.mp H
    obtain ⟨t232, A50, H⟩ := H
    replace H : (if t232 = true then (pendulelaw01_ScanAlone.j0 k a0 t225 1 t228 t229 t230) else (pendulelaw01_ScanAlone.j0 k a0 t225 0 t228 t229 t230)) = some r := H
    have A5 := Aside0.mk A50
    clear A50
    have HC6 := Aside0.mk H
    clear H
    go_enter Tryd.func7, Tryd.ntmps7
    go_upto_if 14 with (first | ((with_reducible refine gate_callee (f := 9) rfl ?_); refine goesL_ (some 6) rfl rfl Tryd.func9 (by kernel_rfl) rfl #[] rfl (by (try simp only [List.map_toArray, List.map_cons, List.map_nil]); first | done | rfl | (simp only [List.length_drop, List.length_take]; rfl)) ?_; (with_reducible refine (pendulelaw01_lives.calls  true _ A2.out (Laid.below hL (by repeat (first | (with_reducible first | exact HB.out | apply below_alloc | apply pw_below_drewN | apply below_drew1) | exact HB.out)))).mono ?_); rintro e w7 ⟨rfl, hb⟩; refine ⟨_, rfl, ?_⟩; have n0_ := Aside0.mk (below_step (by repeat (first | (with_reducible first | exact HB.out | apply below_alloc | apply pw_below_drewN | apply below_drew1) | exact HB.out)) hb); clear HB; have HB := n0_; clear n0_; (try clear hb); (try clear hb2); (try clear hk); (try clear hi)) | ((with_reducible refine gate_callee (f := 10) rfl ?_); refine goesL_ (some 10) rfl rfl Tryd.func10 (by kernel_rfl) rfl #[.string a0] rfl (by (try simp only [List.map_toArray, List.map_cons, List.map_nil]); first | done | rfl | (simp only [List.length_drop, List.length_take]; rfl)) ?_; (with_reducible refine (scan_Scan.calls k a0 t225 t228 t229 t230 _ A4.out (Laid.below hL (by repeat (first | (with_reducible first | exact HB.out | apply below_alloc | apply pw_below_drewN | apply below_drew1) | exact HB.out)))).mono ?_); rintro e w8 ⟨v226, rfl, ho0, hb⟩; refine ⟨_, rfl, ?_⟩; have n0_ := Aside0.mk (Kd.R_lower ho0 (below_size (by repeat (first | (with_reducible first | exact HB.out | apply below_alloc | apply pw_below_drewN | apply below_drew1) | exact HB.out)))); have n1_ := Aside0.mk (below_step (by repeat (first | (with_reducible first | exact HB.out | apply below_alloc | apply pw_below_drewN | apply below_drew1) | exact HB.out)) hb); clear HB; have HO227 := n0_; have HB := n1_; clear n0_ n1_; (try clear hb); (try clear hb2); (try clear hk); (try clear hi); (try clear ho0)) | ((with_reducible refine gate_dst (N := 4) rfl ?_); (try (refine gate_guard (by rfl) ?_; dsimp only)); refine box_event ?hg (N := 4) ?hd (cs := #[.int .i64 0, .int .i64 0, .int .i64 0]) (t := 26) ?hr ?_; (case hd => rfl); (case hg => rfl); (case hr => first | (go_simp; done) | (go_simp; rfl)); intro gb231 hg w9 hbox hb; have n0_ := Aside0.mk (Kd.R_below (by (with_reducible repeat (first | apply Kd.R_alloc | apply Kd.R_drewN | apply Kd.R_drew)); exact HO227.out) hb); have n1_ := Aside0.mk (below_step (by repeat (first | (with_reducible first | exact HB.out | apply below_alloc | apply pw_below_drewN | apply below_drew1) | exact HB.out)) hb); have n2_ := Aside0.mk (hbox); have n3_ := Aside0.mk ((by rw [hg]; exact (below_size (by repeat (first | (with_reducible first | exact HB.out | apply below_alloc | apply pw_below_drewN | apply below_drew1) | exact HB.out))) : w.heap.size ≤ gb231)); have n4_ := Aside0.mk ((by rw [hg]; exact (below_size (by repeat (first | (with_reducible first | exact HB.out | apply below_alloc | apply pw_below_drewN | apply below_drew1) | exact HB.out))) : w.heap.size ≤ gb231)); clear HO227; clear HB; have HO227 := n0_; have HB := n1_; have BK231 := n2_; have GW231 := n3_; have GE231 := n4_; clear n0_ n1_ n2_ n3_ n4_; clear hb hbox hg; have hcz10_0 : w9.cell? ⟨gb231, 0, none⟩ = some (.int .i64 0) := (blk_cell BK231.out 0).trans rfl; have hcz10_1 : w9.cell? ⟨gb231, 1, none⟩ = some (.int .i64 0) := (blk_cell BK231.out 1).trans rfl; have hcz10_2 : w9.cell? ⟨gb231, 2, none⟩ = some (.int .i64 0) := (blk_cell BK231.out 2).trans rfl; have hfz10_0 := blk_frozen BK231.out 0; have hfz10_1 := blk_frozen BK231.out 1; have hfz10_2 := blk_frozen BK231.out 2) | ((with_reducible refine gate_callee (f := 14) rfl ?_); refine goesL_ (some 14) rfl rfl Tryd.func14 (by kernel_rfl) rfl #[.string a0] rfl (by (try simp only [List.map_toArray, List.map_cons, List.map_nil]); first | done | rfl | (simp only [List.length_drop, List.length_take]; rfl)) ?_; (with_reducible refine (scan_IsName.calls a0 t232 _ A5.out).mono ?_); rintro e w11 ⟨rfl, hb⟩; refine ⟨_, rfl, ?_⟩; have n0_ := Aside0.mk (Kd.R_below (by (with_reducible repeat (first | apply Kd.R_alloc | apply Kd.R_drewN | apply Kd.R_drew)); exact (Kd.R_mono (Kd.R_far (p := ⟨gb231, 2, none⟩) (Kd.R_far (p := ⟨gb231, 1, none⟩) (Kd.R_far (p := ⟨gb231, 0, none⟩) (Kd.R_types HO227.out BK231.out (by decide)) (fun _ hk => hk.2) (.int .i64 t228)) (fun _ hk => hk.2) (.int .i64 t229)) (fun _ hk => hk.2) (.int .i64 t230)) (fun _ h_ => h_.1))) hb); have n1_ := Aside0.mk (blk_below (g := gb231) (o := .cells #[.int .i64 t228, .int .i64 t229, .int .i64 t230] 26 (0, 0)) (by (with_reducible repeat (first | refine blk_drewN ?_ _ | refine blk_drew ?_ | refine blk_alloc ?_ _)); refine blk_put (cs := #[.int .i64 t228, .int .i64 t229, .int .i64 0]) ?_ 2 _ rfl; (with_reducible repeat (first | refine blk_drewN ?_ _ | refine blk_drew ?_ | refine blk_alloc ?_ _)); refine blk_put (cs := #[.int .i64 t228, .int .i64 0, .int .i64 0]) ?_ 1 _ rfl; (with_reducible repeat (first | refine blk_drewN ?_ _ | refine blk_drew ?_ | refine blk_alloc ?_ _)); refine blk_put (cs := #[.int .i64 0, .int .i64 0, .int .i64 0]) ?_ 0 _ rfl; (with_reducible repeat (first | refine blk_drewN ?_ _ | refine blk_drew ?_ | refine blk_alloc ?_ _)); exact BK231.out) hb); have n2_ := Aside0.mk (below_step (by repeat (first | (with_reducible first | exact HB.out | apply below_alloc | apply pw_below_drewN | apply below_drew1 | refine below_set ?_ GE231.out) | exact HB.out)) hb); clear HO227; clear BK231; clear HB; have HO227 := n0_; have BK231 := n1_; have HB := n2_; clear n0_ n1_ n2_; (try clear hb); (try clear hb2); (try clear hk); (try clear hi)))
    (try simp only [Act.put, List.setIfInBounds_toArray, List.set_cons_zero, List.set_cons_succ])
    go_cut [5] (fun v5 wc => ∃ (kq : Nat) (x5_5 : Int), v5 = .int .i64 x5_5 ∧ Aside0 (pendulelaw01_ScanAlone.j0 kq a0 t225 x5_5 t228 t229 t230 = some r) ∧ Aside0 (kq ≤ k) ∧ Aside0 (Kd.R k32 32 wc w.heap.size (fun _ => True) v226 t225) ∧ Aside0 (wc.heap[gb231]? = some (.cells #[.int .i64 t228, .int .i64 t229, .int .i64 t230] 26 (0, 0))) ∧ Aside0 (Below w.heap.size w wc))
    case first =>
      have H := HC6.out
      clear HC6
      by_cases c12 : t232 = true
      · subst c12
        have H1 : (pendulelaw01_ScanAlone.j0 k a0 t225 1 t228 t229 t230) = some r := by rw [if_pos rfl] at H; exact H
        clear H
        have H := H1
        clear H1
        have H' := Aside0.mk H
        clear H
        go_wp2
        go_meet
        case rel => exact ⟨_, (1), (by first | rfl | (simp; done) | (simp [*]; done)), H', ⟨by first | omega | exact Nat.le_refl _⟩, ⟨by (with_reducible repeat (first | apply Kd.R_alloc | apply Kd.R_drewN | apply Kd.R_drew)); exact HO227.out⟩, ⟨by (with_reducible repeat (first | refine blk_drewN ?_ _ | refine blk_drew ?_ | refine blk_alloc ?_ _)); exact BK231.out⟩, ⟨by repeat (first | (with_reducible first | exact HB.out | apply below_alloc | apply pw_below_drewN | apply below_drew1 | refine below_set ?_ GE231.out) | exact HB.out)⟩⟩
      · replace c12 := Bool.eq_false_iff.mpr c12
        subst c12
        have H1 : (pendulelaw01_ScanAlone.j0 k a0 t225 0 t228 t229 t230) = some r := by rw [if_neg (show ¬ (false = true) by decide)] at H; exact H
        clear H
        have H := H1
        clear H1
        have H' := Aside0.mk H
        clear H
        go_wp2
        go_meet
        case rel => exact ⟨_, (0), (by first | rfl | (simp; done) | (simp [*]; done)), H', ⟨by first | omega | exact Nat.le_refl _⟩, ⟨by (with_reducible repeat (first | apply Kd.R_alloc | apply Kd.R_drewN | apply Kd.R_drew)); exact HO227.out⟩, ⟨by (with_reducible repeat (first | refine blk_drewN ?_ _ | refine blk_drew ?_ | refine blk_alloc ?_ _)); exact BK231.out⟩, ⟨by repeat (first | (with_reducible first | exact HB.out | apply below_alloc | apply pw_below_drewN | apply below_drew1 | refine below_set ?_ GE231.out) | exact HB.out)⟩⟩
    case rest =>
      clear HC6
      try clear c1
      try clear p2
      try clear c3
      try clear c7
      try clear c9
      try clear c10
      try clear c12
      try clear hcz10_0
      try clear hcz10_1
      try clear hcz10_2
      try clear hfz10_0
      try clear hfz10_1
      try clear hfz10_2
      obtain ⟨kq, x5_5, rfl, HA, HJ5, HO_3, BK231, HB⟩ := hcut
      cases kq with
      | zero => exact absurd HA.out (by simp [pendulelaw01_ScanAlone.j0])
      | succ kj5 =>
        have H := HA.out
        clear HA
        simp only [pendulelaw01_ScanAlone.j0] at H
        replace H := Option.bind_eq_some_iff.mp H
        obtain ⟨t233, A130, H⟩ := H
        replace H : (if t233 = true then (pendulelaw01_ScanAlone.j1 kj5 a0 t225 2 t228 t229 t230) else (pendulelaw01_ScanAlone.j1 kj5 a0 t225 x5_5 t228 t229 t230)) = some r := H
        have A13 := Aside0.mk A130
        clear A130
        have HC14 := Aside0.mk H
        clear H
        go_upto_if 16 with (first | ((with_reducible refine gate_callee (f := 15) rfl ?_); refine goesL_ (some 16) rfl rfl Tryd.func15 (by kernel_rfl) rfl #[.string a0] rfl (by (try simp only [List.map_toArray, List.map_cons, List.map_nil]); first | done | rfl | (simp only [List.length_drop, List.length_take]; rfl)) ?_; (with_reducible refine (scan_IsCon.calls a0 t233 _ A13.out).mono ?_); rintro e w' ⟨rfl, ⟨nd, rfl⟩⟩; refine ⟨_, rfl, ?_⟩))
        (try simp only [Act.put, List.setIfInBounds_toArray, List.set_cons_zero, List.set_cons_succ])
        go_cut [5] (fun v5 wc => ∃ (kq : Nat) (x5_13 : Int), v5 = .int .i64 x5_13 ∧ Aside0 (pendulelaw01_ScanAlone.j1 kq a0 t225 x5_13 t228 t229 t230 = some r) ∧ Aside0 (kq ≤ kj5) ∧ Aside0 (Kd.R k32 32 wc w.heap.size (fun _ => True) v226 t225) ∧ Aside0 (wc.heap[gb231]? = some (.cells #[.int .i64 t228, .int .i64 t229, .int .i64 t230] 26 (0, 0))) ∧ Aside0 (Below w.heap.size w wc))
        case first =>
          have H := HC14.out
          clear HC14
          by_cases c15 : t233 = true
          · subst c15
            have H1 : (pendulelaw01_ScanAlone.j1 kj5 a0 t225 2 t228 t229 t230) = some r := by rw [if_pos rfl] at H; exact H
            clear H
            have H := H1
            clear H1
            have H' := Aside0.mk H
            clear H
            go_wp2
            go_meet
            case rel => exact ⟨_, (2), (by first | rfl | (simp; done) | (simp [*]; done)), H', ⟨by have := HJ5.out; first | omega | exact Nat.le_refl _⟩, ⟨by (with_reducible repeat (first | apply Kd.R_alloc | apply Kd.R_drewN | apply Kd.R_drew)); exact HO_3.out⟩, ⟨by (with_reducible repeat (first | refine blk_drewN ?_ _ | refine blk_drew ?_ | refine blk_alloc ?_ _)); exact BK231.out⟩, ⟨by repeat (first | (with_reducible first | exact HB.out | apply below_alloc | apply pw_below_drewN | apply below_drew1 | refine below_set ?_ GE231.out) | exact HB.out)⟩⟩
          · replace c15 := Bool.eq_false_iff.mpr c15
            subst c15
            have H1 : (pendulelaw01_ScanAlone.j1 kj5 a0 t225 x5_5 t228 t229 t230) = some r := by rw [if_neg (show ¬ (false = true) by decide)] at H; exact H
            clear H
            have H := H1
            clear H1
            have H' := Aside0.mk H
            clear H
            go_wp2
            go_meet
            case rel => exact ⟨_, (x5_5), (by first | rfl | (simp; done) | (simp [*]; done)), H', ⟨by have := HJ5.out; first | omega | exact Nat.le_refl _⟩, ⟨by (with_reducible repeat (first | apply Kd.R_alloc | apply Kd.R_drewN | apply Kd.R_drew)); exact HO_3.out⟩, ⟨by (with_reducible repeat (first | refine blk_drewN ?_ _ | refine blk_drew ?_ | refine blk_alloc ?_ _)); exact BK231.out⟩, ⟨by repeat (first | (with_reducible first | exact HB.out | apply below_alloc | apply pw_below_drewN | apply below_drew1 | refine below_set ?_ GE231.out) | exact HB.out)⟩⟩
        case rest =>
          clear HC14
          try clear c1
          try clear p2
          try clear c3
          try clear c7
          try clear c9
          try clear c10
          try clear c12
          try clear c14
          try clear c15
          try clear hcz10_0
          try clear hcz10_1
          try clear hcz10_2
          try clear hfz10_0
          try clear hfz10_1
          try clear hfz10_2
          try clear p2
          obtain ⟨kq, x5_13, rfl, HA, HJ13, HO_3, BK231, HB⟩ := hcut
          cases kq with
          | zero => exact absurd HA.out (by simp [pendulelaw01_ScanAlone.j1])
          | succ kj13 =>
            have H := HA.out
            clear HA
            simp only [pendulelaw01_ScanAlone.j1] at H
            replace H := Option.bind_eq_some_iff.mp H
            obtain ⟨t234, A160, H⟩ := H
            replace H : (if t234 = true then (if 5 = 0 then (if t228 = 0 then (if (t225.length : Int) = 2 then (if 0 < (t225.length : Int) then (if ((rd_T32 t225 0).f1).toList = a0.toList then (if ((rd_T32 t225 0).f0) = 3 then (some true) else (some (((rd_T32 t225 0).f0) == 4))) else (some true)) else (none)) else (some true)) else (some true)) else (if (t228 == 0 && (t229 == 0 && (t230 == 0))) = true then (if (t225.length : Int) = 2 then (if 0 < (t225.length : Int) then (if (((rd_T32 t225 0).f0) == 5 && ((((rd_T32 t225 0).f1).toList) == a0.toList && (((rd_T32 t225 0).f2) == 0 && (((rd_T32 t225 0).f3) == 1 && (((rd_T32 t225 0).f4) == 1))))) = true then (if 1 < (t225.length : Int) then (some (((rd_T32 t225 1).f0) == 6 && ((((rd_T32 t225 1).f1).toList) == ([] : List UInt8) && (((rd_T32 t225 1).f2) == 0 && (((rd_T32 t225 1).f3) == 1 && (((rd_T32 t225 1).f4) == (wrap64 (1 + (a0.size : Int))))))))) else (none)) else (some false)) else (none)) else (some false)) else (some false))) else (if x5_13 = 0 then (if t228 = 0 then (if (t225.length : Int) = 2 then (if 0 < (t225.length : Int) then (if ((rd_T32 t225 0).f1).toList = a0.toList then (if ((rd_T32 t225 0).f0) = 3 then (some true) else (some (((rd_T32 t225 0).f0) == 4))) else (some true)) else (none)) else (some true)) else (some true)) else (if (t228 == 0 && (t229 == 0 && (t230 == 0))) = true then (if (t225.length : Int) = 2 then (if 0 < (t225.length : Int) then (if (((rd_T32 t225 0).f0) == x5_13 && ((((rd_T32 t225 0).f1).toList) == a0.toList && (((rd_T32 t225 0).f2) == 0 && (((rd_T32 t225 0).f3) == 1 && (((rd_T32 t225 0).f4) == 1))))) = true then (if 1 < (t225.length : Int) then (some (((rd_T32 t225 1).f0) == 6 && ((((rd_T32 t225 1).f1).toList) == ([] : List UInt8) && (((rd_T32 t225 1).f2) == 0 && (((rd_T32 t225 1).f3) == 1 && (((rd_T32 t225 1).f4) == (wrap64 (1 + (a0.size : Int))))))))) else (none)) else (some false)) else (none)) else (some false)) else (some false)))) = some r := H
            have A16 := Aside0.mk A160
            clear A160
            by_cases c17 : t234 = true
            · subst c17
              have H1 : (if 5 = 0 then (if t228 = 0 then (if (t225.length : Int) = 2 then (if 0 < (t225.length : Int) then (if ((rd_T32 t225 0).f1).toList = a0.toList then (if ((rd_T32 t225 0).f0) = 3 then (some true) else (some (((rd_T32 t225 0).f0) == 4))) else (some true)) else (none)) else (some true)) else (some true)) else (if (t228 == 0 && (t229 == 0 && (t230 == 0))) = true then (if (t225.length : Int) = 2 then (if 0 < (t225.length : Int) then (if (((rd_T32 t225 0).f0) == 5 && ((((rd_T32 t225 0).f1).toList) == a0.toList && (((rd_T32 t225 0).f2) == 0 && (((rd_T32 t225 0).f3) == 1 && (((rd_T32 t225 0).f4) == 1))))) = true then (if 1 < (t225.length : Int) then (some (((rd_T32 t225 1).f0) == 6 && ((((rd_T32 t225 1).f1).toList) == ([] : List UInt8) && (((rd_T32 t225 1).f2) == 0 && (((rd_T32 t225 1).f3) == 1 && (((rd_T32 t225 1).f4) == (wrap64 (1 + (a0.size : Int))))))))) else (none)) else (some false)) else (none)) else (some false)) else (some false))) = some r := by rw [if_pos rfl] at H; exact H
              clear H
              have H := H1
              clear H1
              by_cases c18 : 5 = 0
              · rw [if_pos c18] at H
                have c18b0 : (5 == 0) = true := beq_iff_eq.mpr c18
                have c18b1 : (5 != 0) = false := bne_eq_false_iff_eq.mpr c18
                clear c18
                by_cases c19 : t228 = 0
                · rw [if_pos c19] at H
                  have c19b0 : (t228 == 0) = true := beq_iff_eq.mpr c19
                  have c19b1 : (t228 != 0) = false := bne_eq_false_iff_eq.mpr c19
                  clear c19
                  by_cases c20 : (t225.length : Int) = 2
                  · rw [if_pos c20] at H
                    have c20b0 : ((t225.length : Int) == 2) = true := beq_iff_eq.mpr c20
                    have c20b1 : ((t225.length : Int) != 2) = false := bne_eq_false_iff_eq.mpr c20
                    clear c20
                    by_cases c21 : 0 < (t225.length : Int)
                    · rw [if_pos c21] at H
                      have c21b0 : decide (0 < (t225.length : Int)) = true := decide_eq_true c21
                      have c21b1 : decide (0 < t225.length) = true := decide_eq_true (by omega)
                      clear c21
                      by_cases c22 : ((rd_T32 t225 0).f1).toList = a0.toList
                      · rw [if_pos c22] at H
                        have c22b0 : (((rd_T32 t225 0).f1).toList == a0.toList) = true := beq_iff_eq.mpr c22
                        have c22b1 : (((rd_T32 t225 0).f1).toList != a0.toList) = false := bne_eq_false_iff_eq.mpr c22
                        clear c22
                        by_cases c23 : ((rd_T32 t225 0).f0) = 3
                        · rw [if_pos c23] at H
                          have c23b0 : (((rd_T32 t225 0).f0) == 3) = true := beq_iff_eq.mpr c23
                          have c23b1 : (((rd_T32 t225 0).f0) != 3) = false := bne_eq_false_iff_eq.mpr c23
                          clear c23
                          obtain rfl := Option.some.inj H
                          go_wp2_with (first | ((with_reducible refine gate_callee (f := 16) rfl ?_); refine goesL_ (some 18) rfl rfl Tryd.func16 (by kernel_rfl) rfl #[.string a0] rfl (by (try simp only [List.map_toArray, List.map_cons, List.map_nil]); first | done | rfl | (simp only [List.length_drop, List.length_take]; rfl)) ?_; (with_reducible refine (scan_IsWord.calls kj13 a0 true _ A16.out).mono ?_); rintro e w24 ⟨rfl, hb⟩; refine ⟨_, rfl, ?_⟩; have n0_ := Aside0.mk (Kd.R_below (by (with_reducible repeat (first | apply Kd.R_alloc | apply Kd.R_drewN | apply Kd.R_drew)); exact HO_3.out) hb); have n1_ := Aside0.mk (blk_below (g := gb231) (o := .cells #[.int .i64 t228, .int .i64 t229, .int .i64 t230] 26 (0, 0)) (by (with_reducible repeat (first | refine blk_drewN ?_ _ | refine blk_drew ?_ | refine blk_alloc ?_ _)); exact BK231.out) hb); have n2_ := Aside0.mk (below_step (by repeat (first | (with_reducible first | exact HB.out | apply below_alloc | apply pw_below_drewN | apply below_drew1 | refine below_set ?_ GE231.out) | exact HB.out)) hb); clear HO_3; clear BK231; clear HB; have HO_3 := n0_; have BK231 := n1_; have HB := n2_; clear n0_ n1_ n2_; (try clear hb); (try clear hb2); (try clear hk); (try clear hi); have hcz25_0 : w24.cell? ⟨gb231, 0, none⟩ = some (.int .i64 t228) := (blk_cell BK231.out 0).trans rfl; have hcz25_1 : w24.cell? ⟨gb231, 1, none⟩ = some (.int .i64 t229) := (blk_cell BK231.out 1).trans rfl; have hcz25_2 : w24.cell? ⟨gb231, 2, none⟩ = some (.int .i64 t230) := (blk_cell BK231.out 2).trans rfl; have hfz25_0 := blk_frozen BK231.out 0; have hfz25_1 := blk_frozen BK231.out 1; have hfz25_2 := blk_frozen BK231.out 2; obtain ⟨Ao26, co26, eo26⟩ := Kd.R_slice HO_3.out; subst eo26; have p235 : 0 ≤ (0 : Int) := (by omega); have q235 : 0 < (t225.length : Int) := of_decide_eq_true (by first | (with_reducible assumption) | assumption); obtain ⟨ad235, e235, hx235_0, hx235_1, hx235_2, hx235_3, hx235_4⟩ := at_T32 (Kd.R_reads' HO_3.out).2.2 0 p235 q235; cases e235; have qi235 : (0 < t225.length) = True := eq_true (by omega); (try rw [show ((0 : Int)).toNat = 0 from rfl] at hx235_0); (try rw [show 0 * 5 = 0 from rfl] at hx235_0); (try rw [Addr.add_zero'] at hx235_0); (try rw [show ((0 : Int)).toNat = 0 from rfl] at hx235_1); (try rw [show 0 * 5 = 0 from rfl] at hx235_1); (try rw [Addr.add_zero'] at hx235_1); (try rw [show ((0 : Int)).toNat = 0 from rfl] at hx235_2); (try rw [show 0 * 5 = 0 from rfl] at hx235_2); (try rw [Addr.add_zero'] at hx235_2); (try rw [show ((0 : Int)).toNat = 0 from rfl] at hx235_3); (try rw [show 0 * 5 = 0 from rfl] at hx235_3); (try rw [Addr.add_zero'] at hx235_3); (try rw [show ((0 : Int)).toNat = 0 from rfl] at hx235_4); (try rw [show 0 * 5 = 0 from rfl] at hx235_4); (try rw [Addr.add_zero'] at hx235_4); replace p235 := eq_true p235; replace q235 := eq_true q235; have p236 : 0 ≤ (0 : Int) := (by omega); have q236 : 0 < (t225.length : Int) := of_decide_eq_true (by first | (with_reducible assumption) | assumption); obtain ⟨ad236, e236, hx236_0, hx236_1, hx236_2, hx236_3, hx236_4⟩ := at_T32 (Kd.R_reads' HO_3.out).2.2 0 p236 q236; obtain rfl : ad235 = ad236 := (by injection e236); have qi236 : (0 < t225.length) = True := eq_true (by omega); (try rw [show ((0 : Int)).toNat = 0 from rfl] at hx236_0); (try rw [show 0 * 5 = 0 from rfl] at hx236_0); (try rw [Addr.add_zero'] at hx236_0); (try rw [show ((0 : Int)).toNat = 0 from rfl] at hx236_1); (try rw [show 0 * 5 = 0 from rfl] at hx236_1); (try rw [Addr.add_zero'] at hx236_1); (try rw [show ((0 : Int)).toNat = 0 from rfl] at hx236_2); (try rw [show 0 * 5 = 0 from rfl] at hx236_2); (try rw [Addr.add_zero'] at hx236_2); (try rw [show ((0 : Int)).toNat = 0 from rfl] at hx236_3); (try rw [show 0 * 5 = 0 from rfl] at hx236_3); (try rw [Addr.add_zero'] at hx236_3); (try rw [show ((0 : Int)).toNat = 0 from rfl] at hx236_4); (try rw [show 0 * 5 = 0 from rfl] at hx236_4); (try rw [Addr.add_zero'] at hx236_4); replace p236 := eq_true p236; replace q236 := eq_true q236))
                          all_goals go_ret
                          all_goals exact ⟨by first | rfl | (simp [errW_none, errW_some] <;> rfl) | (simp [*, errW_none, errW_some] <;> rfl), by repeat (first | (with_reducible first | exact HB.out | apply below_alloc | apply pw_below_drewN | apply below_drew1 | refine below_set ?_ GE231.out) | exact HB.out)⟩
                        · rw [if_neg c23] at H
                          have c23b0 : (((rd_T32 t225 0).f0) == 3) = false := beq_eq_false_iff_ne.mpr c23
                          have c23b1 : (((rd_T32 t225 0).f0) != 3) = true := bne_iff_ne.mpr c23
                          obtain rfl := Option.some.inj H
                          go_wp2_with (first | ((with_reducible refine gate_callee (f := 16) rfl ?_); refine goesL_ (some 18) rfl rfl Tryd.func16 (by kernel_rfl) rfl #[.string a0] rfl (by (try simp only [List.map_toArray, List.map_cons, List.map_nil]); first | done | rfl | (simp only [List.length_drop, List.length_take]; rfl)) ?_; (with_reducible refine (scan_IsWord.calls kj13 a0 true _ A16.out).mono ?_); rintro e w27 ⟨rfl, hb⟩; refine ⟨_, rfl, ?_⟩; have n0_ := Aside0.mk (Kd.R_below (by (with_reducible repeat (first | apply Kd.R_alloc | apply Kd.R_drewN | apply Kd.R_drew)); exact HO_3.out) hb); have n1_ := Aside0.mk (blk_below (g := gb231) (o := .cells #[.int .i64 t228, .int .i64 t229, .int .i64 t230] 26 (0, 0)) (by (with_reducible repeat (first | refine blk_drewN ?_ _ | refine blk_drew ?_ | refine blk_alloc ?_ _)); exact BK231.out) hb); have n2_ := Aside0.mk (below_step (by repeat (first | (with_reducible first | exact HB.out | apply below_alloc | apply pw_below_drewN | apply below_drew1 | refine below_set ?_ GE231.out) | exact HB.out)) hb); clear HO_3; clear BK231; clear HB; have HO_3 := n0_; have BK231 := n1_; have HB := n2_; clear n0_ n1_ n2_; (try clear hb); (try clear hb2); (try clear hk); (try clear hi); have hcz28_0 : w27.cell? ⟨gb231, 0, none⟩ = some (.int .i64 t228) := (blk_cell BK231.out 0).trans rfl; have hcz28_1 : w27.cell? ⟨gb231, 1, none⟩ = some (.int .i64 t229) := (blk_cell BK231.out 1).trans rfl; have hcz28_2 : w27.cell? ⟨gb231, 2, none⟩ = some (.int .i64 t230) := (blk_cell BK231.out 2).trans rfl; have hfz28_0 := blk_frozen BK231.out 0; have hfz28_1 := blk_frozen BK231.out 1; have hfz28_2 := blk_frozen BK231.out 2; obtain ⟨Ao29, co29, eo29⟩ := Kd.R_slice HO_3.out; subst eo29; have p235 : 0 ≤ (0 : Int) := (by omega); have q235 : 0 < (t225.length : Int) := of_decide_eq_true (by first | (with_reducible assumption) | assumption); obtain ⟨ad235, e235, hx235_0, hx235_1, hx235_2, hx235_3, hx235_4⟩ := at_T32 (Kd.R_reads' HO_3.out).2.2 0 p235 q235; cases e235; have qi235 : (0 < t225.length) = True := eq_true (by omega); (try rw [show ((0 : Int)).toNat = 0 from rfl] at hx235_0); (try rw [show 0 * 5 = 0 from rfl] at hx235_0); (try rw [Addr.add_zero'] at hx235_0); (try rw [show ((0 : Int)).toNat = 0 from rfl] at hx235_1); (try rw [show 0 * 5 = 0 from rfl] at hx235_1); (try rw [Addr.add_zero'] at hx235_1); (try rw [show ((0 : Int)).toNat = 0 from rfl] at hx235_2); (try rw [show 0 * 5 = 0 from rfl] at hx235_2); (try rw [Addr.add_zero'] at hx235_2); (try rw [show ((0 : Int)).toNat = 0 from rfl] at hx235_3); (try rw [show 0 * 5 = 0 from rfl] at hx235_3); (try rw [Addr.add_zero'] at hx235_3); (try rw [show ((0 : Int)).toNat = 0 from rfl] at hx235_4); (try rw [show 0 * 5 = 0 from rfl] at hx235_4); (try rw [Addr.add_zero'] at hx235_4); replace p235 := eq_true p235; replace q235 := eq_true q235; have p236 : 0 ≤ (0 : Int) := (by omega); have q236 : 0 < (t225.length : Int) := of_decide_eq_true (by first | (with_reducible assumption) | assumption); obtain ⟨ad236, e236, hx236_0, hx236_1, hx236_2, hx236_3, hx236_4⟩ := at_T32 (Kd.R_reads' HO_3.out).2.2 0 p236 q236; obtain rfl : ad235 = ad236 := (by injection e236); have qi236 : (0 < t225.length) = True := eq_true (by omega); (try rw [show ((0 : Int)).toNat = 0 from rfl] at hx236_0); (try rw [show 0 * 5 = 0 from rfl] at hx236_0); (try rw [Addr.add_zero'] at hx236_0); (try rw [show ((0 : Int)).toNat = 0 from rfl] at hx236_1); (try rw [show 0 * 5 = 0 from rfl] at hx236_1); (try rw [Addr.add_zero'] at hx236_1); (try rw [show ((0 : Int)).toNat = 0 from rfl] at hx236_2); (try rw [show 0 * 5 = 0 from rfl] at hx236_2); (try rw [Addr.add_zero'] at hx236_2); (try rw [show ((0 : Int)).toNat = 0 from rfl] at hx236_3); (try rw [show 0 * 5 = 0 from rfl] at hx236_3); (try rw [Addr.add_zero'] at hx236_3); (try rw [show ((0 : Int)).toNat = 0 from rfl] at hx236_4); (try rw [show 0 * 5 = 0 from rfl] at hx236_4); (try rw [Addr.add_zero'] at hx236_4); replace p236 := eq_true p236; replace q236 := eq_true q236; have p237 : 0 ≤ (0 : Int) := (by omega); have q237 : 0 < (t225.length : Int) := of_decide_eq_true (by first | (with_reducible assumption) | assumption); obtain ⟨ad237, e237, hx237_0, hx237_1, hx237_2, hx237_3, hx237_4⟩ := at_T32 (Kd.R_reads' HO_3.out).2.2 0 p237 q237; obtain rfl : ad235 = ad237 := (by injection e237); have qi237 : (0 < t225.length) = True := eq_true (by omega); (try rw [show ((0 : Int)).toNat = 0 from rfl] at hx237_0); (try rw [show 0 * 5 = 0 from rfl] at hx237_0); (try rw [Addr.add_zero'] at hx237_0); (try rw [show ((0 : Int)).toNat = 0 from rfl] at hx237_1); (try rw [show 0 * 5 = 0 from rfl] at hx237_1); (try rw [Addr.add_zero'] at hx237_1); (try rw [show ((0 : Int)).toNat = 0 from rfl] at hx237_2); (try rw [show 0 * 5 = 0 from rfl] at hx237_2); (try rw [Addr.add_zero'] at hx237_2); (try rw [show ((0 : Int)).toNat = 0 from rfl] at hx237_3); (try rw [show 0 * 5 = 0 from rfl] at hx237_3); (try rw [Addr.add_zero'] at hx237_3); (try rw [show ((0 : Int)).toNat = 0 from rfl] at hx237_4); (try rw [show 0 * 5 = 0 from rfl] at hx237_4); (try rw [Addr.add_zero'] at hx237_4); replace p237 := eq_true p237; replace q237 := eq_true q237))
                          all_goals go_ret
                          all_goals exact ⟨by first | rfl | (simp [errW_none, errW_some] <;> rfl) | (simp [*, errW_none, errW_some] <;> rfl), by repeat (first | (with_reducible first | exact HB.out | apply below_alloc | apply pw_below_drewN | apply below_drew1 | refine below_set ?_ GE231.out) | exact HB.out)⟩
                      · rw [if_neg c22] at H
                        have c22b0 : (((rd_T32 t225 0).f1).toList == a0.toList) = false := beq_eq_false_iff_ne.mpr c22
                        have c22b1 : (((rd_T32 t225 0).f1).toList != a0.toList) = true := bne_iff_ne.mpr c22
                        obtain rfl := Option.some.inj H
                        go_wp2_with (first | ((with_reducible refine gate_callee (f := 16) rfl ?_); refine goesL_ (some 18) rfl rfl Tryd.func16 (by kernel_rfl) rfl #[.string a0] rfl (by (try simp only [List.map_toArray, List.map_cons, List.map_nil]); first | done | rfl | (simp only [List.length_drop, List.length_take]; rfl)) ?_; (with_reducible refine (scan_IsWord.calls kj13 a0 true _ A16.out).mono ?_); rintro e w30 ⟨rfl, hb⟩; refine ⟨_, rfl, ?_⟩; have n0_ := Aside0.mk (Kd.R_below (by (with_reducible repeat (first | apply Kd.R_alloc | apply Kd.R_drewN | apply Kd.R_drew)); exact HO_3.out) hb); have n1_ := Aside0.mk (blk_below (g := gb231) (o := .cells #[.int .i64 t228, .int .i64 t229, .int .i64 t230] 26 (0, 0)) (by (with_reducible repeat (first | refine blk_drewN ?_ _ | refine blk_drew ?_ | refine blk_alloc ?_ _)); exact BK231.out) hb); have n2_ := Aside0.mk (below_step (by repeat (first | (with_reducible first | exact HB.out | apply below_alloc | apply pw_below_drewN | apply below_drew1 | refine below_set ?_ GE231.out) | exact HB.out)) hb); clear HO_3; clear BK231; clear HB; have HO_3 := n0_; have BK231 := n1_; have HB := n2_; clear n0_ n1_ n2_; (try clear hb); (try clear hb2); (try clear hk); (try clear hi); have hcz31_0 : w30.cell? ⟨gb231, 0, none⟩ = some (.int .i64 t228) := (blk_cell BK231.out 0).trans rfl; have hcz31_1 : w30.cell? ⟨gb231, 1, none⟩ = some (.int .i64 t229) := (blk_cell BK231.out 1).trans rfl; have hcz31_2 : w30.cell? ⟨gb231, 2, none⟩ = some (.int .i64 t230) := (blk_cell BK231.out 2).trans rfl; have hfz31_0 := blk_frozen BK231.out 0; have hfz31_1 := blk_frozen BK231.out 1; have hfz31_2 := blk_frozen BK231.out 2; obtain ⟨Ao32, co32, eo32⟩ := Kd.R_slice HO_3.out; subst eo32; have p235 : 0 ≤ (0 : Int) := (by omega); have q235 : 0 < (t225.length : Int) := of_decide_eq_true (by first | (with_reducible assumption) | assumption); obtain ⟨ad235, e235, hx235_0, hx235_1, hx235_2, hx235_3, hx235_4⟩ := at_T32 (Kd.R_reads' HO_3.out).2.2 0 p235 q235; cases e235; have qi235 : (0 < t225.length) = True := eq_true (by omega); (try rw [show ((0 : Int)).toNat = 0 from rfl] at hx235_0); (try rw [show 0 * 5 = 0 from rfl] at hx235_0); (try rw [Addr.add_zero'] at hx235_0); (try rw [show ((0 : Int)).toNat = 0 from rfl] at hx235_1); (try rw [show 0 * 5 = 0 from rfl] at hx235_1); (try rw [Addr.add_zero'] at hx235_1); (try rw [show ((0 : Int)).toNat = 0 from rfl] at hx235_2); (try rw [show 0 * 5 = 0 from rfl] at hx235_2); (try rw [Addr.add_zero'] at hx235_2); (try rw [show ((0 : Int)).toNat = 0 from rfl] at hx235_3); (try rw [show 0 * 5 = 0 from rfl] at hx235_3); (try rw [Addr.add_zero'] at hx235_3); (try rw [show ((0 : Int)).toNat = 0 from rfl] at hx235_4); (try rw [show 0 * 5 = 0 from rfl] at hx235_4); (try rw [Addr.add_zero'] at hx235_4); replace p235 := eq_true p235; replace q235 := eq_true q235))
                        all_goals go_ret
                        all_goals exact ⟨by first | rfl | (simp [errW_none, errW_some] <;> rfl) | (simp [*, errW_none, errW_some] <;> rfl), by repeat (first | (with_reducible first | exact HB.out | apply below_alloc | apply pw_below_drewN | apply below_drew1 | refine below_set ?_ GE231.out) | exact HB.out)⟩
                    · rw [if_neg c21] at H
                      exact absurd H (by simp)
                  · rw [if_neg c20] at H
                    have c20b0 : ((t225.length : Int) == 2) = false := beq_eq_false_iff_ne.mpr c20
                    have c20b1 : ((t225.length : Int) != 2) = true := bne_iff_ne.mpr c20
                    obtain rfl := Option.some.inj H
                    go_wp2_with (first | ((with_reducible refine gate_callee (f := 16) rfl ?_); refine goesL_ (some 18) rfl rfl Tryd.func16 (by kernel_rfl) rfl #[.string a0] rfl (by (try simp only [List.map_toArray, List.map_cons, List.map_nil]); first | done | rfl | (simp only [List.length_drop, List.length_take]; rfl)) ?_; (with_reducible refine (scan_IsWord.calls kj13 a0 true _ A16.out).mono ?_); rintro e w33 ⟨rfl, hb⟩; refine ⟨_, rfl, ?_⟩; have n0_ := Aside0.mk (Kd.R_below (by (with_reducible repeat (first | apply Kd.R_alloc | apply Kd.R_drewN | apply Kd.R_drew)); exact HO_3.out) hb); have n1_ := Aside0.mk (blk_below (g := gb231) (o := .cells #[.int .i64 t228, .int .i64 t229, .int .i64 t230] 26 (0, 0)) (by (with_reducible repeat (first | refine blk_drewN ?_ _ | refine blk_drew ?_ | refine blk_alloc ?_ _)); exact BK231.out) hb); have n2_ := Aside0.mk (below_step (by repeat (first | (with_reducible first | exact HB.out | apply below_alloc | apply pw_below_drewN | apply below_drew1 | refine below_set ?_ GE231.out) | exact HB.out)) hb); clear HO_3; clear BK231; clear HB; have HO_3 := n0_; have BK231 := n1_; have HB := n2_; clear n0_ n1_ n2_; (try clear hb); (try clear hb2); (try clear hk); (try clear hi); have hcz34_0 : w33.cell? ⟨gb231, 0, none⟩ = some (.int .i64 t228) := (blk_cell BK231.out 0).trans rfl; have hcz34_1 : w33.cell? ⟨gb231, 1, none⟩ = some (.int .i64 t229) := (blk_cell BK231.out 1).trans rfl; have hcz34_2 : w33.cell? ⟨gb231, 2, none⟩ = some (.int .i64 t230) := (blk_cell BK231.out 2).trans rfl; have hfz34_0 := blk_frozen BK231.out 0; have hfz34_1 := blk_frozen BK231.out 1; have hfz34_2 := blk_frozen BK231.out 2; obtain ⟨Ao35, co35, eo35⟩ := Kd.R_slice HO_3.out; subst eo35))
                    all_goals go_ret
                    all_goals exact ⟨by first | rfl | (simp [errW_none, errW_some] <;> rfl) | (simp [*, errW_none, errW_some] <;> rfl), by repeat (first | (with_reducible first | exact HB.out | apply below_alloc | apply pw_below_drewN | apply below_drew1 | refine below_set ?_ GE231.out) | exact HB.out)⟩
                · rw [if_neg c19] at H
                  have c19b0 : (t228 == 0) = false := beq_eq_false_iff_ne.mpr c19
                  have c19b1 : (t228 != 0) = true := bne_iff_ne.mpr c19
                  obtain rfl := Option.some.inj H
                  go_wp2_with (first | ((with_reducible refine gate_callee (f := 16) rfl ?_); refine goesL_ (some 18) rfl rfl Tryd.func16 (by kernel_rfl) rfl #[.string a0] rfl (by (try simp only [List.map_toArray, List.map_cons, List.map_nil]); first | done | rfl | (simp only [List.length_drop, List.length_take]; rfl)) ?_; (with_reducible refine (scan_IsWord.calls kj13 a0 true _ A16.out).mono ?_); rintro e w36 ⟨rfl, hb⟩; refine ⟨_, rfl, ?_⟩; have n0_ := Aside0.mk (Kd.R_below (by (with_reducible repeat (first | apply Kd.R_alloc | apply Kd.R_drewN | apply Kd.R_drew)); exact HO_3.out) hb); have n1_ := Aside0.mk (blk_below (g := gb231) (o := .cells #[.int .i64 t228, .int .i64 t229, .int .i64 t230] 26 (0, 0)) (by (with_reducible repeat (first | refine blk_drewN ?_ _ | refine blk_drew ?_ | refine blk_alloc ?_ _)); exact BK231.out) hb); have n2_ := Aside0.mk (below_step (by repeat (first | (with_reducible first | exact HB.out | apply below_alloc | apply pw_below_drewN | apply below_drew1 | refine below_set ?_ GE231.out) | exact HB.out)) hb); clear HO_3; clear BK231; clear HB; have HO_3 := n0_; have BK231 := n1_; have HB := n2_; clear n0_ n1_ n2_; (try clear hb); (try clear hb2); (try clear hk); (try clear hi); have hcz37_0 : w36.cell? ⟨gb231, 0, none⟩ = some (.int .i64 t228) := (blk_cell BK231.out 0).trans rfl; have hcz37_1 : w36.cell? ⟨gb231, 1, none⟩ = some (.int .i64 t229) := (blk_cell BK231.out 1).trans rfl; have hcz37_2 : w36.cell? ⟨gb231, 2, none⟩ = some (.int .i64 t230) := (blk_cell BK231.out 2).trans rfl; have hfz37_0 := blk_frozen BK231.out 0; have hfz37_1 := blk_frozen BK231.out 1; have hfz37_2 := blk_frozen BK231.out 2))
                  all_goals go_ret
                  all_goals exact ⟨by first | rfl | (simp [errW_none, errW_some] <;> rfl) | (simp [*, errW_none, errW_some] <;> rfl), by repeat (first | (with_reducible first | exact HB.out | apply below_alloc | apply pw_below_drewN | apply below_drew1 | refine below_set ?_ GE231.out) | exact HB.out)⟩
              · rw [if_neg c18] at H
                have c18b0 : (5 == 0) = false := beq_eq_false_iff_ne.mpr c18
                have c18b1 : (5 != 0) = true := bne_iff_ne.mpr c18
                by_cases c38 : (t228 == 0 && (t229 == 0 && (t230 == 0))) = true
                · rw [if_pos c38] at H
                  have c38b0 : (t228 == 0 && (t229 == 0 && (t230 == 0))) = true := c38
                  (try (have c38b1 : decide (t228 = 0 && (t229 == 0 && (t230 == 0))) = true := by simpa using c38))
                  (try (have c38b2 : (t228 == 0 && (t229 == 0 && (t230 == 0))) = true := by simpa using c38))
                  clear c38
                  by_cases c39 : (t225.length : Int) = 2
                  · rw [if_pos c39] at H
                    have c39b0 : ((t225.length : Int) == 2) = true := beq_iff_eq.mpr c39
                    have c39b1 : ((t225.length : Int) != 2) = false := bne_eq_false_iff_eq.mpr c39
                    clear c39
                    by_cases c40 : 0 < (t225.length : Int)
                    · rw [if_pos c40] at H
                      have c40b0 : decide (0 < (t225.length : Int)) = true := decide_eq_true c40
                      have c40b1 : decide (0 < t225.length) = true := decide_eq_true (by omega)
                      clear c40
                      by_cases c41 : (((rd_T32 t225 0).f0) == 5 && ((((rd_T32 t225 0).f1).toList) == a0.toList && (((rd_T32 t225 0).f2) == 0 && (((rd_T32 t225 0).f3) == 1 && (((rd_T32 t225 0).f4) == 1))))) = true
                      · rw [if_pos c41] at H
                        have c41b0 : (((rd_T32 t225 0).f0) == 5 && ((((rd_T32 t225 0).f1).toList) == a0.toList && (((rd_T32 t225 0).f2) == 0 && (((rd_T32 t225 0).f3) == 1 && (((rd_T32 t225 0).f4) == 1))))) = true := c41
                        (try (have c41b1 : decide (((rd_T32 t225 0).f0) = 5 && ((((rd_T32 t225 0).f1).toList) == a0.toList && (((rd_T32 t225 0).f2) == 0 && (((rd_T32 t225 0).f3) == 1 && (((rd_T32 t225 0).f4) == 1))))) = true := by simpa using c41))
                        (try (have c41b2 : (((rd_T32 t225 0).f0) == 5 && ((((rd_T32 t225 0).f1).toList) == a0.toList && (((rd_T32 t225 0).f2) == 0 && (((rd_T32 t225 0).f3) == 1 && (((rd_T32 t225 0).f4) == 1))))) = true := by simpa using c41))
                        clear c41
                        by_cases c42 : 1 < (t225.length : Int)
                        · rw [if_pos c42] at H
                          have c42b0 : decide (1 < (t225.length : Int)) = true := decide_eq_true c42
                          have c42b1 : decide (1 < t225.length) = true := decide_eq_true (by omega)
                          clear c42
                          obtain rfl := Option.some.inj H
                          go_wp2_with (first | ((with_reducible refine gate_callee (f := 16) rfl ?_); refine goesL_ (some 18) rfl rfl Tryd.func16 (by kernel_rfl) rfl #[.string a0] rfl (by (try simp only [List.map_toArray, List.map_cons, List.map_nil]); first | done | rfl | (simp only [List.length_drop, List.length_take]; rfl)) ?_; (with_reducible refine (scan_IsWord.calls kj13 a0 true _ A16.out).mono ?_); rintro e w43 ⟨rfl, hb⟩; refine ⟨_, rfl, ?_⟩; have n0_ := Aside0.mk (Kd.R_below (by (with_reducible repeat (first | apply Kd.R_alloc | apply Kd.R_drewN | apply Kd.R_drew)); exact HO_3.out) hb); have n1_ := Aside0.mk (blk_below (g := gb231) (o := .cells #[.int .i64 t228, .int .i64 t229, .int .i64 t230] 26 (0, 0)) (by (with_reducible repeat (first | refine blk_drewN ?_ _ | refine blk_drew ?_ | refine blk_alloc ?_ _)); exact BK231.out) hb); have n2_ := Aside0.mk (below_step (by repeat (first | (with_reducible first | exact HB.out | apply below_alloc | apply pw_below_drewN | apply below_drew1 | refine below_set ?_ GE231.out) | exact HB.out)) hb); clear HO_3; clear BK231; clear HB; have HO_3 := n0_; have BK231 := n1_; have HB := n2_; clear n0_ n1_ n2_; (try clear hb); (try clear hb2); (try clear hk); (try clear hi); have hcz44_0 : w43.cell? ⟨gb231, 0, none⟩ = some (.int .i64 t228) := (blk_cell BK231.out 0).trans rfl; have hcz44_1 : w43.cell? ⟨gb231, 1, none⟩ = some (.int .i64 t229) := (blk_cell BK231.out 1).trans rfl; have hcz44_2 : w43.cell? ⟨gb231, 2, none⟩ = some (.int .i64 t230) := (blk_cell BK231.out 2).trans rfl; have hfz44_0 := blk_frozen BK231.out 0; have hfz44_1 := blk_frozen BK231.out 1; have hfz44_2 := blk_frozen BK231.out 2; obtain ⟨Ao45, co45, eo45⟩ := Kd.R_slice HO_3.out; subst eo45; have p238 : 0 ≤ (0 : Int) := (by omega); have q238 : 0 < (t225.length : Int) := of_decide_eq_true (by first | (with_reducible assumption) | assumption); obtain ⟨ad238, e238, hx238_0, hx238_1, hx238_2, hx238_3, hx238_4⟩ := at_T32 (Kd.R_reads' HO_3.out).2.2 0 p238 q238; cases e238; have qi238 : (0 < t225.length) = True := eq_true (by omega); (try rw [show ((0 : Int)).toNat = 0 from rfl] at hx238_0); (try rw [show 0 * 5 = 0 from rfl] at hx238_0); (try rw [Addr.add_zero'] at hx238_0); (try rw [show ((0 : Int)).toNat = 0 from rfl] at hx238_1); (try rw [show 0 * 5 = 0 from rfl] at hx238_1); (try rw [Addr.add_zero'] at hx238_1); (try rw [show ((0 : Int)).toNat = 0 from rfl] at hx238_2); (try rw [show 0 * 5 = 0 from rfl] at hx238_2); (try rw [Addr.add_zero'] at hx238_2); (try rw [show ((0 : Int)).toNat = 0 from rfl] at hx238_3); (try rw [show 0 * 5 = 0 from rfl] at hx238_3); (try rw [Addr.add_zero'] at hx238_3); (try rw [show ((0 : Int)).toNat = 0 from rfl] at hx238_4); (try rw [show 0 * 5 = 0 from rfl] at hx238_4); (try rw [Addr.add_zero'] at hx238_4); replace p238 := eq_true p238; replace q238 := eq_true q238; have p239 : 0 ≤ (1 : Int) := (by omega); have q239 : 1 < (t225.length : Int) := of_decide_eq_true (by first | (with_reducible assumption) | assumption); obtain ⟨ad239, e239, hx239_0, hx239_1, hx239_2, hx239_3, hx239_4⟩ := at_T32 (Kd.R_reads' HO_3.out).2.2 1 p239 q239; obtain rfl : ad238 = ad239 := (by injection e239); (try simp only [show (1 : Int).toNat = 1 from rfl, Nat.reduceMul, Nat.reduceEqDiff, Go.Addr.add, ↓reduceIte] at hx239_0); (try simp only [show (1 : Int).toNat = 1 from rfl, Nat.reduceMul, Nat.reduceEqDiff, Go.Addr.add, ↓reduceIte] at hx239_1); (try simp only [show (1 : Int).toNat = 1 from rfl, Nat.reduceMul, Nat.reduceEqDiff, Go.Addr.add, ↓reduceIte] at hx239_2); (try simp only [show (1 : Int).toNat = 1 from rfl, Nat.reduceMul, Nat.reduceEqDiff, Go.Addr.add, ↓reduceIte] at hx239_3); (try simp only [show (1 : Int).toNat = 1 from rfl, Nat.reduceMul, Nat.reduceEqDiff, Go.Addr.add, ↓reduceIte] at hx239_4); have qi239 : (1 < t225.length) = True := eq_true (by omega); (try rw [show ((1 : Int)).toNat = 1 from rfl] at hx239_0); (try rw [show 1 * 5 = 5 from rfl] at hx239_0); (try rw [show ((1 : Int)).toNat = 1 from rfl] at hx239_1); (try rw [show 1 * 5 = 5 from rfl] at hx239_1); (try rw [show ((1 : Int)).toNat = 1 from rfl] at hx239_2); (try rw [show 1 * 5 = 5 from rfl] at hx239_2); (try rw [show ((1 : Int)).toNat = 1 from rfl] at hx239_3); (try rw [show 1 * 5 = 5 from rfl] at hx239_3); (try rw [show ((1 : Int)).toNat = 1 from rfl] at hx239_4); (try rw [show 1 * 5 = 5 from rfl] at hx239_4); replace p239 := eq_true p239; replace q239 := eq_true q239))
                          all_goals go_ret
                          all_goals exact ⟨by first | rfl | (simp [errW_none, errW_some] <;> rfl) | (simp [*, errW_none, errW_some] <;> rfl), by repeat (first | (with_reducible first | exact HB.out | apply below_alloc | apply pw_below_drewN | apply below_drew1 | refine below_set ?_ GE231.out) | exact HB.out)⟩
                        · rw [if_neg c42] at H
                          exact absurd H (by simp)
                      · rw [if_neg c41] at H
                        have c41b0 : (((rd_T32 t225 0).f0) == 5 && ((((rd_T32 t225 0).f1).toList) == a0.toList && (((rd_T32 t225 0).f2) == 0 && (((rd_T32 t225 0).f3) == 1 && (((rd_T32 t225 0).f4) == 1))))) = false := by simpa using c41
                        (try (have c41b1 : decide (((rd_T32 t225 0).f0) = 5 && ((((rd_T32 t225 0).f1).toList) == a0.toList && (((rd_T32 t225 0).f2) == 0 && (((rd_T32 t225 0).f3) == 1 && (((rd_T32 t225 0).f4) == 1))))) = false := by simpa using c41))
                        (try (have c41b2 : (((rd_T32 t225 0).f0) == 5 && ((((rd_T32 t225 0).f1).toList) == a0.toList && (((rd_T32 t225 0).f2) == 0 && (((rd_T32 t225 0).f3) == 1 && (((rd_T32 t225 0).f4) == 1))))) = false := by simpa using c41))
                        (try (have c41b3 : ¬ (((rd_T32 t225 0).f0) = 5 && ((((rd_T32 t225 0).f1).toList) == a0.toList && (((rd_T32 t225 0).f2) == 0 && (((rd_T32 t225 0).f3) == 1 && (((rd_T32 t225 0).f4) == 1))))) := by simpa using c41))
                        clear c41
                        obtain rfl := Option.some.inj H
                        go_wp2_with (first | ((with_reducible refine gate_callee (f := 16) rfl ?_); refine goesL_ (some 18) rfl rfl Tryd.func16 (by kernel_rfl) rfl #[.string a0] rfl (by (try simp only [List.map_toArray, List.map_cons, List.map_nil]); first | done | rfl | (simp only [List.length_drop, List.length_take]; rfl)) ?_; (with_reducible refine (scan_IsWord.calls kj13 a0 true _ A16.out).mono ?_); rintro e w46 ⟨rfl, hb⟩; refine ⟨_, rfl, ?_⟩; have n0_ := Aside0.mk (Kd.R_below (by (with_reducible repeat (first | apply Kd.R_alloc | apply Kd.R_drewN | apply Kd.R_drew)); exact HO_3.out) hb); have n1_ := Aside0.mk (blk_below (g := gb231) (o := .cells #[.int .i64 t228, .int .i64 t229, .int .i64 t230] 26 (0, 0)) (by (with_reducible repeat (first | refine blk_drewN ?_ _ | refine blk_drew ?_ | refine blk_alloc ?_ _)); exact BK231.out) hb); have n2_ := Aside0.mk (below_step (by repeat (first | (with_reducible first | exact HB.out | apply below_alloc | apply pw_below_drewN | apply below_drew1 | refine below_set ?_ GE231.out) | exact HB.out)) hb); clear HO_3; clear BK231; clear HB; have HO_3 := n0_; have BK231 := n1_; have HB := n2_; clear n0_ n1_ n2_; (try clear hb); (try clear hb2); (try clear hk); (try clear hi); have hcz47_0 : w46.cell? ⟨gb231, 0, none⟩ = some (.int .i64 t228) := (blk_cell BK231.out 0).trans rfl; have hcz47_1 : w46.cell? ⟨gb231, 1, none⟩ = some (.int .i64 t229) := (blk_cell BK231.out 1).trans rfl; have hcz47_2 : w46.cell? ⟨gb231, 2, none⟩ = some (.int .i64 t230) := (blk_cell BK231.out 2).trans rfl; have hfz47_0 := blk_frozen BK231.out 0; have hfz47_1 := blk_frozen BK231.out 1; have hfz47_2 := blk_frozen BK231.out 2; obtain ⟨Ao48, co48, eo48⟩ := Kd.R_slice HO_3.out; subst eo48; have p238 : 0 ≤ (0 : Int) := (by omega); have q238 : 0 < (t225.length : Int) := of_decide_eq_true (by first | (with_reducible assumption) | assumption); obtain ⟨ad238, e238, hx238_0, hx238_1, hx238_2, hx238_3, hx238_4⟩ := at_T32 (Kd.R_reads' HO_3.out).2.2 0 p238 q238; cases e238; have qi238 : (0 < t225.length) = True := eq_true (by omega); (try rw [show ((0 : Int)).toNat = 0 from rfl] at hx238_0); (try rw [show 0 * 5 = 0 from rfl] at hx238_0); (try rw [Addr.add_zero'] at hx238_0); (try rw [show ((0 : Int)).toNat = 0 from rfl] at hx238_1); (try rw [show 0 * 5 = 0 from rfl] at hx238_1); (try rw [Addr.add_zero'] at hx238_1); (try rw [show ((0 : Int)).toNat = 0 from rfl] at hx238_2); (try rw [show 0 * 5 = 0 from rfl] at hx238_2); (try rw [Addr.add_zero'] at hx238_2); (try rw [show ((0 : Int)).toNat = 0 from rfl] at hx238_3); (try rw [show 0 * 5 = 0 from rfl] at hx238_3); (try rw [Addr.add_zero'] at hx238_3); (try rw [show ((0 : Int)).toNat = 0 from rfl] at hx238_4); (try rw [show 0 * 5 = 0 from rfl] at hx238_4); (try rw [Addr.add_zero'] at hx238_4); replace p238 := eq_true p238; replace q238 := eq_true q238))
                        all_goals go_ret
                        all_goals exact ⟨by first | rfl | (simp [errW_none, errW_some] <;> rfl) | (simp [*, errW_none, errW_some] <;> rfl), by repeat (first | (with_reducible first | exact HB.out | apply below_alloc | apply pw_below_drewN | apply below_drew1 | refine below_set ?_ GE231.out) | exact HB.out)⟩
                    · rw [if_neg c40] at H
                      exact absurd H (by simp)
                  · rw [if_neg c39] at H
                    have c39b0 : ((t225.length : Int) == 2) = false := beq_eq_false_iff_ne.mpr c39
                    have c39b1 : ((t225.length : Int) != 2) = true := bne_iff_ne.mpr c39
                    obtain rfl := Option.some.inj H
                    go_wp2_with (first | ((with_reducible refine gate_callee (f := 16) rfl ?_); refine goesL_ (some 18) rfl rfl Tryd.func16 (by kernel_rfl) rfl #[.string a0] rfl (by (try simp only [List.map_toArray, List.map_cons, List.map_nil]); first | done | rfl | (simp only [List.length_drop, List.length_take]; rfl)) ?_; (with_reducible refine (scan_IsWord.calls kj13 a0 true _ A16.out).mono ?_); rintro e w49 ⟨rfl, hb⟩; refine ⟨_, rfl, ?_⟩; have n0_ := Aside0.mk (Kd.R_below (by (with_reducible repeat (first | apply Kd.R_alloc | apply Kd.R_drewN | apply Kd.R_drew)); exact HO_3.out) hb); have n1_ := Aside0.mk (blk_below (g := gb231) (o := .cells #[.int .i64 t228, .int .i64 t229, .int .i64 t230] 26 (0, 0)) (by (with_reducible repeat (first | refine blk_drewN ?_ _ | refine blk_drew ?_ | refine blk_alloc ?_ _)); exact BK231.out) hb); have n2_ := Aside0.mk (below_step (by repeat (first | (with_reducible first | exact HB.out | apply below_alloc | apply pw_below_drewN | apply below_drew1 | refine below_set ?_ GE231.out) | exact HB.out)) hb); clear HO_3; clear BK231; clear HB; have HO_3 := n0_; have BK231 := n1_; have HB := n2_; clear n0_ n1_ n2_; (try clear hb); (try clear hb2); (try clear hk); (try clear hi); have hcz50_0 : w49.cell? ⟨gb231, 0, none⟩ = some (.int .i64 t228) := (blk_cell BK231.out 0).trans rfl; have hcz50_1 : w49.cell? ⟨gb231, 1, none⟩ = some (.int .i64 t229) := (blk_cell BK231.out 1).trans rfl; have hcz50_2 : w49.cell? ⟨gb231, 2, none⟩ = some (.int .i64 t230) := (blk_cell BK231.out 2).trans rfl; have hfz50_0 := blk_frozen BK231.out 0; have hfz50_1 := blk_frozen BK231.out 1; have hfz50_2 := blk_frozen BK231.out 2; obtain ⟨Ao51, co51, eo51⟩ := Kd.R_slice HO_3.out; subst eo51))
                    all_goals go_ret
                    all_goals exact ⟨by first | rfl | (simp [errW_none, errW_some] <;> rfl) | (simp [*, errW_none, errW_some] <;> rfl), by repeat (first | (with_reducible first | exact HB.out | apply below_alloc | apply pw_below_drewN | apply below_drew1 | refine below_set ?_ GE231.out) | exact HB.out)⟩
                · rw [if_neg c38] at H
                  have c38b0 : (t228 == 0 && (t229 == 0 && (t230 == 0))) = false := by simpa using c38
                  (try (have c38b1 : decide (t228 = 0 && (t229 == 0 && (t230 == 0))) = false := by simpa using c38))
                  (try (have c38b2 : (t228 == 0 && (t229 == 0 && (t230 == 0))) = false := by simpa using c38))
                  (try (have c38b3 : ¬ (t228 = 0 && (t229 == 0 && (t230 == 0))) := by simpa using c38))
                  clear c38
                  obtain rfl := Option.some.inj H
                  go_wp2_with (first | ((with_reducible refine gate_callee (f := 16) rfl ?_); refine goesL_ (some 18) rfl rfl Tryd.func16 (by kernel_rfl) rfl #[.string a0] rfl (by (try simp only [List.map_toArray, List.map_cons, List.map_nil]); first | done | rfl | (simp only [List.length_drop, List.length_take]; rfl)) ?_; (with_reducible refine (scan_IsWord.calls kj13 a0 true _ A16.out).mono ?_); rintro e w52 ⟨rfl, hb⟩; refine ⟨_, rfl, ?_⟩; have n0_ := Aside0.mk (Kd.R_below (by (with_reducible repeat (first | apply Kd.R_alloc | apply Kd.R_drewN | apply Kd.R_drew)); exact HO_3.out) hb); have n1_ := Aside0.mk (blk_below (g := gb231) (o := .cells #[.int .i64 t228, .int .i64 t229, .int .i64 t230] 26 (0, 0)) (by (with_reducible repeat (first | refine blk_drewN ?_ _ | refine blk_drew ?_ | refine blk_alloc ?_ _)); exact BK231.out) hb); have n2_ := Aside0.mk (below_step (by repeat (first | (with_reducible first | exact HB.out | apply below_alloc | apply pw_below_drewN | apply below_drew1 | refine below_set ?_ GE231.out) | exact HB.out)) hb); clear HO_3; clear BK231; clear HB; have HO_3 := n0_; have BK231 := n1_; have HB := n2_; clear n0_ n1_ n2_; (try clear hb); (try clear hb2); (try clear hk); (try clear hi); have hcz53_0 : w52.cell? ⟨gb231, 0, none⟩ = some (.int .i64 t228) := (blk_cell BK231.out 0).trans rfl; have hcz53_1 : w52.cell? ⟨gb231, 1, none⟩ = some (.int .i64 t229) := (blk_cell BK231.out 1).trans rfl; have hcz53_2 : w52.cell? ⟨gb231, 2, none⟩ = some (.int .i64 t230) := (blk_cell BK231.out 2).trans rfl; have hfz53_0 := blk_frozen BK231.out 0; have hfz53_1 := blk_frozen BK231.out 1; have hfz53_2 := blk_frozen BK231.out 2))
                  all_goals go_ret
                  all_goals exact ⟨by first | rfl | (simp [errW_none, errW_some] <;> rfl) | (simp [*, errW_none, errW_some] <;> rfl), by repeat (first | (with_reducible first | exact HB.out | apply below_alloc | apply pw_below_drewN | apply below_drew1 | refine below_set ?_ GE231.out) | exact HB.out)⟩
            · replace c17 := Bool.eq_false_iff.mpr c17
              subst c17
              have H1 : (if x5_13 = 0 then (if t228 = 0 then (if (t225.length : Int) = 2 then (if 0 < (t225.length : Int) then (if ((rd_T32 t225 0).f1).toList = a0.toList then (if ((rd_T32 t225 0).f0) = 3 then (some true) else (some (((rd_T32 t225 0).f0) == 4))) else (some true)) else (none)) else (some true)) else (some true)) else (if (t228 == 0 && (t229 == 0 && (t230 == 0))) = true then (if (t225.length : Int) = 2 then (if 0 < (t225.length : Int) then (if (((rd_T32 t225 0).f0) == x5_13 && ((((rd_T32 t225 0).f1).toList) == a0.toList && (((rd_T32 t225 0).f2) == 0 && (((rd_T32 t225 0).f3) == 1 && (((rd_T32 t225 0).f4) == 1))))) = true then (if 1 < (t225.length : Int) then (some (((rd_T32 t225 1).f0) == 6 && ((((rd_T32 t225 1).f1).toList) == ([] : List UInt8) && (((rd_T32 t225 1).f2) == 0 && (((rd_T32 t225 1).f3) == 1 && (((rd_T32 t225 1).f4) == (wrap64 (1 + (a0.size : Int))))))))) else (none)) else (some false)) else (none)) else (some false)) else (some false))) = some r := by rw [if_neg (show ¬ (false = true) by decide)] at H; exact H
              clear H
              have H := H1
              clear H1
              by_cases c54 : x5_13 = 0
              · rw [if_pos c54] at H
                have c54b0 : (x5_13 == 0) = true := beq_iff_eq.mpr c54
                have c54b1 : (x5_13 != 0) = false := bne_eq_false_iff_eq.mpr c54
                clear c54
                by_cases c55 : t228 = 0
                · rw [if_pos c55] at H
                  have c55b0 : (t228 == 0) = true := beq_iff_eq.mpr c55
                  have c55b1 : (t228 != 0) = false := bne_eq_false_iff_eq.mpr c55
                  clear c55
                  by_cases c56 : (t225.length : Int) = 2
                  · rw [if_pos c56] at H
                    have c56b0 : ((t225.length : Int) == 2) = true := beq_iff_eq.mpr c56
                    have c56b1 : ((t225.length : Int) != 2) = false := bne_eq_false_iff_eq.mpr c56
                    clear c56
                    by_cases c57 : 0 < (t225.length : Int)
                    · rw [if_pos c57] at H
                      have c57b0 : decide (0 < (t225.length : Int)) = true := decide_eq_true c57
                      have c57b1 : decide (0 < t225.length) = true := decide_eq_true (by omega)
                      clear c57
                      by_cases c58 : ((rd_T32 t225 0).f1).toList = a0.toList
                      · rw [if_pos c58] at H
                        have c58b0 : (((rd_T32 t225 0).f1).toList == a0.toList) = true := beq_iff_eq.mpr c58
                        have c58b1 : (((rd_T32 t225 0).f1).toList != a0.toList) = false := bne_eq_false_iff_eq.mpr c58
                        clear c58
                        by_cases c59 : ((rd_T32 t225 0).f0) = 3
                        · rw [if_pos c59] at H
                          have c59b0 : (((rd_T32 t225 0).f0) == 3) = true := beq_iff_eq.mpr c59
                          have c59b1 : (((rd_T32 t225 0).f0) != 3) = false := bne_eq_false_iff_eq.mpr c59
                          clear c59
                          obtain rfl := Option.some.inj H
                          go_wp2_with (first | ((with_reducible refine gate_callee (f := 16) rfl ?_); refine goesL_ (some 18) rfl rfl Tryd.func16 (by kernel_rfl) rfl #[.string a0] rfl (by (try simp only [List.map_toArray, List.map_cons, List.map_nil]); first | done | rfl | (simp only [List.length_drop, List.length_take]; rfl)) ?_; (with_reducible refine (scan_IsWord.calls kj13 a0 false _ A16.out).mono ?_); rintro e w60 ⟨rfl, hb⟩; refine ⟨_, rfl, ?_⟩; have n0_ := Aside0.mk (Kd.R_below (by (with_reducible repeat (first | apply Kd.R_alloc | apply Kd.R_drewN | apply Kd.R_drew)); exact HO_3.out) hb); have n1_ := Aside0.mk (blk_below (g := gb231) (o := .cells #[.int .i64 t228, .int .i64 t229, .int .i64 t230] 26 (0, 0)) (by (with_reducible repeat (first | refine blk_drewN ?_ _ | refine blk_drew ?_ | refine blk_alloc ?_ _)); exact BK231.out) hb); have n2_ := Aside0.mk (below_step (by repeat (first | (with_reducible first | exact HB.out | apply below_alloc | apply pw_below_drewN | apply below_drew1 | refine below_set ?_ GE231.out) | exact HB.out)) hb); clear HO_3; clear BK231; clear HB; have HO_3 := n0_; have BK231 := n1_; have HB := n2_; clear n0_ n1_ n2_; (try clear hb); (try clear hb2); (try clear hk); (try clear hi); have hcz61_0 : w60.cell? ⟨gb231, 0, none⟩ = some (.int .i64 t228) := (blk_cell BK231.out 0).trans rfl; have hcz61_1 : w60.cell? ⟨gb231, 1, none⟩ = some (.int .i64 t229) := (blk_cell BK231.out 1).trans rfl; have hcz61_2 : w60.cell? ⟨gb231, 2, none⟩ = some (.int .i64 t230) := (blk_cell BK231.out 2).trans rfl; have hfz61_0 := blk_frozen BK231.out 0; have hfz61_1 := blk_frozen BK231.out 1; have hfz61_2 := blk_frozen BK231.out 2; obtain ⟨Ao62, co62, eo62⟩ := Kd.R_slice HO_3.out; subst eo62; have p240 : 0 ≤ (0 : Int) := (by omega); have q240 : 0 < (t225.length : Int) := of_decide_eq_true (by first | (with_reducible assumption) | assumption); obtain ⟨ad240, e240, hx240_0, hx240_1, hx240_2, hx240_3, hx240_4⟩ := at_T32 (Kd.R_reads' HO_3.out).2.2 0 p240 q240; cases e240; have qi240 : (0 < t225.length) = True := eq_true (by omega); (try rw [show ((0 : Int)).toNat = 0 from rfl] at hx240_0); (try rw [show 0 * 5 = 0 from rfl] at hx240_0); (try rw [Addr.add_zero'] at hx240_0); (try rw [show ((0 : Int)).toNat = 0 from rfl] at hx240_1); (try rw [show 0 * 5 = 0 from rfl] at hx240_1); (try rw [Addr.add_zero'] at hx240_1); (try rw [show ((0 : Int)).toNat = 0 from rfl] at hx240_2); (try rw [show 0 * 5 = 0 from rfl] at hx240_2); (try rw [Addr.add_zero'] at hx240_2); (try rw [show ((0 : Int)).toNat = 0 from rfl] at hx240_3); (try rw [show 0 * 5 = 0 from rfl] at hx240_3); (try rw [Addr.add_zero'] at hx240_3); (try rw [show ((0 : Int)).toNat = 0 from rfl] at hx240_4); (try rw [show 0 * 5 = 0 from rfl] at hx240_4); (try rw [Addr.add_zero'] at hx240_4); replace p240 := eq_true p240; replace q240 := eq_true q240; have p241 : 0 ≤ (0 : Int) := (by omega); have q241 : 0 < (t225.length : Int) := of_decide_eq_true (by first | (with_reducible assumption) | assumption); obtain ⟨ad241, e241, hx241_0, hx241_1, hx241_2, hx241_3, hx241_4⟩ := at_T32 (Kd.R_reads' HO_3.out).2.2 0 p241 q241; obtain rfl : ad240 = ad241 := (by injection e241); have qi241 : (0 < t225.length) = True := eq_true (by omega); (try rw [show ((0 : Int)).toNat = 0 from rfl] at hx241_0); (try rw [show 0 * 5 = 0 from rfl] at hx241_0); (try rw [Addr.add_zero'] at hx241_0); (try rw [show ((0 : Int)).toNat = 0 from rfl] at hx241_1); (try rw [show 0 * 5 = 0 from rfl] at hx241_1); (try rw [Addr.add_zero'] at hx241_1); (try rw [show ((0 : Int)).toNat = 0 from rfl] at hx241_2); (try rw [show 0 * 5 = 0 from rfl] at hx241_2); (try rw [Addr.add_zero'] at hx241_2); (try rw [show ((0 : Int)).toNat = 0 from rfl] at hx241_3); (try rw [show 0 * 5 = 0 from rfl] at hx241_3); (try rw [Addr.add_zero'] at hx241_3); (try rw [show ((0 : Int)).toNat = 0 from rfl] at hx241_4); (try rw [show 0 * 5 = 0 from rfl] at hx241_4); (try rw [Addr.add_zero'] at hx241_4); replace p241 := eq_true p241; replace q241 := eq_true q241))
                          all_goals go_ret
                          all_goals exact ⟨by first | rfl | (simp [errW_none, errW_some] <;> rfl) | (simp [*, errW_none, errW_some] <;> rfl), by repeat (first | (with_reducible first | exact HB.out | apply below_alloc | apply pw_below_drewN | apply below_drew1 | refine below_set ?_ GE231.out) | exact HB.out)⟩
                        · rw [if_neg c59] at H
                          have c59b0 : (((rd_T32 t225 0).f0) == 3) = false := beq_eq_false_iff_ne.mpr c59
                          have c59b1 : (((rd_T32 t225 0).f0) != 3) = true := bne_iff_ne.mpr c59
                          obtain rfl := Option.some.inj H
                          go_wp2_with (first | ((with_reducible refine gate_callee (f := 16) rfl ?_); refine goesL_ (some 18) rfl rfl Tryd.func16 (by kernel_rfl) rfl #[.string a0] rfl (by (try simp only [List.map_toArray, List.map_cons, List.map_nil]); first | done | rfl | (simp only [List.length_drop, List.length_take]; rfl)) ?_; (with_reducible refine (scan_IsWord.calls kj13 a0 false _ A16.out).mono ?_); rintro e w63 ⟨rfl, hb⟩; refine ⟨_, rfl, ?_⟩; have n0_ := Aside0.mk (Kd.R_below (by (with_reducible repeat (first | apply Kd.R_alloc | apply Kd.R_drewN | apply Kd.R_drew)); exact HO_3.out) hb); have n1_ := Aside0.mk (blk_below (g := gb231) (o := .cells #[.int .i64 t228, .int .i64 t229, .int .i64 t230] 26 (0, 0)) (by (with_reducible repeat (first | refine blk_drewN ?_ _ | refine blk_drew ?_ | refine blk_alloc ?_ _)); exact BK231.out) hb); have n2_ := Aside0.mk (below_step (by repeat (first | (with_reducible first | exact HB.out | apply below_alloc | apply pw_below_drewN | apply below_drew1 | refine below_set ?_ GE231.out) | exact HB.out)) hb); clear HO_3; clear BK231; clear HB; have HO_3 := n0_; have BK231 := n1_; have HB := n2_; clear n0_ n1_ n2_; (try clear hb); (try clear hb2); (try clear hk); (try clear hi); have hcz64_0 : w63.cell? ⟨gb231, 0, none⟩ = some (.int .i64 t228) := (blk_cell BK231.out 0).trans rfl; have hcz64_1 : w63.cell? ⟨gb231, 1, none⟩ = some (.int .i64 t229) := (blk_cell BK231.out 1).trans rfl; have hcz64_2 : w63.cell? ⟨gb231, 2, none⟩ = some (.int .i64 t230) := (blk_cell BK231.out 2).trans rfl; have hfz64_0 := blk_frozen BK231.out 0; have hfz64_1 := blk_frozen BK231.out 1; have hfz64_2 := blk_frozen BK231.out 2; obtain ⟨Ao65, co65, eo65⟩ := Kd.R_slice HO_3.out; subst eo65; have p240 : 0 ≤ (0 : Int) := (by omega); have q240 : 0 < (t225.length : Int) := of_decide_eq_true (by first | (with_reducible assumption) | assumption); obtain ⟨ad240, e240, hx240_0, hx240_1, hx240_2, hx240_3, hx240_4⟩ := at_T32 (Kd.R_reads' HO_3.out).2.2 0 p240 q240; cases e240; have qi240 : (0 < t225.length) = True := eq_true (by omega); (try rw [show ((0 : Int)).toNat = 0 from rfl] at hx240_0); (try rw [show 0 * 5 = 0 from rfl] at hx240_0); (try rw [Addr.add_zero'] at hx240_0); (try rw [show ((0 : Int)).toNat = 0 from rfl] at hx240_1); (try rw [show 0 * 5 = 0 from rfl] at hx240_1); (try rw [Addr.add_zero'] at hx240_1); (try rw [show ((0 : Int)).toNat = 0 from rfl] at hx240_2); (try rw [show 0 * 5 = 0 from rfl] at hx240_2); (try rw [Addr.add_zero'] at hx240_2); (try rw [show ((0 : Int)).toNat = 0 from rfl] at hx240_3); (try rw [show 0 * 5 = 0 from rfl] at hx240_3); (try rw [Addr.add_zero'] at hx240_3); (try rw [show ((0 : Int)).toNat = 0 from rfl] at hx240_4); (try rw [show 0 * 5 = 0 from rfl] at hx240_4); (try rw [Addr.add_zero'] at hx240_4); replace p240 := eq_true p240; replace q240 := eq_true q240; have p241 : 0 ≤ (0 : Int) := (by omega); have q241 : 0 < (t225.length : Int) := of_decide_eq_true (by first | (with_reducible assumption) | assumption); obtain ⟨ad241, e241, hx241_0, hx241_1, hx241_2, hx241_3, hx241_4⟩ := at_T32 (Kd.R_reads' HO_3.out).2.2 0 p241 q241; obtain rfl : ad240 = ad241 := (by injection e241); have qi241 : (0 < t225.length) = True := eq_true (by omega); (try rw [show ((0 : Int)).toNat = 0 from rfl] at hx241_0); (try rw [show 0 * 5 = 0 from rfl] at hx241_0); (try rw [Addr.add_zero'] at hx241_0); (try rw [show ((0 : Int)).toNat = 0 from rfl] at hx241_1); (try rw [show 0 * 5 = 0 from rfl] at hx241_1); (try rw [Addr.add_zero'] at hx241_1); (try rw [show ((0 : Int)).toNat = 0 from rfl] at hx241_2); (try rw [show 0 * 5 = 0 from rfl] at hx241_2); (try rw [Addr.add_zero'] at hx241_2); (try rw [show ((0 : Int)).toNat = 0 from rfl] at hx241_3); (try rw [show 0 * 5 = 0 from rfl] at hx241_3); (try rw [Addr.add_zero'] at hx241_3); (try rw [show ((0 : Int)).toNat = 0 from rfl] at hx241_4); (try rw [show 0 * 5 = 0 from rfl] at hx241_4); (try rw [Addr.add_zero'] at hx241_4); replace p241 := eq_true p241; replace q241 := eq_true q241; have p242 : 0 ≤ (0 : Int) := (by omega); have q242 : 0 < (t225.length : Int) := of_decide_eq_true (by first | (with_reducible assumption) | assumption); obtain ⟨ad242, e242, hx242_0, hx242_1, hx242_2, hx242_3, hx242_4⟩ := at_T32 (Kd.R_reads' HO_3.out).2.2 0 p242 q242; obtain rfl : ad240 = ad242 := (by injection e242); have qi242 : (0 < t225.length) = True := eq_true (by omega); (try rw [show ((0 : Int)).toNat = 0 from rfl] at hx242_0); (try rw [show 0 * 5 = 0 from rfl] at hx242_0); (try rw [Addr.add_zero'] at hx242_0); (try rw [show ((0 : Int)).toNat = 0 from rfl] at hx242_1); (try rw [show 0 * 5 = 0 from rfl] at hx242_1); (try rw [Addr.add_zero'] at hx242_1); (try rw [show ((0 : Int)).toNat = 0 from rfl] at hx242_2); (try rw [show 0 * 5 = 0 from rfl] at hx242_2); (try rw [Addr.add_zero'] at hx242_2); (try rw [show ((0 : Int)).toNat = 0 from rfl] at hx242_3); (try rw [show 0 * 5 = 0 from rfl] at hx242_3); (try rw [Addr.add_zero'] at hx242_3); (try rw [show ((0 : Int)).toNat = 0 from rfl] at hx242_4); (try rw [show 0 * 5 = 0 from rfl] at hx242_4); (try rw [Addr.add_zero'] at hx242_4); replace p242 := eq_true p242; replace q242 := eq_true q242))
                          all_goals go_ret
                          all_goals exact ⟨by first | rfl | (simp [errW_none, errW_some] <;> rfl) | (simp [*, errW_none, errW_some] <;> rfl), by repeat (first | (with_reducible first | exact HB.out | apply below_alloc | apply pw_below_drewN | apply below_drew1 | refine below_set ?_ GE231.out) | exact HB.out)⟩
                      · rw [if_neg c58] at H
                        have c58b0 : (((rd_T32 t225 0).f1).toList == a0.toList) = false := beq_eq_false_iff_ne.mpr c58
                        have c58b1 : (((rd_T32 t225 0).f1).toList != a0.toList) = true := bne_iff_ne.mpr c58
                        obtain rfl := Option.some.inj H
                        go_wp2_with (first | ((with_reducible refine gate_callee (f := 16) rfl ?_); refine goesL_ (some 18) rfl rfl Tryd.func16 (by kernel_rfl) rfl #[.string a0] rfl (by (try simp only [List.map_toArray, List.map_cons, List.map_nil]); first | done | rfl | (simp only [List.length_drop, List.length_take]; rfl)) ?_; (with_reducible refine (scan_IsWord.calls kj13 a0 false _ A16.out).mono ?_); rintro e w66 ⟨rfl, hb⟩; refine ⟨_, rfl, ?_⟩; have n0_ := Aside0.mk (Kd.R_below (by (with_reducible repeat (first | apply Kd.R_alloc | apply Kd.R_drewN | apply Kd.R_drew)); exact HO_3.out) hb); have n1_ := Aside0.mk (blk_below (g := gb231) (o := .cells #[.int .i64 t228, .int .i64 t229, .int .i64 t230] 26 (0, 0)) (by (with_reducible repeat (first | refine blk_drewN ?_ _ | refine blk_drew ?_ | refine blk_alloc ?_ _)); exact BK231.out) hb); have n2_ := Aside0.mk (below_step (by repeat (first | (with_reducible first | exact HB.out | apply below_alloc | apply pw_below_drewN | apply below_drew1 | refine below_set ?_ GE231.out) | exact HB.out)) hb); clear HO_3; clear BK231; clear HB; have HO_3 := n0_; have BK231 := n1_; have HB := n2_; clear n0_ n1_ n2_; (try clear hb); (try clear hb2); (try clear hk); (try clear hi); have hcz67_0 : w66.cell? ⟨gb231, 0, none⟩ = some (.int .i64 t228) := (blk_cell BK231.out 0).trans rfl; have hcz67_1 : w66.cell? ⟨gb231, 1, none⟩ = some (.int .i64 t229) := (blk_cell BK231.out 1).trans rfl; have hcz67_2 : w66.cell? ⟨gb231, 2, none⟩ = some (.int .i64 t230) := (blk_cell BK231.out 2).trans rfl; have hfz67_0 := blk_frozen BK231.out 0; have hfz67_1 := blk_frozen BK231.out 1; have hfz67_2 := blk_frozen BK231.out 2; obtain ⟨Ao68, co68, eo68⟩ := Kd.R_slice HO_3.out; subst eo68; have p240 : 0 ≤ (0 : Int) := (by omega); have q240 : 0 < (t225.length : Int) := of_decide_eq_true (by first | (with_reducible assumption) | assumption); obtain ⟨ad240, e240, hx240_0, hx240_1, hx240_2, hx240_3, hx240_4⟩ := at_T32 (Kd.R_reads' HO_3.out).2.2 0 p240 q240; cases e240; have qi240 : (0 < t225.length) = True := eq_true (by omega); (try rw [show ((0 : Int)).toNat = 0 from rfl] at hx240_0); (try rw [show 0 * 5 = 0 from rfl] at hx240_0); (try rw [Addr.add_zero'] at hx240_0); (try rw [show ((0 : Int)).toNat = 0 from rfl] at hx240_1); (try rw [show 0 * 5 = 0 from rfl] at hx240_1); (try rw [Addr.add_zero'] at hx240_1); (try rw [show ((0 : Int)).toNat = 0 from rfl] at hx240_2); (try rw [show 0 * 5 = 0 from rfl] at hx240_2); (try rw [Addr.add_zero'] at hx240_2); (try rw [show ((0 : Int)).toNat = 0 from rfl] at hx240_3); (try rw [show 0 * 5 = 0 from rfl] at hx240_3); (try rw [Addr.add_zero'] at hx240_3); (try rw [show ((0 : Int)).toNat = 0 from rfl] at hx240_4); (try rw [show 0 * 5 = 0 from rfl] at hx240_4); (try rw [Addr.add_zero'] at hx240_4); replace p240 := eq_true p240; replace q240 := eq_true q240))
                        all_goals go_ret
                        all_goals exact ⟨by first | rfl | (simp [errW_none, errW_some] <;> rfl) | (simp [*, errW_none, errW_some] <;> rfl), by repeat (first | (with_reducible first | exact HB.out | apply below_alloc | apply pw_below_drewN | apply below_drew1 | refine below_set ?_ GE231.out) | exact HB.out)⟩
                    · rw [if_neg c57] at H
                      exact absurd H (by simp)
                  · rw [if_neg c56] at H
                    have c56b0 : ((t225.length : Int) == 2) = false := beq_eq_false_iff_ne.mpr c56
                    have c56b1 : ((t225.length : Int) != 2) = true := bne_iff_ne.mpr c56
                    obtain rfl := Option.some.inj H
                    go_wp2_with (first | ((with_reducible refine gate_callee (f := 16) rfl ?_); refine goesL_ (some 18) rfl rfl Tryd.func16 (by kernel_rfl) rfl #[.string a0] rfl (by (try simp only [List.map_toArray, List.map_cons, List.map_nil]); first | done | rfl | (simp only [List.length_drop, List.length_take]; rfl)) ?_; (with_reducible refine (scan_IsWord.calls kj13 a0 false _ A16.out).mono ?_); rintro e w69 ⟨rfl, hb⟩; refine ⟨_, rfl, ?_⟩; have n0_ := Aside0.mk (Kd.R_below (by (with_reducible repeat (first | apply Kd.R_alloc | apply Kd.R_drewN | apply Kd.R_drew)); exact HO_3.out) hb); have n1_ := Aside0.mk (blk_below (g := gb231) (o := .cells #[.int .i64 t228, .int .i64 t229, .int .i64 t230] 26 (0, 0)) (by (with_reducible repeat (first | refine blk_drewN ?_ _ | refine blk_drew ?_ | refine blk_alloc ?_ _)); exact BK231.out) hb); have n2_ := Aside0.mk (below_step (by repeat (first | (with_reducible first | exact HB.out | apply below_alloc | apply pw_below_drewN | apply below_drew1 | refine below_set ?_ GE231.out) | exact HB.out)) hb); clear HO_3; clear BK231; clear HB; have HO_3 := n0_; have BK231 := n1_; have HB := n2_; clear n0_ n1_ n2_; (try clear hb); (try clear hb2); (try clear hk); (try clear hi); have hcz70_0 : w69.cell? ⟨gb231, 0, none⟩ = some (.int .i64 t228) := (blk_cell BK231.out 0).trans rfl; have hcz70_1 : w69.cell? ⟨gb231, 1, none⟩ = some (.int .i64 t229) := (blk_cell BK231.out 1).trans rfl; have hcz70_2 : w69.cell? ⟨gb231, 2, none⟩ = some (.int .i64 t230) := (blk_cell BK231.out 2).trans rfl; have hfz70_0 := blk_frozen BK231.out 0; have hfz70_1 := blk_frozen BK231.out 1; have hfz70_2 := blk_frozen BK231.out 2; obtain ⟨Ao71, co71, eo71⟩ := Kd.R_slice HO_3.out; subst eo71))
                    all_goals go_ret
                    all_goals exact ⟨by first | rfl | (simp [errW_none, errW_some] <;> rfl) | (simp [*, errW_none, errW_some] <;> rfl), by repeat (first | (with_reducible first | exact HB.out | apply below_alloc | apply pw_below_drewN | apply below_drew1 | refine below_set ?_ GE231.out) | exact HB.out)⟩
                · rw [if_neg c55] at H
                  have c55b0 : (t228 == 0) = false := beq_eq_false_iff_ne.mpr c55
                  have c55b1 : (t228 != 0) = true := bne_iff_ne.mpr c55
                  obtain rfl := Option.some.inj H
                  go_wp2_with (first | ((with_reducible refine gate_callee (f := 16) rfl ?_); refine goesL_ (some 18) rfl rfl Tryd.func16 (by kernel_rfl) rfl #[.string a0] rfl (by (try simp only [List.map_toArray, List.map_cons, List.map_nil]); first | done | rfl | (simp only [List.length_drop, List.length_take]; rfl)) ?_; (with_reducible refine (scan_IsWord.calls kj13 a0 false _ A16.out).mono ?_); rintro e w72 ⟨rfl, hb⟩; refine ⟨_, rfl, ?_⟩; have n0_ := Aside0.mk (Kd.R_below (by (with_reducible repeat (first | apply Kd.R_alloc | apply Kd.R_drewN | apply Kd.R_drew)); exact HO_3.out) hb); have n1_ := Aside0.mk (blk_below (g := gb231) (o := .cells #[.int .i64 t228, .int .i64 t229, .int .i64 t230] 26 (0, 0)) (by (with_reducible repeat (first | refine blk_drewN ?_ _ | refine blk_drew ?_ | refine blk_alloc ?_ _)); exact BK231.out) hb); have n2_ := Aside0.mk (below_step (by repeat (first | (with_reducible first | exact HB.out | apply below_alloc | apply pw_below_drewN | apply below_drew1 | refine below_set ?_ GE231.out) | exact HB.out)) hb); clear HO_3; clear BK231; clear HB; have HO_3 := n0_; have BK231 := n1_; have HB := n2_; clear n0_ n1_ n2_; (try clear hb); (try clear hb2); (try clear hk); (try clear hi); have hcz73_0 : w72.cell? ⟨gb231, 0, none⟩ = some (.int .i64 t228) := (blk_cell BK231.out 0).trans rfl; have hcz73_1 : w72.cell? ⟨gb231, 1, none⟩ = some (.int .i64 t229) := (blk_cell BK231.out 1).trans rfl; have hcz73_2 : w72.cell? ⟨gb231, 2, none⟩ = some (.int .i64 t230) := (blk_cell BK231.out 2).trans rfl; have hfz73_0 := blk_frozen BK231.out 0; have hfz73_1 := blk_frozen BK231.out 1; have hfz73_2 := blk_frozen BK231.out 2))
                  all_goals go_ret
                  all_goals exact ⟨by first | rfl | (simp [errW_none, errW_some] <;> rfl) | (simp [*, errW_none, errW_some] <;> rfl), by repeat (first | (with_reducible first | exact HB.out | apply below_alloc | apply pw_below_drewN | apply below_drew1 | refine below_set ?_ GE231.out) | exact HB.out)⟩
              · rw [if_neg c54] at H
                have c54b0 : (x5_13 == 0) = false := beq_eq_false_iff_ne.mpr c54
                have c54b1 : (x5_13 != 0) = true := bne_iff_ne.mpr c54
                by_cases c74 : (t228 == 0 && (t229 == 0 && (t230 == 0))) = true
                · rw [if_pos c74] at H
                  have c74b0 : (t228 == 0 && (t229 == 0 && (t230 == 0))) = true := c74
                  (try (have c74b1 : decide (t228 = 0 && (t229 == 0 && (t230 == 0))) = true := by simpa using c74))
                  (try (have c74b2 : (t228 == 0 && (t229 == 0 && (t230 == 0))) = true := by simpa using c74))
                  clear c74
                  by_cases c75 : (t225.length : Int) = 2
                  · rw [if_pos c75] at H
                    have c75b0 : ((t225.length : Int) == 2) = true := beq_iff_eq.mpr c75
                    have c75b1 : ((t225.length : Int) != 2) = false := bne_eq_false_iff_eq.mpr c75
                    clear c75
                    by_cases c76 : 0 < (t225.length : Int)
                    · rw [if_pos c76] at H
                      have c76b0 : decide (0 < (t225.length : Int)) = true := decide_eq_true c76
                      have c76b1 : decide (0 < t225.length) = true := decide_eq_true (by omega)
                      clear c76
                      by_cases c77 : (((rd_T32 t225 0).f0) == x5_13 && ((((rd_T32 t225 0).f1).toList) == a0.toList && (((rd_T32 t225 0).f2) == 0 && (((rd_T32 t225 0).f3) == 1 && (((rd_T32 t225 0).f4) == 1))))) = true
                      · rw [if_pos c77] at H
                        have c77b0 : (((rd_T32 t225 0).f0) == x5_13 && ((((rd_T32 t225 0).f1).toList) == a0.toList && (((rd_T32 t225 0).f2) == 0 && (((rd_T32 t225 0).f3) == 1 && (((rd_T32 t225 0).f4) == 1))))) = true := c77
                        (try (have c77b1 : decide (((rd_T32 t225 0).f0) = x5_13 && ((((rd_T32 t225 0).f1).toList) == a0.toList && (((rd_T32 t225 0).f2) == 0 && (((rd_T32 t225 0).f3) == 1 && (((rd_T32 t225 0).f4) == 1))))) = true := by simpa using c77))
                        (try (have c77b2 : (((rd_T32 t225 0).f0) == x5_13 && ((((rd_T32 t225 0).f1).toList) == a0.toList && (((rd_T32 t225 0).f2) == 0 && (((rd_T32 t225 0).f3) == 1 && (((rd_T32 t225 0).f4) == 1))))) = true := by simpa using c77))
                        clear c77
                        by_cases c78 : 1 < (t225.length : Int)
                        · rw [if_pos c78] at H
                          have c78b0 : decide (1 < (t225.length : Int)) = true := decide_eq_true c78
                          have c78b1 : decide (1 < t225.length) = true := decide_eq_true (by omega)
                          clear c78
                          obtain rfl := Option.some.inj H
                          go_wp2_with (first | ((with_reducible refine gate_callee (f := 16) rfl ?_); refine goesL_ (some 18) rfl rfl Tryd.func16 (by kernel_rfl) rfl #[.string a0] rfl (by (try simp only [List.map_toArray, List.map_cons, List.map_nil]); first | done | rfl | (simp only [List.length_drop, List.length_take]; rfl)) ?_; (with_reducible refine (scan_IsWord.calls kj13 a0 false _ A16.out).mono ?_); rintro e w79 ⟨rfl, hb⟩; refine ⟨_, rfl, ?_⟩; have n0_ := Aside0.mk (Kd.R_below (by (with_reducible repeat (first | apply Kd.R_alloc | apply Kd.R_drewN | apply Kd.R_drew)); exact HO_3.out) hb); have n1_ := Aside0.mk (blk_below (g := gb231) (o := .cells #[.int .i64 t228, .int .i64 t229, .int .i64 t230] 26 (0, 0)) (by (with_reducible repeat (first | refine blk_drewN ?_ _ | refine blk_drew ?_ | refine blk_alloc ?_ _)); exact BK231.out) hb); have n2_ := Aside0.mk (below_step (by repeat (first | (with_reducible first | exact HB.out | apply below_alloc | apply pw_below_drewN | apply below_drew1 | refine below_set ?_ GE231.out) | exact HB.out)) hb); clear HO_3; clear BK231; clear HB; have HO_3 := n0_; have BK231 := n1_; have HB := n2_; clear n0_ n1_ n2_; (try clear hb); (try clear hb2); (try clear hk); (try clear hi); have hcz80_0 : w79.cell? ⟨gb231, 0, none⟩ = some (.int .i64 t228) := (blk_cell BK231.out 0).trans rfl; have hcz80_1 : w79.cell? ⟨gb231, 1, none⟩ = some (.int .i64 t229) := (blk_cell BK231.out 1).trans rfl; have hcz80_2 : w79.cell? ⟨gb231, 2, none⟩ = some (.int .i64 t230) := (blk_cell BK231.out 2).trans rfl; have hfz80_0 := blk_frozen BK231.out 0; have hfz80_1 := blk_frozen BK231.out 1; have hfz80_2 := blk_frozen BK231.out 2; obtain ⟨Ao81, co81, eo81⟩ := Kd.R_slice HO_3.out; subst eo81; have p243 : 0 ≤ (0 : Int) := (by omega); have q243 : 0 < (t225.length : Int) := of_decide_eq_true (by first | (with_reducible assumption) | assumption); obtain ⟨ad243, e243, hx243_0, hx243_1, hx243_2, hx243_3, hx243_4⟩ := at_T32 (Kd.R_reads' HO_3.out).2.2 0 p243 q243; cases e243; have qi243 : (0 < t225.length) = True := eq_true (by omega); (try rw [show ((0 : Int)).toNat = 0 from rfl] at hx243_0); (try rw [show 0 * 5 = 0 from rfl] at hx243_0); (try rw [Addr.add_zero'] at hx243_0); (try rw [show ((0 : Int)).toNat = 0 from rfl] at hx243_1); (try rw [show 0 * 5 = 0 from rfl] at hx243_1); (try rw [Addr.add_zero'] at hx243_1); (try rw [show ((0 : Int)).toNat = 0 from rfl] at hx243_2); (try rw [show 0 * 5 = 0 from rfl] at hx243_2); (try rw [Addr.add_zero'] at hx243_2); (try rw [show ((0 : Int)).toNat = 0 from rfl] at hx243_3); (try rw [show 0 * 5 = 0 from rfl] at hx243_3); (try rw [Addr.add_zero'] at hx243_3); (try rw [show ((0 : Int)).toNat = 0 from rfl] at hx243_4); (try rw [show 0 * 5 = 0 from rfl] at hx243_4); (try rw [Addr.add_zero'] at hx243_4); replace p243 := eq_true p243; replace q243 := eq_true q243; have p244 : 0 ≤ (1 : Int) := (by omega); have q244 : 1 < (t225.length : Int) := of_decide_eq_true (by first | (with_reducible assumption) | assumption); obtain ⟨ad244, e244, hx244_0, hx244_1, hx244_2, hx244_3, hx244_4⟩ := at_T32 (Kd.R_reads' HO_3.out).2.2 1 p244 q244; obtain rfl : ad243 = ad244 := (by injection e244); (try simp only [show (1 : Int).toNat = 1 from rfl, Nat.reduceMul, Nat.reduceEqDiff, Go.Addr.add, ↓reduceIte] at hx244_0); (try simp only [show (1 : Int).toNat = 1 from rfl, Nat.reduceMul, Nat.reduceEqDiff, Go.Addr.add, ↓reduceIte] at hx244_1); (try simp only [show (1 : Int).toNat = 1 from rfl, Nat.reduceMul, Nat.reduceEqDiff, Go.Addr.add, ↓reduceIte] at hx244_2); (try simp only [show (1 : Int).toNat = 1 from rfl, Nat.reduceMul, Nat.reduceEqDiff, Go.Addr.add, ↓reduceIte] at hx244_3); (try simp only [show (1 : Int).toNat = 1 from rfl, Nat.reduceMul, Nat.reduceEqDiff, Go.Addr.add, ↓reduceIte] at hx244_4); have qi244 : (1 < t225.length) = True := eq_true (by omega); (try rw [show ((1 : Int)).toNat = 1 from rfl] at hx244_0); (try rw [show 1 * 5 = 5 from rfl] at hx244_0); (try rw [show ((1 : Int)).toNat = 1 from rfl] at hx244_1); (try rw [show 1 * 5 = 5 from rfl] at hx244_1); (try rw [show ((1 : Int)).toNat = 1 from rfl] at hx244_2); (try rw [show 1 * 5 = 5 from rfl] at hx244_2); (try rw [show ((1 : Int)).toNat = 1 from rfl] at hx244_3); (try rw [show 1 * 5 = 5 from rfl] at hx244_3); (try rw [show ((1 : Int)).toNat = 1 from rfl] at hx244_4); (try rw [show 1 * 5 = 5 from rfl] at hx244_4); replace p244 := eq_true p244; replace q244 := eq_true q244))
                          all_goals go_ret
                          all_goals exact ⟨by first | rfl | (simp [errW_none, errW_some] <;> rfl) | (simp [*, errW_none, errW_some] <;> rfl), by repeat (first | (with_reducible first | exact HB.out | apply below_alloc | apply pw_below_drewN | apply below_drew1 | refine below_set ?_ GE231.out) | exact HB.out)⟩
                        · rw [if_neg c78] at H
                          exact absurd H (by simp)
                      · rw [if_neg c77] at H
                        have c77b0 : (((rd_T32 t225 0).f0) == x5_13 && ((((rd_T32 t225 0).f1).toList) == a0.toList && (((rd_T32 t225 0).f2) == 0 && (((rd_T32 t225 0).f3) == 1 && (((rd_T32 t225 0).f4) == 1))))) = false := by simpa using c77
                        (try (have c77b1 : decide (((rd_T32 t225 0).f0) = x5_13 && ((((rd_T32 t225 0).f1).toList) == a0.toList && (((rd_T32 t225 0).f2) == 0 && (((rd_T32 t225 0).f3) == 1 && (((rd_T32 t225 0).f4) == 1))))) = false := by simpa using c77))
                        (try (have c77b2 : (((rd_T32 t225 0).f0) == x5_13 && ((((rd_T32 t225 0).f1).toList) == a0.toList && (((rd_T32 t225 0).f2) == 0 && (((rd_T32 t225 0).f3) == 1 && (((rd_T32 t225 0).f4) == 1))))) = false := by simpa using c77))
                        (try (have c77b3 : ¬ (((rd_T32 t225 0).f0) = x5_13 && ((((rd_T32 t225 0).f1).toList) == a0.toList && (((rd_T32 t225 0).f2) == 0 && (((rd_T32 t225 0).f3) == 1 && (((rd_T32 t225 0).f4) == 1))))) := by simpa using c77))
                        clear c77
                        obtain rfl := Option.some.inj H
                        go_wp2_with (first | ((with_reducible refine gate_callee (f := 16) rfl ?_); refine goesL_ (some 18) rfl rfl Tryd.func16 (by kernel_rfl) rfl #[.string a0] rfl (by (try simp only [List.map_toArray, List.map_cons, List.map_nil]); first | done | rfl | (simp only [List.length_drop, List.length_take]; rfl)) ?_; (with_reducible refine (scan_IsWord.calls kj13 a0 false _ A16.out).mono ?_); rintro e w82 ⟨rfl, hb⟩; refine ⟨_, rfl, ?_⟩; have n0_ := Aside0.mk (Kd.R_below (by (with_reducible repeat (first | apply Kd.R_alloc | apply Kd.R_drewN | apply Kd.R_drew)); exact HO_3.out) hb); have n1_ := Aside0.mk (blk_below (g := gb231) (o := .cells #[.int .i64 t228, .int .i64 t229, .int .i64 t230] 26 (0, 0)) (by (with_reducible repeat (first | refine blk_drewN ?_ _ | refine blk_drew ?_ | refine blk_alloc ?_ _)); exact BK231.out) hb); have n2_ := Aside0.mk (below_step (by repeat (first | (with_reducible first | exact HB.out | apply below_alloc | apply pw_below_drewN | apply below_drew1 | refine below_set ?_ GE231.out) | exact HB.out)) hb); clear HO_3; clear BK231; clear HB; have HO_3 := n0_; have BK231 := n1_; have HB := n2_; clear n0_ n1_ n2_; (try clear hb); (try clear hb2); (try clear hk); (try clear hi); have hcz83_0 : w82.cell? ⟨gb231, 0, none⟩ = some (.int .i64 t228) := (blk_cell BK231.out 0).trans rfl; have hcz83_1 : w82.cell? ⟨gb231, 1, none⟩ = some (.int .i64 t229) := (blk_cell BK231.out 1).trans rfl; have hcz83_2 : w82.cell? ⟨gb231, 2, none⟩ = some (.int .i64 t230) := (blk_cell BK231.out 2).trans rfl; have hfz83_0 := blk_frozen BK231.out 0; have hfz83_1 := blk_frozen BK231.out 1; have hfz83_2 := blk_frozen BK231.out 2; obtain ⟨Ao84, co84, eo84⟩ := Kd.R_slice HO_3.out; subst eo84; have p243 : 0 ≤ (0 : Int) := (by omega); have q243 : 0 < (t225.length : Int) := of_decide_eq_true (by first | (with_reducible assumption) | assumption); obtain ⟨ad243, e243, hx243_0, hx243_1, hx243_2, hx243_3, hx243_4⟩ := at_T32 (Kd.R_reads' HO_3.out).2.2 0 p243 q243; cases e243; have qi243 : (0 < t225.length) = True := eq_true (by omega); (try rw [show ((0 : Int)).toNat = 0 from rfl] at hx243_0); (try rw [show 0 * 5 = 0 from rfl] at hx243_0); (try rw [Addr.add_zero'] at hx243_0); (try rw [show ((0 : Int)).toNat = 0 from rfl] at hx243_1); (try rw [show 0 * 5 = 0 from rfl] at hx243_1); (try rw [Addr.add_zero'] at hx243_1); (try rw [show ((0 : Int)).toNat = 0 from rfl] at hx243_2); (try rw [show 0 * 5 = 0 from rfl] at hx243_2); (try rw [Addr.add_zero'] at hx243_2); (try rw [show ((0 : Int)).toNat = 0 from rfl] at hx243_3); (try rw [show 0 * 5 = 0 from rfl] at hx243_3); (try rw [Addr.add_zero'] at hx243_3); (try rw [show ((0 : Int)).toNat = 0 from rfl] at hx243_4); (try rw [show 0 * 5 = 0 from rfl] at hx243_4); (try rw [Addr.add_zero'] at hx243_4); replace p243 := eq_true p243; replace q243 := eq_true q243))
                        all_goals go_ret
                        all_goals exact ⟨by first | rfl | (simp [errW_none, errW_some] <;> rfl) | (simp [*, errW_none, errW_some] <;> rfl), by repeat (first | (with_reducible first | exact HB.out | apply below_alloc | apply pw_below_drewN | apply below_drew1 | refine below_set ?_ GE231.out) | exact HB.out)⟩
                    · rw [if_neg c76] at H
                      exact absurd H (by simp)
                  · rw [if_neg c75] at H
                    have c75b0 : ((t225.length : Int) == 2) = false := beq_eq_false_iff_ne.mpr c75
                    have c75b1 : ((t225.length : Int) != 2) = true := bne_iff_ne.mpr c75
                    obtain rfl := Option.some.inj H
                    go_wp2_with (first | ((with_reducible refine gate_callee (f := 16) rfl ?_); refine goesL_ (some 18) rfl rfl Tryd.func16 (by kernel_rfl) rfl #[.string a0] rfl (by (try simp only [List.map_toArray, List.map_cons, List.map_nil]); first | done | rfl | (simp only [List.length_drop, List.length_take]; rfl)) ?_; (with_reducible refine (scan_IsWord.calls kj13 a0 false _ A16.out).mono ?_); rintro e w85 ⟨rfl, hb⟩; refine ⟨_, rfl, ?_⟩; have n0_ := Aside0.mk (Kd.R_below (by (with_reducible repeat (first | apply Kd.R_alloc | apply Kd.R_drewN | apply Kd.R_drew)); exact HO_3.out) hb); have n1_ := Aside0.mk (blk_below (g := gb231) (o := .cells #[.int .i64 t228, .int .i64 t229, .int .i64 t230] 26 (0, 0)) (by (with_reducible repeat (first | refine blk_drewN ?_ _ | refine blk_drew ?_ | refine blk_alloc ?_ _)); exact BK231.out) hb); have n2_ := Aside0.mk (below_step (by repeat (first | (with_reducible first | exact HB.out | apply below_alloc | apply pw_below_drewN | apply below_drew1 | refine below_set ?_ GE231.out) | exact HB.out)) hb); clear HO_3; clear BK231; clear HB; have HO_3 := n0_; have BK231 := n1_; have HB := n2_; clear n0_ n1_ n2_; (try clear hb); (try clear hb2); (try clear hk); (try clear hi); have hcz86_0 : w85.cell? ⟨gb231, 0, none⟩ = some (.int .i64 t228) := (blk_cell BK231.out 0).trans rfl; have hcz86_1 : w85.cell? ⟨gb231, 1, none⟩ = some (.int .i64 t229) := (blk_cell BK231.out 1).trans rfl; have hcz86_2 : w85.cell? ⟨gb231, 2, none⟩ = some (.int .i64 t230) := (blk_cell BK231.out 2).trans rfl; have hfz86_0 := blk_frozen BK231.out 0; have hfz86_1 := blk_frozen BK231.out 1; have hfz86_2 := blk_frozen BK231.out 2; obtain ⟨Ao87, co87, eo87⟩ := Kd.R_slice HO_3.out; subst eo87))
                    all_goals go_ret
                    all_goals exact ⟨by first | rfl | (simp [errW_none, errW_some] <;> rfl) | (simp [*, errW_none, errW_some] <;> rfl), by repeat (first | (with_reducible first | exact HB.out | apply below_alloc | apply pw_below_drewN | apply below_drew1 | refine below_set ?_ GE231.out) | exact HB.out)⟩
                · rw [if_neg c74] at H
                  have c74b0 : (t228 == 0 && (t229 == 0 && (t230 == 0))) = false := by simpa using c74
                  (try (have c74b1 : decide (t228 = 0 && (t229 == 0 && (t230 == 0))) = false := by simpa using c74))
                  (try (have c74b2 : (t228 == 0 && (t229 == 0 && (t230 == 0))) = false := by simpa using c74))
                  (try (have c74b3 : ¬ (t228 = 0 && (t229 == 0 && (t230 == 0))) := by simpa using c74))
                  clear c74
                  obtain rfl := Option.some.inj H
                  go_wp2_with (first | ((with_reducible refine gate_callee (f := 16) rfl ?_); refine goesL_ (some 18) rfl rfl Tryd.func16 (by kernel_rfl) rfl #[.string a0] rfl (by (try simp only [List.map_toArray, List.map_cons, List.map_nil]); first | done | rfl | (simp only [List.length_drop, List.length_take]; rfl)) ?_; (with_reducible refine (scan_IsWord.calls kj13 a0 false _ A16.out).mono ?_); rintro e w88 ⟨rfl, hb⟩; refine ⟨_, rfl, ?_⟩; have n0_ := Aside0.mk (Kd.R_below (by (with_reducible repeat (first | apply Kd.R_alloc | apply Kd.R_drewN | apply Kd.R_drew)); exact HO_3.out) hb); have n1_ := Aside0.mk (blk_below (g := gb231) (o := .cells #[.int .i64 t228, .int .i64 t229, .int .i64 t230] 26 (0, 0)) (by (with_reducible repeat (first | refine blk_drewN ?_ _ | refine blk_drew ?_ | refine blk_alloc ?_ _)); exact BK231.out) hb); have n2_ := Aside0.mk (below_step (by repeat (first | (with_reducible first | exact HB.out | apply below_alloc | apply pw_below_drewN | apply below_drew1 | refine below_set ?_ GE231.out) | exact HB.out)) hb); clear HO_3; clear BK231; clear HB; have HO_3 := n0_; have BK231 := n1_; have HB := n2_; clear n0_ n1_ n2_; (try clear hb); (try clear hb2); (try clear hk); (try clear hi); have hcz89_0 : w88.cell? ⟨gb231, 0, none⟩ = some (.int .i64 t228) := (blk_cell BK231.out 0).trans rfl; have hcz89_1 : w88.cell? ⟨gb231, 1, none⟩ = some (.int .i64 t229) := (blk_cell BK231.out 1).trans rfl; have hcz89_2 : w88.cell? ⟨gb231, 2, none⟩ = some (.int .i64 t230) := (blk_cell BK231.out 2).trans rfl; have hfz89_0 := blk_frozen BK231.out 0; have hfz89_1 := blk_frozen BK231.out 1; have hfz89_2 := blk_frozen BK231.out 2))
                  all_goals go_ret
                  all_goals exact ⟨by first | rfl | (simp [errW_none, errW_some] <;> rfl) | (simp [*, errW_none, errW_some] <;> rfl), by repeat (first | (with_reducible first | exact HB.out | apply below_alloc | apply pw_below_drewN | apply below_drew1 | refine below_set ?_ GE231.out) | exact HB.out)⟩
  · replace c3 := Bool.eq_false_iff.mpr c3
    subst c3
    have H1 : (some false) = some r := by rw [if_neg (show ¬ (false = true) by decide)] at H; exact H
    clear H
    have H := H1
    clear H1
    obtain rfl := Option.some.inj H
    go_enter Tryd.func7, Tryd.ntmps7
    go_wp2_with (first | ((with_reducible refine gate_callee (f := 9) rfl ?_); refine goesL_ (some 6) rfl rfl Tryd.func9 (by kernel_rfl) rfl #[] rfl (by (try simp only [List.map_toArray, List.map_cons, List.map_nil]); first | done | rfl | (simp only [List.length_drop, List.length_take]; rfl)) ?_; (with_reducible refine (pendulelaw01_lives.calls  false _ A2.out (Laid.below hL (by repeat (first | (with_reducible first | exact HB.out | apply below_alloc | apply pw_below_drewN | apply below_drew1) | exact HB.out)))).mono ?_); rintro e w90 ⟨rfl, hb⟩; refine ⟨_, rfl, ?_⟩; have n0_ := Aside0.mk (below_step (by repeat (first | (with_reducible first | exact HB.out | apply below_alloc | apply pw_below_drewN | apply below_drew1) | exact HB.out)) hb); clear HB; have HB := n0_; clear n0_; (try clear hb); (try clear hb2); (try clear hk); (try clear hi)))
    all_goals go_ret
    all_goals exact ⟨by first | rfl | (simp [errW_none, errW_some] <;> rfl) | (simp [*, errW_none, errW_some] <;> rfl), by repeat (first | (with_reducible first | exact HB.out | apply below_alloc | apply pw_below_drewN | apply below_drew1) | exact HB.out)⟩

/-- THE ONE PURE STATEMENT of pendulelaw01_ScanAlone: yours. -/
def pendulelaw01_ScanAlone.Pure : Prop := ∀ (a0 : ByteArray), a0.size ≤ 140737488351232 → ∃ k, pendulelaw01_ScanAlone.f k a0 = some true
theorem pendulelaw01_ScanAlone.walk (P : pendulelaw01_ScanAlone.Pure) (a0 : ByteArray) (w : World) (w0 : a0.size ≤ 140737488351232) (hL : Laid w) :
    Calls Tryd.prog 7 #[.string a0] w fun e w' => e = .returned (.bool true) ∧ Below w.heap.size w w' := by
  obtain ⟨k, h⟩ := P a0 w0
  refine (pendulelaw01_ScanAlone.calls k a0 true w h hL).mono ?_
  rintro e w' ⟨rfl, hd⟩
  exact ⟨rfl, hd⟩

end Go.Proofs.YtffeikfffmonkaaDoor.PScan
