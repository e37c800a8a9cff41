/- A text of this claim, cut to what its theorem reaches (wip/py/stage2.py). -/
import Derived.Test.YtggfnbnochmkdaaGreatPScopex1
namespace Go.Proofs.YtggfnbnochmkdaaGreat.PScope
open Go.RowKit Go.Proofs.YtggfnbnochmkdaaGreatW.PrintWords Go.Proofs.YtggfnbnochmkdaaGreatW.PrintLast Go.Proofs.YtggfnbnochmkdaaGreatW.PrintMore
attribute [local go_sem] max2_int min2_int max_two min_two max_three min_three max_four min_four
set_option linter.unusedVariables false
set_option linter.unusedSimpArgs false
mutual
def penduleref05_Con.l0 : Nat → ByteArray → Int → List (S38) → List (S35) → Option (Int × Int × Bool)
 | 0, _, _, _, _ => none
 | k + 1, x1, x7, x227000, x227001 => if x7 < (x227000.length : Int) then (penduleref05_Con.l1 k x1 x7 0 x227000 x227001) else (some (0, 0, false))
def penduleref05_Con.l1 : Nat → ByteArray → Int → Int → List (S38) → List (S35) → Option (Int × Int × Bool)
 | 0, _, _, _, _, _ => none
 | k + 1, x1, x7, x8, x227000, x227001 => if 0 ≤ x7 then (if x7 < (x227000.length : Int) then (if x8 < (((rd_T38 x227000 x7).f1).length : Int) then (if 0 ≤ x8 then (if (rdOf ByteArray.empty ((rd_T38 x227000 x7).f1) x8).toList = x1.toList then (some (x7, x8, true)) else (penduleref05_Con.l1 k x1 x7 (wrap64 (x8 + 1)) x227000 x227001)) else (none)) else (penduleref05_Con.l0 k x1 (wrap64 (x7 + 1)) x227000 x227001)) else (none)) else (none)
end
def penduleref05_Con.f (k : Nat) (l0_0 : List (S38)) (l0_1 : List (S35)) (a1 : ByteArray) : Option (Int × Int × Bool) := if a1.toList = ([70, 97, 108, 115, 101] : List UInt8) then (some ((-1), 0, true)) else (if a1.toList = ([84, 114, 117, 101] : List UInt8) then (some ((-1), 1, true)) else (penduleref05_Con.l0 k a1 0 l0_0 l0_1))
theorem penduleref05_Con.mono_l : ∀ k, (∀ y0 y1 y2 y3, LeO (penduleref05_Con.l0 k y0 y1 y2 y3) (penduleref05_Con.l0 (k + 1) y0 y1 y2 y3)) ∧ (∀ y0 y1 y2 y3 y4, LeO (penduleref05_Con.l1 k y0 y1 y2 y3 y4) (penduleref05_Con.l1 (k + 1) y0 y1 y2 y3 y4))
 | 0 => ⟨fun _ _ _ _ r h => by simp [penduleref05_Con.l0] at h, fun _ _ _ _ _ r h => by simp [penduleref05_Con.l1] at h⟩
 | k + 1 => by
   obtain ⟨ih0, ih1⟩ := penduleref05_Con.mono_l k
   refine ⟨?_, ?_⟩
   · intro y0 y1 y2 y3
     unfold penduleref05_Con.l0
     repeat' first
     | (with_reducible exact ih0 _ _ _ _)
     | (with_reducible exact ih1 _ _ _ _ _)
     | (with_reducible exact LeO.refl _)
     | (with_reducible exact LeO.none _)
     | (with_reducible refine LeO.ite ?_ ?_)
     | (with_reducible refine LeO.bind ?_ (fun _ => ?_))
     | exact ih0 _ _ _ _
     | exact ih1 _ _ _ _ _
     | exact LeO.none _
     | refine LeO.ite ?_ ?_
     | refine LeO.bind ?_ (fun _ => ?_)
   · intro y0 y1 y2 y3 y4
     unfold penduleref05_Con.l1
     repeat' first
     | (with_reducible exact ih0 _ _ _ _)
     | (with_reducible exact ih1 _ _ _ _ _)
     | (with_reducible exact LeO.refl _)
     | (with_reducible exact LeO.none _)
     | (with_reducible refine LeO.ite ?_ ?_)
     | (with_reducible refine LeO.bind ?_ (fun _ => ?_))
     | exact ih0 _ _ _ _
     | exact ih1 _ _ _ _ _
     | exact LeO.none _
     | refine LeO.ite ?_ ?_
     | refine LeO.bind ?_ (fun _ => ?_)
theorem penduleref05_Con.mono : ∀ a0 a1 a2 k, LeO (penduleref05_Con.f k a0 a1 a2) (penduleref05_Con.f (k + 1) a0 a1 a2) := by
 intro a0 a1 a2 k
 obtain ⟨ih0, ih1⟩ := penduleref05_Con.mono_l k
 unfold penduleref05_Con.f
 repeat' first
     | (with_reducible exact ih0 _ _ _ _)
     | (with_reducible exact ih1 _ _ _ _ _)
     | (with_reducible exact LeO.refl _)
     | (with_reducible exact LeO.none _)
     | (with_reducible refine LeO.ite ?_ ?_)
     | (with_reducible refine LeO.bind ?_ (fun _ => ?_))
     | exact ih0 _ _ _ _
     | exact ih1 _ _ _ _ _
     | exact LeO.none _
     | refine LeO.ite ?_ ?_
     | refine LeO.bind ?_ (fun _ => ?_)
set_option maxHeartbeats 8000000 in
set_option maxRecDepth 100000 in
theorem penduleref05_Con.calls (k : Nat) (A0_0 : Option Addr) (c0_0 : Nat) (l0_0 : List (S38)) (A0_1 : Option Addr) (c0_1 : Nat) (l0_1 : List (S35)) (a1 : ByteArray) (r1 : Int) (r2 : Int) (r3 : Bool) (w : World) (hr0_0 : Kd.C k38 w A0_0 l0_0.length l0_0) (hc0_0 : l0_0.length ≤ c0_0) (hr0_1 : Kd.C k35 w A0_1 l0_1.length l0_1) (hc0_1 : l0_1.length ≤ c0_1) (h : penduleref05_Con.f k l0_0 l0_1 a1 = some (r1, r2, r3)) :
   Calls Tryz.prog 34 #[.agg #[.slice A0_0 l0_0.length c0_0, .slice A0_1 l0_1.length c0_1], .string a1] w fun e w' => e = .returned (.tuple #[.int .i64 r1, .int .i64 r2, .bool r3]) ∧ Below w.heap.size w w' := by
 have hu25 := Tryz.underlying25
 have HR0_0 := Aside0.mk hr0_0
 have HC0_0 := Aside0.mk hc0_0
 clear hr0_0 hc0_0
 have HR0_1 := Aside0.mk hr0_1
 have HC0_1 := Aside0.mk hc0_1
 clear hr0_1 hc0_1
 have HB := Aside0.mk (Below.refl w.heap.size w)
 have H : (if a1.toList = ([70, 97, 108, 115, 101] : List UInt8) then (some ((-1), 0, true)) else (if a1.toList = ([84, 114, 117, 101] : List UInt8) then (some ((-1), 1, true)) else (penduleref05_Con.l0 k a1 0 l0_0 l0_1))) = some (r1, r2, r3) := h
 clear h
 by_cases c3 : a1.toList = ([70, 97, 108, 115, 101] : List UInt8)
 · rw [if_pos c3] at H
   have c3b0 : (a1.toList == ([70, 97, 108, 115, 101] : List UInt8)) = true := beq_iff_eq.mpr c3
   have c3b1 : (a1.toList != ([70, 97, 108, 115, 101] : List UInt8)) = false := bne_eq_false_iff_eq.mpr c3
   clear c3
   simp only [Option.some.injEq, Prod.mk.injEq] at H
   obtain ⟨rfl, rfl, rfl⟩ := H
   go_enter Tryz.func34, Tryz.ntmps34
   go_wp2_with (first | ((with_reducible refine gate_dst (N := 2) rfl ?_); refine box_event ?hg (N := 2) ?hd (cs := #[.slice A0_0 l0_0.length c0_0, .slice A0_1 l0_1.length c0_1]) (t := 25) ?hr ?_; (case hd => rfl); (case hg => rfl); (case hr => first | (go_simp; done) | (go_simp; rfl)); intro gb226 hg w4 hbox hb; have n0_ := Aside0.mk (below_step (by repeat (first | (with_reducible first | exact HB.out | apply below_alloc | apply pw_below_drewN | apply below_drew1) | exact HB.out)) hb); have n1_ := Aside0.mk (hbox); have n2_ := Aside0.mk ((by rw [hg]; exact (below_size (by repeat (first | (with_reducible first | exact HB.out | apply below_alloc | apply pw_below_drewN | apply below_drew1) | exact HB.out))) : w.heap.size ≤ gb226)); have n3_ := Aside0.mk ((by rw [hg]; exact (below_size (by repeat (first | (with_reducible first | exact HB.out | apply below_alloc | apply pw_below_drewN | apply below_drew1) | exact HB.out))) : w.heap.size ≤ gb226)); clear HB; have HB := n0_; have BK226 := n1_; have GW226 := n2_; have GE226 := n3_; clear n0_ n1_ n2_ n3_; clear hb hbox hg))
   go_ret3
   exact ⟨by first | rfl | (simp [errW_none, errW_some] <;> rfl) | (simp [*, errW_none, errW_some] <;> rfl), by repeat (first | (with_reducible first | exact HB.out | apply below_alloc | apply pw_below_drewN | apply below_drew1 | refine below_set ?_ GE226.out) | exact HB.out)⟩
 · rw [if_neg c3] at H
   have c3b0 : (a1.toList == ([70, 97, 108, 115, 101] : List UInt8)) = false := beq_eq_false_iff_ne.mpr c3
   have c3b1 : (a1.toList != ([70, 97, 108, 115, 101] : List UInt8)) = true := bne_iff_ne.mpr c3
   by_cases c5 : a1.toList = ([84, 114, 117, 101] : List UInt8)
   · rw [if_pos c5] at H
     have c5b0 : (a1.toList == ([84, 114, 117, 101] : List UInt8)) = true := beq_iff_eq.mpr c5
     have c5b1 : (a1.toList != ([84, 114, 117, 101] : List UInt8)) = false := bne_eq_false_iff_eq.mpr c5
     clear c5
     simp only [Option.some.injEq, Prod.mk.injEq] at H
     obtain ⟨rfl, rfl, rfl⟩ := H
     go_enter Tryz.func34, Tryz.ntmps34
     go_wp2_with (first | ((with_reducible refine gate_dst (N := 2) rfl ?_); refine box_event ?hg (N := 2) ?hd (cs := #[.slice A0_0 l0_0.length c0_0, .slice A0_1 l0_1.length c0_1]) (t := 25) ?hr ?_; (case hd => rfl); (case hg => rfl); (case hr => first | (go_simp; done) | (go_simp; rfl)); intro gb226 hg w6 hbox hb; have n0_ := Aside0.mk (below_step (by repeat (first | (with_reducible first | exact HB.out | apply below_alloc | apply pw_below_drewN | apply below_drew1) | exact HB.out)) hb); have n1_ := Aside0.mk (hbox); have n2_ := Aside0.mk ((by rw [hg]; exact (below_size (by repeat (first | (with_reducible first | exact HB.out | apply below_alloc | apply pw_below_drewN | apply below_drew1) | exact HB.out))) : w.heap.size ≤ gb226)); have n3_ := Aside0.mk ((by rw [hg]; exact (below_size (by repeat (first | (with_reducible first | exact HB.out | apply below_alloc | apply pw_below_drewN | apply below_drew1) | exact HB.out))) : w.heap.size ≤ gb226)); clear HB; have HB := n0_; have BK226 := n1_; have GW226 := n2_; have GE226 := n3_; clear n0_ n1_ n2_ n3_; clear hb hbox hg))
     go_ret3
     exact ⟨by first | rfl | (simp [errW_none, errW_some] <;> rfl) | (simp [*, errW_none, errW_some] <;> rfl), by repeat (first | (with_reducible first | exact HB.out | apply below_alloc | apply pw_below_drewN | apply below_drew1 | refine below_set ?_ GE226.out) | exact HB.out)⟩
   · rw [if_neg c5] at H
     have c5b0 : (a1.toList == ([84, 114, 117, 101] : List UInt8)) = false := beq_eq_false_iff_ne.mpr c5
     have c5b1 : (a1.toList != ([84, 114, 117, 101] : List UInt8)) = true := bne_iff_ne.mpr c5
     have H' := Aside0.mk H
     clear H
     go_enter Tryz.func34, Tryz.ntmps34
     go_wp2_with (first | ((with_reducible refine gate_dst (N := 2) rfl ?_); refine box_event ?hg (N := 2) ?hd (cs := #[.slice A0_0 l0_0.length c0_0, .slice A0_1 l0_1.length c0_1]) (t := 25) ?hr ?_; (case hd => rfl); (case hg => rfl); (case hr => first | (go_simp; done) | (go_simp; rfl)); intro gb226 hg w7 hbox hb; have n0_ := Aside0.mk (below_step (by repeat (first | (with_reducible first | exact HB.out | apply below_alloc | apply pw_below_drewN | apply below_drew1) | exact HB.out)) hb); have n1_ := Aside0.mk (hbox); have n2_ := Aside0.mk ((by rw [hg]; exact (below_size (by repeat (first | (with_reducible first | exact HB.out | apply below_alloc | apply pw_below_drewN | apply below_drew1) | exact HB.out))) : w.heap.size ≤ gb226)); have n3_ := Aside0.mk ((by rw [hg]; exact (below_size (by repeat (first | (with_reducible first | exact HB.out | apply below_alloc | apply pw_below_drewN | apply below_drew1) | exact HB.out))) : w.heap.size ≤ gb226)); clear HB; have HB := n0_; have BK226 := n1_; have GW226 := n2_; have GE226 := n3_; clear n0_ n1_ n2_ n3_; clear hb hbox hg))
     go_loopg [7] k (fun kq v7 w' => ∃ (x7_1 : Int), v7 = .int .i64 x7_1 ∧ Aside0 (penduleref05_Con.l0 kq a1 x7_1 l0_0 l0_1 = some (r1, r2, r3)) ∧ Aside0 (kq ≤ k) ∧ Aside0 (w'.heap[gb226]? = some (.cells #[(.slice A0_0 l0_0.length c0_0), (.slice A0_1 l0_1.length c0_1)] 25 (0, 0))) ∧ Aside0 (Below w.heap.size w w'))
     case atStart => exact ⟨(0), (by first | rfl | (simp; done) | (simp [*]; done)), H', ⟨Nat.le_refl _⟩, ⟨by (with_reducible repeat (first | refine blk_drewN ?_ _ | refine blk_drew ?_ | refine blk_alloc ?_ _)); exact BK226.out⟩, ⟨by repeat (first | (with_reducible first | exact HB.out | apply below_alloc | apply pw_below_drewN | apply below_drew1 | refine below_set ?_ GE226.out) | exact HB.out)⟩⟩
     case round =>
       clear H'
       try clear p2
       try clear c3
       try clear c3b0
       try clear c3b1
       try clear c5
       try clear c5b0
       try clear c5b1
       obtain ⟨x7_1, rfl, HA, HK1, BK226, HB⟩ := hrel
       cases gk with
       | zero => exact absurd HA.out (by simp [penduleref05_Con.l0])
       | succ k1 =>
         have H := HA.out
         clear HA
         simp only [penduleref05_Con.l0] at H
         by_cases c8 : x7_1 < (l0_0.length : Int)
         · rw [if_pos c8] at H
           have c8b0 : decide (x7_1 < (l0_0.length : Int)) = true := decide_eq_true c8
           clear c8
           have H' := Aside0.mk H
           clear H
           have hcz9_0 : wr.cell? ⟨gb226, 0, none⟩ = some (.slice A0_0 l0_0.length c0_0) := (blk_cell BK226.out 0).trans rfl
           have hcz9_1 : wr.cell? ⟨gb226, 1, none⟩ = some (.slice A0_1 l0_1.length c0_1) := (blk_cell BK226.out 1).trans rfl
           have hfz9_0 := blk_frozen BK226.out 0
           have hfz9_1 := blk_frozen BK226.out 1
           go_wp2
           go_loopg [8] k1 (fun kq v8 w' => ∃ (x8_2 : Int), v8 = .int .i64 x8_2 ∧ Aside0 (penduleref05_Con.l1 kq a1 x7_1 x8_2 l0_0 l0_1 = some (r1, r2, r3)) ∧ Aside0 (kq ≤ k1) ∧ Aside0 (w'.heap[gb226]? = some (.cells #[(.slice A0_0 l0_0.length c0_0), (.slice A0_1 l0_1.length c0_1)] 25 (0, 0))) ∧ Aside0 (Below w.heap.size w w'))
           case atStart => exact ⟨(0), (by first | rfl | (simp; done) | (simp [*]; done)), H', ⟨Nat.le_refl _⟩, ⟨by (with_reducible repeat (first | refine blk_drewN ?_ _ | refine blk_drew ?_ | refine blk_alloc ?_ _)); exact BK226.out⟩, ⟨by repeat (first | (with_reducible first | exact HB.out | apply below_alloc | apply pw_below_drewN | apply below_drew1 | refine below_set ?_ GE226.out) | exact HB.out)⟩⟩
           case round =>
             clear H'
             try clear p2
             try clear c3
             try clear c3b0
             try clear c3b1
             try clear c5
             try clear c5b0
             try clear c5b1
             try clear c8
             try clear c8b0
             try clear hcz9_0
             try clear hcz9_1
             try clear hfz9_0
             try clear hfz9_1
             try clear p2
             obtain ⟨x8_2, rfl, HA, HK2, BK226, HB⟩ := hrel
             cases gk with
             | zero => exact absurd HA.out (by simp [penduleref05_Con.l1])
             | succ k2 =>
               have H := HA.out
               clear HA
               simp only [penduleref05_Con.l1] at H
               by_cases c10 : 0 ≤ x7_1
               · rw [if_pos c10] at H
                 have c10b0 : decide (0 ≤ x7_1) = true := decide_eq_true c10
                 clear c10
                 by_cases c11 : x7_1 < (l0_0.length : Int)
                 · rw [if_pos c11] at H
                   have c11b0 : decide (x7_1 < (l0_0.length : Int)) = true := decide_eq_true c11
                   clear c11
                   by_cases c12 : x8_2 < (((rd_T38 l0_0 x7_1).f1).length : Int)
                   · rw [if_pos c12] at H
                     have c12b0 : decide (x8_2 < (((rd_T38 l0_0 x7_1).f1).length : Int)) = true := decide_eq_true c12
                     clear c12
                     by_cases c13 : 0 ≤ x8_2
                     · rw [if_pos c13] at H
                       have c13b0 : decide (0 ≤ x8_2) = true := decide_eq_true c13
                       clear c13
                       by_cases c14 : (rdOf ByteArray.empty ((rd_T38 l0_0 x7_1).f1) x8_2).toList = a1.toList
                       · rw [if_pos c14] at H
                         have c14b0 : ((rdOf ByteArray.empty ((rd_T38 l0_0 x7_1).f1) x8_2).toList == a1.toList) = true := beq_iff_eq.mpr c14
                         have c14b1 : ((rdOf ByteArray.empty ((rd_T38 l0_0 x7_1).f1) x8_2).toList != a1.toList) = false := bne_eq_false_iff_eq.mpr c14
                         clear c14
                         simp only [Option.some.injEq, Prod.mk.injEq] at H
                         obtain ⟨rfl, rfl, rfl⟩ := H
                         have hcz15_0 : wr.cell? ⟨gb226, 0, none⟩ = some (.slice A0_0 l0_0.length c0_0) := (blk_cell BK226.out 0).trans rfl
                         have hcz15_1 : wr.cell? ⟨gb226, 1, none⟩ = some (.slice A0_1 l0_1.length c0_1) := (blk_cell BK226.out 1).trans rfl
                         have hfz15_0 := blk_frozen BK226.out 0
                         have hfz15_1 := blk_frozen BK226.out 1
                         have p227 : 0 ≤ (x7_1 : Int) := of_decide_eq_true (by first | (with_reducible assumption) | assumption)
                         have q227 : x7_1 < (l0_0.length : Int) := of_decide_eq_true (by first | (with_reducible assumption) | assumption)
                         obtain ⟨ad227, A227_1, c227_1, e227, hx227_0, hx227_1, hl227_1, hi227_1⟩ := at_T38 HR0_0.out x7_1 p227 q227
                         cases e227
                         replace hx227_0 := (HB.out.cell (World.block_lt_of_cell? w _ hx227_0)).trans hx227_0
                         replace hx227_1 := (HB.out.cell (World.block_lt_of_cell? w _ hx227_1)).trans hx227_1
                         have HR227_1 := Aside0.mk hi227_1
                         have HC227_1 := Aside0.mk hl227_1
                         clear hi227_1 hl227_1
                         replace p227 := eq_true p227
                         replace q227 := eq_true q227
                         have p228 : 0 ≤ (x7_1 : Int) := of_decide_eq_true (by first | (with_reducible assumption) | assumption)
                         have q228 : x7_1 < (l0_0.length : Int) := of_decide_eq_true (by first | (with_reducible assumption) | assumption)
                         obtain ⟨ad228, A228_1, c228_1, e228, hx228_0, hx228_1, hl228_1, hi228_1⟩ := at_T38 HR0_0.out x7_1 p228 q228
                         obtain rfl : ad227 = ad228 := (by injection e228)
                         replace hx228_0 := (HB.out.cell (World.block_lt_of_cell? w _ hx228_0)).trans hx228_0
                         replace hx228_1 := (HB.out.cell (World.block_lt_of_cell? w _ hx228_1)).trans hx228_1
                         have HR228_1 := Aside0.mk hi228_1
                         have HC228_1 := Aside0.mk hl228_1
                         clear hi228_1 hl228_1
                         replace p228 := eq_true p228
                         replace q228 := eq_true q228
                         have ea_ := Option.some.inj (hx227_1.symm.trans hx228_1)
                         injection ea_ with ea_ en_ ec_
                         subst ea_
                         subst ec_
                         clear en_
                         have p229 : 0 ≤ (x8_2 : Int) := of_decide_eq_true (by first | (with_reducible assumption) | assumption)
                         have q229 : x8_2 < (((rd_T38 l0_0 x7_1).f1).length : Int) := of_decide_eq_true (by first | (with_reducible assumption) | assumption)
                         obtain ⟨ad229, e229, hx229_0⟩ := Kd.at_string HR228_1.out x8_2 p229 q229
                         cases e229
                         replace hx229_0 := (HB.out.cell (World.block_lt_of_cell? w _ hx229_0)).trans hx229_0
                         replace p229 := eq_true p229
                         replace q229 := eq_true q229
                         go_wp2
                         go_ret3
                         exact ⟨by first | rfl | (simp [errW_none, errW_some] <;> rfl) | (simp [*, errW_none, errW_some] <;> rfl), by repeat (first | (with_reducible first | exact HB.out | apply below_alloc | apply pw_below_drewN | apply below_drew1 | refine below_set ?_ GE226.out) | exact HB.out)⟩
                       · rw [if_neg c14] at H
                         have c14b0 : ((rdOf ByteArray.empty ((rd_T38 l0_0 x7_1).f1) x8_2).toList == a1.toList) = false := beq_eq_false_iff_ne.mpr c14
                         have c14b1 : ((rdOf ByteArray.empty ((rd_T38 l0_0 x7_1).f1) x8_2).toList != a1.toList) = true := bne_iff_ne.mpr c14
                         have H' := Aside0.mk H
                         clear H
                         have hcz16_0 : wr.cell? ⟨gb226, 0, none⟩ = some (.slice A0_0 l0_0.length c0_0) := (blk_cell BK226.out 0).trans rfl
                         have hcz16_1 : wr.cell? ⟨gb226, 1, none⟩ = some (.slice A0_1 l0_1.length c0_1) := (blk_cell BK226.out 1).trans rfl
                         have hfz16_0 := blk_frozen BK226.out 0
                         have hfz16_1 := blk_frozen BK226.out 1
                         have p227 : 0 ≤ (x7_1 : Int) := of_decide_eq_true (by first | (with_reducible assumption) | assumption)
                         have q227 : x7_1 < (l0_0.length : Int) := of_decide_eq_true (by first | (with_reducible assumption) | assumption)
                         obtain ⟨ad227, A227_1, c227_1, e227, hx227_0, hx227_1, hl227_1, hi227_1⟩ := at_T38 HR0_0.out x7_1 p227 q227
                         cases e227
                         replace hx227_0 := (HB.out.cell (World.block_lt_of_cell? w _ hx227_0)).trans hx227_0
                         replace hx227_1 := (HB.out.cell (World.block_lt_of_cell? w _ hx227_1)).trans hx227_1
                         have HR227_1 := Aside0.mk hi227_1
                         have HC227_1 := Aside0.mk hl227_1
                         clear hi227_1 hl227_1
                         replace p227 := eq_true p227
                         replace q227 := eq_true q227
                         have p228 : 0 ≤ (x7_1 : Int) := of_decide_eq_true (by first | (with_reducible assumption) | assumption)
                         have q228 : x7_1 < (l0_0.length : Int) := of_decide_eq_true (by first | (with_reducible assumption) | assumption)
                         obtain ⟨ad228, A228_1, c228_1, e228, hx228_0, hx228_1, hl228_1, hi228_1⟩ := at_T38 HR0_0.out x7_1 p228 q228
                         obtain rfl : ad227 = ad228 := (by injection e228)
                         replace hx228_0 := (HB.out.cell (World.block_lt_of_cell? w _ hx228_0)).trans hx228_0
                         replace hx228_1 := (HB.out.cell (World.block_lt_of_cell? w _ hx228_1)).trans hx228_1
                         have HR228_1 := Aside0.mk hi228_1
                         have HC228_1 := Aside0.mk hl228_1
                         clear hi228_1 hl228_1
                         replace p228 := eq_true p228
                         replace q228 := eq_true q228
                         have ea_ := Option.some.inj (hx227_1.symm.trans hx228_1)
                         injection ea_ with ea_ en_ ec_
                         subst ea_
                         subst ec_
                         clear en_
                         have p229 : 0 ≤ (x8_2 : Int) := of_decide_eq_true (by first | (with_reducible assumption) | assumption)
                         have q229 : x8_2 < (((rd_T38 l0_0 x7_1).f1).length : Int) := of_decide_eq_true (by first | (with_reducible assumption) | assumption)
                         obtain ⟨ad229, e229, hx229_0⟩ := Kd.at_string HR228_1.out x8_2 p229 q229
                         cases e229
                         replace hx229_0 := (HB.out.cell (World.block_lt_of_cell? w _ hx229_0)).trans hx229_0
                         replace p229 := eq_true p229
                         replace q229 := eq_true q229
                         go_wp2
                         go_roundg k2
                         case measure => have := HK1.out; have := HK2.out; omega
                         case rel => exact ⟨(wrap64 (x8_2 + 1)), (by first | rfl | (simp; done) | (simp [*]; done)), H', ⟨by have := HK1.out; have := HK2.out; omega⟩, ⟨by (with_reducible repeat (first | refine blk_drewN ?_ _ | refine blk_drew ?_ | refine blk_alloc ?_ _)); exact BK226.out⟩, ⟨by repeat (first | (with_reducible first | exact HB.out | apply below_alloc | apply pw_below_drewN | apply below_drew1 | refine below_set ?_ GE226.out) | exact HB.out)⟩⟩
                     · rw [if_neg c13] at H
                       exact absurd H (by simp)
                   · rw [if_neg c12] at H
                     have c12b0 : decide (x8_2 < (((rd_T38 l0_0 x7_1).f1).length : Int)) = false := decide_eq_false c12
                     clear c12
                     have H' := Aside0.mk H
                     clear H
                     have hcz17_0 : wr.cell? ⟨gb226, 0, none⟩ = some (.slice A0_0 l0_0.length c0_0) := (blk_cell BK226.out 0).trans rfl
                     have hcz17_1 : wr.cell? ⟨gb226, 1, none⟩ = some (.slice A0_1 l0_1.length c0_1) := (blk_cell BK226.out 1).trans rfl
                     have hfz17_0 := blk_frozen BK226.out 0
                     have hfz17_1 := blk_frozen BK226.out 1
                     have p227 : 0 ≤ (x7_1 : Int) := of_decide_eq_true (by first | (with_reducible assumption) | assumption)
                     have q227 : x7_1 < (l0_0.length : Int) := of_decide_eq_true (by first | (with_reducible assumption) | assumption)
                     obtain ⟨ad227, A227_1, c227_1, e227, hx227_0, hx227_1, hl227_1, hi227_1⟩ := at_T38 HR0_0.out x7_1 p227 q227
                     cases e227
                     replace hx227_0 := (HB.out.cell (World.block_lt_of_cell? w _ hx227_0)).trans hx227_0
                     replace hx227_1 := (HB.out.cell (World.block_lt_of_cell? w _ hx227_1)).trans hx227_1
                     have HR227_1 := Aside0.mk hi227_1
                     have HC227_1 := Aside0.mk hl227_1
                     clear hi227_1 hl227_1
                     replace p227 := eq_true p227
                     replace q227 := eq_true q227
                     go_wp2
                     go_roundg k2
                     case measure => have := HK1.out; have := HK2.out; omega
                     case rel => exact ⟨(wrap64 (x7_1 + 1)), (by first | rfl | (simp; done) | (simp [*]; done)), H', ⟨by have := HK1.out; have := HK2.out; omega⟩, ⟨by (with_reducible repeat (first | refine blk_drewN ?_ _ | refine blk_drew ?_ | refine blk_alloc ?_ _)); exact BK226.out⟩, ⟨by repeat (first | (with_reducible first | exact HB.out | apply below_alloc | apply pw_below_drewN | apply below_drew1 | refine below_set ?_ GE226.out) | exact HB.out)⟩⟩
                 · rw [if_neg c11] at H
                   exact absurd H (by simp)
               · rw [if_neg c10] at H
                 exact absurd H (by simp)
         · rw [if_neg c8] at H
           have c8b0 : decide (x7_1 < (l0_0.length : Int)) = false := decide_eq_false c8
           clear c8
           simp only [Option.some.injEq, Prod.mk.injEq] at H
           obtain ⟨rfl, rfl, rfl⟩ := H
           have hcz18_0 : wr.cell? ⟨gb226, 0, none⟩ = some (.slice A0_0 l0_0.length c0_0) := (blk_cell BK226.out 0).trans rfl
           have hcz18_1 : wr.cell? ⟨gb226, 1, none⟩ = some (.slice A0_1 l0_1.length c0_1) := (blk_cell BK226.out 1).trans rfl
           have hfz18_0 := blk_frozen BK226.out 0
           have hfz18_1 := blk_frozen BK226.out 1
           go_wp2
           go_ret3
           exact ⟨by first | rfl | (simp [errW_none, errW_some] <;> rfl) | (simp [*, errW_none, errW_some] <;> rfl), by repeat (first | (with_reducible first | exact HB.out | apply below_alloc | apply pw_below_drewN | apply below_drew1 | refine below_set ?_ GE226.out) | exact HB.out)⟩
end Go.Proofs.YtggfnbnochmkdaaGreat.PScope
